/- Bits in memory; the walks of package tape. The walks of package stuff. The walks of package rest. Octets that are joined; the walks of rest.Check, With, Right. The walks of rest.With, tape.Low, tape.Octets. The walks of tape.Octets, flag.Flag, flag.Frame. The walks of flag.Flag, flag.Frame, flag.Judge. The walk of flag.Judge. -/
import Derived.Test.YtcllbmjmefeknaaGreatFe1
import Derived.Test.YtcllbmjmefeknaaGreatLf0
import Derived.Laws.BitsLemmas
namespace Go.Proofs.YtcllbmjmefeknaaGreatK
/-! ### Bits in memory; the walks of package tape. -/
section
open Go Go.RowKit
set_option linter.unusedVariables false
set_option maxHeartbeats 2000000
set_option maxRecDepth 100000
/-- The slice v reads as these bits. -/
def BitV (w : World) (v : Value) (xs : List Bool) : Prop := Row w 4 1 v xs.length (xs.map Value.bool)
def bitAt (b : Int) (i : Nat) : Bool := b / 2 ^ i % 2 == 1
def bits8 (b : Int) : List Bool := (List.range 8).map (bitAt b)
def bitsOf (p : Oct) : List Bool := p.flatMap bits8
theorem bits8_len (b : Int) : (bits8 b).length = 8 := by simp [bits8]
theorem bitsOf_len (p : Oct) : (bitsOf p).length = 8 * p.length := by
  induction p with
  | nil => rfl
  | cons b p ih => simp [bitsOf, List.flatMap_cons, bits8_len] at ih ⊢; omega
theorem BitV.nil (w : World) : BitV w (.slice none 0 0) [] := Row.nil _ _ _
theorem BitV.below {w w1 : World} {v : Value} {xs : List Bool} (h : BitV w v xs) (hb : Below w.heap.size w w1) : BitV w1 v xs := Row.below h hb
theorem BitV.shape {w : World} {v : Value} {xs : List Bool} (h : BitV w v xs) : ∃ a cap, v = .slice a xs.length cap ∧ xs.length ≤ cap := Row.shape h
theorem and1_u8 (x : Int) (h0 : 0 ≤ x) (h1 : x < 256) : bits .and .u8 x 1 = x % 2 := bits_mask .u8 8 (by decide) wraps_u8 1 (by decide) x h0 h1
theorem bit_range (b : Int) (k : Nat) (hb : 0 ≤ b ∧ b ≤ 255) : 0 ≤ b / 2 ^ k ∧ b / 2 ^ k < 256 := by
  have h2 : (0 : Int) < 2 ^ k := Int.pow_pos (by decide)
  refine ⟨Int.ediv_nonneg hb.1 (Int.le_of_lt h2), ?_⟩
  have := Int.ediv_le_self (2 ^ k) hb.1
  omega
/-- A row grows by one (in a walk, at an append of one bit). -/
theorem Row.snoc' {w1 : World} {v' : Value} {xs : List Bool} {x : Bool} (h : Row w1 4 1 v' (xs.length + 1) (xs.map Value.bool ++ [.bool x])) : BitV w1 v' (xs ++ [x]) := by
  unfold BitV
  rw [List.length_append, List.map_append]
  exact h
/-- At an append of one bit, in a walk. -/
theorem wpList_bit {ops : Array Oper} {rest : List Oper} {o : Oper} {a : Act} {Q : Exit → Act → World → Prop} (w : World) (hgd : o.guard = none) (s x : Operand) (t : TypeId)
    (ho : o.op = .call { callee := .builtin .append, args := #[s, x], argTypes := #[t, t] }) (ht : Tryz.prog.underlying t = some (.slice 4))
    (v : Value) (xs : List Bool) (hs : a.eval s = v) (hr : BitV w v xs) (g : Nat) (y : Bool) (hx : a.eval x = .slice (some ⟨g, 0, none⟩) 1 1) (hb : Blk w g #[.bool y] 4) (hl : xs.length ≤ 1000000)
    (h : ∀ v' w', BitV w' v' (xs ++ [y]) → Chg (own v) w w' → (∀ b ∈ own v', b ∈ own v ∨ w.heap.size ≤ b) → wpList Tryz.prog ops Q rest (a.put o.dst v') w') : wpList Tryz.prog ops Q (o :: rest) a w :=
  wpList_row_append w hgd s x t ho 4 Tryz.t4 (.bool false) 1 1 ht rfl rfl rfl rfl rfl (by decide) v xs.length (xs.map Value.bool) hs hr ⟨g, 0, none⟩ 1 1 [.bool y] hx rfl
    (fun j u hu => by rw [Addr.add_lit, hb.c, Nat.zero_add]; simpa using hu) (by simp [Value.oneCell']) (by decide) (by simp [maxLen]; omega) (by omega) (fun v' w' R C O => h v' w' R.snoc' C O)
/-- Bits that a call collects in a block of its own. -/
structure Acc (w0 w : World) (v : Value) (xs : List Bool) : Prop where
  bel : Below w0.heap.size w0 w
  bits : BitV w v xs
  own : ∀ g ∈ own v, w0.heap.size ≤ g
theorem Acc.nil (w : World) : Acc w w (.slice none 0 0) [] := ⟨bl_refl w, BitV.nil w, by simp [Go.Proofs.YtcllbmjmefeknaaGreatK.own, Value.ownBlock]⟩
theorem Acc.below {w0 w w1 : World} {v : Value} {xs : List Bool} (h : Acc w0 w v xs) (hb : Below w.heap.size w w1) : Acc w0 w1 v xs := ⟨bl_then h.bel hb, h.bits.below hb, h.own⟩
theorem Acc.grow {w0 w w' : World} {v v' : Value} {xs xs' : List Bool} (h : Acc w0 w v xs) (hm : BitV w' v' xs') (hc : Chg (Go.Proofs.YtcllbmjmefeknaaGreatK.own v) w w') (ho : ∀ b ∈ Go.Proofs.YtcllbmjmefeknaaGreatK.own v', b ∈ Go.Proofs.YtcllbmjmefeknaaGreatK.own v ∨ w.heap.size ≤ b) : Acc w0 w' v' xs' :=
  ⟨h.bel.trans (hc.to_below h.bel.size h.own), hm, fun g hg => (ho g hg).elim (h.own g) (fun h9 => Nat.le_trans h.bel.size h9)⟩
theorem bitsOf_take {p : Oct} {k : Nat} {b : Int} (hx : p[k]? = some b) : bitsOf (p.take (k + 1)) = bitsOf (p.take k) ++ bits8 b := by
  rw [List.take_add_one, hx]
  simp [bitsOf, List.flatMap_append]
/-- An octet among some. -/
theorem BytI.at {w : World} {F : List Nat} {a : Option Addr} {n c : Nat} {p : Oct} (h : BytI w F (.slice a n c) p) (k : Nat) (b : Int) (hx : p[k]? = some b) : (∃ bl off, a = some ⟨bl, off, none⟩ ∧ w.cell? ⟨bl, off + k, none⟩ = some (.int .u8 b)) ∧ 0 ≤ b ∧ b ≤ 255 := by
  refine ⟨?_, h.2 b (List.mem_of_getElem? hx)⟩
  rcases h.1 with ⟨_, h0⟩ | ⟨_, _, _, h0⟩ | ⟨bl, off, cap', e, _, _, _, h4⟩
  · rw [h0] at hx; simp at hx
  · rw [h0] at hx; simp at hx
  · simp only [Value.slice.injEq] at e
    exact ⟨bl, off, e.1, h4 k _ (by rw [List.getElem?_map, hx]; rfl)⟩
/-- A bit among some. -/
theorem BitV.at {w : World} {a : Option Addr} {n c : Nat} {xs : List Bool} (h : BitV w (.slice a n c) xs) (k : Nat) (b : Bool) (hx : xs[k]? = some b) : ∃ bl off, a = some ⟨bl, off, none⟩ ∧ w.cell? ⟨bl, off + k, none⟩ = some (.bool b) := by
  have R : Row w 4 1 (.slice a n c) xs.length (xs.map Value.bool) := h
  rcases R.2 with ⟨_, h0⟩ | ⟨bl, off, cap, cs, e', h1, h2, h3, h4, h5⟩
  · have := (List.getElem?_eq_some_iff.1 hx).1
    omega
  · simp only [Value.slice.injEq] at e'
    exact ⟨bl, off, e'.1, by rw [h3.c]; exact h5 k _ (by rw [List.getElem?_map, hx]; rfl)⟩
theorem Of_c {w : World} {v : Value} {p : Oct} (h : BytI w [] v p) (hl : p.length ≤ 10000) :
    Calls Tryz.prog 76 #[v] w fun e w' => ∃ v', e = .returned v' ∧ Acc w w' v' (bitsOf p) := by
  obtain ⟨a, cap, rfl, hcap⟩ := h.shape
  obtain ⟨n, hn⟩ : ∃ n, p.length = n := ⟨_, rfl⟩
  have H := Lib.hid h
  rw [hn] at hl hcap H ⊢
  have HN := Lib.hid hn
  clear h hn
  go_enter Tryz.func76, Tryz.ntmps76
  go_wp2
  go_loopw [3, 9] (fun o i wr => ∃ k : Nat, k ≤ n ∧ i = .int .i64 k ∧ Acc w wr o (bitsOf (p.take k))) (fun _ i _ => n - (intOf i).toNat)
  case atStart => exact ⟨0, by omega, rfl, Acc.nil w⟩
  case round =>
    obtain ⟨k, hk, rfl, A⟩ := hrel
    have HA := Lib.hid A
    clear A
    by_cases hlt : k < n
    · have hlt' : (k : Int) < n := by omega
      obtain ⟨b, hx⟩ : ∃ b, p[k]? = some b := ⟨_, List.getElem?_eq_getElem (by rw [HN.out]; exact hlt)⟩
      obtain ⟨⟨bl, off, rfl, hcell⟩, hb⟩ := H.out.at k b hx
      have hc := below_cell HA.out.bel hcell
      have HX := Lib.hid hx
      clear hx hcell
      go_wp2
      go_loopw [3, 13] (fun o i wr' => ∃ j : Nat, j ≤ 8 ∧ i = .int .i64 j ∧ Acc w wr' o (bitsOf (p.take k) ++ (List.range j).map (bitAt b))) (fun _ i _ => 8 - (intOf i).toNat)
      case atStart => exact ⟨0, by omega, rfl, by simpa using HA.out⟩
      case round =>
        obtain ⟨j, hj, rfl, A⟩ := hrel
        have HB := Lib.hid A
        clear A HA
        by_cases hlt8 : j < 8
        · have hlt8' : (j : Int) < 8 := by omega
          have hand := and1_u8 (b / 2 ^ j) (bit_range b j hb).1 (bit_range b j hb).2
          have ll : (bitsOf (p.take k) ++ (List.range j).map (bitAt b)).length ≤ 1000000 := by
            rw [List.length_append, bitsOf_len, List.length_map, List.length_range, List.length_take, HN.out]
            omega
          go_wp2_with (first
            | (at_builtin; refine wpList_bit _ rfl (.tmp 16) (.tmp 22) 135 rfl Tryz.underlying135 _ _ rfl (HB.out.bits.below (bl_alloc (bl_refl wr) _)) wr.heap.size (b / 2 ^ j % 2 == 1) rfl (Blk.new wr _ _) ll ?_; intro v6 w6 R6 C6 O6; have HR6 := Lib.hid ((HB.out.below (bl_alloc (bl_refl wr) _)).grow R6 C6 O6); clear R6 C6 O6))
          go_roundw
          case rel => exact ⟨j + 1, by omega, by go_num, by rw [List.range_succ, List.map_append, ← List.append_assoc]; exact HR6.out⟩
          case measure => simp [intOf]; omega
        · obtain rfl : j = 8 := by omega
          go_wp2
          go_roundw
          case rel => exact ⟨k + 1, by omega, by go_num, by rw [bitsOf_take HX.out]; exact HB.out⟩
          case measure => simp [intOf]; omega
    · obtain rfl : k = n := by omega
      have kk : ¬ (k : Int) < k := by omega
      go_wp2
      go_ret
      have h9 := HA.out
      rw [List.take_of_length_le (by rw [HN.out]; exact Nat.le_refl _)] at h9
      exact ⟨_, rfl, h9⟩
end
/-! ### The walks of package stuff. -/
section
open Go Go.RowKit
set_option linter.unusedVariables false
set_option maxHeartbeats 2000000
set_option maxRecDepth 100000
theorem drop_some {α : Type} {l : List α} {k : Nat} {b : α} (h : l[k]? = some b) : l.drop k = b :: l.drop (k + 1) := by
  obtain ⟨hk, rfl⟩ := List.getElem?_eq_some_iff.1 h
  exact List.drop_eq_getElem_cons hk
theorem bit_at {l : List Bool} {k n : Nat} (hn : l.length = n) (h : k < n) : ∃ b, l[k]? = some b := ⟨_, List.getElem?_eq_getElem (by rw [hn]; exact h)⟩
/-- Bits with a nought behind each five ones. -/
def putB : List Bool → List Bool × Nat → List Bool
  | [], s => s.1
  | b :: l, s => if (if b then s.2 + 1 else 0) = 5 then putB l (s.1 ++ [b] ++ [false], 0) else putB l (s.1 ++ [b], if b then s.2 + 1 else 0)
/-- .. and back: the bits and the error's number. -/
def takeB : List Bool → List Bool × Nat → List Bool × Int
  | [], s => if s.2 = 5 then ([], 5) else (s.1, 0)
  | b :: l, s => if s.2 = 5 then (if b then ([], 4) else takeB l (s.1, 0)) else takeB l (s.1 ++ [b], if b then s.2 + 1 else 0)
theorem SPut_c {w : World} {v : Value} {t : List Bool} (h : BitV w v t) (hl : t.length ≤ 100000) :
    Calls Tryz.prog 156 #[v] w fun e w' => ∃ v', e = .returned v' ∧ Acc w w' v' (putB t ([], 0)) := by
  obtain ⟨a, cap, rfl, hcap⟩ := h.shape
  obtain ⟨n, hn⟩ : ∃ n, t.length = n := ⟨_, rfl⟩
  obtain ⟨R, hR⟩ : ∃ R, putB t ([], 0) = R := ⟨_, rfl⟩
  have H := Lib.hid h
  rw [hn] at hl hcap H
  rw [hR]
  simp only [hn]
  have HN := Lib.hid hn
  have HR := Lib.hid hR
  clear h hn hR
  go_enter Tryz.func156, Tryz.ntmps156
  go_wp2
  go_loopw [3, 4, 9] (fun o c i wr => ∃ (k : Nat) (xs : List Bool) (m : Nat), k ≤ n ∧ i = .int .i64 k ∧ c = .int .i64 m ∧ m ≤ 4 ∧ xs.length ≤ 2 * k ∧ Acc w wr o xs ∧ putB (t.drop k) (xs, m) = R) (fun _ _ i _ => n - (intOf i).toNat)
  case atStart => exact ⟨0, [], 0, by omega, rfl, rfl, by omega, by simp, Acc.nil w, HR.out⟩
  case round =>
    obtain ⟨k, xs, m, hk, rfl, rfl, hm, hx2, A, P⟩ := hrel
    have HA := Lib.hid A
    have HP := Lib.hid P
    clear A P
    by_cases hlt : k < n
    · have hlt' : (k : Int) < n := by omega
      obtain ⟨b, hx⟩ := bit_at HN.out hlt
      obtain ⟨bl, off, rfl, hcell⟩ := H.out.at k b hx
      have hc := below_cell HA.out.bel hcell
      have HQ := Lib.hid (drop_some hx ▸ HP.out)
      have l1 : xs.length ≤ 1000000 := by omega
      have l2 : (xs ++ [b]).length ≤ 1000000 := by rw [List.length_append]; simp; omega
      clear hx hcell HP
      cases b with
      | false =>
        go_wp2_with (first
          | (at_builtin; refine wpList_bit _ rfl (.tmp 13) (.tmp 15) 135 rfl Tryz.underlying135 _ _ rfl (HA.out.bits.below (bl_alloc (bl_refl wr) _)) wr.heap.size false rfl (Blk.new wr _ _) l1 ?_; intro v6 w6 R6 C6 O6; have A6 := Lib.hid ((HA.out.below (bl_alloc (bl_refl wr) _)).grow R6 C6 O6); clear R6 C6 O6))
        go_roundw
        case rel => exact ⟨k + 1, xs ++ [false], 0, by omega, by go_num, rfl, by omega, by simp; omega, A6.out, HQ.out⟩
        case measure => simp [intOf]; omega
      | true =>
        by_cases h4 : m = 4
        · subst h4
          go_wp2_with (first
            | (at_builtin; refine wpList_bit _ rfl (.tmp 13) (.tmp 15) 135 rfl Tryz.underlying135 _ _ rfl (HA.out.bits.below (bl_alloc (bl_refl wr) _)) wr.heap.size true rfl (Blk.new wr _ _) l1 ?_; intro v6 w6 R6 C6 O6; have A6 := Lib.hid ((HA.out.below (bl_alloc (bl_refl wr) _)).grow R6 C6 O6); clear R6 C6 O6)
            | (at_builtin; refine wpList_bit _ rfl (.tmp 23) (.tmp 24) 135 rfl Tryz.underlying135 _ _ rfl (A6.out.bits.below (bl_alloc (bl_refl w6) _)) w6.heap.size false rfl (Blk.new w6 _ _) l2 ?_; intro v7 w7 R7 C7 O7; have A7 := Lib.hid ((A6.out.below (bl_alloc (bl_refl w6) _)).grow R7 C7 O7); clear R7 C7 O7))
          go_roundw
          case rel => exact ⟨k + 1, xs ++ [true] ++ [false], 0, by omega, by go_num, rfl, by omega, by simp; omega, A7.out, HQ.out⟩
          case measure => simp [intOf]; omega
        · have hne : ((m : Int) + 1 == 5) = false := beq_eq_false_iff_ne.2 (by omega)
          have hne2 : ¬ (m + 1 = 5) := by omega
          go_wp2_with (first
            | (at_builtin; refine wpList_bit _ rfl (.tmp 13) (.tmp 15) 135 rfl Tryz.underlying135 _ _ rfl (HA.out.bits.below (bl_alloc (bl_refl wr) _)) wr.heap.size true rfl (Blk.new wr _ _) l1 ?_; intro v6 w6 R6 C6 O6; have A6 := Lib.hid ((HA.out.below (bl_alloc (bl_refl wr) _)).grow R6 C6 O6); clear R6 C6 O6))
          go_roundw
          case rel => exact ⟨k + 1, xs ++ [true], m + 1, by omega, by go_num, by go_num, by omega, by simp; omega, A6.out, by have h9 := HQ.out; unfold putB at h9; rw [if_neg (by simpa using hne2)] at h9; exact h9⟩
          case measure => simp [intOf]; omega
    · obtain rfl : k = n := by omega
      have kk : ¬ (k : Int) < k := by omega
      have h9 := HP.out
      rw [List.drop_eq_nil_of_le (by rw [HN.out]; exact Nat.le_refl _)] at h9
      clear HP
      go_wp2
      go_ret
      exact ⟨_, rfl, (show xs = R from h9) ▸ HA.out⟩
theorem Acc.none {w0 w : World} {v : Value} {xs : List Bool} (h : Acc w0 w v xs) : Acc w0 w (.slice none 0 0) [] := ⟨h.bel, BitV.nil w, by simp [Go.Proofs.YtcllbmjmefeknaaGreatK.own, Value.ownBlock]⟩
theorem STake_c {w : World} {v : Value} {t : List Bool} (h : BitV w v t) (hl : t.length ≤ 100000) :
    Calls Tryz.prog 175 #[v] w fun e w' => ∃ v', e = .returned (.tuple #[v', .int .i64 (takeB t ([], 0)).2]) ∧ Acc w w' v' (takeB t ([], 0)).1 := by
  obtain ⟨a, cap, rfl, hcap⟩ := h.shape
  obtain ⟨n, hn⟩ : ∃ n, t.length = n := ⟨_, rfl⟩
  obtain ⟨R, hR⟩ : ∃ R, takeB t ([], 0) = R := ⟨_, rfl⟩
  obtain ⟨R1, R2⟩ := R
  have H := Lib.hid h
  rw [hn] at hl hcap H
  rw [hR]
  dsimp only
  simp only [hn]
  have HN := Lib.hid hn
  have HR := Lib.hid hR
  clear h hn hR
  go_enter Tryz.func175, Tryz.ntmps175
  go_wp2
  go_loopw [4, 5, 10] (fun o c i wr => ∃ (k : Nat) (xs : List Bool) (m : Nat), k ≤ n ∧ i = .int .i64 k ∧ c = .int .i64 m ∧ m ≤ 5 ∧ xs.length ≤ k ∧ Acc w wr o xs ∧ takeB (t.drop k) (xs, m) = (R1, R2)) (fun _ _ i _ => n - (intOf i).toNat)
  case atStart => exact ⟨0, [], 0, by omega, rfl, rfl, by omega, by simp, Acc.nil w, HR.out⟩
  case round =>
    obtain ⟨k, xs, m, hk, rfl, rfl, hm, hx2, A, P⟩ := hrel
    have HA := Lib.hid A
    have HP := Lib.hid P
    clear A P
    by_cases hlt : k < n
    · have hlt' : (k : Int) < n := by omega
      obtain ⟨b, hx⟩ := bit_at HN.out hlt
      obtain ⟨bl, off, rfl, hcell⟩ := H.out.at k b hx
      have hc := below_cell HA.out.bel hcell
      have HQ := Lib.hid (drop_some hx ▸ HP.out)
      have l1 : xs.length ≤ 1000000 := by omega
      clear hx hcell HP
      by_cases h5 : m = 5
      · subst h5
        cases b with
        | false =>
          go_wp2
          go_roundw
          case rel => exact ⟨k + 1, xs, 0, by omega, by go_num, rfl, by omega, by omega, HA.out, HQ.out⟩
          case measure => simp [intOf]; omega
        | true =>
          go_wp2
          go_ret2
          have h9 : (([], 4) : List Bool × Int) = (R1, R2) := HQ.out
          simp only [Prod.mk.injEq] at h9
          exact ⟨_, by rw [← h9.2]; rfl, h9.1 ▸ HA.out.none⟩
      · have hne : ((m : Int) == 5) = false := beq_eq_false_iff_ne.2 (by omega)
        have hne2 : ¬ (m = 5) := h5
        cases b with
        | false =>
          go_wp2_with (first
            | (at_builtin; refine wpList_bit _ rfl (.tmp 17) (.tmp 19) 135 rfl Tryz.underlying135 _ _ rfl (HA.out.bits.below (bl_alloc (bl_refl wr) _)) wr.heap.size false rfl (Blk.new wr _ _) l1 ?_; intro v6 w6 R6 C6 O6; have A6 := Lib.hid ((HA.out.below (bl_alloc (bl_refl wr) _)).grow R6 C6 O6); clear R6 C6 O6))
          go_roundw
          case rel => exact ⟨k + 1, xs ++ [false], 0, by omega, by go_num, rfl, by omega, by simp; omega, A6.out, by have h9 := HQ.out; unfold takeB at h9; rw [if_neg hne2] at h9; exact h9⟩
          case measure => simp [intOf]; omega
        | true =>
          go_wp2_with (first
            | (at_builtin; refine wpList_bit _ rfl (.tmp 17) (.tmp 19) 135 rfl Tryz.underlying135 _ _ rfl (HA.out.bits.below (bl_alloc (bl_refl wr) _)) wr.heap.size true rfl (Blk.new wr _ _) l1 ?_; intro v6 w6 R6 C6 O6; have A6 := Lib.hid ((HA.out.below (bl_alloc (bl_refl wr) _)).grow R6 C6 O6); clear R6 C6 O6))
          go_roundw
          case rel => exact ⟨k + 1, xs ++ [true], m + 1, by omega, by go_num, by go_num, by omega, by simp; omega, A6.out, by have h9 := HQ.out; unfold takeB at h9; rw [if_neg hne2] at h9; exact h9⟩
          case measure => simp [intOf]; omega
    · obtain rfl : k = n := by omega
      have kk : ¬ (k : Int) < k := by omega
      have h9 := HP.out
      rw [List.drop_eq_nil_of_le (by rw [HN.out]; exact Nat.le_refl _)] at h9
      clear HP
      by_cases h5 : m = 5
      · subst h5
        go_wp2
        go_ret2
        have h8 : (([], 5) : List Bool × Int) = (R1, R2) := h9
        simp only [Prod.mk.injEq] at h8
        exact ⟨_, by rw [← h8.2]; rfl, h8.1 ▸ HA.out.none⟩
      · have hne : ((m : Int) == 5) = false := beq_eq_false_iff_ne.2 (by omega)
        have h8 : (xs, (0 : Int)) = (R1, R2) := by
          have h7 := h9
          unfold takeB at h7
          rw [if_neg h5] at h7
          exact h7
        simp only [Prod.mk.injEq] at h8
        clear h9
        go_wp2
        go_ret2
        exact ⟨_, by rw [← h8.2]; rfl, h8.1 ▸ HA.out⟩
end
/-! ### The walks of package rest. -/
section
open Go Go.RowKit
set_option linter.unusedVariables false
set_option maxHeartbeats 2000000
set_option maxRecDepth 100000
theorem wrap_u16 (n : Int) : IntKind.u16.wrap n = n % 65536 := by simp [IntKind.wrap, IntKind.bits, IntKind.signed]
theorem wraps_u16 (n : Int) (h0 : 0 ≤ n) (h1 : n < 2 ^ 16) : IntKind.u16.wrap n = n := by rw [wrap_u16]; omega
theorem xor16 (a b : Nat) (ha : a < 65536) (hb : b < 65536) : bits .xor .u16 a b = ((a ^^^ b : Nat) : Int) := by
  have h : a ^^^ b < 2 ^ 16 := Nat.xor_lt_two_pow (by omega) (by omega)
  have ha' : a % 2 ^ IntKind.u16.bits = a := Nat.mod_eq_of_lt ha
  have hb' : b % 2 ^ IntKind.u16.bits = b := Nat.mod_eq_of_lt hb
  simp only [bits, BitVec.ofInt_natCast, BitVec.toNat_xor, BitVec.toNat_ofNat, ha', hb']
  exact wraps_u16 _ (Int.natCast_nonneg _) (by exact_mod_cast h)
theorem and1_u16 (x : Nat) (h1 : x < 65536) : bits .and .u16 x 1 = ((x % 2 : Nat) : Int) := by
  have := bits_mask .u16 16 (by decide) wraps_u16 1 (by decide) (x : Int) (Int.natCast_nonneg _) (by exact_mod_cast h1)
  rw [show (1 : Int) = 2 ^ 1 - 1 by decide, this]
  omega
/-- One bit more into the check. -/
def crcStep (r : Nat) (on : Bool) : Nat := if (r ^^^ on.toNat) % 2 = 1 then (r / 2) ^^^ 33800 else r / 2
def crcBits (l : List Bool) : Nat := l.foldl crcStep 65535
theorem crcStep_lt {r : Nat} (h : r < 65536) (on : Bool) : crcStep r on < 65536 := by
  unfold crcStep
  split
  · exact Nat.xor_lt_two_pow (n := 16) (by omega) (by omega)
  · omega
theorem Step_c {w : World} (r : Nat) (hr : r < 65536) (on : Bool) : Calls Tryz.prog 198 #[.int .u16 r, .bool on] w fun e w' => e = .returned (.int .u16 (crcStep r on)) ∧ w = w' := by
  obtain ⟨q, hq⟩ : ∃ q, r ^^^ on.toNat = q := ⟨_, rfl⟩
  have ho : on.toNat < 65536 := by cases on <;> decide
  have q1 : q < 65536 := by rw [← hq]; exact Nat.xor_lt_two_pow (n := 16) (by omega) (by omega)
  have hx := xor16 r on.toNat hr ho
  rw [hq] at hx
  have hand := and1_u16 q q1
  obtain ⟨z, hz⟩ : ∃ z, (r / 2) ^^^ 33800 = z := ⟨_, rfl⟩
  have hdiv : ((r / 2 : Nat) : Int) = (r : Int) / 2 := by omega
  have hx2 : bits .xor .u16 ((r : Int) / 2) 33800 = z := by
    have h := xor16 (r / 2) 33800 (by omega) (by omega)
    rw [hz, hdiv] at h
    exact h
  by_cases hm : q % 2 = 1
  · have e : crcStep r on = z := by unfold crcStep; rw [hq, if_pos hm, hz]
    rw [e]
    have hand1 : bits .and .u16 (q : Int) 1 = 1 := by rw [hand, hm]; rfl
    clear e hq hz hdiv hand
    cases on
    all_goals
      first | (have hx1 : bits .xor .u16 (r : Int) 0 = q := hx) | (have hx1 : bits .xor .u16 (r : Int) 1 = q := hx)
      clear hx
      go_enter Tryz.func198, Tryz.ntmps198
      go_wp2
      go_ret
      exact ⟨rfl, rfl⟩
  · have hm0 : q % 2 = 0 := by omega
    have e : crcStep r on = r / 2 := by unfold crcStep; rw [hq, if_neg hm]
    rw [e, hdiv]
    have hand1 : bits .and .u16 (q : Int) 1 = 0 := by rw [hand, hm0]; rfl
    clear e hq hz hdiv hand
    cases on
    all_goals
      first | (have hx1 : bits .xor .u16 (r : Int) 0 = q := hx) | (have hx1 : bits .xor .u16 (r : Int) 1 = q := hx)
      clear hx
      go_enter Tryz.func198, Tryz.ntmps198
      go_wp2
      go_ret
      exact ⟨rfl, rfl⟩
theorem Bits_c {w : World} {v : Value} {t : List Bool} (h : BitV w v t) (hl : t.length ≤ 100000) :
    Calls Tryz.prog 192 #[v] w fun e w' => e = .returned (.int .u16 (crcBits t)) ∧ w = w' := by
  obtain ⟨a, cap, rfl, hcap⟩ := h.shape
  obtain ⟨n, hn⟩ : ∃ n, t.length = n := ⟨_, rfl⟩
  obtain ⟨R, hR⟩ : ∃ R, t.foldl crcStep 65535 = R := ⟨_, rfl⟩
  have H := Lib.hid h
  rw [hn] at hl hcap H
  rw [show crcBits t = R from hR]
  simp only [hn]
  have HN := Lib.hid hn
  have HR := Lib.hid hR
  clear h hn hR
  go_enter Tryz.func192, Tryz.ntmps192
  go_wp2
  go_loop [3, 8] (fun c i => ∃ (k r : Nat), k ≤ n ∧ i = .int .i64 k ∧ c = .int .u16 r ∧ r < 65536 ∧ (t.drop k).foldl crcStep r = R) (fun _ i => n - (intOf i).toNat)
  case atStart => exact ⟨0, 65535, by omega, rfl, rfl, by omega, HR.out⟩
  case round =>
    obtain ⟨k, r, hk, rfl, rfl, hr, P⟩ := hrel
    have HP := Lib.hid P
    clear P
    by_cases hlt : k < n
    · have hlt' : (k : Int) < n := by omega
      obtain ⟨b, hx⟩ := bit_at HN.out hlt
      obtain ⟨bl, off, rfl, hcell⟩ := H.out.at k b hx
      have HQ := Lib.hid (drop_some hx ▸ HP.out)
      have HS := Lib.hid (Step_c (w := w) r hr b)
      clear hx HP
      go_wp2_with (first | ((with_reducible refine HS.out.mono ?_); rintro e w4 ⟨rfl, rfl⟩))
      go_round
      case rel => exact ⟨k + 1, crcStep r b, by omega, by go_num, rfl, crcStep_lt hr b, HQ.out⟩
      case measure => simp [intOf]; omega
    · obtain rfl : k = n := by omega
      have kk : ¬ (k : Int) < k := by omega
      have h9 := HP.out
      rw [List.drop_eq_nil_of_le (by rw [HN.out]; exact Nat.le_refl _)] at h9
      clear HP
      go_wp2
      go_ret
      exact ⟨by rw [show r = R from h9]; rfl, rfl⟩
end
/-! ### Octets that are joined; the walks of rest.Check, With, Right. -/
section
open Go Go.RowKit
set_option linter.unusedVariables false
set_option maxHeartbeats 2000000
set_option maxRecDepth 100000
/-- Octets that a call collects in a block of its own. -/
structure AccO (w0 w : World) (v : Value) (xs : Oct) : Prop where
  bel : Below w0.heap.size w0 w
  byt : BytV w v xs
  own : ∀ g ∈ own v, w0.heap.size ≤ g
theorem AccO.nil (w : World) : AccO w w (.slice none 0 0) [] := ⟨bl_refl w, byt_nil, by simp [Go.Proofs.YtcllbmjmefeknaaGreatK.own, Value.ownBlock]⟩
theorem AccO.below {w0 w w1 : World} {v : Value} {xs : Oct} (h : AccO w0 w v xs) (hb : Below w.heap.size w w1) : AccO w0 w1 v xs := ⟨bl_then h.bel hb, Byt.below h.byt hb, h.own⟩
theorem AccO.grow {w0 w w' : World} {v v' : Value} {xs xs' : Oct} (h : AccO w0 w v xs) (hm : BytV w' v' xs') (hc : Chg (Go.Proofs.YtcllbmjmefeknaaGreatK.own v) w w') (ho : ∀ b ∈ Go.Proofs.YtcllbmjmefeknaaGreatK.own v', b ∈ Go.Proofs.YtcllbmjmefeknaaGreatK.own v ∨ w.heap.size ≤ b) : AccO w0 w' v' xs' :=
  ⟨h.bel.trans (hc.to_below h.bel.size h.own), hm, fun g hg => (ho g hg).elim (h.own g) (fun h9 => Nat.le_trans h.bel.size h9)⟩
theorem AccO.base {w9 w0 w : World} {v : Value} {xs : Oct} (h : AccO w0 w v xs) (hb : Below w9.heap.size w9 w0) : AccO w9 w v xs := ⟨bl_then hb h.bel, h.byt, fun g hg => Nat.le_trans hb.size (h.own g hg)⟩
theorem Acc.base {w9 w0 w : World} {v : Value} {xs : List Bool} (h : Acc w0 w v xs) (hb : Below w9.heap.size w9 w0) : Acc w9 w v xs := ⟨bl_then hb h.bel, h.bits, fun g hg => Nat.le_trans hb.size (h.own g hg)⟩
theorem run_byt_append (w : World) (t ty : TypeId) (ht : Tryz.prog.underlying t = some (.slice 5)) {F : List Nat} {s v : Value} {xs ys : Oct} (hs : BytV w s xs) (hv : BytI w F v ys) (hl : xs.length + ys.length ≤ 1000000) :
    ∃ s' w', (Builtin.append_ #[t, t] ty #[s, v]).run Tryz.prog w = .ok s' w' ∧ BytV w' s' (xs ++ ys) ∧ Chg (own s) w w' ∧ ∀ b ∈ own s', b ∈ own s ∨ w.heap.size ≤ b := by
  obtain ⟨a0, c0, es, hcs⟩ := hs.1.shape
  by_cases h0 : ys = []
  · subst h0
    obtain ⟨ax, cx, ex, _⟩ := hv.shape
    have hsrc : Src Tryz.prog 1 t v 0 [] w := by
      rw [ex]
      cases ax with
      | none => exact .ofNil w ht cx
      | some a => exact .ofSlice w ht a 0 cx [] (by simp) (by simp) (by simp)
    refine ⟨s, w, ?_, by simpa using hs, Chg.refl _ _, fun b hb => .inl hb⟩
    rw [es]
    exact run_append_nothing (P := Tryz.prog) w t t ty 5 Tryz.t5 ht rfl a0 xs.length c0 hcs v hsrc
  · rcases hv.1 with ⟨_, h1⟩ | ⟨_, _, _, h1⟩ | ⟨b, off, cap, rfl, h1, h2, h3, h4⟩
    · exact absurd h1 h0
    · exact absurd h1 h0
    · have hpos : 0 < ys.length := List.length_pos_iff.2 h0
      obtain ⟨s', w', r1, r2, r3, r4⟩ := run_row_append (P := Tryz.prog) w t ty 5 Tryz.t5 (.int .u8 0) 1 1 ht rfl rfl rfl rfl rfl (by decide) s xs.length (xs.map (Value.int .u8)) hs.1 ⟨b, off, none⟩ ys.length cap (ys.map (Value.int .u8)) (by simp)
        (fun j u hu => by rw [Addr.add_lit]; exact h4 j u hu) (by simp [Value.oneCell']) hpos (by simp [maxLen]; omega) (by omega)
      refine ⟨s', w', r1, ⟨by rw [List.length_append, List.map_append]; exact r2, fun x hx => ?_⟩, r3, r4⟩
      rcases List.mem_append.1 hx with h | h
      · exact hs.2 x h
      · exact hv.2 x h
/-- At an append of octets to others, in a walk. -/
theorem wpList_byt {ops : Array Oper} {rest : List Oper} {o : Oper} {a : Act} {Q : Exit → Act → World → Prop} (w : World) (hgd : o.guard = none) (s x : Operand) (t : TypeId)
    (ho : o.op = .call { callee := .builtin .append, args := #[s, x], argTypes := #[t, t] }) (ht : Tryz.prog.underlying t = some (.slice 5)) {F : List Nat}
    (v u : Value) (xs ys : Oct) (hs : a.eval s = v) (hx : a.eval x = u) (hv : BytV w v xs) (hu : BytI w F u ys) (hl : xs.length + ys.length ≤ 1000000)
    (h : ∀ v' w', BytV w' v' (xs ++ ys) → Chg (own v) w w' → (∀ b ∈ own v', b ∈ own v ∨ w.heap.size ≤ b) → wpList Tryz.prog ops Q rest (a.put o.dst v') w') : wpList Tryz.prog ops Q (o :: rest) a w := by
  refine wpList_plain hgd fun K hK => ?_
  obtain ⟨v', w', hrun, h2, h3, h4⟩ := run_byt_append w t o.type ht hv hu hl
  unfold Oper.wp execOp
  simp only [ho, resolve, invoke, builtin, Sem.run_bind, Sem.run_pure, Result.andThen_ok, List.map_toArray, List.map_cons, List.map_nil, hs, hx, hrun]
  exact hK _ _ (h v' w' h2 h3 h4)
def checkO (p : Oct) : Oct := [((65535 - crcBits (bitsOf p) : Nat) : Int) % 256, ((65535 - crcBits (bitsOf p) : Nat) : Int) / 256 % 256]
theorem not16 (r : Nat) (hr : r < 65536) : bits .xor .u16 IntKind.u16.max r = ((65535 - r : Nat) : Int) := by
  have h := xor16 65535 r (by decide) hr
  have e : IntKind.u16.max = ((65535 : Nat) : Int) := by decide
  rw [e, h]
  have h2 : (BitVec.allOnes 16 ^^^ BitVec.ofNat 16 r).toNat = 65535 - r := by
    rw [BitVec.allOnes_xor, BitVec.toNat_not, BitVec.toNat_ofNat, Nat.mod_eq_of_lt hr]
  rw [BitVec.toNat_xor, BitVec.toNat_allOnes, BitVec.toNat_ofNat, Nat.mod_eq_of_lt hr] at h2
  rw [show (65535 : Nat) = 2 ^ 16 - 1 by decide] at h2 ⊢
  rw [h2]
theorem crc_lt : ∀ (l : List Bool) {r : Nat}, r < 65536 → l.foldl crcStep r < 65536
  | [], _, h => h
  | b :: l, _, h => crc_lt l (crcStep_lt h b)
theorem byt_new2 {w : World} (x y : Int) (hx : 0 ≤ x ∧ x ≤ 255) (hy : 0 ≤ y ∧ y ≤ 255) : BytV (w.alloc (.cells #[.int .u8 x, .int .u8 y] 5)) (.slice (some ⟨w.heap.size, 0, none⟩) 2 2) [x, y] := by
  refine ⟨⟨by simp, .inr ⟨w.heap.size, 0, 2, _, rfl, by simp, by simp [maxLen], Blk.new _ _ _, by simp, fun j u hu => ?_⟩⟩, fun v hv => ?_⟩
  · simpa using hu
  · simp only [List.mem_cons, List.not_mem_nil, or_false] at hv
    rcases hv with rfl | rfl
    · exact hx
    · exact hy
theorem RCheck_c {w : World} {v : Value} {p : Oct} (h : BytI w [] v p) (hl : p.length ≤ 10000) :
    Calls Tryz.prog 186 #[v] w fun e w' => ∃ v', e = .returned v' ∧ AccO w w' v' (checkO p) := by
  have HO := Lib.hid (Of_c h hl)
  obtain ⟨r, hr⟩ : ∃ r, crcBits (bitsOf p) = r := ⟨_, rfl⟩
  have r1 : r < 65536 := by rw [← hr]; exact crc_lt _ (by decide)
  have hb : (bitsOf p).length ≤ 100000 := by rw [bitsOf_len]; omega
  have hnot := not16 r r1
  obtain ⟨q, hq⟩ : ∃ q, 65535 - r = q := ⟨_, rfl⟩
  have e : checkO p = [(q : Int) % 256, (q : Int) / 256 % 256] := by unfold checkO; rw [hr, hq]
  rw [e]
  rw [hq] at hnot
  have HR := Lib.hid hr
  clear e hr hq h
  go_enter Tryz.func186, Tryz.ntmps186
  go_wp2_with (first
    | ((with_reducible refine HO.out.mono ?_); rintro e w1 ⟨v1, rfl, A1⟩; have HA := Lib.hid A1; have HB := Lib.hid (HR.out ▸ Bits_c A1.bits hb); clear A1)
    | ((with_reducible refine HB.out.mono ?_); rintro e w2 ⟨rfl, rfl⟩))
  go_ret
  refine ⟨_, rfl, bl_alloc HA.out.bel _, byt_new2 _ _ (by omega) (by omega), fun g hg => ?_⟩
  obtain rfl : g = w1.heap.size := by simpa [own, Value.ownBlock] using hg
  exact HA.out.bel.size
theorem RightC_c {w : World} {v : Value} {p : Oct} (h : BytI w [] v p) (hl : p.length ≤ 10000) :
    Calls Tryz.prog 177 #[v] w fun e w' => e = .returned (.bool (decide (2 ≤ p.length ∧ crcBits (bitsOf p) = 61624))) ∧ Below w.heap.size w w' := by
  have HO := Lib.hid (Of_c h hl)
  obtain ⟨r, hr⟩ : ∃ r, crcBits (bitsOf p) = r := ⟨_, rfl⟩
  have r1 : r < 65536 := by rw [← hr]; exact crc_lt _ (by decide)
  have hb : (bitsOf p).length ≤ 100000 := by rw [bitsOf_len]; omega
  obtain ⟨a, cap, rfl, hcap⟩ := h.shape
  have HR := Lib.hid hr
  rw [hr]
  clear hr h
  obtain ⟨n, hn⟩ : ∃ n, p.length = n := ⟨_, rfl⟩
  simp only [hn] at HO hcap ⊢
  clear hn hl
  by_cases h2 : 2 ≤ n
  · have h2' : (2 : Int) ≤ n := by omega
    by_cases h3 : r = 61624
    · subst h3
      rw [decide_eq_true ⟨h2, rfl⟩]
      go_enter Tryz.func177, Tryz.ntmps177
      go_wp2_with (first
        | ((with_reducible refine HO.out.mono ?_); rintro e w1 ⟨v1, rfl, A1⟩; have HA := Lib.hid A1; have HB := Lib.hid (HR.out ▸ Bits_c A1.bits hb); clear A1)
        | ((with_reducible refine HB.out.mono ?_); rintro e w2 ⟨rfl, rfl⟩))
      go_ret
      exact ⟨rfl, HA.out.bel⟩
    · rw [decide_eq_false (fun h => h3 h.2)]
      have h4 : ((r : Int) == 61624) = false := beq_eq_false_iff_ne.2 (by omega)
      go_enter Tryz.func177, Tryz.ntmps177
      go_wp2_with (first
        | ((with_reducible refine HO.out.mono ?_); rintro e w1 ⟨v1, rfl, A1⟩; have HA := Lib.hid A1; have HB := Lib.hid (HR.out ▸ Bits_c A1.bits hb); clear A1)
        | ((with_reducible refine HB.out.mono ?_); rintro e w2 ⟨rfl, rfl⟩))
      go_ret
      exact ⟨rfl, HA.out.bel⟩
  · rw [decide_eq_false (fun h => h2 h.1)]
    have h2' : ¬ (2 : Int) ≤ n := by omega
    go_enter Tryz.func177, Tryz.ntmps177
    go_wp2
    go_ret
    exact ⟨rfl, bl_refl w⟩
end
/-! ### The walks of rest.With, tape.Low, tape.Octets. -/
section
open Go Go.RowKit
set_option linter.unusedVariables false
set_option maxHeartbeats 2000000
set_option maxRecDepth 100000
theorem checkO_len (p : Oct) : (checkO p).length = 2 := rfl
theorem With_c {w : World} {v : Value} {p : Oct} (h : BytI w [] v p) (hl : p.length ≤ 10000) :
    Calls Tryz.prog 157 #[v] w fun e w' => ∃ v', e = .returned v' ∧ AccO w w' v' (p ++ checkO p) := by
  obtain ⟨a, cap, rfl, hcap⟩ := h.shape
  have H := Lib.hid h
  have HL := Lib.hid hl
  clear h hl
  go_enter Tryz.func157, Tryz.ntmps157
  go_wp2_with (first
    | (at_builtin; refine wpList_byt _ rfl (.const (.slice none 0 0)) (.tmp 3) 25 rfl Tryz.underlying25 _ _ [] p rfl rfl byt_nil H.out (by have := HL.out; simp; omega) ?_; intro v1 w1 R1 C1 O1; have A1 := Lib.hid ((AccO.nil w).grow R1 C1 O1); have HC := Lib.hid (RCheck_c (H.out.below A1.out.bel) HL.out); clear R1 C1 O1)
    | ((with_reducible refine HC.out.mono ?_); rintro e w2 ⟨v2, rfl, A2⟩; have HA := Lib.hid A2; clear A2)
    | (at_builtin; refine wpList_byt _ rfl (.tmp 4) (.tmp 6) 25 rfl Tryz.underlying25 _ _ p (checkO p) rfl rfl (Byt.below A1.out.byt HA.out.bel) HA.out.byt.i0 (by have := HL.out; rw [checkO_len]; omega) ?_; intro v3 w3 R3 C3 O3; have A3 := Lib.hid ((A1.out.below HA.out.bel).grow R3 C3 O3); clear R3 C3 O3))
  go_ret
  exact ⟨_, rfl, A3.out⟩
/-- Bits as a number, the lowest first. -/
def lowFrom : Nat → List Bool → Nat
  | _, [] => 0
  | i, b :: l => (if b then 2 ^ i else 0) + lowFrom (i + 1) l
theorem lowFrom_lt : ∀ (l : List Bool) (i : Nat), lowFrom i l + 2 ^ i ≤ 2 ^ (i + l.length)
  | [], i => by simp [lowFrom]
  | b :: l, i => by
    have h := lowFrom_lt l (i + 1)
    have h2 : (2 : Nat) ^ (i + 1) = 2 ^ i + 2 ^ i := by rw [Nat.pow_succ]; omega
    have h3 : i + 1 + l.length = i + (b :: l).length := by simp; omega
    rw [h3] at h
    have h4 := Nat.two_pow_pos i
    unfold lowFrom
    split <;> omega
theorem or8 (a k : Nat) (ha : a < 2 ^ k) (hk : k < 8) : bits .or .u8 (a : Int) (2 ^ k) = ((a + 2 ^ k : Nat) : Int) := by
  have hp : 2 ^ k < 2 ^ 8 := Nat.pow_lt_pow_right (by decide) hk
  have h := (bits_nat .u8 8 (by decide) wraps_u8 a (2 ^ k) (by omega) hp).2
  have e : a ||| 2 ^ k = a + 2 ^ k := by
    rw [Nat.or_comm]
    have := Nat.two_pow_add_eq_or_of_lt ha 1
    rw [Nat.mul_one] at this
    rw [← this]; omega
  rw [e] at h
  rw [← h]
  congr 1
theorem wrap_pow8 (k : Nat) (hk : k < 8) : IntKind.u8.wrap (2 ^ k) = 2 ^ k := by
  have hp : (2 : Nat) ^ k < 2 ^ 8 := Nat.pow_lt_pow_right (by decide) hk
  refine wraps_u8 _ (Int.le_of_lt (Int.pow_pos (by decide))) ?_
  exact_mod_cast hp
theorem Low_c {w : World} {v : Value} {t : List Bool} (h : BitV w v t) (hl : t.length ≤ 8) :
    Calls Tryz.prog 191 #[v] w fun e w' => e = .returned (.int .u8 (lowFrom 0 t)) ∧ w = w' := by
  obtain ⟨a, cap, rfl, hcap⟩ := h.shape
  obtain ⟨n, hn⟩ : ∃ n, t.length = n := ⟨_, rfl⟩
  obtain ⟨R, hR⟩ : ∃ R, lowFrom 0 t = R := ⟨_, rfl⟩
  have H := Lib.hid h
  rw [hn] at hl hcap H
  rw [hR]
  simp only [hn]
  have HN := Lib.hid hn
  have HR := Lib.hid hR
  clear h hn hR
  go_enter Tryz.func191, Tryz.ntmps191
  go_wp2
  go_loop [3, 8] (fun c i => ∃ (k r : Nat), k ≤ n ∧ i = .int .i64 k ∧ c = .int .u8 r ∧ r < 2 ^ k ∧ r + lowFrom k (t.drop k) = R) (fun _ i => n - (intOf i).toNat)
  case atStart => exact ⟨0, 0, by omega, rfl, rfl, by decide, by simpa using HR.out⟩
  case round =>
    obtain ⟨k, r, hk, rfl, rfl, hr, P⟩ := hrel
    have HP := Lib.hid P
    have HRL := Lib.hid hr
    clear P hr
    by_cases hlt : k < n
    · have hlt' : (k : Int) < n := by omega
      have hk8 : k < 8 := by omega
      have hk8' : (k : Int) < 8 := by omega
      obtain ⟨b, hx⟩ := bit_at HN.out hlt
      obtain ⟨bl, off, rfl, hcell⟩ := H.out.at k b hx
      have HQ := Lib.hid (drop_some hx ▸ HP.out)
      have h2 : (2 : Nat) ^ (k + 1) = 2 ^ k + 2 ^ k := by rw [Nat.pow_succ]; omega
      have HP2 := Lib.hid h2
      clear hx HP h2
      cases b with
      | false =>
        go_wp2
        go_round
        case rel => exact ⟨k + 1, r, by omega, by go_num, rfl, by have := HRL.out; rw [HP2.out]; omega, by have h9 := HQ.out; unfold lowFrom at h9; simpa using h9⟩
        case measure => simp [intOf]; omega
      | true =>
        have hw := wrap_pow8 k hk8
        have hor := or8 r k HRL.out hk8
        obtain ⟨z, hz⟩ : ∃ z, r + 2 ^ k = z := ⟨_, rfl⟩
        rw [hz] at hor
        have HZ := Lib.hid hz
        clear hz
        go_wp2
        go_round
        case rel => exact ⟨k + 1, z, by omega, by go_num, rfl, by have := HRL.out; rw [HP2.out, ← HZ.out]; omega, by have h9 := HQ.out; unfold lowFrom at h9; rw [if_pos rfl] at h9; rw [← HZ.out]; omega⟩
        case measure => simp [intOf]; omega
    · obtain rfl : k = n := by omega
      have kk : ¬ (k : Int) < k := by omega
      have h9 := HP.out
      rw [List.drop_eq_nil_of_le (by rw [HN.out]; exact Nat.le_refl _)] at h9
      clear HP
      go_wp2
      go_ret
      exact ⟨by rw [show r = R from h9]; rfl, rfl⟩
end
/-! ### The walks of tape.Octets, flag.Flag, flag.Frame. -/
section
open Go Go.RowKit
set_option linter.unusedVariables false
set_option maxHeartbeats 2000000
set_option maxRecDepth 100000
theorem BitV.sub {w : World} {bl off n cap i m : Nat} {t : List Bool} (h : BitV w (.slice (some ⟨bl, off, none⟩) n cap) t) (hi : i + m ≤ n) : BitV w (.slice (some ⟨bl, off + i, none⟩) m (cap - i)) ((t.drop i).take m) := by
  have R : Row w 4 1 (.slice (some ⟨bl, off, none⟩) n cap) t.length (t.map Value.bool) := h
  rcases R.2 with ⟨e, _⟩ | ⟨bl', off', cap', cs, e', h1, h2, h3, h4, h5⟩
  · cases e
  · simp only [Value.slice.injEq, Option.some.injEq, Addr.mk.injEq] at e'
    obtain ⟨⟨rfl, rfl, _⟩, rfl, rfl⟩ := e'
    have hl : ((t.drop i).take m).length = m := by rw [List.length_take, List.length_drop]; omega
    refine ⟨by simp, .inr ⟨bl, off + i, cap - i, cs, by rw [hl], by omega, by omega, h3, by omega, fun j u hu => ?_⟩⟩
    rw [List.map_take, List.map_drop, List.getElem?_take] at hu
    split at hu
    · rw [List.getElem?_drop] at hu
      rw [show off + i + j = off + (i + j) by omega]
      exact h5 _ u hu
    · cases hu
/-- So many whole octets of some bits. -/
def octN (n : Nat) (t : List Bool) : Oct := (List.range n).map fun i => ((lowFrom 0 ((t.drop (8 * i)).take 8) : Nat) : Int)
theorem octN_len (n : Nat) (t : List Bool) : (octN n t).length = n := by simp [octN]
theorem byt_new1 {w : World} (x : Int) (hx : 0 ≤ x ∧ x ≤ 255) : BytV (w.alloc (.cells #[.int .u8 x] 5)) (.slice (some ⟨w.heap.size, 0, none⟩) 1 1) [x] := by
  refine ⟨⟨by simp, .inr ⟨w.heap.size, 0, 1, _, rfl, by simp, by simp [maxLen], Blk.new _ _ _, by simp, fun j u hu => ?_⟩⟩, fun v hv => ?_⟩
  · simpa using hu
  · simp only [List.mem_cons, List.not_mem_nil, or_false] at hv
    rcases hv with rfl
    exact hx
theorem low8_le (l : List Bool) (hl : l.length ≤ 8) : lowFrom 0 l ≤ 255 := by
  have h := lowFrom_lt l 0
  have h2 : (2 : Nat) ^ (0 + l.length) ≤ 2 ^ 8 := Nat.pow_le_pow_right (by decide) (by omega)
  omega
theorem Octets_c {w : World} {v : Value} {t : List Bool} (h : BitV w v t) (hl : t.length ≤ 100000) :
    Calls Tryz.prog 176 #[v] w fun e w' => ∃ v', e = .returned (.tuple #[v', .int .i64 (if t.length % 8 = 0 then 0 else 8)]) ∧ AccO w w' v' (if t.length % 8 = 0 then octN (t.length / 8) t else []) := by
  obtain ⟨a, cap, rfl, hcap⟩ := h.shape
  obtain ⟨n, hn⟩ : ∃ n, t.length = n := ⟨_, rfl⟩
  have H := Lib.hid h
  rw [hn] at hl hcap H
  simp only [hn]
  have HN := Lib.hid hn
  clear h hn
  by_cases h8 : n % 8 = 0
  · rw [if_pos h8, if_pos h8]
    have h8' : ((n : Int) % 8 != 0) = false := by
      have : (n : Int) % 8 = 0 := by omega
      rw [this]; rfl
    obtain ⟨N, hN⟩ : ∃ N, n = 8 * N := ⟨n / 8, by omega⟩
    have HNN := Lib.hid hN
    have e8 : n / 8 = N := by omega
    rw [e8]
    have H8 := Lib.hid h8
    clear h8 hN e8
    go_enter Tryz.func176, Tryz.ntmps176
    go_wp2
    go_loopw [4, 5] (fun o i wr => ∃ (k j : Nat), j = 8 * k ∧ k ≤ N ∧ i = .int .i64 j ∧ AccO w wr o (octN k t)) (fun _ i _ => n - (intOf i).toNat)
    case atStart => exact ⟨0, 0, rfl, by omega, rfl, AccO.nil w⟩
    case round =>
      obtain ⟨k, j, hj, hk, rfl, A⟩ := hrel
      have HA := Lib.hid A
      have HJ := Lib.hid hj
      clear A hj
      by_cases hlt : j < n
      · have hlt' : (j : Int) < n := by omega
        have hkN : k < N := by have := HJ.out; have := HNN.out; omega
        have hj8 : j + 8 ≤ n := by have := HJ.out; have := HNN.out; omega
        have hj8' : (j : Int) + 8 ≤ n := by omega
        have hne : ¬ cap = j := by omega
        obtain ⟨b, hx⟩ := bit_at HN.out hlt
        obtain ⟨bl, off, rfl, hcell⟩ := H.out.at j b hx
        have hs := BitV.sub (H.out.below HA.out.bel) hj8
        have hl8 : ((t.drop j).take 8).length ≤ 8 := by rw [List.length_take]; omega
        have HL := Lib.hid (Low_c hs hl8)
        obtain ⟨x, hxx⟩ : ∃ x, lowFrom 0 ((t.drop j).take 8) = x := ⟨_, rfl⟩
        have x255 : x ≤ 255 := by rw [← hxx]; exact low8_le _ hl8
        rw [hxx] at HL
        have HX := Lib.hid hxx
        have hlo : (octN k t).length + 1 ≤ 1000000 := by rw [octN_len]; have := HNN.out; omega
        clear hx hcell hs hl8 hxx
        go_wp2_with (first
          | ((with_reducible refine HL.out.mono ?_); rintro e w4 ⟨rfl, rfl⟩)
          | (at_builtin; refine wpList_byt _ rfl (.tmp 16) (.tmp 23) 25 rfl Tryz.underlying25 _ _ _ [(x : Int)] rfl rfl (Byt.below HA.out.byt (bl_alloc (bl_refl wr) _)) (byt_new1 (w := wr) (x : Int) (by omega)).i0 hlo ?_; intro v6 w6 R6 C6 O6; have A6 := Lib.hid ((HA.out.below (bl_alloc (bl_refl wr) (.cells #[.int .u8 x] 5))).grow R6 C6 O6); clear R6 C6 O6))
        go_roundw
        case rel => exact ⟨k + 1, j + 8, by have := HJ.out; omega, by omega, by go_num, by unfold octN; rw [List.range_succ, List.map_append, List.map_cons, List.map_nil, ← HJ.out, HX.out]; exact A6.out⟩
        case measure => simp [intOf]; omega
      · have hkN : k = N := by have := HJ.out; have := HNN.out; omega
        subst hkN
        have kk : ¬ (j : Int) < n := by omega
        go_wp2
        go_ret2
        exact ⟨_, rfl, HA.out⟩
  · rw [if_neg h8, if_neg h8]
    have h8' : ((n : Int) % 8 != 0) = true := by
      have : (n : Int) % 8 ≠ 0 := by omega
      simp [this]
    clear h8
    go_enter Tryz.func176, Tryz.ntmps176
    go_wp2
    go_ret2
    exact ⟨_, rfl, AccO.nil w⟩
end
/-! ### The walks of flag.Flag, flag.Frame, flag.Judge. -/
section
open Go Go.RowKit
set_option linter.unusedVariables false
set_option maxHeartbeats 2000000
set_option maxRecDepth 100000
def flagB : List Bool := [false, true, true, true, true, true, true, false]
def frameB (p : Oct) : List Bool := putB (bitsOf (p ++ checkO p)) ([], 0) ++ flagB
def frameE (p : Oct) : Int := if p.length < 3 then 5 else if 277 < p.length then 6 else 0
def judgeB (t : List Bool) : Oct × Int :=
  if (takeB t ([], 0)).2 ≠ 0 then ([], 4)
  else if (takeB t ([], 0)).1.length % 8 ≠ 0 then ([], 8)
  else if (takeB t ([], 0)).1.length / 8 < 5 then ([], 5)
  else if 279 < (takeB t ([], 0)).1.length / 8 then ([], 6)
  else if crcBits (bitsOf (octN ((takeB t ([], 0)).1.length / 8) (takeB t ([], 0)).1)) = 61624 then ((octN ((takeB t ([], 0)).1.length / 8) (takeB t ([], 0)).1).take ((takeB t ([], 0)).1.length / 8 - 2), 0)
  else ([], 7)
theorem putB_len : ∀ (l : List Bool) (s : List Bool × Nat), (putB l s).length ≤ s.1.length + 2 * l.length
  | [], s => by simp [putB]
  | b :: l, s => by
    unfold putB
    by_cases h : (if b then s.2 + 1 else 0) = 5
    · rw [if_pos h]
      have := putB_len l (s.1 ++ [b] ++ [false], 0)
      simp only [List.length_append, List.length_cons, List.length_nil] at this ⊢; omega
    · rw [if_neg h]
      have := putB_len l (s.1 ++ [b], if b then s.2 + 1 else 0)
      simp only [List.length_append, List.length_cons, List.length_nil] at this ⊢; omega
theorem takeB_len : ∀ (l : List Bool) (s : List Bool × Nat), (takeB l s).1.length ≤ s.1.length + l.length
  | [], s => by unfold takeB; split <;> simp
  | b :: l, s => by
    unfold takeB
    split
    · split
      · simp
      · have := takeB_len l (s.1, 0)
        simp at this ⊢; omega
    · have := takeB_len l (s.1 ++ [b], if b then s.2 + 1 else 0)
      simp at this ⊢; omega
theorem Flag_c (w : World) : Calls Tryz.prog 99 #[] w fun e w' => ∃ v', e = .returned v' ∧ Acc w w' v' flagB := by
  go_enter Tryz.func99, Tryz.ntmps99
  go_wp2
  go_ret
  refine ⟨_, rfl, bl_alloc (bl_refl w) _, ⟨by simp [flagB], .inr ⟨w.heap.size, 0, 8, _, rfl, by simp [flagB], by simp [maxLen], Blk.new _ _ _, by simp, fun j u hu => ?_⟩⟩, fun g hg => ?_⟩
  · simpa [flagB] using hu
  · obtain rfl : g = w.heap.size := by simpa [own, Value.ownBlock] using hg
    exact Nat.le_refl _
/-- At an append of bits to others, in a walk. -/
theorem wpList_bits {ops : Array Oper} {rest : List Oper} {o : Oper} {a : Act} {Q : Exit → Act → World → Prop} (w : World) (hgd : o.guard = none) (s x : Operand) (t : TypeId)
    (ho : o.op = .call { callee := .builtin .append, args := #[s, x], argTypes := #[t, t] }) (ht : Tryz.prog.underlying t = some (.slice 4))
    (v u : Value) (xs ys : List Bool) (hs : a.eval s = v) (hx : a.eval x = u) (hv : BitV w v xs) (hu : BitV w u ys) (h0 : ys ≠ []) (hl : xs.length + ys.length ≤ 1000000)
    (h : ∀ v' w', BitV w' v' (xs ++ ys) → Chg (own v) w w' → (∀ b ∈ own v', b ∈ own v ∨ w.heap.size ≤ b) → wpList Tryz.prog ops Q rest (a.put o.dst v') w') : wpList Tryz.prog ops Q (o :: rest) a w := by
  have R : Row w 4 1 u ys.length (ys.map Value.bool) := hu
  have hpos : 0 < ys.length := List.length_pos_iff.2 h0
  rcases R.2 with ⟨_, h1⟩ | ⟨b, off, cap, cs, e, h1, h2, h3, h4, h5⟩
  · omega
  · subst e
    exact wpList_row_append w hgd s x t ho 4 Tryz.t4 (.bool false) 1 1 ht rfl rfl rfl rfl rfl (by decide) v xs.length (xs.map Value.bool) hs hv ⟨b, off, none⟩ ys.length cap (ys.map Value.bool) hx (by simp)
      (fun j u hu => by rw [Addr.add_lit, h3.c]; exact h5 j u hu) (fun u hu => by obtain ⟨b, _, rfl⟩ := List.mem_map.1 hu; rfl) hpos (by simp [maxLen]; omega) (by omega)
      (fun v' w' R C O => h v' w' (by unfold BitV; rw [List.length_append, List.map_append]; exact R) C O)
theorem Frame_c {w : World} {v : Value} {p : Oct} (h : BytI w [] v p) (hl : p.length ≤ 100000) :
    Calls Tryz.prog 126 #[v] w fun e w' => ∃ v', e = .returned (.tuple #[v', .int .i64 (frameE p)]) ∧ Acc w w' v' (if frameE p = 0 then frameB p else []) := by
  obtain ⟨a, cap, rfl, hcap⟩ := h.shape
  obtain ⟨n, hn⟩ : ∃ n, p.length = n := ⟨_, rfl⟩
  have H := Lib.hid h
  have HN := Lib.hid hn
  by_cases h1 : n < 3
  · have e : frameE p = 5 := by unfold frameE; rw [hn, if_pos h1]
    rw [e, if_neg (by decide)]
    simp only [hn]
    clear e h hn
    have h1' : (n : Int) + 2 < 5 := by omega
    go_enter Tryz.func126, Tryz.ntmps126
    go_wp2
    go_ret2
    exact ⟨_, rfl, Acc.nil w⟩
  by_cases h2 : 277 < n
  · have e : frameE p = 6 := by unfold frameE; rw [hn, if_neg h1, if_pos h2]
    rw [e, if_neg (by decide)]
    simp only [hn]
    rw [hn] at hl
    clear e h hn
    have h1' : ¬ (n : Int) + 2 < 5 := by omega
    have h2' : 279 < (n : Int) + 2 := by omega
    go_enter Tryz.func126, Tryz.ntmps126
    go_wp2
    go_ret2
    exact ⟨_, rfl, Acc.nil w⟩
  · have e : frameE p = 0 := by unfold frameE; rw [hn, if_neg h1, if_neg h2]
    rw [e, if_pos rfl]
    have HW := Lib.hid (With_c h (by omega))
    have hpc : (p ++ checkO p).length ≤ 10000 := by rw [List.length_append, checkO_len]; omega
    have hbl : (bitsOf (p ++ checkO p)).length ≤ 100000 := by rw [bitsOf_len, List.length_append, checkO_len]; omega
    have hpl : (putB (bitsOf (p ++ checkO p)) ([], 0)).length + flagB.length ≤ 1000000 := by
      have := putB_len (bitsOf (p ++ checkO p)) ([], 0)
      simp [flagB] at this ⊢; omega
    simp only [hn] at HW ⊢
    have HF : frameB p = putB (bitsOf (p ++ checkO p)) ([], 0) ++ flagB := rfl
    rw [HF]
    clear e h hn HF hl
    have h1' : ¬ (n : Int) + 2 < 5 := by omega
    have h2' : ¬ 279 < (n : Int) + 2 := by omega
    generalize p ++ checkO p = q at HW hpc hbl hpl ⊢
    go_enter Tryz.func126, Tryz.ntmps126
    go_wp2_with (first
      | ((with_reducible refine HW.out.mono ?_); rintro e w1 ⟨v1, rfl, A1⟩; have B1 := Lib.hid A1.bel; have HO := Lib.hid (Of_c A1.byt.i0 hpc); clear A1)
      | ((with_reducible refine HO.out.mono ?_); rintro e w2 ⟨v2, rfl, A2⟩; have B2 := Lib.hid (bl_then B1.out A2.bel); have HP := Lib.hid (SPut_c A2.bits hbl); clear A2)
      | ((with_reducible refine HP.out.mono ?_); rintro e w3 ⟨v3, rfl, A3⟩; have A := Lib.hid (A3.base B2.out); have HG := Lib.hid (Flag_c w3); clear A3)
      | ((with_reducible refine HG.out.mono ?_); rintro e w4 ⟨v4, rfl, A4⟩; have G := Lib.hid A4; clear A4)
      | (at_builtin; refine wpList_bits _ rfl (.tmp 17) (.tmp 18) 135 rfl Tryz.underlying135 _ _ _ flagB rfl rfl (A.out.below G.out.bel).bits G.out.bits (by simp [flagB]) hpl ?_; intro v5 w5 R5 C5 O5; have A5 := Lib.hid ((A.out.below G.out.bel).grow R5 C5 O5); clear R5 C5 O5))
    go_ret2
    exact ⟨_, rfl, A5.out⟩
end
/-! ### The walk of flag.Judge. -/
section
open Go Go.RowKit
set_option linter.unusedVariables false
set_option maxHeartbeats 4000000
set_option maxRecDepth 100000
theorem AccO.none {w0 w : World} {v : Value} {xs : Oct} (h : AccO w0 w v xs) : AccO w0 w (.slice none 0 0) [] := ⟨h.bel, byt_nil, by simp [Go.Proofs.YtcllbmjmefeknaaGreatK.own, Value.ownBlock]⟩
theorem AccO.take {w0 w : World} {a : Option Addr} {n cap : Nat} {p : Oct} (h : AccO w0 w (.slice a n cap) p) (m : Nat) (hm : m ≤ p.length) : AccO w0 w (.slice a m cap) (p.take m) := by
  have hl : (p.take m).length = m := by rw [List.length_take]; omega
  refine ⟨h.bel, ⟨⟨by simp, ?_⟩, fun x hx => h.byt.2 x (List.mem_of_mem_take hx)⟩, fun g hg => h.own g (by
    cases a with
    | none => simp [Go.Proofs.YtcllbmjmefeknaaGreatK.own, Value.ownBlock] at hg
    | some a => simpa [Go.Proofs.YtcllbmjmefeknaaGreatK.own, Value.ownBlock] using hg)⟩
  rcases h.byt.1.2 with ⟨e, h0⟩ | ⟨b, off, cap', cs, e, h1, h2, h3, h4, h5⟩
  · simp only [Value.slice.injEq] at e
    obtain ⟨rfl, rfl, rfl⟩ := e
    exact .inl ⟨by rw [show m = 0 by omega], by rw [hl]; omega⟩
  · simp only [Value.slice.injEq] at e
    obtain ⟨rfl, rfl, rfl⟩ := e
    refine .inr ⟨b, off, cap, cs, by rw [hl], by omega, h2, h3, by omega, fun j u hu => ?_⟩
    rw [List.map_take, List.getElem?_take] at hu
    split at hu
    · exact h5 j u hu
    · cases hu
theorem Judge_c {w : World} {v : Value} {t : List Bool} (h : BitV w v t) (hl : t.length ≤ 10000) :
    Calls Tryz.prog 145 #[v] w fun e w' => ∃ v', e = .returned (.tuple #[v', .int .i64 (judgeB t).2]) ∧ AccO w w' v' (judgeB t).1 := by
  have HT := Lib.hid (STake_c h (by omega))
  have tl := takeB_len t ([], 0)
  simp only [List.length_nil, Nat.zero_add] at tl
  unfold judgeB
  generalize takeB t ([], 0) = r at HT tl ⊢
  obtain ⟨l, e⟩ := r
  dsimp only at HT tl ⊢
  clear h
  by_cases he : e ≠ 0
  · rw [if_pos he]
    have he' : (e != 0) = true := by simpa using he
    dsimp only
    go_enter Tryz.func145, Tryz.ntmps145
    go_wp2_with (first
      | ((with_reducible refine HT.out.mono ?_); rintro e w1 ⟨v1, rfl, A1⟩; have B1 := Lib.hid A1.bel; clear A1))
    go_ret2
    exact ⟨_, rfl, B1.out, byt_nil, by simp [own, Value.ownBlock]⟩
  · rw [if_neg he]
    have he0 : e = 0 := by omega
    subst he0
    have HO := Lib.hid (fun (w1 : World) (v1 : Value) (b : BitV w1 v1 l) => Octets_c (w := w1) b (by omega))
    clear he
    by_cases h8 : l.length % 8 ≠ 0
    · rw [if_pos h8]
      rw [if_neg h8, if_neg h8] at HO
      go_enter Tryz.func145, Tryz.ntmps145
      go_wp2_with (first
        | ((with_reducible refine HT.out.mono ?_); rintro e w1 ⟨v1, rfl, A1⟩; have B1 := Lib.hid A1.bel; have HP := Lib.hid (HO.out w1 v1 A1.bits); clear A1)
        | ((with_reducible refine HP.out.mono ?_); rintro e w2 ⟨v2, rfl, A2⟩; have B2 := Lib.hid (bl_then B1.out A2.bel); clear A2))
      go_ret2
      exact ⟨_, rfl, B2.out, byt_nil, by simp [own, Value.ownBlock]⟩
    · rw [if_neg h8]
      have h80 : l.length % 8 = 0 := by omega
      rw [if_pos h80, if_pos h80] at HO
      obtain ⟨N, hN⟩ : ∃ N, l.length / 8 = N := ⟨_, rfl⟩
      rw [hN] at HO ⊢
      have pl := octN_len N l
      generalize octN N l = p at HO pl ⊢
      clear h8 h80
      have N1 : N ≤ 1250 := by omega
      clear hN tl
      by_cases h5 : N < 5
      · rw [if_pos h5]
        have h5' : (N : Int) < 5 := by omega
        go_enter Tryz.func145, Tryz.ntmps145
        go_wp2_with (first
          | ((with_reducible refine HT.out.mono ?_); rintro e w1 ⟨v1, rfl, A1⟩; have B1 := Lib.hid A1.bel; have HP := Lib.hid (HO.out w1 v1 A1.bits); clear A1)
          | ((with_reducible refine HP.out.mono ?_); rintro e w2 ⟨v2, rfl, A2⟩; have B2 := Lib.hid (bl_then B1.out A2.bel); obtain ⟨a2, c2, ev, hc2⟩ := A2.byt.1.shape; (rw [pl] at ev hc2); subst ev; clear A2))
        go_ret2
        exact ⟨_, rfl, B2.out, byt_nil, by simp [own, Value.ownBlock]⟩
      · rw [if_neg h5]
        have h5' : ¬ (N : Int) < 5 := by omega
        by_cases h279 : 279 < N
        · rw [if_pos h279]
          have h279' : (279 : Int) < N := by omega
          go_enter Tryz.func145, Tryz.ntmps145
          go_wp2_with (first
            | ((with_reducible refine HT.out.mono ?_); rintro e w1 ⟨v1, rfl, A1⟩; have B1 := Lib.hid A1.bel; have HP := Lib.hid (HO.out w1 v1 A1.bits); clear A1)
            | ((with_reducible refine HP.out.mono ?_); rintro e w2 ⟨v2, rfl, A2⟩; have B2 := Lib.hid (bl_then B1.out A2.bel); obtain ⟨a2, c2, ev, hc2⟩ := A2.byt.1.shape; (rw [pl] at ev hc2); subst ev; clear A2))
          go_ret2
          exact ⟨_, rfl, B2.out, byt_nil, by simp [own, Value.ownBlock]⟩
        · rw [if_neg h279]
          have h279' : ¬ (279 : Int) < N := by omega
          have HR := Lib.hid (fun (w2 : World) (v2 : Value) (b : BytV w2 v2 p) => RightC_c (w := w2) b.i0 (by omega))
          by_cases hc : crcBits (bitsOf p) = 61624
          · rw [if_pos hc]
            rw [decide_eq_true ⟨by omega, hc⟩] at HR
            have n2 : (2 : Int) ≤ N := by omega
            go_enter Tryz.func145, Tryz.ntmps145
            go_wp2_with (first
              | ((with_reducible refine HT.out.mono ?_); rintro e w1 ⟨v1, rfl, A1⟩; have B1 := Lib.hid A1.bel; have HP := Lib.hid (HO.out w1 v1 A1.bits); clear A1)
              | ((with_reducible refine HP.out.mono ?_); rintro e w2 ⟨v2, rfl, A2⟩; obtain ⟨a2, c2, ev, hc2⟩ := A2.byt.1.shape; (rw [pl] at ev hc2); subst ev; have HA := Lib.hid (A2.base B1.out); have HQ := Lib.hid (HR.out w2 _ A2.byt); clear A2)
              | ((with_reducible refine HQ.out.mono ?_); rintro e w3 ⟨rfl, b3⟩; have A3 := Lib.hid (HA.out.below b3); clear b3))
            go_ret2
            have h9 := A3.out.take (N - 2) (by omega)
            exact ⟨_, rfl, h9⟩
          · rw [if_neg hc]
            rw [decide_eq_false (fun h => hc h.2)] at HR
            go_enter Tryz.func145, Tryz.ntmps145
            go_wp2_with (first
              | ((with_reducible refine HT.out.mono ?_); rintro e w1 ⟨v1, rfl, A1⟩; have B1 := Lib.hid A1.bel; have HP := Lib.hid (HO.out w1 v1 A1.bits); clear A1)
              | ((with_reducible refine HP.out.mono ?_); rintro e w2 ⟨v2, rfl, A2⟩; obtain ⟨a2, c2, ev, hc2⟩ := A2.byt.1.shape; (rw [pl] at ev hc2); subst ev; have HA := Lib.hid (A2.base B1.out); have HQ := Lib.hid (HR.out w2 _ A2.byt); clear A2)
              | ((with_reducible refine HQ.out.mono ?_); rintro e w3 ⟨rfl, b3⟩; have A3 := Lib.hid (HA.out.below b3); clear b3))
            go_ret2
            exact ⟨_, rfl, A3.out.none⟩
end
end Go.Proofs.YtcllbmjmefeknaaGreatK
