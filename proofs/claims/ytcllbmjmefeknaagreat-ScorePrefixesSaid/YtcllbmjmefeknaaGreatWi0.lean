/- A wire: as plain data, and in memory. Two terminals and two wires, a pair: as plain data. The walks of package wire. -/
import Derived.Test.YtcllbmjmefeknaaGreatTe7
namespace Go.Proofs.YtcllbmjmefeknaaGreatK
/-! ### A wire: as plain data, and in memory. Two terminals and two wires, a pair: as plain data. -/
section
open Go Go.RowKit
set_option linter.unusedVariables false
set_option maxHeartbeats 4000000
set_option maxRecDepth 100000
/-! ### A wire as plain data -/
structure Wi where
  l : List Bool
  pos : Nat
  mask : List Bool
  ones : Int
  bent : Int
def Wi.new (d : Nat) : Wi := ⟨List.replicate d false, 0, [], 0, 0⟩
def Wi.turn (x : Wi) (on : Bool) : Wi × Bool :=
  match x.mask with
  | [] => (x, on)
  | m :: r => if m then ({ x with mask := r, bent := x.bent + 1 }, !on) else ({ x with mask := r }, on)
def Wi.burn (x : Wi) (on : Bool) : Wi × Bool := if 0 < x.ones then (if on then ({ x with ones := x.ones - 1 }, true) else ({ x with ones := x.ones - 1, bent := x.bent + 1 }, true)) else (x, on)
def Wi.move (x : Wi) (on : Bool) : Wi × Bool := if x.l = [] then (x, on) else ({ x with l := x.l.set x.pos on, pos := (x.pos + 1) % x.l.length }, x.l.getD x.pos false)
def Wi.pass (x : Wi) (on : Bool) : Wi × Bool := ((x.turn on).1.burn (x.turn on).2).1.move ((x.turn on).1.burn (x.turn on).2).2
def Wi.passes : Wi → List Bool → Wi × List Bool
  | x, [] => (x, [])
  | x, b :: l => (((x.pass b).1.passes l).1, (x.pass b).2 :: ((x.pass b).1.passes l).2)
structure Wi.ok (x : Wi) (n : Nat) : Prop where
  pos : x.l = [] ∨ x.pos < x.l.length
  len : x.l.length ≤ 65536
  mask : x.mask.length ≤ 65536
  ones : 0 ≤ x.ones ∧ x.ones ≤ 65536
  bent : 0 ≤ x.bent ∧ x.bent ≤ n
theorem Wi.ok.le {x : Wi} {n m : Nat} (h : x.ok n) (hm : n ≤ m) : x.ok m := ⟨h.pos, h.len, h.mask, h.ones, by have := h.bent; omega⟩
theorem Wi.ok_new {d : Nat} (hd : d ≤ 65536) : (Wi.new d).ok 0 := ⟨by cases d with
  | zero => exact .inl rfl
  | succ d => exact .inr (by simp [Wi.new]), by simpa [Wi.new] using hd, by simp [Wi.new], by simp [Wi.new], by simp [Wi.new]⟩
theorem Wi.ok_turn {x : Wi} {n : Nat} (h : x.ok n) (on : Bool) : (x.turn on).1.ok (n + 1) := by
  obtain ⟨l, p, m, o, b⟩ := x
  have h1 := h.mask
  have h2 := h.bent
  cases m with
  | nil => exact h.le (by omega)
  | cons y r =>
    have h3 : r.length ≤ 65536 := by simp at h1; omega
    unfold Wi.turn
    dsimp only at h2 ⊢
    split
    · exact ⟨h.pos, h.len, h3, h.ones, by dsimp only; omega⟩
    · exact ⟨h.pos, h.len, h3, h.ones, by dsimp only; omega⟩
theorem Wi.ok_burn {x : Wi} {n : Nat} (h : x.ok n) (on : Bool) : (x.burn on).1.ok (n + 1) := by
  have h1 := h.ones
  have h2 := h.bent
  unfold Wi.burn
  repeat' split
  · exact ⟨h.pos, h.len, h.mask, by dsimp only; omega, by dsimp only; omega⟩
  · exact ⟨h.pos, h.len, h.mask, by dsimp only; omega, by dsimp only; omega⟩
  · exact h.le (by omega)
theorem Wi.ok_move {x : Wi} {n : Nat} (h : x.ok n) (on : Bool) : (x.move on).1.ok n := by
  have h1 := h.pos
  unfold Wi.move
  split
  · exact h
  · rename_i h0
    have h3 : 0 < x.l.length := List.length_pos_iff.2 h0
    exact ⟨.inr (by simpa using Nat.mod_lt _ h3), by simpa using h.len, h.mask, h.ones, h.bent⟩
theorem Wi.ok_pass {x : Wi} {n : Nat} (h : x.ok n) (on : Bool) : (x.pass on).1.ok (n + 2) := Wi.ok_move (Wi.ok_burn (Wi.ok_turn h on) _) _
theorem Wi.ok_passes : ∀ (l : List Bool) {x : Wi} {n : Nat}, x.ok n → (x.passes l).1.ok (n + 2 * l.length)
  | [], _, _, h => h
  | b :: l, x, n, h => (Wi.ok_passes l (Wi.ok_pass h b)).le (by simp; omega)
theorem Wi.passes_len : ∀ (l : List Bool) (x : Wi), (x.passes l).2.length = l.length
  | [], _ => rfl
  | b :: l, x => by simp [Wi.passes, Wi.passes_len l]
theorem Wi.passes_append : ∀ (l m : List Bool) (x : Wi), x.passes (l ++ m) = (((x.passes l).1.passes m).1, (x.passes l).2 ++ ((x.passes l).1.passes m).2)
  | [], _, _ => rfl
  | b :: l, m, x => by simp [Wi.passes, Wi.passes_append l m]
/-! ### A wire in memory -/
theorem BitV.put {w : World} {bl off n cap : Nat} {xs : List Bool} (h : BitV w (.slice (some ⟨bl, off, none⟩) n cap) xs) (k : Nat) (y : Bool) (hk : k < xs.length) : BitV (w.setCell ⟨bl, off + k, none⟩ (.bool y)) (.slice (some ⟨bl, off, none⟩) n cap) (xs.set k y) := by
  have R : Row w 4 1 (.slice (some ⟨bl, off, none⟩) n cap) xs.length (xs.map Value.bool) := h
  refine ⟨by simp, ?_⟩
  rcases R.2 with ⟨e, _⟩ | ⟨b, o, c, cs, e, h1, h2, h3, h4, h5⟩
  · cases e
  · simp only [Value.slice.injEq, Option.some.injEq, Addr.mk.injEq, and_true] at e
    obtain ⟨⟨rfl, rfl⟩, rfl, rfl⟩ := e
    refine .inr ⟨bl, off, cap, _, by simp, by simpa using h1, h2, h3.set (off + k) (.bool y), by simpa using h4, fun j u hu => ?_⟩
    rw [List.getElem?_map, List.getElem?_set] at hu
    rw [Array.getElem?_setIfInBounds]
    by_cases hj : k = j
    · subst hj
      rw [if_pos rfl, if_pos hk] at hu
      rw [if_pos rfl, if_pos (by omega)]
      simpa using hu
    · rw [if_neg hj] at hu
      rw [if_neg (by omega)]
      exact h5 j u (by rw [List.getElem?_map]; exact hu)
structure WiAt (w : World) (b : Nat) (x : Wi) (vl vm : Value) : Prop where
  blk : Blk w b #[vl, .int .i64 (x.pos : Int), vm, .int .i64 x.ones, .int .i64 x.bent] 137
  l : BitV w vl x.l
  m : BitV w vm x.mask
  lm : ∀ k ∈ own vl, k ∉ own vm
abbrev wiF (b : Nat) (vl vm : Value) : List Nat := [b] ++ (own vl ++ own vm)
abbrev wireT : List TypeId := [137] ++ ([4] ++ [4])
theorem mem3 {k b : Nat} {A B : List Nat} : k ∈ [b] ++ (A ++ B) ↔ k = b ∨ k ∈ A ∨ k ∈ B := by simp
theorem WiAt.typed {w : World} {b : Nat} {x : Wi} {vl vm : Value} (h : WiAt w b x vl vm) : Typed w (wiF b vl vm) wireT := (Typed.one h.blk).app ((Typed.row h.l).app (Typed.row h.m))
theorem WiAt.lt {w : World} {b : Nat} {x : Wi} {vl vm : Value} (h : WiAt w b x vl vm) : ∀ k ∈ wiF b vl vm, k < w.heap.size := fun k hk => by
  obtain ⟨cs, t, h1, _⟩ := h.typed k hk
  exact h1.lt
theorem WiAt.far {w w1 : World} {b : Nat} {x : Wi} {vl vm : Value} {F : List Nat} (h : WiAt w b x vl vm) (hn : ∀ k ∈ wiF b vl vm, k ∉ F) (hc : Chg F w w1) : WiAt w1 b x vl vm :=
  ⟨h.blk.chg hc (hn _ (mem3.2 (.inl rfl))), Row.chg h.l hc (fun k hk => hn k (mem3.2 (.inr (.inl hk)))), Row.chg h.m hc (fun k hk => hn k (mem3.2 (.inr (.inr hk)))), h.lm⟩
theorem WiAt.below {w w1 : World} {b : Nat} {x : Wi} {vl vm : Value} (h : WiAt w b x vl vm) (hb : Below w.heap.size w w1) : WiAt w1 b x vl vm := h.far (F := []) (by simp) (.of_below hb [])
/-- What an operation on a wire leaves: its bits lie where they lay. -/
def WiTo (w w' : World) (b : Nat) (x : Wi) (vl vm : Value) : Prop := ∃ vm', WiAt w' b x vl vm' ∧ Chg (wiF b vl vm) w w' ∧ ∀ k ∈ own vm', k ∈ own vm ∨ w.heap.size ≤ k
theorem WiTo.same {w : World} {b : Nat} {x : Wi} {vl vm : Value} (h : WiAt w b x vl vm) : WiTo w w b x vl vm := ⟨vm, h, Chg.refl _ _, fun _ hk => .inl hk⟩
theorem WiTo.below {w w' : World} {b : Nat} {x : Wi} {vl vm : Value} (h : WiAt w b x vl vm) (hb : Below w.heap.size w w') : WiTo w w' b x vl vm := ⟨vm, h.below hb, Chg.of_below hb _, fun _ hk => .inl hk⟩
theorem WiTo.then {w w1 w2 : World} {b : Nat} {x y : Wi} {vl vm : Value} (h : WiTo w w1 b x vl vm) (k : ∀ vm1, WiAt w1 b x vl vm1 → WiTo w1 w2 b y vl vm1) : WiTo w w2 b y vl vm := by
  obtain ⟨m1, h1, G1, O1⟩ := h
  obtain ⟨m2, h2, G2, O2⟩ := k m1 h1
  refine ⟨m2, h2, G1.trans G2 (fun k hk => ?_), fun k hk => ?_⟩
  · rw [mem3] at hk ⊢
    rcases hk with hk | hk | hk
    · exact .inl (.inl hk)
    · exact .inl (.inr (.inl hk))
    · exact (O1 k hk).elim (fun h => .inl (.inr (.inr h))) .inr
  · rcases O2 k hk with h | h
    · exact O1 k h
    · exact .inr (Nat.le_trans G1.size h)
end
/-! ### The walks of package wire. -/
section
open Go Go.RowKit
set_option linter.unusedVariables false
set_option maxHeartbeats 20000000
set_option maxRecDepth 100000
theorem WiAt.nb {w : World} {b : Nat} {x : Wi} {vl vm : Value} (h : WiAt w b x vl vm) : b ∉ own vl ∧ b ∉ own vm := by
  refine ⟨fun hb => ?_, fun hb => ?_⟩
  · obtain ⟨cs, h1⟩ := Row.blk h.l b hb
    exact h.blk.ne h1 (by decide) rfl
  · obtain ⟨cs, h1⟩ := Row.blk h.m b hb
    exact h.blk.ne h1 (by decide) rfl
theorem WiTo.own {w w' : World} {b : Nat} {x y : Wi} {vl vm vm' : Value} (h : WiAt w b x vl vm) (B : Blk w' b #[vl, .int .i64 (y.pos : Int), vm', .int .i64 y.ones, .int .i64 y.bent] 137) (G : Chg [b] w w') (hl : y.l = x.l) (M : BitV w' vm' y.mask) (io : ∀ k ∈ Go.Proofs.YtcllbmjmefeknaaGreatK.own vm', k ∈ Go.Proofs.YtcllbmjmefeknaaGreatK.own vm) : WiTo w w' b y vl vm := by
  refine ⟨vm', ⟨B, ?_, M, fun k hk hk2 => h.lm k hk (io k hk2)⟩, G.more (fun k hk => mem3.2 (.inl (by simpa using hk))), fun k hk => .inl (io k hk)⟩
  rw [hl]
  exact Row.chg h.l G (fun k hk hb => h.nb.1 ((by simpa using hb : k = b) ▸ hk))
theorem WiTo.after {w w1 w2 : World} {b : Nat} {z : Wi} {vl vm vm1 : Value} (G1 : Chg (wiF b vl vm) w w1) (O1 : ∀ k ∈ Go.Proofs.YtcllbmjmefeknaaGreatK.own vm1, k ∈ Go.Proofs.YtcllbmjmefeknaaGreatK.own vm ∨ w.heap.size ≤ k) (h : WiTo w1 w2 b z vl vm1) : WiTo w w2 b z vl vm := by
  obtain ⟨m2, h2, G2, O2⟩ := h
  refine ⟨m2, h2, G1.trans G2 (fun k hk => ?_), fun k hk => ?_⟩
  · rw [mem3] at hk ⊢
    rcases hk with hk | hk | hk
    · exact .inl (.inl hk)
    · exact .inl (.inr (.inl hk))
    · exact (O1 k hk).elim (fun h => .inl (.inr (.inr h))) .inr
  · rcases O2 k hk with h | h
    · exact O1 k h
    · exact .inr (Nat.le_trans G1.size h)
theorem BitV.frozen {w : World} {bl off n cap : Nat} {xs : List Bool} (h : BitV w (.slice (some ⟨bl, off, none⟩) n cap) xs) : ∀ i, w.frozen? ⟨bl, i, none⟩ = false := by
  have R : Row w 4 1 (.slice (some ⟨bl, off, none⟩) n cap) xs.length (xs.map Value.bool) := h
  rcases R.2 with ⟨e, _⟩ | ⟨b, o, c, cs, e, _, _, h3, _⟩
  · cases e
  · simp only [Value.slice.injEq, Option.some.injEq, Addr.mk.injEq, and_true] at e
    obtain ⟨⟨rfl, rfl⟩, _⟩ := e
    exact h3.f
theorem BitV.tail1 {w : World} {bl off n cap : Nat} {m : Bool} {r : List Bool} (h : BitV w (.slice (some ⟨bl, off, none⟩) (n + 1) cap) (m :: r)) (hn : r.length = n) : BitV w (.slice (some ⟨bl, off + 1, none⟩) n (cap - 1)) r := by
  have hs := BitV.sub (i := 1) (m := n) h (by omega)
  have e : ((m :: r).drop 1).take n = r := by rw [List.drop_one, List.tail_cons, List.take_of_length_le (by omega)]
  rw [e] at hs
  exact hs
theorem BitV.blkAt {w : World} {bl off n cap : Nat} {xs : List Bool} (h : BitV w (.slice (some ⟨bl, off, none⟩) n cap) xs) (k : Nat) (v : Bool) (hv : xs[k]? = some v) : ∃ cs, Blk w bl cs 4 ∧ cs[off + k]? = some (.bool v) := by
  have R : Row w 4 1 (.slice (some ⟨bl, off, none⟩) n cap) xs.length (xs.map Value.bool) := h
  rcases R.2 with ⟨e, _⟩ | ⟨b, o, c, cs, e, _, _, h3, _, h5⟩
  · cases e
  · simp only [Value.slice.injEq, Option.some.injEq, Addr.mk.injEq, and_true] at e
    obtain ⟨⟨rfl, rfl⟩, _⟩ := e
    exact ⟨cs, h3, h5 k _ (by rw [List.getElem?_map, hv]; rfl)⟩
theorem WiTo.putL {w : World} {b bl off n cap : Nat} {x : Wi} {vm : Value} (h : WiAt w b x (.slice (some ⟨bl, off, none⟩) n cap) vm) (y : Bool) (hp : x.pos < x.l.length) : WiTo w (w.setCell ⟨bl, off + x.pos, none⟩ (.bool y)) b { x with l := x.l.set x.pos y } (.slice (some ⟨bl, off, none⟩) n cap) vm := by
  have hbne : bl ≠ b := fun e => h.nb.1 (by simp [Go.Proofs.YtcllbmjmefeknaaGreatK.own, Value.ownBlock, e])
  have G := (Chg.refl [bl] w).set (b := bl) (i := off + x.pos) (.inl (by simp)) (.bool y)
  refine ⟨vm, ⟨h.blk.far hbne _ _, BitV.put h.l x.pos y hp, Row.chg h.m G (fun k hk hb => ?_), h.lm⟩, G.more (fun k hk => mem3.2 (.inr (.inl ?_))), fun k hk => .inl hk⟩
  · obtain rfl : k = bl := by simpa using hb
    exact h.lm k (by simp [Go.Proofs.YtcllbmjmefeknaaGreatK.own, Value.ownBlock]) hk
  · obtain rfl : k = bl := by simpa using hk
    simp [Go.Proofs.YtcllbmjmefeknaaGreatK.own, Value.ownBlock]
theorem WPass_c {w : World} {b : Nat} {x : Wi} {vl vm : Value} {n0 : Nat} (h : WiAt w b x vl vm) (hk : x.ok n0) (hn0 : n0 ≤ 4000000) (on : Bool) :
    Calls Tryz.prog 73 #[.pointer (some ⟨b, 0, none⟩), .bool on] w fun e w' => e = .returned (.bool (x.pass on).2) ∧ WiTo w w' b (x.pass on).1 vl vm := by
  obtain ⟨y, on1, hy⟩ : ∃ y on1, x.turn on = (y, on1) := ⟨_, _, rfl⟩
  obtain ⟨z, on2, hz⟩ : ∃ z on2, y.burn on1 = (z, on2) := ⟨_, _, rfl⟩
  have hp9 : x.pass on = z.move on2 := by unfold Wi.pass; rw [hy]; dsimp only; rw [hz]
  rw [hp9]
  have HY := Lib.hid hy
  have HZ := Lib.hid hz
  clear hp9 hy hz
  have H := Lib.hid h
  have HK := Lib.hid hk
  obtain ⟨al, cl, rfl, hcl⟩ := h.l.shape
  obtain ⟨am, cm, rfl, hcm⟩ := h.m.shape
  obtain ⟨nl, hnl⟩ : ∃ nl, x.l.length = nl := ⟨_, rfl⟩
  rw [hnl] at h H hcl ⊢
  have hc := h.blk.c
  have hf := h.blk.f
  go_enter Tryz.func73, Tryz.ntmps73
  go_upto_if 14 with fail
  go_cut [1] (fun u1 wc => u1 = .bool on1 ∧ WiTo w wc b y (.slice al nl cl) (.slice am x.mask.length cm))
  case first =>
    obtain ⟨l, pos, mask, ones, bent⟩ := x
    have hbent := HK.out.bent
    dsimp only at hc hcl hcm hbent ⊢
    cases mask with
    | nil =>
      simp only [List.length_nil] at hc ⊢
      obtain ⟨rfl, rfl⟩ : y = _ ∧ on1 = on := by
        have h9 := HY.out
        simp only [Wi.turn, Prod.mk.injEq] at h9
        exact ⟨h9.1.symm, h9.2.symm⟩
      go_wp2
      go_meet
      case rel => exact ⟨rfl, WiTo.same H.out⟩
    | cons m r =>
      obtain ⟨bl, off, cm', ea⟩ := BitV.someA H.out.m (by simp)
      simp only [Value.slice.injEq] at ea
      obtain ⟨rfl, -, rfl⟩ := ea
      obtain ⟨n, hn⟩ : ∃ n, r.length = n := ⟨_, rfl⟩
      have HM := Lib.hid H.out.m
      have HN := Lib.hid hn
      have HH := Lib.hid H.out
      obtain ⟨bl2, off2, e2, hcell⟩ := BitV.at HM.out 0 m rfl
      simp only [Option.some.injEq, Addr.mk.injEq, and_true] at e2
      obtain ⟨rfl, rfl⟩ := e2
      simp only [List.length_cons, hn] at hc hcm HM HH ⊢
      simp only [Nat.add_zero] at hcell
      have h1n : (1 : Int) ≤ (n : Int) + 1 := by omega
      have h0n : (0 : Int) < (n : Int) + 1 := by omega
      have hbne : bl ≠ b := fun e => H.out.nb.2 (by simp [own, Value.ownBlock, e])
      clear hn H
      have IO := Lib.hid (fun (o k c : Nat) g (hg : g ∈ own (.slice (some ⟨bl, o, none⟩) k c)) => show g ∈ own (.slice (some ⟨bl, off, none⟩) (n + 1) cm) from by simpa [own, Value.ownBlock] using hg)
      have TL := Lib.hid (fun (w' : World) (G : Chg [b] w w') => BitV.tail1 (Row.chg HM.out G (fun k hk hb => by
        obtain rfl : k = b := by simpa using hb
        simp [own, Value.ownBlock] at hk
        exact hbne hk.symm)) HN.out)
      cases m with
      | false =>
        obtain ⟨rfl, rfl⟩ : y = _ ∧ on1 = on := by
          have h9 := HY.out
          simp only [Wi.turn, Bool.false_eq_true, if_false, Prod.mk.injEq] at h9
          exact ⟨h9.1.symm, h9.2.symm⟩
        by_cases hc1 : cm = 1
        · subst hc1
          have n0 : n = 0 := by omega
          subst n0
          have hr : r = [] := List.length_eq_zero_iff.1 HN.out
          subst hr
          have G8 := Lib.hid ((Chg.refl [b] w).set (b := b) (i := 2) (.inl (by simp)) (.slice (some ⟨bl, off, none⟩) 0 0))
          have K8 := Lib.hid (HH.out.blk.set 2 (.slice (some ⟨bl, off, none⟩) 0 0))
          have M8 := Lib.hid (BitV.shut (Row.chg HM.out G8.out (fun k hk hb => by
            obtain rfl : k = b := by simpa using hb
            simp [own, Value.ownBlock] at hk
            exact hbne hk.symm)))
          go_wp2
          go_meet
          case rel => exact ⟨rfl, WiTo.own HH.out (K8.out.as rfl) G8.out rfl M8.out (IO.out _ _ _)⟩
        · have G8 := Lib.hid ((Chg.refl [b] w).set (b := b) (i := 2) (.inl (by simp)) (.slice (some ⟨bl, off + 1, none⟩) n (cm - 1)))
          have K8 := Lib.hid (HH.out.blk.set 2 (.slice (some ⟨bl, off + 1, none⟩) n (cm - 1)))
          go_wp2
          go_meet
          case rel => exact ⟨rfl, by rw [List.length_cons, HN.out]; exact WiTo.own HH.out (K8.out.as rfl) G8.out rfl (TL.out _ G8.out) (IO.out _ _ _)⟩
      | true =>
        obtain ⟨rfl, rfl⟩ : y = _ ∧ on1 = !on := by
          have h9 := HY.out
          simp only [Wi.turn, if_true, Prod.mk.injEq] at h9
          exact ⟨h9.1.symm, h9.2.symm⟩
        by_cases hc1 : cm = 1
        · subst hc1
          have n0 : n = 0 := by omega
          subst n0
          have hr : r = [] := List.length_eq_zero_iff.1 HN.out
          subst hr
          have G8 := Lib.hid (((Chg.refl [b] w).set (b := b) (i := 4) (.inl (by simp)) (.int .i64 (bent + 1))).set (b := b) (i := 2) (.inl (by simp)) (.slice (some ⟨bl, off, none⟩) 0 0))
          have K8 := Lib.hid ((HH.out.blk.set 4 (.int .i64 (bent + 1))).set 2 (.slice (some ⟨bl, off, none⟩) 0 0))
          have M8 := Lib.hid (BitV.shut (Row.chg HM.out G8.out (fun k hk hb => by
            obtain rfl : k = b := by simpa using hb
            simp [own, Value.ownBlock] at hk
            exact hbne hk.symm)))
          go_wp2
          go_meet
          case rel => exact ⟨rfl, WiTo.own HH.out (K8.out.as rfl) G8.out rfl M8.out (IO.out _ _ _)⟩
        · have G8 := Lib.hid (((Chg.refl [b] w).set (b := b) (i := 4) (.inl (by simp)) (.int .i64 (bent + 1))).set (b := b) (i := 2) (.inl (by simp)) (.slice (some ⟨bl, off + 1, none⟩) n (cm - 1)))
          have K8 := Lib.hid ((HH.out.blk.set 4 (.int .i64 (bent + 1))).set 2 (.slice (some ⟨bl, off + 1, none⟩) n (cm - 1)))
          go_wp2
          go_meet
          case rel => exact ⟨rfl, by rw [List.length_cons, HN.out]; exact WiTo.own HH.out (K8.out.as rfl) G8.out rfl (TL.out _ G8.out) (IO.out _ _ _)⟩
  case rest =>
    obtain ⟨rfl, T⟩ := hcut
    have hk1 := Wi.ok_turn HK.out on
    have ey : x.l = (x.turn on).1.l := by
      obtain ⟨l, pos, mask, ones, bent⟩ := x
      unfold Wi.turn
      dsimp only
      split
      · rfl
      · split <;> rfl
    rw [HY.out] at hk1 ey
    dsimp only at hk1 ey
    rw [ey] at hnl
    clear HY ey
    obtain ⟨vm1, A, G1, O1⟩ := T
    have AF := Lib.hid (fun (w9 : World) (z : Wi) (k : WiTo wc w9 b z (.slice al nl cl) vm1) => WiTo.after G1 O1 k)
    obtain ⟨am1, cm1, rfl, hcm1⟩ := A.m.shape
    have HA := Lib.hid A
    have HK1 := Lib.hid hk1
    have hcA := A.blk.c
    have hfA := A.blk.f
    clear A G1 O1 hk1 H HK hc hf h hk
    go_upto_if 42 with fail
    go_cut [1] (fun u1 wd => u1 = .bool on2 ∧ WiTo w wd b z (.slice al nl cl) (.slice am x.mask.length cm))
    case first =>
      obtain ⟨l, pos, mask, ones, bent⟩ := y
      have hbent := HK1.out.bent
      have hones := HK1.out.ones
      dsimp only at hcA hcl hcm1 hbent hones HA AF ⊢
      by_cases ho : 0 < ones
      · cases on1 with
        | true =>
          have G8 := Lib.hid ((Chg.refl [b] wc).set (b := b) (i := 3) (.inl (by simp)) (.int .i64 (ones - 1)))
          have K8 := Lib.hid (HA.out.blk.set 3 (.int .i64 (ones - 1)))
          obtain ⟨rfl, rfl⟩ : z = ⟨l, pos, mask, ones - 1, bent⟩ ∧ on2 = true := by
            have h9 := HZ.out
            simp only [Wi.burn, ho, if_true, Prod.mk.injEq] at h9
            exact ⟨h9.1.symm, h9.2.symm⟩
          go_wp2
          go_meet
          case rel => exact ⟨rfl, AF.out _ _ (WiTo.own HA.out (K8.out.as rfl) G8.out rfl (Row.chg HA.out.m G8.out (fun k hk hb => HA.out.nb.2 ((by simpa using hb : k = b) ▸ hk))) (fun k hk => hk))⟩
        | false =>
          have G8 := Lib.hid (((Chg.refl [b] wc).set (b := b) (i := 3) (.inl (by simp)) (.int .i64 (ones - 1))).set (b := b) (i := 4) (.inl (by simp)) (.int .i64 (bent + 1)))
          have K8 := Lib.hid ((HA.out.blk.set 3 (.int .i64 (ones - 1))).set 4 (.int .i64 (bent + 1)))
          obtain ⟨rfl, rfl⟩ : z = ⟨l, pos, mask, ones - 1, bent + 1⟩ ∧ on2 = true := by
            have h9 := HZ.out
            simp only [Wi.burn, ho, if_true, Bool.false_eq_true, if_false, Prod.mk.injEq] at h9
            exact ⟨h9.1.symm, h9.2.symm⟩
          go_wp2
          go_meet
          case rel => exact ⟨rfl, AF.out _ _ (WiTo.own HA.out (K8.out.as rfl) G8.out rfl (Row.chg HA.out.m G8.out (fun k hk hb => HA.out.nb.2 ((by simpa using hb : k = b) ▸ hk))) (fun k hk => hk))⟩
      · obtain ⟨rfl, rfl⟩ : z = ⟨l, pos, mask, ones, bent⟩ ∧ on2 = on1 := by
          have h9 := HZ.out
          simp only [Wi.burn, ho, if_false, Prod.mk.injEq] at h9
          exact ⟨h9.1.symm, h9.2.symm⟩
        go_wp2
        go_meet
        case rel => exact ⟨rfl, AF.out _ _ (WiTo.same HA.out)⟩
    case rest =>
      obtain ⟨rfl, T⟩ := hcut
      have hk2 := Wi.ok_burn HK1.out on1
      have ez : y.l = (y.burn on1).1.l := by
        unfold Wi.burn
        split
        · split <;> rfl
        · rfl
      rw [HZ.out] at hk2 ez
      dsimp only at hk2 ez
      rw [ez] at hnl
      clear AF HA HK1 hcA hfA HZ
      obtain ⟨vm2, A, G1, O1⟩ := T
      have AF := Lib.hid (fun (w9 : World) (z' : Wi) (k : WiTo wc w9 b z' (.slice al nl cl) vm2) => WiTo.after G1 O1 k)
      obtain ⟨am2, cm2, rfl, hcm2⟩ := A.m.shape
      have HA := Lib.hid A
      have hcA := A.blk.c
      have hfA := A.blk.f
      have HK2 := Lib.hid hk2
      obtain ⟨l, pos, mask, ones, bent⟩ := z
      have hlen := hk2.len
      have hpos := hk2.pos
      dsimp only at hcA hcl hcm2 HA AF hlen hpos ⊢
      clear A G1 O1 hk2 ez
      cases l with
      | nil =>
        obtain rfl : 0 = nl := hnl
        go_wp2
        go_ret
        exact ⟨rfl, AF.out _ _ (WiTo.same HA.out)⟩
      | cons o r =>
        obtain ⟨bl, off, cl', ea⟩ := BitV.someA HA.out.l (by simp)
        simp only [Value.slice.injEq] at ea
        obtain ⟨rfl, -, rfl⟩ := ea
        have HNL := Lib.hid hnl
        have hp : pos < (o :: r).length := hpos.resolve_left (by simp)
        obtain ⟨v, hv⟩ : ∃ v, (o :: r)[pos]? = some v := ⟨_, List.getElem?_eq_getElem hp⟩
        obtain ⟨cs, hcs, hcv⟩ := BitV.blkAt HA.out.l pos v hv
        have hbne : bl ≠ b := fun e => HA.out.nb.1 (by simp [own, Value.ownBlock, e])
        have hbne' : b ≠ bl := fun e => hbne e.symm
        have em : (⟨o :: r, pos, mask, ones, bent⟩ : Wi).move on2 = (⟨(o :: r).set pos on2, (pos + 1) % nl, mask, ones, bent⟩, v) := by
          simp only [Wi.move, reduceCtorEq, if_false, List.getD_eq_getElem?_getD, hv, Option.getD_some, hnl]
        have HE := Lib.hid em
        have HP := Lib.hid hp
        rw [hnl] at hlen hp
        have K1 := HA.out.blk
        clear hv em hnl hpos HK2
        have hp' : (pos : Int) < nl := by omega
        have hn0 : ¬ ((nl : Int) = 0) := by omega
        have hn0' : ((nl : Int) == 0) = false := beq_eq_false_iff_ne.2 hn0
        have hmod : ((pos : Int) + 1).tmod nl = (((pos + 1) % nl : Nat) : Int) := by
          rw [Int.tmod_eq_emod_of_nonneg (by omega)]; push_cast; rfl
        go_upto_region 15 with fail
        clear hcA hfA
        refine wp_region_up (by kernel_rfl) (by kernel_rfl) ?_
        have up_K1 := fun (g : Up _) => (Blk.below K1 g.ok).c
        have up_hcs := fun (g : Up _) => (Blk.below hcs g.ok).c
        repeat (go_big_quiet_step (fail))
        refine wpQuiet_nil ?_
        clear up_K1 up_hcs
        refine up_elim (fun w5 hb_w5 => ?_)
        have K5 := K1.below hb_w5
        have hcs5 := Blk.below hcs hb_w5
        have HA5 := Lib.hid (HA.out.below hb_w5)
        have HB5 := Lib.hid hb_w5
        clear K1 hcs
        go_upto_region 16 with fail
        refine wp_region_up_tail 9 (by kernel_rfl) (by kernel_rfl) ?_
        simp only [List.take_succ_cons, List.take_zero, List.drop_succ_cons, List.drop_zero]
        have up_K5 := fun (g : Up _) => (Blk.below K5 g.ok).c
        have up_hcs5 := fun (g : Up _) => (Blk.below hcs5 g.ok).c
        repeat (go_big_quiet_step (fail))
        refine wpQuiet_nil ?_
        clear up_K5 up_hcs5
        refine up_elim (fun w6 hb_w6 => ?_)
        have K6 := K5.below hb_w6
        have hcs6 := Blk.below hcs5 hb_w6
        have k6c := K6.c
        have l6c := Blk.c hcs6
        have l6f := Blk.f hcs6
        have HA6 := Lib.hid (HA5.out.below hb_w6)
        have HB6 := Lib.hid (bl_then HB5.out hb_w6)
        clear K5 hcs5
        go_upto_region 17 with fail
        have T7 := Lib.hid (WiTo.putL HA6.out on2 HP.out)
        have K7 := K6.far hbne (off + pos) (.bool on2)
        clear k6c l6c l6f
        generalize w6.setCell ⟨bl, off + pos, none⟩ (.bool on2) = w7 at T7 K7 ⊢
        refine wp_region_up_tail 12 (by kernel_rfl) (by kernel_rfl) ?_
        simp only [List.take_succ_cons, List.take_zero, List.drop_succ_cons, List.drop_zero]
        have up_K7 := fun (g : Up _) => (Blk.below K7 g.ok).c
        repeat (go_big_quiet_step (fail))
        refine wpQuiet_nil ?_
        clear up_K7
        refine up_elim (fun w8 hb_w8 => ?_)
        have K8 := K7.below hb_w8
        have k8c := K8.c
        have k8f := K8.f
        have T8 := Lib.hid (WiTo.then T7.out (fun vm9 h9 => WiTo.below h9 hb_w8))
        go_wp2
        go_ret
        rw [HE.out]
        have G9 := (Chg.refl [b] w8).set (b := b) (i := 1) (.inl (by simp)) (.int .i64 (((pos + 1) % nl : Nat) : Int))
        exact ⟨rfl, AF.out _ _ (WiTo.after (Chg.of_below HB6.out _) (fun k hk => .inl hk) (WiTo.then T8.out (fun vm9 h9 => WiTo.own h9 ((h9.blk.set 1 _).as rfl) G9 rfl (Row.chg h9.m G9 (fun k hk hb => h9.nb.2 ((by simpa using hb : k = b) ▸ hk))) (fun k hk => hk))))⟩
end
end Go.Proofs.YtcllbmjmefeknaaGreatK
