/- The walks of the reference's Take and Octets. The walks of the reference's Bits and Check. The walk of the reference's Check. The walks of the reference's Right and Judge. The walk of the reference's Hear. The walk of the reference's Hear, continued. -/
import Derived.Test.YtdffinnnjcgfcaaGreatBt1
import Derived.Test.YtdffinnnjcgfcaaGreatPl1
import Derived.Test.YtdffinnnjcgfcaaGreatUni
import Derived.Test.YtdffinnnjcgfcaaGreatTe1
namespace Go.Proofs.YtdffinnnjcgfcaaGreatK
/-! ### The walks of the reference's Take and Octets. -/
section
open Go Go.RowKit
set_option linter.unusedVariables false
set_option maxHeartbeats 4000000
set_option maxRecDepth 100000
/-- The slice v reads as these bits, whatever its block is. -/
def BitI (w : World) (v : Value) (xs : List Bool) : Prop :=
  ∃ a cap, v = .slice a xs.length cap ∧ xs.length ≤ cap ∧ (xs = [] ∨ ∃ bl off, a = some ⟨bl, off, none⟩ ∧ ∀ (k : Nat) (b : Bool), xs[k]? = some b → w.cell? ⟨bl, off + k, none⟩ = some (.bool b))
theorem BitV.i {w : World} {v : Value} {xs : List Bool} (h : BitV w v xs) : BitI w v xs := by
  have R : Row w 4 1 v xs.length (xs.map Value.bool) := h
  rcases R.2 with ⟨e, h0⟩ | ⟨bl, off, cap, cs, e', h1, h2, h3, h4, h5⟩
  · exact ⟨none, 0, by rw [e, h0], by omega, .inl (List.eq_nil_of_length_eq_zero h0)⟩
  · exact ⟨_, cap, e', h1, .inr ⟨bl, off, rfl, fun k b hb => by rw [h3.c]; exact h5 k _ (by rw [List.getElem?_map, hb]; rfl)⟩⟩
theorem BitI.below {w w1 : World} {v : Value} {xs : List Bool} (h : BitI w v xs) (hb : Below w.heap.size w w1) : BitI w1 v xs := by
  obtain ⟨a, cap, e, hc, h0⟩ := h
  refine ⟨a, cap, e, hc, h0.imp id fun ⟨bl, off, ea, hx⟩ => ⟨bl, off, ea, fun k b hk => below_cell hb (hx k b hk)⟩⟩
theorem BitI.shape {w : World} {v : Value} {xs : List Bool} (h : BitI w v xs) : ∃ a cap, v = .slice a xs.length cap ∧ xs.length ≤ cap := by
  obtain ⟨a, cap, e, hc, _⟩ := h
  exact ⟨a, cap, e, hc⟩
theorem BitI.at {w : World} {a : Option Addr} {n c : Nat} {xs : List Bool} (h : BitI w (.slice a n c) xs) (k : Nat) (b : Bool) (hx : xs[k]? = some b) : ∃ bl off, a = some ⟨bl, off, none⟩ ∧ w.cell? ⟨bl, off + k, none⟩ = some (.bool b) := by
  obtain ⟨a', cap, e, hc, h0⟩ := h
  simp only [Value.slice.injEq] at e
  obtain ⟨rfl, _, _⟩ := e
  rcases h0 with rfl | ⟨bl, off, ea, hk⟩
  · simp at hx
  · exact ⟨bl, off, ea, hk k b hx⟩
/-- Cells of bits, in a block of whatever type. -/
theorem BitI.of {w : World} {g : Nat} {t : TypeId} {xs : List Bool} (h : Blk w g (xs.map Value.bool).toArray t) : BitI w (.slice (some ⟨g, 0, none⟩) xs.length xs.length) xs :=
  ⟨_, _, rfl, Nat.le_refl _, .inr ⟨g, 0, rfl, fun k b hk => by rw [h.c, Nat.zero_add, List.getElem?_toArray, List.getElem?_map, hk]; rfl⟩⟩
theorem RTake_c {w : World} {v : Value} {t : List Bool} (h : BitV w v t) (hl : t.length ≤ 100000) :
    Calls Tryz.prog 139 #[v] w fun e w' => ∃ v', e = .returned (.tuple #[v', .int .i64 (takeB t ([], 0)).2]) ∧ Acc w w' v' (takeB t ([], 0)).1 := by
  obtain ⟨a, cap, rfl, hcap⟩ := h.shape
  obtain ⟨n, hn⟩ : ∃ n, t.length = n := ⟨_, rfl⟩
  obtain ⟨R, hR⟩ : ∃ R, takeB t ([], 0) = R := ⟨_, rfl⟩
  obtain ⟨R1, R2⟩ := R
  have H := Lib.hid h
  rw [hn] at hl hcap H
  rw [hR]
  dsimp only
  simp only [hn]
  have HN := Lib.hid hn
  have HR := Lib.hid hR
  clear h hn hR
  go_enter Tryz.func139, Tryz.ntmps139
  go_wp2
  go_loopw [4, 5, 6] (fun o c i wr => ∃ (k : Nat) (xs : List Bool) (m : Nat), k ≤ n ∧ i = .int .i64 k ∧ c = .int .i64 m ∧ m ≤ 5 ∧ xs.length ≤ k ∧ Acc w wr o xs ∧ takeB (t.drop k) (xs, m) = (R1, R2)) (fun _ _ i _ => n - (intOf i).toNat)
  case atStart => exact ⟨0, [], 0, by omega, rfl, rfl, by omega, by simp, Acc.nil w, HR.out⟩
  case round =>
    obtain ⟨k, xs, m, hk, rfl, rfl, hm, hx2, A, P⟩ := hrel
    have HA := Lib.hid A
    have HP := Lib.hid P
    clear A P
    by_cases hlt : k < n
    · have hlt' : (k : Int) < n := by omega
      obtain ⟨b, hx⟩ := bit_at HN.out hlt
      obtain ⟨bl, off, rfl, hcell⟩ := H.out.at k b hx
      have hc := below_cell HA.out.bel hcell
      have HC := Lib.hid hcell
      have HQ := Lib.hid (drop_some hx ▸ HP.out)
      have l1 : xs.length ≤ 1000000 := by omega
      clear hx hcell HP
      by_cases h5 : m = 5
      · subst h5
        cases b with
        | false =>
          go_wp2
          go_roundw
          case rel => exact ⟨k + 1, xs, 0, by omega, by go_num, rfl, by omega, by omega, HA.out, HQ.out⟩
          case measure => simp [intOf]; omega
        | true =>
          go_wp2
          go_ret2
          have h9 : (([], 4) : List Bool × Int) = (R1, R2) := HQ.out
          simp only [Prod.mk.injEq] at h9
          exact ⟨_, by rw [← h9.2]; rfl, h9.1 ▸ HA.out.none⟩
      · have hne : ((m : Int) == 5) = false := beq_eq_false_iff_ne.2 (by omega)
        have hne2 : ¬ (m = 5) := h5
        cases b with
        | false =>
          go_wp2_with (first
            | (at_builtin; refine wpList_bit _ rfl (.tmp 23) (.tmp 28) 67 rfl Tryz.underlying67 _ _ rfl (HA.out.bits.below (bl_alloc (bl_refl wr) _)) wr.heap.size false rfl (Blk.new wr _ _) l1 ?_; intro v6 w6 R6 C6 O6; have A6 := Lib.hid ((HA.out.below (bl_alloc (bl_refl wr) _)).grow R6 C6 O6); have hc6 := below_cell A6.out.bel HC.out; clear R6 C6 O6))
          go_roundw
          case rel => exact ⟨k + 1, xs ++ [false], 0, by omega, by go_num, rfl, by omega, by simp; omega, A6.out, by have h9 := HQ.out; unfold takeB at h9; rw [if_neg hne2] at h9; exact h9⟩
          case measure => simp [intOf]; omega
        | true =>
          go_wp2_with (first
            | (at_builtin; refine wpList_bit _ rfl (.tmp 23) (.tmp 28) 67 rfl Tryz.underlying67 _ _ rfl (HA.out.bits.below (bl_alloc (bl_refl wr) _)) wr.heap.size true rfl (Blk.new wr _ _) l1 ?_; intro v6 w6 R6 C6 O6; have A6 := Lib.hid ((HA.out.below (bl_alloc (bl_refl wr) _)).grow R6 C6 O6); have hc6 := below_cell A6.out.bel HC.out; clear R6 C6 O6))
          go_roundw
          case rel => exact ⟨k + 1, xs ++ [true], m + 1, by omega, by go_num, by go_num, by omega, by simp; omega, A6.out, by have h9 := HQ.out; unfold takeB at h9; rw [if_neg hne2] at h9; exact h9⟩
          case measure => simp [intOf]; omega
    · obtain rfl : k = n := by omega
      have kk : ¬ (k : Int) < k := by omega
      have h9 := HP.out
      rw [List.drop_eq_nil_of_le (by rw [HN.out]; exact Nat.le_refl _)] at h9
      clear HP
      by_cases h5 : m = 5
      · subst h5
        go_wp2
        go_ret2
        have h8 : (([], 5) : List Bool × Int) = (R1, R2) := h9
        simp only [Prod.mk.injEq] at h8
        exact ⟨_, by rw [← h8.2]; rfl, h8.1 ▸ HA.out.none⟩
      · have hne : ((m : Int) == 5) = false := beq_eq_false_iff_ne.2 (by omega)
        have h8 : (xs, (0 : Int)) = (R1, R2) := by
          have h7 := h9
          unfold takeB at h7
          rw [if_neg h5] at h7
          exact h7
        simp only [Prod.mk.injEq] at h8
        clear h9
        go_wp2
        go_ret2
        exact ⟨_, by rw [← h8.2]; rfl, h8.1 ▸ HA.out⟩
theorem low_shift : ∀ (l : List Bool) (i : Nat), lowFrom (i + 1) l = 2 * lowFrom i l
  | [], _ => rfl
  | b :: l, i => by
    unfold lowFrom
    rw [low_shift l (i + 1)]
    cases b
    · simp
    · simp only [if_true, Nat.pow_succ]; omega
theorem octN_take (k : Nat) (n : Nat) (t : List Bool) (h : k ≤ n) : (octN n t).take k = octN k t := by
  unfold octN
  rw [← List.map_take, List.take_range, Nat.min_eq_left h]
theorem octN_succ (k : Nat) (t : List Bool) : octN (k + 1) t = octN k t ++ [((lowFrom 0 ((t.drop (8 * k)).take 8) : Nat) : Int)] := by
  unfold octN
  rw [List.range_succ, List.map_append]
  rfl
theorem ROctets_c {w : World} {v : Value} {t : List Bool} (h : BitI w v t) (hl : t.length ≤ 100000) :
    Calls Tryz.prog 140 #[v] w fun e w' => ∃ v', e = .returned v' ∧ AccO w w' v' (octN (t.length / 8) t) := by
  obtain ⟨a, cap, rfl, hcap⟩ := h.shape
  obtain ⟨n, hn⟩ : ∃ n, t.length = n := ⟨_, rfl⟩
  have H := Lib.hid h
  rw [hn] at hl hcap H
  simp only [hn]
  have HN := Lib.hid hn
  clear h hn
  go_enter Tryz.func140, Tryz.ntmps140
  go_wp2
  go_loopw [3, 4] (fun o i wr => ∃ k : Nat, k ≤ n / 8 ∧ i = .int .i64 (8 * k : Nat) ∧ AccO w wr o (octN k t)) (fun _ i _ => n - (intOf i).toNat)
  case atStart => exact ⟨0, by omega, rfl, AccO.nil w⟩
  case round =>
    obtain ⟨k, hk, rfl, A⟩ := hrel
    have HA := Lib.hid A
    clear A
    obtain ⟨i, hi⟩ : ∃ i, 8 * k = i := ⟨_, rfl⟩
    rw [hi]
    by_cases hlt : k < n / 8
    · have hlt' : (i : Int) + 8 ≤ n := by omega
      obtain ⟨x, hx⟩ : ∃ x, (t.drop i).take 8 = x := ⟨_, rfl⟩
      have xl : x.length = 8 := by rw [← hx, List.length_take, List.length_drop, HN.out]; omega
      have HX := Lib.hid hx
      have HI := Lib.hid hi
      clear hx hi
      go_wp2
      go_loop [5, 6] (fun b c => ∃ (j r : Nat), j ≤ 8 ∧ c = .int .i64 ((j : Int) - 1) ∧ b = .int .u8 r ∧ r < 2 ^ (8 - j) ∧ r = lowFrom 0 (x.drop j)) (fun _ c => (intOf c + 1).toNat)
      case atStart => exact ⟨8, 0, by omega, rfl, rfl, by decide, by rw [List.drop_eq_nil_of_le (by omega)]; rfl⟩
      case round =>
        obtain ⟨j, r, hj, rfl, rfl, hr, hrl⟩ := hrel
        have HRL := Lib.hid hrl
        clear hrl
        by_cases h0 : j = 0
        · subst h0
          have kk : ¬ (0 : Int) ≤ ((0 : Nat) : Int) - 1 := by omega
          have rb : 0 ≤ (r : Int) ∧ (r : Int) ≤ 255 := by have : r < 256 := hr; omega
          have ol : (octN k t).length + 1 ≤ 1000000 := by simp [octN]; omega
          go_wp2_with (first
            | (at_builtin; refine wpList_byt _ rfl (.tmp 28) (.tmp 30) 27 rfl Tryz.underlying27 _ _ _ [(r : Int)] rfl rfl (Byt.below HA.out.byt (bl_alloc (bl_refl wr) _)) (byt_new1 (w := wr) (r : Int) rb).i0 ol ?_; intro v6 w6 R6 C6 O6; have A6 := Lib.hid ((HA.out.below (bl_alloc (bl_refl wr) (.cells #[.int .u8 r] 5))).grow R6 C6 O6); clear R6 C6 O6))
          go_roundw
          case rel => exact ⟨k + 1, by omega, by have := HI.out; go_num, by rw [octN_succ, HI.out, HX.out]; have := HRL.out; rw [List.drop_zero] at this; rw [← this]; exact A6.out⟩
          case measure => have := HI.out; simp [intOf]; omega
        · obtain ⟨q, rfl⟩ : ∃ q, j = q + 1 := ⟨j - 1, by omega⟩
          have cq : (((q + 1 : Nat) : Int) - 1) = q := by omega
          rw [cq]
          have q0 : (0 : Int) ≤ q := by omega
          obtain ⟨b, hb⟩ : ∃ b, x[q]? = some b := ⟨_, List.getElem?_eq_getElem (by omega)⟩
          have hb2 : t[i + q]? = some b := by
            rw [← HX.out, List.getElem?_take, if_pos (by omega), List.getElem?_drop] at hb
            exact hb
          obtain ⟨bl, off, rfl, hcell⟩ := H.out.at (i + q) b hb2
          have hc := below_cell HA.out.bel hcell
          have hd := drop_some hb
          have r2 : r * 2 + 1 < 2 ^ (8 - q) := by
            have e : 8 - q = (8 - (q + 1)) + 1 := by omega
            rw [e, Nat.pow_succ]
            omega
          have r3 : (2 : Nat) ^ (8 - q) ≤ 2 ^ 8 := Nat.pow_le_pow_right (by decide) (by omega)
          have r4 : (r : Int) * 2 + 1 ≤ 255 := by omega
          have iq : (i : Int) + q < n := by omega
          have iq0 : (0 : Int) ≤ (i : Int) + q := by omega
          have hv : lowFrom 0 (x.drop q) = (if b then 1 else 0) + 2 * r := by
            rw [hd]
            unfold lowFrom
            rw [low_shift, ← HRL.out]
          have HV := Lib.hid hv
          clear hb hb2 hd hv hcell HRL
          cases b with
          | false =>
            go_wp2
            go_roundw
            case rel => exact ⟨q, r * 2, by omega, by first | rfl | go_num, by go_num, by omega, by have := HV.out; simp at this; omega⟩
            case measure => simp [intOf]
          | true =>
            go_wp2
            go_roundw
            case rel => exact ⟨q, r * 2 + 1, by omega, by first | rfl | go_num, by go_num, by omega, by have := HV.out; simp at this; omega⟩
            case measure => simp [intOf]
    · obtain rfl : k = n / 8 := by omega
      have kk : ¬ (i : Int) + 8 ≤ n := by omega
      go_wp2
      go_ret
      exact ⟨_, rfl, HA.out⟩
end
/-! ### The walks of the reference's Bits and Check. -/
section
open Go Go.RowKit
set_option linter.unusedVariables false
set_option maxHeartbeats 20000000
set_option maxRecDepth 100000
theorem bits_get : ∀ (p : Oct) (q j : Nat) (b : Int), p[q]? = some b → j < 8 → (bitsOf p)[8 * q + j]? = some (bitAt b j)
  | [], q, j, b, h, _ => by simp at h
  | c :: p, 0, j, b, h, hj => by
    obtain rfl : c = b := by simpa using h
    have e : bitsOf (c :: p) = bits8 c ++ bitsOf p := rfl
    rw [e, List.getElem?_append_left (by rw [bits8_len]; omega)]
    simp [bits8, hj]
  | c :: p, q + 1, j, b, h, hj => by
    have e : bitsOf (c :: p) = bits8 c ++ bitsOf p := rfl
    rw [e, List.getElem?_append_right (by rw [bits8_len]; omega), bits8_len, show 8 * (q + 1) + j - 8 = 8 * q + j by omega]
    exact bits_get p q j b (by simpa using h) hj
theorem bits_take (p : Oct) (k q j : Nat) (b : Int) (hk : k = 8 * q + j) (h : p[q]? = some b) (hj : j < 8) : (bitsOf p).take (k + 1) = (bitsOf p).take k ++ [bitAt b j] := by
  subst hk
  rw [List.take_add_one, bits_get p q j b h hj]
  rfl
theorem RBits_c {w : World} {v : Value} {p : Oct} (h : BytI w [] v p) (hl : p.length ≤ 10000) :
    Calls Tryz.prog 64 #[v] w fun e w' => ∃ v', e = .returned v' ∧ Acc w w' v' (bitsOf p) := by
  obtain ⟨a, cap, rfl, hcap⟩ := h.shape
  obtain ⟨n, hn⟩ : ∃ n, p.length = n := ⟨_, rfl⟩
  have H := Lib.hid h
  rw [hn] at hl hcap H ⊢
  have HN := Lib.hid hn
  clear h hn
  go_enter Tryz.func64, Tryz.ntmps64
  go_wp2
  go_loopw [3, 4] (fun o i wr => ∃ k : Nat, k ≤ 8 * n ∧ i = .int .i64 k ∧ Acc w wr o ((bitsOf p).take k)) (fun _ i _ => 8 * n - (intOf i).toNat)
  case atStart => exact ⟨0, by omega, rfl, Acc.nil w⟩
  case round =>
    obtain ⟨k, hk, rfl, A⟩ := hrel
    have HA := Lib.hid A
    clear A
    by_cases hlt : k < 8 * n
    · have hlt' : (k : Int) < 8 * n := by omega
      obtain ⟨q, j, hkq, hj⟩ : ∃ q j, k = 8 * q + j ∧ j < 8 := ⟨k / 8, k % 8, by omega, by omega⟩
      obtain ⟨b, hx⟩ : ∃ b, p[q]? = some b := ⟨_, List.getElem?_eq_getElem (by rw [HN.out]; omega)⟩
      obtain ⟨⟨bl, off, rfl, hcell⟩, hb⟩ := H.out.at q b hx
      have hc := below_cell HA.out.bel hcell
      have up_c := fun g : Up wr => below_cell g.ok hc
      have hqn : (q : Int) < n := by omega
      have HT := Lib.hid (bits_take p k q j b hkq hx hj)
      have ll : ((bitsOf p).take k).length ≤ 1000000 := by rw [List.length_take, bitsOf_len, HN.out]; omega
      obtain ⟨K, hK⟩ : ∃ K : Int, (k : Int) = K := ⟨_, rfl⟩
      have hd : K / 8 = q := by omega
      have HK := Lib.hid hK
      rw [hK] at hlt'
      rcases (by omega : j = 0 ∨ j = 1 ∨ j = 2 ∨ j = 3 ∨ j = 4 ∨ j = 5 ∨ j = 6 ∨ j = 7) with rfl | rfl | rfl | rfl | rfl | rfl | rfl | rfl
      all_goals
        first
          | (have hm : K % 8 = 0 := by omega)
          | (have hm : K % 8 = 1 := by omega)
          | (have hm : K % 8 = 2 := by omega)
          | (have hm : K % 8 = 3 := by omega)
          | (have hm : K % 8 = 4 := by omega)
          | (have hm : K % 8 = 5 := by omega)
          | (have hm : K % 8 = 6 := by omega)
          | (have hm : K % 8 = 7 := by omega)
        rw [hK]
        clear hx hcell hkq hK
        go_upto_region 5 with fail
        refine wp_region_any (by kernel_rfl) ?_
        show wpAny _ _ _ _ 15 _ _ _
        refine wpAny_take (i := 0) (v := u3) rfl (by kernel_rfl) (by kernel_rfl) (by kernel_rfl) (fun _ _ _ h => h) (Or.inl ⟨by rfl, ?hy⟩) ?_
        case hy =>
          intro w
          go_simp
        refine wpAny_pickL (C := fun w' => ∃ g : Up wr, w' = g.1) 12 [1, 2, 3, 4, 5, 6, 7, 8, 9, 10, 11] [12, 13, 14] (fun l => (l.take 12).eraseIdx 0) (fun l => l.drop 12) (by kernel_rfl) (by kernel_rfl) (by kernel_rfl) ⟨⟨_, (Below.refl _ wr).drew⟩, rfl⟩ ?_
        simp only [List.take_succ_cons, List.take_zero, List.drop_succ_cons, List.drop_zero, List.eraseIdx_cons_zero, Act.put, List.getElem_toArray, List.getElem_cons_zero, List.setIfInBounds_toArray, List.set_cons_succ, List.set_cons_zero]
        repeat (go_big_quiet_step (fail))
        refine wpQuiet_nil ?_
        clear up_c
        refine up_elim (fun w4 hb4 => ?_)
        go_wp2_with (first
          | (at_builtin; refine wpList_bit _ rfl (.tmp 12) (.tmp 24) 67 rfl Tryz.underlying67 _ _ rfl ((HA.out.bits.below hb4).below (bl_alloc (bl_refl w4) _)) w4.heap.size _ rfl (Blk.new w4 _ _) ll ?_; intro v6 w6 R6 C6 O6; have A6 := Lib.hid (((HA.out.below hb4).below (bl_alloc (bl_refl w4) _)).grow R6 C6 O6); clear R6 C6 O6))
        go_roundw
        case rel => exact ⟨k + 1, by omega, by have := HK.out; go_num, by rw [HT.out]; first | exact A6.out | (rw [show bitAt b 0 = (b % 2 == 1) by simp [bitAt]]; exact A6.out)⟩
        case measure => have := HK.out; simp [intOf]; omega
    · obtain rfl : k = 8 * n := by omega
      have kk : ¬ ((8 * n : Nat) : Int) < 8 * n := by omega
      have h9 := HA.out
      rw [List.take_of_length_le (by rw [bitsOf_len, HN.out]; exact Nat.le_refl _)] at h9
      go_wp2
      go_ret
      exact ⟨_, rfl, h9⟩
end
/-! ### The walk of the reference's Check. -/
section
open Go Go.RowKit
set_option linter.unusedVariables false
set_option maxHeartbeats 20000000
set_option maxRecDepth 100000
theorem wrap_u32 (n : Int) : IntKind.u32.wrap n = n % 4294967296 := by simp [IntKind.wrap, IntKind.bits, IntKind.signed]
theorem xor32 (a b : Nat) (ha : a < 4294967296) (hb : b < 4294967296) : bits .xor .u32 a b = ((a ^^^ b : Nat) : Int) := by
  have h : a ^^^ b < 2 ^ 32 := Nat.xor_lt_two_pow (by omega) (by omega)
  have ha' : a % 2 ^ IntKind.u32.bits = a := Nat.mod_eq_of_lt ha
  have hb' : b % 2 ^ IntKind.u32.bits = b := Nat.mod_eq_of_lt hb
  simp only [bits, BitVec.ofInt_natCast, BitVec.toNat_xor, BitVec.toNat_ofNat, ha', hb']
  rw [wrap_u32]
  omega
theorem refStep_lt {r : Nat} (on : Bool) : refStep r on < 65536 := by
  unfold refStep
  split
  · exact Nat.xor_lt_two_pow (n := 16) (by omega) (by decide)
  · omega
/-- Sixteen cells of bits, of which the first ones were written. -/
def arr16 (R k : Nat) : Array Value := (((refOut R).take k ++ List.replicate (16 - k) false).map Value.bool).toArray
theorem refOut_len (R : Nat) : (refOut R).length = 16 := by simp [refOut]
theorem arr16_set (R k : Nat) (c : Bool) (hk : k < 16) (hc : (refOut R)[k]? = some c) : (arr16 R k).setIfInBounds k (.bool c) = arr16 R (k + 1) := by
  unfold arr16
  have e : 16 - k = (16 - (k + 1)) + 1 := by omega
  have hl : ((refOut R).take k).length = k := by rw [List.length_take, refOut_len]; omega
  rw [e, List.replicate_succ, List.take_add_one, hc]
  simp [refOut_len, Nat.min_eq_left (Nat.le_of_lt hk)]
theorem arr16_at (R k : Nat) (hk : k < 16) : (arr16 R k)[k]? = some (.bool false) := by
  unfold arr16
  have e : 16 - k = (15 - k) + 1 := by omega
  rw [e, List.replicate_succ]
  simp [refOut_len, Nat.min_eq_left (Nat.le_of_lt hk)]
theorem KCheck_c {w : World} {v : Value} {p : Oct} (h : BytI w [] v p) (hl : p.length ≤ 10000) :
    Calls Tryz.prog 142 #[v] w fun e w' => ∃ v', e = .returned v' ∧ AccO w w' v' (checkO p) := by
  obtain ⟨a, cap, rfl, hcap⟩ := h.shape
  have HB := Lib.hid (RBits_c h hl)
  have hro := ref_out p
  obtain ⟨n, hn⟩ : ∃ n, (bitsOf p).length = n := ⟨_, rfl⟩
  obtain ⟨R, hR⟩ : ∃ R, (bitsOf p).foldl refStep 65535 = R := ⟨_, rfl⟩
  have hn2 : n ≤ 100000 := by rw [← hn, bitsOf_len]; omega
  rw [hR] at hro
  have HRO := Lib.hid hro
  have HN := Lib.hid hn
  have HR := Lib.hid hR
  clear h hro hR hl
  generalize bitsOf p = t at *
  go_enter Tryz.func142, Tryz.ntmps142
  go_wp2_with (first
    | ((with_reducible refine HB.out.mono ?_); rintro e w2 ⟨v2, rfl, A2⟩; (obtain ⟨a2, c2, rfl, _⟩ := A2.bits.shape); (rw [hn] at A2 ⊢); have HA2 := Lib.hid A2; clear A2))
  go_loop [4, 5] (fun r i => ∃ k z : Nat, k ≤ n ∧ i = .int .i64 k ∧ r = .int .u32 z ∧ z < 65536 ∧ (t.drop k).foldl refStep z = R) (fun _ i => n - (intOf i).toNat)
  case atStart => exact ⟨0, 65535, by omega, rfl, rfl, by omega, HR.out⟩
  case round =>
    obtain ⟨k, z, hk, rfl, rfl, hz, hrl⟩ := hrel
    by_cases hlt : k < n
    · have hlt' : (k : Int) < n := by omega
      obtain ⟨b, hx⟩ := bit_at HN.out hlt
      obtain ⟨bl, off, rfl, hcell⟩ := HA2.out.bits.at k b hx
      have HRL := Lib.hid (drop_some hx ▸ hrl)
      have z2 : (z : Int) * 2 ≤ 4294967295 := by omega
      have z0 : (0 : Int) ≤ (z : Int) * 2 := by omega
      obtain ⟨q, hq⟩ : ∃ q, (z * 2 % 65536) ^^^ 4129 = q := ⟨_, rfl⟩
      have hx2 : bits .xor .u32 ((z : Int) * 2 % 65536) 4129 = (q : Int) := by
        have h9 := xor32 (z * 2 % 65536) 4129 (by omega) (by omega)
        rw [hq] at h9
        rw [← h9]
        congr 1
      have HST := Lib.hid (show refStep z b = if (z / 32768 % 2 : Nat) ≠ b.toNat then q else z * 2 % 65536 by unfold refStep; rw [hq])
      clear hx hrl hq
      have hstep := refStep_lt (r := z) b
      cases b with
      | false =>
        by_cases hc : z / 32768 % 2 = 0
        · have hc' : ((z : Int) / 32768 % 2 != 0) = false := by
            have : (z : Int) / 32768 % 2 = 0 := by omega
            simp [this]
          have e9 : refStep z false = z * 2 % 65536 := by rw [HST.out, if_neg (by simp [hc])]
          rw [e9] at hstep
          go_wp2
          go_roundw
          case rel => exact ⟨k + 1, z * 2 % 65536, by omega, by go_num, by go_num, hstep, by have h9 := HRL.out; rw [List.foldl_cons, e9] at h9; exact h9⟩
          case measure => simp [intOf]; omega
        · have hc' : ((z : Int) / 32768 % 2 != 0) = true := by
            have : (z : Int) / 32768 % 2 ≠ 0 := by omega
            simp [this]
          have e9 : refStep z false = q := by rw [HST.out, if_pos (by simpa using hc)]
          rw [e9] at hstep
          go_wp2
          go_roundw
          case rel => exact ⟨k + 1, q, by omega, by go_num, rfl, hstep, by have h9 := HRL.out; rw [List.foldl_cons, e9] at h9; exact h9⟩
          case measure => simp [intOf]; omega
      | true =>
        by_cases hc : z / 32768 % 2 = 1
        · have hc' : ((z : Int) / 32768 % 2 != 1) = false := by
            have : (z : Int) / 32768 % 2 = 1 := by omega
            simp [this]
          have e9 : refStep z true = z * 2 % 65536 := by rw [HST.out, if_neg (by simp [hc])]
          rw [e9] at hstep
          go_wp2
          go_roundw
          case rel => exact ⟨k + 1, z * 2 % 65536, by omega, by go_num, by go_num, hstep, by have h9 := HRL.out; rw [List.foldl_cons, e9] at h9; exact h9⟩
          case measure => simp [intOf]; omega
        · have hc' : ((z : Int) / 32768 % 2 != 1) = true := by
            have : (z : Int) / 32768 % 2 ≠ 1 := by omega
            simp [this]
          have e9 : refStep z true = q := by rw [HST.out, if_pos (by simpa using hc)]
          rw [e9] at hstep
          go_wp2
          go_roundw
          case rel => exact ⟨k + 1, q, by omega, by go_num, rfl, hstep, by have h9 := HRL.out; rw [List.foldl_cons, e9] at h9; exact h9⟩
          case measure => simp [intOf]; omega
    · obtain rfl : k = n := by omega
      have kk : ¬ (k : Int) < k := by omega
      rw [List.drop_eq_nil_of_le (by rw [HN.out]; exact Nat.le_refl _)] at hrl
      obtain rfl : z = R := hrl
      obtain ⟨D, hD⟩ : ∃ D : Nat, 65535 - z = D := ⟨_, rfl⟩
      have hsub : (65535 : Int) - (z : Int) = (D : Int) := by omega
      have hD2 : (D : Int) ≤ 65535 := by omega
      have HD := Lib.hid hD
      go_wp2
      have N2 := Lib.hid (show Blk (w2.alloc (.cells (arr16 z 0) 215)) w2.heap.size (arr16 z 0) 215 from Blk.new _ _ _)
      have BA := bl_alloc (bl_refl w2) (.cells (arr16 z 0) 215)
      have HZ := Lib.hid (show ∀ k, k < 16 → (refOut z)[k]? = some (decide (D / 2 ^ (15 - k) % 2 = 1)) from fun k hk => by unfold refOut; rw [HD.out]; simp [hk])
      obtain ⟨g, hgg⟩ : ∃ g, w2.heap.size = g := ⟨_, rfl⟩
      have HG := Lib.hid hgg
      go_loopw [9] (fun i wr => ∃ k : Nat, k ≤ 16 ∧ i = .int .i64 k ∧ Below w2.heap.size w2 wr ∧ Blk wr g (arr16 z k) 215) (fun i _ => 16 - (intOf i).toNat)
      case atStart => exact ⟨0, by omega, rfl, BA, hgg ▸ N2.out⟩
      case round =>
        obtain ⟨k, hk, rfl, B, S⟩ := hrel
        have HB4 := Lib.hid B
        have HS := Lib.hid S
        have sf := S.f
        clear B S BA N2
        by_cases hlt : k < 16
        · have hlt' : (k : Int) < 16 := by omega
          have hat := (HS.out.c k).trans (arr16_at z k hlt)
          obtain ⟨c, hcv⟩ : ∃ c, decide (D / 2 ^ (15 - k) % 2 = 1) = c := ⟨_, rfl⟩
          have HSET := Lib.hid (arr16_set z k c hlt ((HZ.out k hlt).trans (by rw [hcv])))
          have hgw := HB4.out.size
          rw [hgg] at hgw
          have go_on : ∀ v : Bool, v = c → (∃ k' : Nat, k' ≤ 16 ∧ Value.int .i64 ((k : Int) + 1) = .int .i64 k' ∧ Below w2.heap.size w2 (wr.setCell ⟨g, k, none⟩ (.bool v)) ∧ Blk (wr.setCell ⟨g, k, none⟩ (.bool v)) g (arr16 z k') 215) := fun v hv => by
            subst hv
            exact ⟨k + 1, by omega, by go_num, bl_set HB4.out (by omega) _, (HS.out.set k _).as HSET.out⟩
          have GO := Lib.hid go_on
          clear go_on
          rcases (by omega : k = 0 ∨ k = 1 ∨ k = 2 ∨ k = 3 ∨ k = 4 ∨ k = 5 ∨ k = 6 ∨ k = 7 ∨ k = 8 ∨ k = 9 ∨ k = 10 ∨ k = 11 ∨ k = 12 ∨ k = 13 ∨ k = 14 ∨ k = 15) with rfl | rfl | rfl | rfl | rfl | rfl | rfl | rfl | rfl | rfl | rfl | rfl | rfl | rfl | rfl | rfl
          all_goals
            go_wp2
            go_roundw
            case rel => exact GO.out _ (by rw [← hcv, Bool.eq_iff_iff]; simp only [beq_iff_eq, decide_eq_true_eq, Nat.reduceSub, Nat.reducePow, Nat.div_one]; omega)
            case measure => simp [intOf]
        · have hk9 : k = 16 := by omega
          have e16 : (k : Int) = 16 := by omega
          rw [e16]
          subst hk9
          clear e16
          have hbv : BitI wr (.slice (some ⟨g, 0, none⟩) 16 16) (refOut z) := by
            have e : arr16 z 16 = ((refOut z).map Value.bool).toArray := by
              unfold arr16
              rw [List.take_of_length_le (by rw [refOut_len]; exact Nat.le_refl _)]
              simp
            have h9 := HS.out
            rw [e] at h9
            have h8 := BitI.of h9
            rw [refOut_len] at h8
            exact h8
          have HO := Lib.hid (ROctets_c hbv (by rw [refOut_len]; omega))
          rw [refOut_len] at HO
          go_wp2_with (first
            | ((with_reducible refine HO.out.mono ?_); rintro e w5 ⟨v5, rfl, A5⟩; have HA5 := Lib.hid A5; clear A5))
          go_ret
          have h9 := HA5.out.base (bl_then HA2.out.bel HB4.out)
          rw [show 16 / 8 = 2 from rfl, HRO.out] at h9
          exact ⟨_, rfl, h9⟩
end
/-! ### The walks of the reference's Right and Judge. -/
section
open Go Go.RowKit
set_option linter.unusedVariables false
set_option maxHeartbeats 20000000
set_option maxRecDepth 100000
theorem strOf_inj : ∀ {p q : Oct}, isOct p → isOct q → strOfNums p = strOfNums q → p = q := by
  intro p q hp hq h
  have h1 : (p.map fun n => UInt8.ofNat n.toNat) = q.map fun n => UInt8.ofNat n.toNat := by rw [← strOfNums_data, ← strOfNums_data, h]
  clear h
  induction p generalizing q with
  | nil => cases q with | nil => rfl | cons b q => simp at h1
  | cons a p ih =>
    cases q with
    | nil => simp at h1
    | cons b q =>
      simp only [List.map_cons, List.cons.injEq] at h1
      obtain ⟨h2, h3⟩ := h1
      have ha := hp a (by simp)
      have hb := hq b (by simp)
      have h4 := congrArg UInt8.toNat h2
      simp only [UInt8.toNat_ofNat'] at h4
      rw [ih (fun x hx => hp x (by simp [hx])) (fun x hx => hq x (by simp [hx])) h3, show a = b by omega]
theorem ba_toList {x y : ByteArray} (h : x.toList = y.toList) : x = y := by
  rw [ByteArray.toList_eq, ByteArray.toList_eq] at h
  rcases x with ⟨⟨x⟩⟩
  rcases y with ⟨⟨y⟩⟩
  simpa using h
theorem BytV.cut {w : World} {bl off n cap : Nat} {p : Oct} (h : BytV w (.slice (some ⟨bl, off, none⟩) n cap) p) (hn : p.length = n) (k : Nat) (hk : k ≤ n) :
    BytV w (.slice (some ⟨bl, off, none⟩) k cap) (p.take k) ∧ BytV w (.slice (some ⟨bl, off + k, none⟩) (n - k) (cap - k)) (p.drop k) := by
  refine ⟨⟨?_, fun x hx => h.2 x (List.mem_of_mem_take hx)⟩, ⟨?_, fun x hx => h.2 x (List.mem_of_mem_drop hx)⟩⟩
  all_goals
    rcases h.1.2 with ⟨e, _⟩ | ⟨bl', off', cap', cs, e', h1, h2, h3, h4, h5⟩
    · cases e
    simp only [Value.slice.injEq, Option.some.injEq, Addr.mk.injEq] at e'
    obtain ⟨⟨rfl, rfl, _⟩, hl, rfl⟩ := e'
  · have hl2 : (p.take k).length = k := by rw [List.length_take]; omega
    refine ⟨by simp, .inr ⟨bl, off, cap, cs, by rw [hl2], by omega, h2, h3, h4, fun j u hu => ?_⟩⟩
    rw [List.map_take, List.getElem?_take] at hu
    split at hu
    · exact h5 j u hu
    · cases hu
  · have hl2 : (p.drop k).length = n - k := by rw [List.length_drop]; omega
    refine ⟨by simp, .inr ⟨bl, off + k, cap - k, cs, by rw [hl2], by omega, by omega, h3, by omega, fun j u hu => ?_⟩⟩
    rw [List.map_drop, List.getElem?_drop] at hu
    rw [show off + k + j = off + (k + j) by omega]
    exact h5 _ u hu
theorem KRight_c {w : World} {v : Value} {p : Oct} (h : BytV w v p) (h2 : 2 ≤ p.length) (hl : p.length ≤ 10000) :
    Calls Tryz.prog 141 #[v] w fun e w' => e = .returned (.bool (decide (crcBits (bitsOf p) = 61624))) ∧ Below w.heap.size w w' := by
  have hri := right_iff p h.2 h2
  obtain ⟨n, hn⟩ : ∃ n, p.length = n := ⟨_, rfl⟩
  obtain ⟨bl, off, cap, rfl⟩ := BytV.someA h (fun h9 => by rw [h9] at h2; simp at h2)
  rw [hn] at h h2 hl hri ⊢
  obtain ⟨m, hm⟩ : ∃ m, n - 2 = m := ⟨_, rfl⟩
  rw [hm] at hri
  obtain ⟨q1, q2⟩ := BytV.cut h hn m (by omega)
  have ho1 : isOct (checkO (p.take m)) := isOct_check _
  have ho2 : isOct (p.drop m) := q2.2
  have hlq : (p.take m).length ≤ 10000 := by rw [List.length_take]; omega
  have hstr : ((strOfNums (checkO (p.take m))).toList == (strOfNums (p.drop m)).toList) = decide (crcBits (bitsOf p) = 61624) := by
    rw [Bool.eq_iff_iff, beq_iff_eq, decide_eq_true_eq, ← hri]
    exact ⟨fun h9 => strOf_inj ho1 ho2 (ba_toList h9), fun h9 => by rw [h9]⟩
  have HC := Lib.hid (fun (wx : World) (b : Below w.heap.size w wx) => KCheck_c ((Byt.below q1 b).i0) hlq)
  have HD := Lib.hid (fun (wx : World) (b : Below w.heap.size w wx) => conv_back (Byt.below q2 b))
  have HS := Lib.hid hstr
  generalize strOfNums (p.drop m) = s2 at HD HS
  have n2 : (2 : Int) ≤ n := by omega
  have hcap : n ≤ cap := by
    obtain ⟨a', c', e', h'⟩ := h.shape
    simp only [Value.slice.injEq] at e'
    omega
  have hc0 : ¬ cap = 0 := by omega
  have hcn : ¬ cap = m := by omega
  have hmi : (n : Int) - 2 = (m : Int) := by omega
  have hw2 : IntKind.i64.wrap (m : Int) = m := by simp [IntKind.wrap, IntKind.bits, IntKind.signed]; omega
  have m0 : (0 : Int) ≤ (m : Int) := by omega
  have mn : m ≤ n := by omega
  have mc : m ≤ cap := by omega
  have mni : (m : Int) ≤ n := by omega
  have mci : (m : Int) ≤ cap := by omega
  have kd := HD.out _ (bl_drew (bl_refl w))
  clear h q1 q2 hstr ho1 ho2 hri hlq
  go_enter Tryz.func141, Tryz.ntmps141
  go_upto_region 2 with fail
  go_region_held (fun w' => (convert 27 9 (.slice (some ⟨bl, off + m, none⟩) (n - m) (cap - m))).run Tryz.prog w' = .ok (.string s2) w') (first | exact kd | exact k5 | go_keep) (first
    | ((with_reducible refine (HC.out _ (bl_drew (bl_refl w))).mono ?_); rintro e w5 ⟨v5, rfl, A5⟩; (obtain ⟨a5, c5, rfl, _⟩ := A5.byt.1.shape); have HA5 := Lib.hid A5; have k5 := HD.out _ (bl_then (bl_drew (bl_refl w)) A5.bel); have kc5 := conv_back A5.byt; clear A5))
  go_wp2
  go_ret
  exact ⟨by rw [← HS.out]; rfl, bl_then (bl_drew (bl_refl w)) HA5.out.bel⟩
theorem octN_isOct (n : Nat) (t : List Bool) : isOct (octN n t) := by
  intro x hx
  obtain ⟨i, _, rfl⟩ := List.mem_map.1 hx
  have := low8_le ((t.drop (8 * i)).take 8) (by rw [List.length_take]; omega)
  omega
theorem KJudge_c {w : World} {v : Value} {t : List Bool} (h : BitV w v t) (hl : t.length ≤ 10000) :
    Calls Tryz.prog 103 #[v] w fun e w' => ∃ v', e = .returned (.tuple #[v', .int .i64 (judgeB t).2]) ∧ AccO w w' v' (judgeB t).1 := by
  have HT := Lib.hid (RTake_c h (by omega))
  have tl := takeB_len t ([], 0)
  simp only [List.length_nil, Nat.zero_add] at tl
  unfold judgeB
  generalize takeB t ([], 0) = r at HT tl ⊢
  obtain ⟨l, e⟩ := r
  dsimp only at HT tl ⊢
  clear h
  by_cases he : e ≠ 0
  · rw [if_pos he]
    have he' : (e != 0) = true := by simpa using he
    dsimp only
    go_enter Tryz.func103, Tryz.ntmps103
    go_wp2_with (first
      | ((with_reducible refine HT.out.mono ?_); rintro e w1 ⟨v1, rfl, A1⟩; have B1 := Lib.hid A1.bel; clear A1))
    go_ret2
    exact ⟨_, rfl, B1.out, byt_nil, by simp [own, Value.ownBlock]⟩
  · rw [if_neg he]
    have he0 : e = 0 := by omega
    subst he0
    have HO := Lib.hid (fun (w1 : World) (v1 : Value) (b : BitV w1 v1 l) => ROctets_c (w := w1) b.i (by omega))
    clear he
    obtain ⟨n, hn⟩ : ∃ n, l.length = n := ⟨_, rfl⟩
    rw [hn] at HO tl
    simp only [hn]
    by_cases h8 : n % 8 ≠ 0
    · rw [if_pos h8]
      have h8' : ((n : Int) % 8 != 0) = true := by
        have : (n : Int) % 8 ≠ 0 := by omega
        simp [this]
      go_enter Tryz.func103, Tryz.ntmps103
      go_wp2_with (first
        | ((with_reducible refine HT.out.mono ?_); rintro e w1 ⟨v1, rfl, A1⟩; have B1 := Lib.hid A1.bel; obtain ⟨a1, c1, ev, _⟩ := A1.bits.shape; (rw [hn] at ev); subst ev; clear A1))
      go_ret2
      exact ⟨_, rfl, B1.out, byt_nil, by simp [own, Value.ownBlock]⟩
    · rw [if_neg h8]
      have h80 : ((n : Int) % 8 != 0) = false := by
        have : (n : Int) % 8 = 0 := by omega
        simp [this]
      obtain ⟨N, hN⟩ : ∃ N, n / 8 = N := ⟨_, rfl⟩
      have hNI : (n : Int) / 8 = (N : Int) := by omega
      rw [hN] at HO ⊢
      have pl := octN_len N l
      have po := octN_isOct N l
      generalize octN N l = p at HO pl po ⊢
      have N1 : N ≤ 1250 := by omega
      clear h8 hN tl
      by_cases h5 : N < 5
      · rw [if_pos h5]
        have h5' : (N : Int) < 5 := by omega
        go_enter Tryz.func103, Tryz.ntmps103
        go_wp2_with (first
          | ((with_reducible refine HT.out.mono ?_); rintro e w1 ⟨v1, rfl, A1⟩; have B1 := Lib.hid A1.bel; obtain ⟨a1, c1, ev, _⟩ := A1.bits.shape; (rw [hn] at ev); subst ev; clear A1))
        go_ret2
        exact ⟨_, rfl, B1.out, byt_nil, by simp [own, Value.ownBlock]⟩
      · rw [if_neg h5]
        have h5' : ¬ (N : Int) < 5 := by omega
        by_cases h279 : 279 < N
        · rw [if_pos h279]
          have h279' : (279 : Int) < N := by omega
          go_enter Tryz.func103, Tryz.ntmps103
          go_wp2_with (first
            | ((with_reducible refine HT.out.mono ?_); rintro e w1 ⟨v1, rfl, A1⟩; have B1 := Lib.hid A1.bel; obtain ⟨a1, c1, ev, _⟩ := A1.bits.shape; (rw [hn] at ev); subst ev; clear A1))
          go_ret2
          exact ⟨_, rfl, B1.out, byt_nil, by simp [own, Value.ownBlock]⟩
        · rw [if_neg h279]
          have h279' : ¬ (279 : Int) < N := by omega
          have HR := Lib.hid (fun (w2 : World) (v2 : Value) (b : BytV w2 v2 p) => KRight_c (w := w2) b (by omega) (by omega))
          have n2 : (2 : Int) ≤ N := by omega
          by_cases hc : crcBits (bitsOf p) = 61624
          · rw [if_pos hc]
            rw [decide_eq_true hc] at HR
            go_enter Tryz.func103, Tryz.ntmps103
            go_wp2_with (first
              | ((with_reducible refine HT.out.mono ?_); rintro e w1 ⟨v1, rfl, A1⟩; have B1 := Lib.hid A1.bel; have HP := Lib.hid (HO.out w1 v1 A1.bits); obtain ⟨a1, c1, ev, _⟩ := A1.bits.shape; (rw [hn] at ev); subst ev; clear A1)
              | ((with_reducible refine HP.out.mono ?_); rintro e w2 ⟨v2, rfl, A2⟩; obtain ⟨a2, c2, ev, hc2⟩ := A2.byt.1.shape; (rw [pl] at ev hc2); subst ev; have HA := Lib.hid (A2.base B1.out); have HQ := Lib.hid (HR.out w2 _ A2.byt); clear A2)
              | ((with_reducible refine HQ.out.mono ?_); rintro e w3 ⟨rfl, b3⟩; have A3 := Lib.hid (HA.out.below b3); clear b3))
            go_ret2
            exact ⟨_, rfl, A3.out.take (N - 2) (by omega)⟩
          · rw [if_neg hc]
            rw [decide_eq_false hc] at HR
            go_enter Tryz.func103, Tryz.ntmps103
            go_wp2_with (first
              | ((with_reducible refine HT.out.mono ?_); rintro e w1 ⟨v1, rfl, A1⟩; have B1 := Lib.hid A1.bel; have HP := Lib.hid (HO.out w1 v1 A1.bits); obtain ⟨a1, c1, ev, _⟩ := A1.bits.shape; (rw [hn] at ev); subst ev; clear A1)
              | ((with_reducible refine HP.out.mono ?_); rintro e w2 ⟨v2, rfl, A2⟩; obtain ⟨a2, c2, ev, hc2⟩ := A2.byt.1.shape; (rw [pl] at ev hc2); subst ev; have HA := Lib.hid (A2.base B1.out); have HQ := Lib.hid (HR.out w2 _ A2.byt); clear A2)
              | ((with_reducible refine HQ.out.mono ?_); rintro e w3 ⟨rfl, b3⟩; have A3 := Lib.hid (HA.out.below b3); clear b3))
            go_ret2
            exact ⟨_, rfl, A3.out.none⟩
end
/-! ### The walk of the reference's Hear. -/
section
open Go Go.RowKit
set_option linter.unusedVariables false
set_option maxHeartbeats 20000000
set_option maxRecDepth 100000
def Heards (w : World) (v : Value) (l : List ((Int × Oct) × Int)) : Prop :=
  ∃ ps : List (((Int × Oct) × Int) × Value), ps.map (·.1) = l ∧ Row w 104 3 v l.length (cmCells ps) ∧ ∀ p ∈ ps, BytV w p.2 p.1.1.2
/-- What is heard, collected in a block of its own. -/
structure AccH (w0 w : World) (v : Value) (l : List ((Int × Oct) × Int)) : Prop where
  bel : Below w0.heap.size w0 w
  rows : Heards w v l
  own : ∀ g ∈ own v, w0.heap.size ≤ g
theorem AccH.nil (w : World) : AccH w w (.slice none 0 0) [] := ⟨bl_refl w, ⟨[], rfl, Row.nil _ _ _, by simp⟩, by simp [Go.Proofs.YtdffinnnjcgfcaaGreatK.own, Value.ownBlock]⟩
theorem Heards.below {w w1 : World} {v : Value} {l : List ((Int × Oct) × Int)} (h : Heards w v l) (hb : Below w.heap.size w w1) : Heards w1 v l := by
  obtain ⟨ps, e, r, q⟩ := h
  exact ⟨ps, e, r.below hb, fun p hp => Byt.below (q p hp) hb⟩
theorem AccH.below {w0 w w1 : World} {v : Value} {l : List ((Int × Oct) × Int)} (h : AccH w0 w v l) (hb : Below w.heap.size w w1) : AccH w0 w1 v l := ⟨bl_then h.bel hb, h.rows.below hb, h.own⟩
theorem Heards.shape {w : World} {v : Value} {l : List ((Int × Oct) × Int)} (h : Heards w v l) : ∃ a cap, v = .slice a l.length cap ∧ l.length ≤ cap := h.choose_spec.2.1.shape
theorem wpList_heard {ops : Array Oper} {rest : List Oper} {o : Oper} {a : Act} {Q : Exit → Act → World → Prop} (w : World) (hgd : o.guard = none) (s x : Operand) (t : TypeId)
    (ho : o.op = .call { callee := .builtin .append, args := #[s, x], argTypes := #[t, t] }) (ht : Tryz.prog.underlying t = some (.slice 104))
    {w0 : World} {v : Value} {l : List ((Int × Oct) × Int)} (hs : a.eval s = v) (A : AccH w0 w v l) (g : Nat) (kd : Int) (vp : Value) (oc : Oct) (m : Int) (hx : a.eval x = .slice (some ⟨g, 0, none⟩) 1 1) (hb : Blk w g #[.int .u8 kd, vp, .int .i64 m] 104) (hp : BytV w vp oc) (hl : l.length ≤ 1000000)
    (h : ∀ v' w', AccH w0 w' v' (l ++ [((kd, oc), m)]) → wpList Tryz.prog ops Q rest (a.put o.dst v') w') : wpList Tryz.prog ops Q (o :: rest) a w := by
  obtain ⟨bel, ⟨ps, ep, rp, qp⟩, ow⟩ := A
  obtain ⟨ap, cp, rfl, _⟩ := hp.1.shape
  refine wpList_row_append w hgd s x t ho 104 Tryz.t104 (.agg #[.int .u8 0, .slice none 0 0, .int .i64 0]) 3 40 ht rfl rfl rfl rfl rfl (by decide) v l.length (cmCells ps) hs rp ⟨g, 0, none⟩ 1 1 [.int .u8 kd, .slice ap oc.length cp, .int .i64 m] hx rfl
    (fun j u hu => by rw [Addr.add_lit, hb.c, Nat.zero_add]; simpa using hu) (by simp [Value.oneCell']) (by decide) (by simp [maxLen]; omega) (by omega) (fun v' w' R C O => h v' w' ⟨bel.trans (C.to_below bel.size ow), ⟨ps ++ [(((kd, oc), m), .slice ap oc.length cp)], by simp [ep], ?_, fun q hq => ?_⟩, fun k hk => ?_⟩)
  · simpa [cmCells_append, cmCells] using R
  · have off : Off w 5 (Go.Proofs.YtdffinnnjcgfcaaGreatK.own v) := fun k hk => by
      obtain ⟨cs, h1⟩ := rp.blk k hk
      exact ⟨cs, _, h1, by decide⟩
    rcases List.mem_append.1 hq with hq | hq
    · exact (qp q hq).stay off C
    · obtain rfl : q = (((kd, oc), m), .slice ap oc.length cp) := by simpa using hq
      exact hp.stay off C
  · rcases O k hk with h9 | h9
    · exact ow k h9
    · exact Nat.le_trans bel.size h9
/-- How the reference's two numbers stand to an ear behind so many bits. -/
structure HI (t : List Bool) (k : Nat) (e : Er) (f : Nat) : Prop where
  on : e.found = true → e.inn.length + f = k ∧ e.inn = (t.take k).drop f
  off : e.found = false → e.n + f = k
  ok : e.ok (k + 6)
theorem Er.run_next {t : List Bool} {k : Nat} {b : Bool} {e : Er} {ev : List ((Int × Oct) × Int)} (hx : t[k]? = some b) (h : erz.run 0 (t.take k) = (e, ev)) : erz.run 0 (t.take (k + 1)) = ((e.bit b).1, ev ++ Er.put ((k : Int) + 1) (e.bit b).2) := by
  have hk := (List.getElem?_eq_some_iff.1 hx).1
  rw [List.take_add_one, hx]
  show erz.run 0 (t.take k ++ [b]) = _
  rw [Er.run_app, h]
  simp only [Er.run, List.append_nil]
  rw [List.length_take, Nat.min_eq_left (Nat.le_of_lt hk), Int.zero_add]
theorem HI.grow {t : List Bool} {k : Nat} {b : Bool} {e : Er} {f : Nat} (h : HI t k e f) (hx : t[k]? = some b) (hf : e.found = true) : e.inn.length + 1 + f = k + 1 ∧ e.inn ++ [b] = (t.take (k + 1)).drop f := by
  obtain ⟨h1, h2⟩ := h.on hf
  have hk := (List.getElem?_eq_some_iff.1 hx).1
  refine ⟨by omega, ?_⟩
  rw [List.take_add_one, hx, List.drop_append_of_le_length (by rw [List.length_take]; omega), ← h2]
  rfl
theorem Er.evs_len (t : List Bool) : ∀ (e : Er) (n : Int), (e.run n t).2.length ≤ t.length := by
  induction t with
  | nil => intro e n; simp [Er.run]
  | cons b l ih =>
    intro e n
    rw [Er.run, List.length_append, List.length_cons]
    have h1 := ih (e.bit b).1 (n + 1)
    have h2 : (Er.put (n + 1) (e.bit b).2).length ≤ 1 := by cases (e.bit b).2 <;> simp [Er.put]
    omega
end
/-! ### The walk of the reference's Hear, continued. -/
section
open Go Go.RowKit
set_option linter.unusedVariables false
set_option maxHeartbeats 20000000
set_option maxRecDepth 100000
theorem KHear_c {w : World} {v : Value} {t : List Bool} (h : BitV w v t) (hl : t.length ≤ 100000) :
    Calls Tryz.prog 59 #[v] w fun e w' => ∃ vl, e = .returned (.tuple #[vl, .bool (!(erz.run 0 t).1.found)]) ∧ AccH w w' vl (erz.run 0 t).2 := by
  obtain ⟨a, cap, rfl, hcap⟩ := h.shape
  obtain ⟨n, hn⟩ : ∃ n, t.length = n := ⟨_, rfl⟩
  have H := Lib.hid h
  have HN := Lib.hid hn
  rw [hn] at hl hcap H
  simp only [hn]
  clear h hn
  go_enter Tryz.func59, Tryz.ntmps59
  go_wp2
  go_loopw [4, 5, 6, 7, 8] (fun o lo fr on i wr => ∃ (k f : Nat) (e : Er) (ev : List ((Int × Oct) × Int)), k ≤ n ∧ i = .int .i64 k ∧ fr = .int .i64 f ∧ on = .int .i64 e.ones ∧ lo = .bool (!e.found) ∧ erz.run 0 (t.take k) = (e, ev) ∧ HI t k e f ∧ AccH w wr o ev) (fun _ _ _ _ i _ => n - (intOf i).toNat)
  case atStart => exact ⟨0, 0, erz, [], by omega, rfl, rfl, rfl, rfl, rfl, ⟨fun h => (by cases h), fun _ => rfl, Er.ok_zero _⟩, AccH.nil w⟩
  case round =>
    obtain ⟨k, f, e, ev, hk, rfl, rfl, rfl, rfl, hrun, hi, A⟩ := hrel
    have HA := Lib.hid A
    have HI0 := Lib.hid hi
    have HR := Lib.hid hrun
    have hev : ev.length ≤ k := by
      have h9 := Er.evs_len (t.take k) erz 0
      rw [hrun] at h9
      exact Nat.le_trans h9 (by rw [List.length_take]; omega)
    have hll : ev.length ≤ 1000000 := by omega
    clear A
    by_cases hlt : k < n
    · have hlt' : (k : Int) < n := by omega
      obtain ⟨b, hx⟩ := bit_at HN.out hlt
      obtain ⟨bl, off, rfl, hcell⟩ := H.out.at k b hx
      have hc := below_cell HA.out.bel hcell
      have HX := Lib.hid hx
      have HRN := Lib.hid (Er.run_next hx hrun)
      have hok := Er.ok_bit hi.ok b (by omega)
      have HOK := Lib.hid hok
      have ho1 := hi.ok.ones
      have ho2 := hi.ok.n
      have hon := hi.on
      have hoff := hi.off
      have hoo := hi.ok.on
      have hgr := fun hf => hi.grow hx hf
      have GR := Lib.hid hgr
      obtain ⟨inn, ones, found, m⟩ := e
      dsimp only at ho1 ho2 hon hoff hoo hgr
      clear hx hcell hrun hi hok hgr
      cases found with
      | false =>
        have hm := hoff rfl
        have hm1 : (k : Int) + 1 - (f : Int) = (m : Int) + 1 := by omega
        clear hon hoff hoo
        cases b with
        | true =>
          by_cases h128 : m + 1 = 128
          · have eb : (⟨inn, ones, false, m⟩ : Er).bit true = (⟨inn, ones + 1, false, 0⟩, (some (2, []))) := by
              unfold Er.bit Er.count
              rw [if_pos rfl, if_neg (by simp), if_pos (by exact h128)]
              rfl
            have HRN' := Lib.hid (show erz.run 0 (t.take (k + 1)) = (⟨inn, ones + 1, false, 0⟩, ev ++ Er.put ((k : Int) + 1) (some (2, []))) by have h9 := HRN.out; rw [eb] at h9; exact h9)
            have HOK' := Lib.hid (show (⟨inn, ones + 1, false, 0⟩ : Er).ok (k + 1 + 6) by have h9 := HOK.out; rw [eb] at h9; exact h9.le (by omega))
            clear eb
            have c128 : ((m : Int) + 1 == 128) = true := by rw [beq_iff_eq]; omega
            have HAX := HA
            go_wp2_with (first
              | (at_builtin; refine wpList_heard _ rfl (.tmp 89) (.tmp 93) 100 rfl Tryz.underlying100 rfl (HAX.out.below (bl_alloc (bl_refl _) _)) _ 2 (.slice none 0 0) [] _ rfl (Blk.new _ _ _) byt_nil hll ?_; intro v6 w6 A6; have HA6 := Lib.hid A6; clear A6))
            go_roundw
            case rel => exact ⟨k + 1, k + 1, ⟨inn, ones + 1, false, 0⟩, ev ++ Er.put ((k : Int) + 1) (some (2, [])), by omega, by go_num, by go_num, by go_num, rfl, HRN'.out, ⟨fun h => (by cases h), fun _ => (by simp), HOK'.out⟩, HA6.out⟩
            case measure => simp [intOf]; omega
          · have eb : (⟨inn, ones, false, m⟩ : Er).bit true = (⟨inn, ones + 1, false, m + 1⟩, none) := by
              unfold Er.bit Er.count
              rw [if_pos rfl, if_neg (by simp), if_neg (by exact h128)]
              rfl
            have HRN' := Lib.hid (show erz.run 0 (t.take (k + 1)) = (⟨inn, ones + 1, false, m + 1⟩, ev ++ Er.put ((k : Int) + 1) none) by have h9 := HRN.out; rw [eb] at h9; exact h9)
            have HOK' := Lib.hid (show (⟨inn, ones + 1, false, m + 1⟩ : Er).ok (k + 1 + 6) by have h9 := HOK.out; rw [eb] at h9; exact h9.le (by omega))
            clear eb
            have c128 : ((m : Int) + 1 == 128) = false := beq_eq_false_iff_ne.2 (by omega)
            have HAX := HA
            go_wp2
            go_roundw
            case rel => exact ⟨k + 1, f, ⟨inn, ones + 1, false, m + 1⟩, ev ++ Er.put ((k : Int) + 1) none, by omega, by go_num, by go_num, by go_num, rfl, HRN'.out, ⟨fun h => (by cases h), fun _ => (by dsimp only; omega), HOK'.out⟩, (by rw [show ev ++ Er.put ((k : Int) + 1) none = ev from List.append_nil _]; exact HA.out)⟩
            case measure => simp [intOf]; omega
        | false =>
          by_cases h6 : ones = 6
          · have eb : (⟨inn, ones, false, m⟩ : Er).bit false = (⟨[], 0, true, 0⟩, none) := by
              unfold Er.bit Er.count
              rw [if_pos rfl, if_pos ⟨rfl, h6⟩]
            have HRN' := Lib.hid (show erz.run 0 (t.take (k + 1)) = (⟨[], 0, true, 0⟩, ev ++ Er.put ((k : Int) + 1) none) by have h9 := HRN.out; rw [eb] at h9; exact h9)
            have HOK' := Lib.hid (show (⟨[], 0, true, 0⟩ : Er).ok (k + 1 + 6) by have h9 := HOK.out; rw [eb] at h9; exact h9.le (by omega))
            clear eb
            have c6 : ((ones : Int) == 6) = true := by rw [beq_iff_eq]; omega
            have HAX := HA
            go_wp2
            go_roundw
            case rel => exact ⟨k + 1, k + 1, ⟨[], 0, true, 0⟩, ev ++ Er.put ((k : Int) + 1) none, by omega, by go_num, by go_num, rfl, rfl, HRN'.out, ⟨fun _ => ⟨by simp, by rw [List.drop_eq_nil_of_le (by rw [List.length_take]; omega)]⟩, fun h => (by cases h), HOK'.out⟩, (by rw [show ev ++ Er.put ((k : Int) + 1) none = ev from List.append_nil _]; exact HA.out)⟩
            case measure => simp [intOf]; omega
          · have c6 : ((ones : Int) == 6) = false := beq_eq_false_iff_ne.2 (by omega)
            by_cases h128 : m + 1 = 128
            · have eb : (⟨inn, ones, false, m⟩ : Er).bit false = (⟨inn, 0, false, 0⟩, (some (2, []))) := by
                unfold Er.bit Er.count
                rw [if_pos rfl, if_neg (fun h => h6 h.2), if_pos (by exact h128)]
                rfl
              have HRN' := Lib.hid (show erz.run 0 (t.take (k + 1)) = (⟨inn, 0, false, 0⟩, ev ++ Er.put ((k : Int) + 1) (some (2, []))) by have h9 := HRN.out; rw [eb] at h9; exact h9)
              have HOK' := Lib.hid (show (⟨inn, 0, false, 0⟩ : Er).ok (k + 1 + 6) by have h9 := HOK.out; rw [eb] at h9; exact h9.le (by omega))
              clear eb
              have c128 : ((m : Int) + 1 == 128) = true := by rw [beq_iff_eq]; omega
              have HAX := HA
              go_wp2_with (first
                | (at_builtin; refine wpList_heard _ rfl (.tmp 89) (.tmp 93) 100 rfl Tryz.underlying100 rfl (HAX.out.below (bl_alloc (bl_refl _) _)) _ 2 (.slice none 0 0) [] _ rfl (Blk.new _ _ _) byt_nil hll ?_; intro v6 w6 A6; have HA6 := Lib.hid A6; clear A6))
              go_roundw
              case rel => exact ⟨k + 1, k + 1, ⟨inn, 0, false, 0⟩, ev ++ Er.put ((k : Int) + 1) (some (2, [])), by omega, by go_num, by go_num, rfl, rfl, HRN'.out, ⟨fun h => (by cases h), fun _ => (by simp), HOK'.out⟩, HA6.out⟩
              case measure => simp [intOf]; omega
            · have eb : (⟨inn, ones, false, m⟩ : Er).bit false = (⟨inn, 0, false, m + 1⟩, none) := by
                unfold Er.bit Er.count
                rw [if_pos rfl, if_neg (fun h => h6 h.2), if_neg (by exact h128)]
                rfl
              have HRN' := Lib.hid (show erz.run 0 (t.take (k + 1)) = (⟨inn, 0, false, m + 1⟩, ev ++ Er.put ((k : Int) + 1) none) by have h9 := HRN.out; rw [eb] at h9; exact h9)
              have HOK' := Lib.hid (show (⟨inn, 0, false, m + 1⟩ : Er).ok (k + 1 + 6) by have h9 := HOK.out; rw [eb] at h9; exact h9.le (by omega))
              clear eb
              have c128 : ((m : Int) + 1 == 128) = false := beq_eq_false_iff_ne.2 (by omega)
              have HAX := HA
              go_wp2
              go_roundw
              case rel => exact ⟨k + 1, f, ⟨inn, 0, false, m + 1⟩, ev ++ Er.put ((k : Int) + 1) none, by omega, by go_num, by go_num, rfl, rfl, HRN'.out, ⟨fun h => (by cases h), fun _ => (by dsimp only; omega), HOK'.out⟩, (by rw [show ev ++ Er.put ((k : Int) + 1) none = ev from List.append_nil _]; exact HA.out)⟩
              case measure => simp [intOf]; omega
      | true =>
        obtain ⟨hm, hinn⟩ := hon rfl
        have hoo := hoo rfl
        obtain ⟨q, hq⟩ : ∃ q, inn.length = q := ⟨_, rfl⟩
        rw [hq] at hm hoo
        have HQ := Lib.hid hq
        have HINN := Lib.hid hinn
        have hm1 : (k : Int) + 1 - (f : Int) = (q : Int) + 1 := by omega
        clear hon hoff hinn hq
        cases b with
        | true =>
          by_cases h7 : 7 ≤ ones + 1
          · have eb : (⟨inn, ones, true, m⟩ : Er).bit true = (⟨[], ones + 1, false, 0⟩, none) := by
              unfold Er.bit
              rw [if_neg (by simp), if_pos rfl, if_pos h7]
            have HRN' := Lib.hid (show erz.run 0 (t.take (k + 1)) = (⟨[], ones + 1, false, 0⟩, ev ++ Er.put ((k : Int) + 1) none) by have h9 := HRN.out; rw [eb] at h9; exact h9)
            have HOK' := Lib.hid (show (⟨[], ones + 1, false, 0⟩ : Er).ok (k + 1 + 6) by have h9 := HOK.out; rw [eb] at h9; exact h9.le (by omega))
            clear eb
            have c7 : ((ones : Int) + 1 == 7) = true := by rw [beq_iff_eq]; omega
            have HAX := HA
            go_wp2
            go_roundw
            case rel => exact ⟨k + 1, k + 1, ⟨[], ones + 1, false, 0⟩, ev ++ Er.put ((k : Int) + 1) none, by omega, by go_num, by go_num, by go_num, rfl, HRN'.out, ⟨fun h => (by cases h), fun _ => (by simp), HOK'.out⟩, (by rw [show ev ++ Er.put ((k : Int) + 1) none = ev from List.append_nil _]; exact HA.out)⟩
            case measure => simp [intOf]; omega
          · have eb : (⟨inn, ones, true, m⟩ : Er).bit true = (⟨inn ++ [true], ones + 1, true, m⟩, none) := by
              unfold Er.bit
              rw [if_neg (by simp), if_pos rfl, if_neg h7]
            have HRN' := Lib.hid (show erz.run 0 (t.take (k + 1)) = (⟨inn ++ [true], ones + 1, true, m⟩, ev ++ Er.put ((k : Int) + 1) none) by have h9 := HRN.out; rw [eb] at h9; exact h9)
            have HOK' := Lib.hid (show (⟨inn ++ [true], ones + 1, true, m⟩ : Er).ok (k + 1 + 6) by have h9 := HOK.out; rw [eb] at h9; exact h9.le (by omega))
            clear eb
            have c7 : ((ones : Int) + 1 == 7) = false := beq_eq_false_iff_ne.2 (by omega)
            have HAX := HA
            go_wp2
            go_roundw
            case rel => exact ⟨k + 1, f, ⟨inn ++ [true], ones + 1, true, m⟩, ev ++ Er.put ((k : Int) + 1) none, by omega, by go_num, by go_num, by go_num, rfl, HRN'.out, ⟨fun _ => ⟨by have h9 := (GR.out rfl).1; dsimp only at h9 ⊢; rw [List.length_append, List.length_singleton]; exact h9, (GR.out rfl).2⟩, fun h => (by cases h), HOK'.out⟩, (by rw [show ev ++ Er.put ((k : Int) + 1) none = ev from List.append_nil _]; exact HA.out)⟩
            case measure => simp [intOf]; omega
        | false =>
          by_cases h6 : ones = 6
          · have c6 : ((ones : Int) == 6) = true := by rw [beq_iff_eq]; omega
            by_cases h8 : q + 1 ≤ 8
            · have eb : (⟨inn, ones, true, m⟩ : Er).bit false = (⟨[], 0, true, m⟩, none) := by
                unfold Er.bit Er.flag
                rw [if_neg (by simp), if_neg (by simp), if_pos h6]
                dsimp only
                rw [if_pos (by rw [List.length_append, HQ.out]; exact h8)]
              have HRN' := Lib.hid (show erz.run 0 (t.take (k + 1)) = (⟨[], 0, true, m⟩, ev ++ Er.put ((k : Int) + 1) none) by have h9 := HRN.out; rw [eb] at h9; exact h9)
              have HOK' := Lib.hid (show (⟨[], 0, true, m⟩ : Er).ok (k + 1 + 6) by have h9 := HOK.out; rw [eb] at h9; exact h9.le (by omega))
              clear eb
              have c8 : ¬ (8 : Int) < (q : Int) + 1 := by omega
              have HAX := HA
              go_wp2
              go_roundw
              case rel => exact ⟨k + 1, k + 1, ⟨[], 0, true, m⟩, ev ++ Er.put ((k : Int) + 1) none, by omega, by go_num, by go_num, rfl, rfl, HRN'.out, ⟨fun _ => ⟨by simp, by rw [List.drop_eq_nil_of_le (by rw [List.length_take]; omega)]⟩, fun h => (by cases h), HOK'.out⟩, (by rw [show ev ++ Er.put ((k : Int) + 1) none = ev from List.append_nil _]; exact HA.out)⟩
              case measure => simp [intOf]; omega
            · have c8 : (8 : Int) < (q : Int) + 1 := by omega
              obtain ⟨hi, hhi⟩ : ∃ hi, k - 7 = hi := ⟨_, rfl⟩
              have hki : (k : Int) - 7 = (hi : Int) := by omega
              have hw2 : IntKind.i64.wrap (hi : Int) = hi := by simp [IntKind.wrap, IntKind.bits, IntKind.signed]; omega
              have i0 : (0 : Int) ≤ (f : Int) := by omega
              have i1 : (f : Int) ≤ (hi : Int) := by omega
              have i2 : (hi : Int) ≤ (cap : Int) := by omega
              have i3 : f ≤ hi := by omega
              have i4 : hi ≤ cap := by omega
              have i5 : ¬ cap = f := by omega
              have hj : (inn ++ [false]).take ((inn ++ [false]).length - 8) = (t.drop f).take (hi - f) := by
                rw [HINN.out]
                have e1 : (t.take k).drop f = (t.drop f).take (k - f) := by rw [List.drop_take]
                have e2 : ((t.take k).drop f).length = q := by rw [← HINN.out, HQ.out]
                rw [List.length_append, e2, List.length_singleton, List.take_append_of_le_length (by rw [e2]; omega), e1, List.take_take]
                congr 1
                omega
              have hsl : BitV wr (.slice (some ⟨bl, off + f, none⟩) (hi - f) (cap - f)) ((t.drop f).take (hi - f)) := (BitV.sub (H.out.below HA.out.bel) (by omega))
              have hJ := KJudge_c hsl (by rw [List.length_take]; omega)
              rw [← hj] at hJ
              have e8 : ¬ (inn ++ [false]).length ≤ 8 := by rw [List.length_append, HQ.out]; exact h8
              have hfl : (⟨inn, ones, true, m⟩ : Er).bit false = (⟨[], 0, true, m⟩, if (judgeB ((inn ++ [false]).take ((inn ++ [false]).length - 8))).2 = 0 then some (0, (judgeB ((inn ++ [false]).take ((inn ++ [false]).length - 8))).1) else some (1, [])) := by
                unfold Er.bit Er.flag
                rw [if_neg (by simp), if_neg (by simp), if_pos h6]
                dsimp only
                rw [if_neg e8]
              clear hsl hj e8
              generalize judgeB ((inn ++ [false]).take ((inn ++ [false]).length - 8)) = r at hJ hfl
              obtain ⟨p, er⟩ := r
              dsimp only at hJ hfl
              have HJ := Lib.hid hJ
              clear hJ
              by_cases he : er = 0
              · have eb : (⟨inn, ones, true, m⟩ : Er).bit false = (⟨[], 0, true, m⟩, (some (0, p))) := by
                  rw [hfl, if_pos he]
                have HRN' := Lib.hid (show erz.run 0 (t.take (k + 1)) = (⟨[], 0, true, m⟩, ev ++ Er.put ((k : Int) + 1) (some (0, p))) by have h9 := HRN.out; rw [eb] at h9; exact h9)
                have HOK' := Lib.hid (show (⟨[], 0, true, m⟩ : Er).ok (k + 1 + 6) by have h9 := HOK.out; rw [eb] at h9; exact h9.le (by omega))
                clear eb
                have c0 : (er == 0) = true := by simpa using he
                clear hfl
                go_wp2_with (first
                  | ((with_reducible refine HJ.out.mono ?_); rintro e w5 ⟨v5, rfl, A5⟩; (obtain ⟨a5, c5, rfl, _⟩ := A5.byt.1.shape); have HP5 := Lib.hid A5.byt; have HAX := Lib.hid (HA.out.below A5.bel); clear A5)
                  | (at_builtin; refine wpList_heard _ rfl (.tmp 55) (.tmp 60) 100 rfl Tryz.underlying100 rfl (HAX.out.below (bl_alloc (bl_refl _) _)) _ 0 _ p _ rfl (Blk.new _ _ _) (Byt.below HP5.out (bl_alloc (bl_refl _) _)) hll ?_; intro v6 w6 A6; have HA6 := Lib.hid A6; clear A6))
                go_roundw
                case rel => exact ⟨k + 1, k + 1, ⟨[], 0, true, m⟩, ev ++ Er.put ((k : Int) + 1) (some (0, p)), by omega, by go_num, by go_num, rfl, rfl, HRN'.out, ⟨fun _ => ⟨by simp, by rw [List.drop_eq_nil_of_le (by rw [List.length_take]; omega)]⟩, fun h => (by cases h), HOK'.out⟩, HA6.out⟩
                case measure => simp [intOf]; omega
              · have eb : (⟨inn, ones, true, m⟩ : Er).bit false = (⟨[], 0, true, m⟩, (some (1, []))) := by
                  rw [hfl, if_neg he]
                have HRN' := Lib.hid (show erz.run 0 (t.take (k + 1)) = (⟨[], 0, true, m⟩, ev ++ Er.put ((k : Int) + 1) (some (1, []))) by have h9 := HRN.out; rw [eb] at h9; exact h9)
                have HOK' := Lib.hid (show (⟨[], 0, true, m⟩ : Er).ok (k + 1 + 6) by have h9 := HOK.out; rw [eb] at h9; exact h9.le (by omega))
                clear eb
                have c0 : (er == 0) = false := by simpa using he
                clear hfl
                go_wp2_with (first
                  | ((with_reducible refine HJ.out.mono ?_); rintro e w5 ⟨v5, rfl, A5⟩; (obtain ⟨a5, c5, rfl, _⟩ := A5.byt.1.shape); have HP5 := Lib.hid A5.byt; have HAX := Lib.hid (HA.out.below A5.bel); clear A5)
                  | (at_builtin; refine wpList_heard _ rfl (.tmp 62) (.tmp 66) 100 rfl Tryz.underlying100 rfl (HAX.out.below (bl_alloc (bl_refl _) _)) _ 1 (.slice none 0 0) [] _ rfl (Blk.new _ _ _) byt_nil hll ?_; intro v6 w6 A6; have HA6 := Lib.hid A6; clear A6))
                go_roundw
                case rel => exact ⟨k + 1, k + 1, ⟨[], 0, true, m⟩, ev ++ Er.put ((k : Int) + 1) (some (1, [])), by omega, by go_num, by go_num, rfl, rfl, HRN'.out, ⟨fun _ => ⟨by simp, by rw [List.drop_eq_nil_of_le (by rw [List.length_take]; omega)]⟩, fun h => (by cases h), HOK'.out⟩, HA6.out⟩
                case measure => simp [intOf]; omega
          · have c6 : ((ones : Int) == 6) = false := beq_eq_false_iff_ne.2 (by omega)
            by_cases hl2 : 2687 < q + 1
            · have eb : (⟨inn, ones, true, m⟩ : Er).bit false = (⟨[], 0, false, 0⟩, none) := by
                unfold Er.bit
                rw [if_neg (by simp), if_neg (by simp), if_neg h6, if_pos (by rw [HQ.out]; exact hl2)]
              have HRN' := Lib.hid (show erz.run 0 (t.take (k + 1)) = (⟨[], 0, false, 0⟩, ev ++ Er.put ((k : Int) + 1) none) by have h9 := HRN.out; rw [eb] at h9; exact h9)
              have HOK' := Lib.hid (show (⟨[], 0, false, 0⟩ : Er).ok (k + 1 + 6) by have h9 := HOK.out; rw [eb] at h9; exact h9.le (by omega))
              clear eb
              have c2 : (2687 : Int) < (q : Int) + 1 := by omega
              have HAX := HA
              go_wp2
              go_roundw
              case rel => exact ⟨k + 1, k + 1, ⟨[], 0, false, 0⟩, ev ++ Er.put ((k : Int) + 1) none, by omega, by go_num, by go_num, rfl, rfl, HRN'.out, ⟨fun h => (by cases h), fun _ => (by simp), HOK'.out⟩, (by rw [show ev ++ Er.put ((k : Int) + 1) none = ev from List.append_nil _]; exact HA.out)⟩
              case measure => simp [intOf]; omega
            · have eb : (⟨inn, ones, true, m⟩ : Er).bit false = (⟨inn ++ [false], 0, true, m⟩, none) := by
                unfold Er.bit
                rw [if_neg (by simp), if_neg (by simp), if_neg h6, if_neg (by rw [HQ.out]; exact hl2)]
              have HRN' := Lib.hid (show erz.run 0 (t.take (k + 1)) = (⟨inn ++ [false], 0, true, m⟩, ev ++ Er.put ((k : Int) + 1) none) by have h9 := HRN.out; rw [eb] at h9; exact h9)
              have HOK' := Lib.hid (show (⟨inn ++ [false], 0, true, m⟩ : Er).ok (k + 1 + 6) by have h9 := HOK.out; rw [eb] at h9; exact h9.le (by omega))
              clear eb
              have c2 : ¬ (2687 : Int) < (q : Int) + 1 := by omega
              have HAX := HA
              go_wp2
              go_roundw
              case rel => exact ⟨k + 1, f, ⟨inn ++ [false], 0, true, m⟩, ev ++ Er.put ((k : Int) + 1) none, by omega, by go_num, by go_num, rfl, rfl, HRN'.out, ⟨fun _ => ⟨by have h9 := (GR.out rfl).1; dsimp only at h9 ⊢; rw [List.length_append, List.length_singleton]; exact h9, (GR.out rfl).2⟩, fun h => (by cases h), HOK'.out⟩, (by rw [show ev ++ Er.put ((k : Int) + 1) none = ev from List.append_nil _]; exact HA.out)⟩
              case measure => simp [intOf]; omega
    · obtain rfl : k = n := by omega
      have kk : ¬ (k : Int) < k := by omega
      rw [List.take_of_length_le (by rw [HN.out]; exact Nat.le_refl _)] at hrun
      go_wp2
      go_ret2
      exact ⟨_, rfl, HA.out⟩
end
end Go.Proofs.YtdffinnnjcgfcaaGreatK
