/- StateUnfit: answers that may be none, twice among three, end a link; one alone doesn't. -/
import Derived.Test.YtdffinnnjcgfcaaGreatLw2
namespace Go.Proofs.YtdffinnnjcgfcaaGreatK
open Go Go.RowKit
set_option linter.unusedVariables false
set_option maxHeartbeats 1000000
set_option maxRecDepth 100000
def unfitB (c : Bool) (b k : Nat) : Bool :=
  decide (((served c).hear (unB b)).S = 4) && (if 2 ≤ k then decide (((((served c).hear (unB b)).hears fl k).hear (unB b)).S = 4)
    else decide (((((served c).hear (unB b)).hears fl k).hear (unB b)).S = 0) && decide (((((served c).hear (unB b)).hears fl k).hear (unB b)).told = [⟨2, 4, []⟩]))
theorem unfit_all : ((List.range 127).all fun b => (List.range 4).all fun k => unfitB false b k && unfitB true b k) = true := by kernel_rfl
theorem unfit_at (c : Bool) {b k : Nat} (hb : b < 127) (hk : k < 4) : unfitB c b k = true := by
  have h := List.all_eq_true.1 (List.all_eq_true.1 unfit_all b (List.mem_range.2 hb)) k (List.mem_range.2 hk)
  simp only [Bool.and_eq_true] at h
  cases c
  · exact h.1
  · exact h.2
theorem stateUnfit_walk (a0 : Bool) (a1 a2 : Int) (w : World) (p1 : 0 ≤ a1) (q1 : a1 ≤ 255) (p2 : 0 ≤ a2) (q2 : a2 ≤ 255) :
    Calls Tryz.prog 8 #[.bool a0, .int .u8 a1, .int .u8 a2] w fun e w' => e = .returned (.bool true) ∧ Below w.heap.size w w' := by
  obtain ⟨nb, hnb⟩ : ∃ nb : Nat, a1 % 127 = nb := ⟨(a1 % 127).toNat, by omega⟩
  obtain ⟨nk, hnk⟩ : ∃ nk : Nat, a2 % 4 = nk := ⟨(a2 % 4).toNat, by omega⟩
  have hb : nb < 127 := by omega
  have hk : nk < 4 := by omega
  have fa := unfit_at a0 hb hk
  unfold unfitB at fa
  rw [Bool.and_eq_true, decide_eq_true_eq] at fa
  obtain ⟨f1, f2⟩ := fa
  have HA := Lib.hid awake_c
  have HS := Lib.hid (serving_c a0)
  have HFL := Lib.hid fill_c
  have of := Lib.hid Un.ok_fl
  have ou : (unB nb).ok := ⟨by simp only; omega, by simp, by simp, by simp, by simp⟩
  have OU := Lib.hid ou
  generalize hx1 : (served a0).hear (unB nb) = x1 at f1 f2
  have X1 := Lib.hid hx1
  have F1 := Lib.hid f1
  have F2 := Lib.hid f2
  clear ou hx1 f1 f2
  go_enter Tryz.func8, Tryz.ntmps8
  go_wp2_with (first
    | ((with_reducible refine (HA.out _).mono ?_); rintro e w1 ⟨rfl, hb1⟩)
    | ((with_reducible refine (HS.out _).mono ?_); rintro e w2 ⟨b, rfl, V0⟩; have V := Lib.hid (V0.base hb1); clear V0)
    | ((with_reducible refine (HFL.out _).mono ?_); rintro e w3 ⟨rfl, hb3⟩; (have Va := Lib.hid ((V.out.below hb3).below (bl_alloc (bl_refl w3) (.cells #[.int .u8 nb, .int .u8 127, .bool true, .bool true, .int .u8 0, .int .u8 0, .bool false, nil0] 31)))); (have N := Lib.hid (Blk.new w3 #[.int .u8 nb, .int .u8 127, .bool true, .bool true, .int .u8 0, .int .u8 0, .bool false, nil0] 31)); (have nc := N.out.c))
    | ((with_reducible refine (Va.out.hear0 (unB nb) (by decide) OU.out rfl).mono ?_); rintro e w4 ⟨rfl, V1, K1⟩; (rw [X1.out] at V1); (have c4 := V1.v.S); (rw [F1.out] at c4); have Vb := Lib.hid V1; (have Nb := Lib.hid (K1.blk N.out (by decide))); clear V1 K1))
  go_loopw [10] (fun i wr => ∃ k : Nat, k ≤ nk ∧ i = .int .i64 k ∧ Lk w wr b (x1.hears fl k) (206 + 6 * k) ∧ Blk wr w3.heap.size #[.int .u8 nb, .int .u8 127, .bool true, .bool true, .int .u8 0, .int .u8 0, .bool false, nil0] 31) (fun i _ => nk - (intOf i).toNat)
  case atStart => exact ⟨0, by omega, rfl, Vb.out, Nb.out⟩
  case round =>
    obtain ⟨k, hkk, rfl, V9, N9⟩ := hrel
    have V := Lib.hid V9
    have Nc := Lib.hid N9
    have n9c := N9.c
    clear V9 N9
    by_cases hlt : k < nk
    · have hlt' : (k : Int) < nk := by omega
      go_wp2_with (first
        | ((with_reducible refine (HFL.out _).mono ?_); rintro e w5 ⟨rfl, hb5⟩; (have Vc := Lib.hid (V.out.below hb5)); (have HT := Lib.hid (Vc.out.hear0 fl (by omega) of.out rfl)); (have Nd := Lib.hid (Nc.out.below hb5)))
        | ((with_reducible refine HT.out.mono ?_); rintro e w6 ⟨rfl, V1, K1⟩; have Vd := Lib.hid V1; have Ne := Lib.hid (K1.blk Nd.out (by decide)); clear V1 K1))
      go_roundw
      case rel => exact ⟨k + 1, by omega, by go_num, ⟨Vd.out.v, Vd.out.k, Vd.out.f.le (by omega)⟩, Ne.out⟩
      case measure => simp [intOf]; omega
    · obtain rfl : k = nk := by omega
      obtain ⟨x2, hx2⟩ : ∃ x2, (x1.hears fl k).hear (unB nb) = x2 := ⟨_, rfl⟩
      have f2 := F2.out
      rw [hx2] at f2
      have X2 := Lib.hid hx2
      have HT := Lib.hid (V.out.hear0 (unB nb) (by omega) OU.out rfl)
      clear hx2
      by_cases k2 : 2 ≤ k
      · rw [if_pos k2, decide_eq_true_eq] at f2
        have F3 := Lib.hid f2
        have k2' : (2 : Int) ≤ k := by omega
        clear f2
        go_wp2_with (first
          | ((with_reducible refine HT.out.mono ?_); rintro e w6 ⟨rfl, V1, K1⟩; (rw [X2.out] at V1); (have c6 := V1.v.S); (rw [F3.out] at c6); have Vd := Lib.hid V1; clear V1 K1))
        go_ret
        exact ⟨rfl, Vd.out.v.bel⟩
      · rw [if_neg k2, Bool.and_eq_true, decide_eq_true_eq, decide_eq_true_eq] at f2
        have F3 := Lib.hid f2
        have K2D := Lib.hid (show decide ((2 : Int) ≤ (k : Int)) = false from decide_eq_false (by omega))
        clear f2
        go_upto_if 43 with (first
          | ((with_reducible refine HT.out.mono ?_); rintro e w6 ⟨rfl, V1, K1⟩; (rw [X2.out] at V1); have Vd := Lib.hid V1; clear V1 K1))
        rw [K2D.out]
        go_wp2_with (first
          | ((with_reducible refine Vd.out.told.mono ?_); rintro e w7 ⟨vt, rfl, K2, V1, _⟩; (have c6 := V1.v.S); dsimp only at c6; (rw [F3.out.1] at c6); (rw [F3.out.2] at K2); (obtain ⟨bl, off, cap, rfl, t0, t1, _⟩ := K2.one); (have Ve := Lib.hid V1); clear V1 K2))
        go_ret
        exact ⟨rfl, Ve.out.v.bel⟩
end Go.Proofs.YtdffinnnjcgfcaaGreatK
