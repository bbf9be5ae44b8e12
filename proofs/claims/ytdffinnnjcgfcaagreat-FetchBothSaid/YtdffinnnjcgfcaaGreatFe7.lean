/- The walks of layer 18's awake and FetchNil. -/
import Derived.Test.YtdffinnnjcgfcaaGreatFe4
import Derived.Test.YtdffinnnjcgfcaaGreatFe5
import Derived.Test.YtdffinnnjcgfcaaGreatFe6
namespace Go.Proofs.YtdffinnnjcgfcaaGreatK
open Go Go.RowKit
set_option linter.unusedVariables false
set_option maxHeartbeats 2000000
set_option maxRecDepth 100000
theorem bornU_out (c : Bool) : (bornU c).S = 0 ∧ (bornU c).w.last = 127 ∧ (bornU c).h.rest 127 = ([], 0) := by cases c <;> exact ⟨rfl, rfl, by decide⟩
theorem awake18_c (w : World) : Calls Tryz.prog 46 #[] w fun e w' => e = .returned (.bool true) ∧ Below w.heap.size w w' := by
  have HU0 := Lib.hid (fun w => Usual_c false w)
  have HU1 := Lib.hid (fun w => Usual_c true w)
  have HS := Lib.hid (fun w => serving18_c false 3 1 0 0 w (by decide) (by decide) (by decide) (by decide))
  have O0 := bornU_out false
  have O1 := bornU_out true
  go_enter Tryz.func46, Tryz.ntmps46
  go_wp2_with (first
    | ((with_reducible refine (HU0.out _).mono ?_); rintro e w1 ⟨rfl, hb1⟩; have HB1 := Lib.hid hb1; clear hb1)
    | ((with_reducible refine (HU1.out _).mono ?_); rintro e w3 ⟨rfl, hb3⟩; have HB3 := Lib.hid (bl_then V.out.v.bel hb3); have Va := Lib.hid (V.out.below hb3); clear hb3)
    | ((with_reducible refine (NewU_c false _).mono ?_); rintro e w2 ⟨b, rfl, V0⟩; have V := Lib.hid (V0.base HB1.out); clear V0)
    | ((with_reducible refine (NewU_c true _).mono ?_); rintro e w4 ⟨b2, rfl, V0⟩; have Vb := Lib.hid V0; have Vc := Lib.hid (Va.out.below V0.v.bel); have HB4 := Lib.hid (bl_then HB3.out V0.v.bel); have HC := Lib.hid (Change_c Vc.out O0.1 Vb.out O1.1 (by rw [O0.2.1]; decide) (by rw [O1.2.1]; decide)); clear V0)
    | ((with_reducible refine HC.out.mono ?_); rintro e w5 ⟨B5, h5⟩; (rw [O0.2.1, O1.2.1, O0.2.2, O1.2.2, if_pos ⟨rfl, rfl⟩] at h5); obtain ⟨v1, v2, rfl, M1, M2⟩ := h5; obtain ⟨a1, c1, rfl, _⟩ := M1.shape; obtain ⟨a2, c2, rfl, _⟩ := M2.shape; have HB5 := Lib.hid (bl_then HB4.out B5); have HN := Lib.hid (O0.2.1 ▸ BSNT_c (Vc.out.below B5) O0.1); clear M1 M2 B5)
    | ((with_reducible refine HN.out.mono ?_); rintro e w6 ⟨rfl, rfl⟩)
    | ((with_reducible refine (HS.out _).mono ?_); rintro e w7 ⟨b7, v7, x7, l7, f7, t7, rfl, V7⟩; (have c7 := V7.m.lk.S); (rw [V7.s.S] at c7); (have HB7 := Lib.hid (bl_then HB5.out V7.m.lk.v.bel)); clear V7))
  go_ret
  exact ⟨rfl, HB7.out⟩
theorem FetchNil_c (cyc : Bool) (n : Int) (w : World) (n0 : 0 ≤ n) (n1 : n ≤ 255) : Calls Tryz.prog 15 #[.bool cyc, .int .u8 n] w fun e w' => e = .returned (.bool true) ∧ Below w.heap.size w w' := by
  have HA := Lib.hid (fun w => awake18_c w)
  have HU := Lib.hid (fun w => Usual_c cyc w)
  have HS := Lib.hid (fun w => serving18_c cyc 2 1 0 0 w (by decide) (by decide) (by decide) (by decide))
  have HB := Lib.hid (fun w => BSNT_nil w)
  have HM := Lib.hid (fun w => Messages_nil n w)
  have O0 := bornU_out cyc
  go_enter Tryz.func15, Tryz.ntmps15
  go_wp2_with (first
    | ((with_reducible refine (HA.out _).mono ?_); rintro e w1 ⟨rfl, hb1⟩; have HB1 := Lib.hid hb1; clear hb1)
    | ((with_reducible refine (HS.out _).mono ?_); rintro e w2 ⟨b, v, x, l, f, t, rfl, V0⟩; have V := Lib.hid V0.m.lk; have S4 := Lib.hid V0.s.S; clear V0)
    | ((with_reducible refine (HU.out _).mono ?_); rintro e w3 ⟨rfl, hb3⟩; have V3 := Lib.hid (V.out.below hb3); clear hb3)
    | ((with_reducible refine (NewU_c cyc _).mono ?_); rintro e w4 ⟨b2, rfl, V0⟩; have Va := Lib.hid V0; have Vx := Lib.hid (V3.out.below V0.v.bel); have HC := Lib.hid (Change_nil V0 O0.1); have HD := Lib.hid (Change_on V0 O0.1 Vx.out (by rw [S4.out]; decide)); clear V0)
    | ((with_reducible refine (HB.out _).mono ?_); rintro e w5 ⟨rfl, rfl⟩)
    | ((with_reducible refine (HM.out _).mono ?_); rintro e w6 ⟨rfl, rfl⟩)
    | ((with_reducible refine HC.out.mono ?_); rintro e w7 ⟨rfl, rfl⟩)
    | ((with_reducible refine HD.out.mono ?_); rintro e w8 ⟨rfl, rfl⟩))
  go_ret
  exact ⟨rfl, bl_then HB1.out Vx.out.v.bel⟩
end Go.Proofs.YtdffinnnjcgfcaaGreatK
