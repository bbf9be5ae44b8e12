/- The walk of FetchAgain. -/
import Derived.Test.YtdffinnnjcgfcaaGreatFe7
namespace Go.Proofs.YtdffinnnjcgfcaaGreatK
open Go Go.RowKit
set_option linter.unusedVariables false
set_option maxHeartbeats 4000000
set_option maxRecDepth 100000
theorem FetchAgain_c (cyc : Bool) (put send : Int) (w : World) (hp : 0 ≤ put ∧ put ≤ 255) (hs : 0 ≤ send ∧ send ≤ 255) :
    Calls Tryz.prog 17 #[.bool cyc, .int .u8 put, .int .u8 send] w fun e w' => e = .returned (.bool true) ∧ Below w.heap.size w w' := by
  have HA := Lib.hid (fun w => awake18_c w)
  have HS := Lib.hid (fun w => serving18_c cyc put send 0 0 w hp hs (by decide) (by decide))
  have hmB := mB_Hold
  have hmC := mC_Hold
  go_enter Tryz.func17, Tryz.ntmps17
  go_upto_region 4 with (first
    | ((with_reducible refine (HA.out _).mono ?_); rintro e w1 ⟨rfl, hb1⟩; have HB1 := Lib.hid hb1; clear hb1)
    | ((with_reducible refine (HS.out _).mono ?_); rintro e w2 ⟨b, v, x, l, f, t, rfl, V0⟩))
  have f0 := V0.f0.1
  have f12 := V0.f0.2
  have len := V0.len
  have OD := Lib.hid (V0.m.order0 2 (by decide))
  have RK := V0.s.rest ⟨f0, by omega⟩ (by omega) 0 (by omega)
  rw [Int.ofNat_zero, Int.add_zero, List.drop_zero] at RK
  obtain ⟨z1, z2, z3, z4⟩ := V0.s.stop
  have ff := V0.s.first
  rw [← z3] at RK ff
  have MSG := V0.m.msg
  obtain ⟨al, cl, rfl, hcl⟩ := MSG.shape
  clear V0 MSG z1 z3 z4
  generalize (x.order 2 []).1 = y at z2 RK OD ff
  obtain ⟨n1, n2, n3, n4, n5⟩ := St.anew y z2
  have YS := Lib.hid z2
  have Yk := Lib.hid RK
  have Yf := Lib.hid ff
  have N1 := Lib.hid n1
  have N3 := Lib.hid n3
  have N4 := Lib.hid n4
  have N5 := Lib.hid n5
  clear z2 RK ff n1 n2 n3 n4 n5
  go_upto_region 5 with (first
    | ((with_reducible refine OD.out.mono ?_); rintro e w5 ⟨rfl, M5, _⟩; have Y := Lib.hid M5; clear M5))
  obtain ⟨bw, bh, vs, vn, c17, hwy, hho⟩ := Y.out.lk.hold
  obtain ⟨y9, hy9⟩ : ∃ y9, y.w = y9 := ⟨_, rfl⟩
  rw [hy9] at c17 hwy
  have hf1 := HFirst_c hho
  rw [Yf.out] at hf1
  have HF := Lib.hid hf1
  have HW := Lib.hid hwy
  have HM := Lib.hid (fun (w7 : World) (b7 : Below w5.heap.size w5 w7) => Yk.out ▸ Messages_c (w := w7) (Y.out.lk.below b7) YS.out ((f + 127) % 128) (by omega) (by omega))
  clear hwy hho hf1 hy9
  cases y9 with
  | bs q =>
    simp only [Wy.v] at c17
    go_upto_region 6 with (first
      | ((with_reducible refine (BHold_c HW.out).mono ?_); rintro e w6 ⟨rfl, rfl⟩)
      | ((with_reducible refine HF.out.mono ?_); rintro e w6 ⟨rfl, rfl⟩))
    clear HW HF c17
    have HM1 := Lib.hid (HM.out w5 (bl_refl w5))
    go_upto_region 8 with (first
      | ((with_reducible refine HM1.out.mono ?_); rintro e w6 ⟨va, rfl, m6, b6, _⟩; have Ma := Lib.hid m6; have B6 := Lib.hid b6; have HM2 := Lib.hid (HM.out w6 b6); clear m6 b6)
      | ((with_reducible refine HM2.out.mono ?_); rintro e w7 ⟨vb, rfl, m7, b7, _⟩; have Ma7 := Lib.hid (Msgs.below Ma.out b7); have Mb := Lib.hid m7; have B7 := Lib.hid (bl_then B6.out b7); have S1 := Lib.hid (SameAll_c (Msgs.below Ma.out b7) (Y.out.below (bl_then B6.out b7)).msg (by omega)); clear m7 b7))
    go_wp2_with (first
      | ((with_reducible refine S1.out.mono ?_); rintro e w8 ⟨rfl, b8⟩; have S2 := Lib.hid (SameAll_c (Msgs.below Ma7.out b8) (Msgs.below Mb.out b8) (by omega)); have B8 := Lib.hid (bl_then B7.out b8); clear b8)
      | ((with_reducible refine S2.out.mono ?_); rintro e w9 ⟨rfl, b9⟩; have O1 := Lib.hid ((Y.out.below (bl_then B8.out b9)).order0 1 (by decide)); clear b9)
      | ((with_reducible refine O1.out.mono ?_); rintro e w10 ⟨rfl, m10, _⟩; have O2 := Lib.hid (m10.order0 2 (by decide)); clear m10)
      | ((with_reducible refine O2.out.mono ?_); rintro e w11 ⟨rfl, m11, _⟩; have hc := Messages_c m11.lk N4.out 127 (by decide) (by decide); (rw [N5.out] at hc); have HC := Lib.hid hc; have B11 := Lib.hid m11.lk.v.bel; clear m11 hc)
      | ((with_reducible refine HC.out.mono ?_); rintro e w12 ⟨vc, rfl, m12, b12, _⟩; obtain ⟨ac, cc, rfl, _⟩ := m12.shape; have B12 := Lib.hid (bl_then B11.out b12); clear m12 b12))
    go_ret
    exact ⟨rfl, bl_then HB1.out B12.out⟩
  | cy q =>
    simp only [Wy.v] at c17
    go_upto_region 6 with (first
      | ((with_reducible refine (CHold_c HW.out).mono ?_); rintro e w6 ⟨rfl, rfl⟩)
      | ((with_reducible refine HF.out.mono ?_); rintro e w6 ⟨rfl, rfl⟩))
    clear HW HF c17
    have HM1 := Lib.hid (HM.out w5 (bl_refl w5))
    go_upto_region 8 with (first
      | ((with_reducible refine HM1.out.mono ?_); rintro e w6 ⟨va, rfl, m6, b6, _⟩; have Ma := Lib.hid m6; have B6 := Lib.hid b6; have HM2 := Lib.hid (HM.out w6 b6); clear m6 b6)
      | ((with_reducible refine HM2.out.mono ?_); rintro e w7 ⟨vb, rfl, m7, b7, _⟩; have Ma7 := Lib.hid (Msgs.below Ma.out b7); have Mb := Lib.hid m7; have B7 := Lib.hid (bl_then B6.out b7); have S1 := Lib.hid (SameAll_c (Msgs.below Ma.out b7) (Y.out.below (bl_then B6.out b7)).msg (by omega)); clear m7 b7))
    go_wp2_with (first
      | ((with_reducible refine S1.out.mono ?_); rintro e w8 ⟨rfl, b8⟩; have S2 := Lib.hid (SameAll_c (Msgs.below Ma7.out b8) (Msgs.below Mb.out b8) (by omega)); have B8 := Lib.hid (bl_then B7.out b8); clear b8)
      | ((with_reducible refine S2.out.mono ?_); rintro e w9 ⟨rfl, b9⟩; have O1 := Lib.hid ((Y.out.below (bl_then B8.out b9)).order0 1 (by decide)); clear b9)
      | ((with_reducible refine O1.out.mono ?_); rintro e w10 ⟨rfl, m10, _⟩; have O2 := Lib.hid (m10.order0 2 (by decide)); clear m10)
      | ((with_reducible refine O2.out.mono ?_); rintro e w11 ⟨rfl, m11, _⟩; have hc := Messages_c m11.lk N4.out 127 (by decide) (by decide); (rw [N5.out] at hc); have HC := Lib.hid hc; have B11 := Lib.hid m11.lk.v.bel; clear m11 hc)
      | ((with_reducible refine HC.out.mono ?_); rintro e w12 ⟨vc, rfl, m12, b12, _⟩; obtain ⟨ac, cc, rfl, _⟩ := m12.shape; have B12 := Lib.hid (bl_then B11.out b12); clear m12 b12))
    go_ret
    exact ⟨rfl, bl_then HB1.out B12.out⟩
theorem FetchAgain_w (cyc : Bool) (put send : Int) (w : World) (put0 : 0 ≤ put) (put1 : put ≤ 255) (send0 : 0 ≤ send) (send1 : send ≤ 255) :
    Calls Tryz.prog 17 #[.bool cyc, .int .u8 put, .int .u8 send] w fun e w' => e = .returned (.bool true) ∧ Below w.heap.size w w' :=
  FetchAgain_c cyc put send w ⟨put0, put1⟩ ⟨send0, send1⟩
end Go.Proofs.YtdffinnnjcgfcaaGreatK
