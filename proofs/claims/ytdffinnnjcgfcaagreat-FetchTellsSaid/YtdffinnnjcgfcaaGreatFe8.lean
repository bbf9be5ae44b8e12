/- The walk of FetchTells. -/
import Derived.Test.YtdffinnnjcgfcaaGreatFe7
namespace Go.Proofs.YtdffinnnjcgfcaaGreatK
open Go Go.RowKit
set_option linter.unusedVariables false
set_option maxHeartbeats 4000000
set_option maxRecDepth 100000
theorem FetchTells_c (cyc : Bool) (put send ans take behind : Int) (w : World) (hp : 0 ≤ put ∧ put ≤ 255) (hs : 0 ≤ send ∧ send ≤ 255) (ha : 0 ≤ ans ∧ ans ≤ 255) (ht : 0 ≤ take ∧ take ≤ 255) (hb : 0 ≤ behind ∧ behind ≤ 255) :
    Calls Tryz.prog 16 #[.bool cyc, .int .u8 put, .int .u8 send, .int .u8 ans, .int .u8 take, .int .u8 behind] w fun e w' => e = .returned (.bool true) ∧ Below w.heap.size w w' := by
  have HA := Lib.hid (fun w => awake18_c w)
  have HS := Lib.hid (fun w => serving18_c cyc put send ans take w hp hs ha ht)
  have hmB := mB_Hold
  have hmC := mC_Hold
  go_enter Tryz.func16, Tryz.ntmps16
  go_upto_region 4 with (first
    | ((with_reducible refine (HA.out _).mono ?_); rintro e w1 ⟨rfl, hb1⟩; have HB1 := Lib.hid hb1; clear hb1)
    | ((with_reducible refine (HS.out _).mono ?_); rintro e w2 ⟨b, v, x, l, f, t, rfl, V0⟩))
  obtain ⟨tn, htn⟩ : ∃ tn : Nat, (take % 9).toNat = tn := ⟨_, rfl⟩
  have S4 := V0.s.S
  have f0 := V0.f0.1
  have f12 := V0.f0.2
  have ht9 : take % 9 = tn := by omega
  have tn8 : tn ≤ 8 := by omega
  have e0 := V0.t
  rw [htn] at e0
  have len := V0.len
  have BN := Lib.hid (BSNT_on V0.m.lk (by rw [S4]; decide))
  have MO := Lib.hid (Messages_on V0.m.lk (by rw [S4]; decide) 0)
  have OD := Lib.hid (V0.m.order0 2 (by decide))
  obtain ⟨s, hs⟩ : ∃ s, x.h.sent.length = s := ⟨_, rfl⟩
  have sl := V0.s.len
  rw [hs] at sl
  obtain ⟨k, hk⟩ : ∃ k : Nat, behind % ((s : Int) + 1) = k := ⟨(behind % ((s : Int) + 1)).toNat, by have := Int.emod_nonneg behind (show (s : Int) + 1 ≠ 0 by omega); omega⟩
  have hk1 : k ≤ s := by have := Int.emod_lt_of_pos behind (show (0 : Int) < (s : Int) + 1 by omega); omega
  have RK := V0.s.rest ⟨f0, by omega⟩ (by omega) k (by omega)
  have RB := V0.s.rest_bad ⟨f0, by omega⟩ (by omega)
  rw [hs] at RB
  obtain ⟨z1, z2, z3, z4⟩ := V0.s.stop
  have ff := V0.s.first
  rw [← z3] at RK RB hs ff
  have kl : k ≤ l.length := by omega
  have MSG := V0.m.msg
  obtain ⟨al, cl, rfl, hcl⟩ := MSG.shape
  clear htn V0 S4 MSG
  generalize (x.order 2 []).1 = y at z2 z3 z4 RK RB OD hs ff
  clear z1 z3
  have YS := Lib.hid z2
  have Yt := Lib.hid z4
  have Yk := Lib.hid RK
  have Yb := Lib.hid RB
  have Ys := Lib.hid hs
  have Yf := Lib.hid ff
  clear z2 z4 RK RB hs ff
  have hs1 : ((s : Int) + 1 == 0) = false := beq_eq_false_iff_ne.2 (by omega)
  go_upto_region 8 with (first
    | ((with_reducible refine BN.out.mono ?_); rintro e w3 ⟨rfl, rfl⟩)
    | ((with_reducible refine MO.out.mono ?_); rintro e w4 ⟨rfl, rfl⟩)
    | ((with_reducible refine OD.out.mono ?_); rintro e w5 ⟨rfl, M5, _⟩; have Y := Lib.hid M5; have BQ := Lib.hid (Yt.out ▸ BSNT_c M5.lk YS.out); clear M5)
    | ((with_reducible refine BQ.out.mono ?_); rintro e w6 ⟨rfl, rfl⟩))
  obtain ⟨bw, bh, vs, vn, c17, hwy, hho⟩ := Y.out.lk.hold
  obtain ⟨y9, hy9⟩ : ∃ y9, y.w = y9 := ⟨_, rfl⟩
  rw [hy9] at c17 hwy
  have hf1 := HFirst_c hho
  rw [Yf.out] at hf1
  have hn1 := HSent_c hho
  rw [Ys.out] at hn1
  have HF := Lib.hid hf1
  have HN := Lib.hid hn1
  have HO := Lib.hid hho
  have HW := Lib.hid hwy
  have hm1 := Messages_c Y.out.lk YS.out ((f + 127 + k) % 128) (by omega) (by omega)
  rw [Yk.out] at hm1
  have HM := Lib.hid hm1
  have HM2 := Lib.hid (fun (w7 : World) (b7 : Below w5.heap.size w5 w7) => Messages_c (w := w7) (Y.out.lk.below b7) YS.out ((f + 127 + s + 1) % 128) (by omega) (by omega))
  clear hwy hho hf1 hn1 hm1 hy9
  have k255 : (k : Int) ≤ 12 := by omega
  have s12 : (s : Int) ≤ 12 := by omega
  cases y9 with
  | bs q =>
    simp only [Wy.v] at c17
    go_wp2_with (first
      | ((with_reducible refine (BHold_c HW.out).mono ?_); rintro e w6 ⟨rfl, rfl⟩)
      | ((with_reducible refine HF.out.mono ?_); rintro e w6 ⟨rfl, rfl⟩)
      | ((with_reducible refine HN.out.mono ?_); rintro e w6 ⟨rfl, rfl⟩)
      | ((with_reducible refine HM.out.mono ?_); rintro e w7 ⟨m, rfl, m7, b7, _⟩; have M7 := Lib.hid m7; have B7 := Lib.hid b7; have c17b := below_cell b7 c17; have HW7 := Lib.hid (HW.out.below b7); have hn7 := HSent_c (HO.out.below b7); (rw [Ys.out] at hn7); have HN7 := Lib.hid hn7; have hm2 := HM2.out w7 b7; (rw [Yb.out] at hm2); have HB := Lib.hid hm2; clear m7 b7 hn7 hm2)
      | ((with_reducible refine (BHold_c HW7.out).mono ?_); rintro e w6 ⟨rfl, rfl⟩)
      | ((with_reducible refine HN7.out.mono ?_); rintro e w6 ⟨rfl, rfl⟩)
      | ((with_reducible refine HB.out.mono ?_); rintro e w8 ⟨m2, rfl, _, b8, _⟩; have M8 := Lib.hid (Msgs.below M7.out b8); have B8 := Lib.hid (bl_then B7.out b8); have C8 := Lib.hid ((Y.out.below (bl_then B7.out b8)).msg.cut k (by omega)); clear b8)
      | ((with_reducible refine (SameAll_c M8.out (by have h := C8.out; first | exact h | (rw [if_neg (by assumption)] at h; exact h) | (rw [if_pos (by assumption)] at h; exact h)) (by rw [List.length_drop]; omega)).mono ?_); rintro e w9 ⟨rfl, b9⟩; have B9 := Lib.hid (bl_then B8.out b9); clear b9))
    all_goals
      go_ret
      exact ⟨rfl, bl_then HB1.out (bl_then Y.out.lk.v.bel B9.out)⟩
  | cy q =>
    simp only [Wy.v] at c17
    go_wp2_with (first
      | ((with_reducible refine (CHold_c HW.out).mono ?_); rintro e w6 ⟨rfl, rfl⟩)
      | ((with_reducible refine HF.out.mono ?_); rintro e w6 ⟨rfl, rfl⟩)
      | ((with_reducible refine HN.out.mono ?_); rintro e w6 ⟨rfl, rfl⟩)
      | ((with_reducible refine HM.out.mono ?_); rintro e w7 ⟨m, rfl, m7, b7, _⟩; have M7 := Lib.hid m7; have B7 := Lib.hid b7; have c17b := below_cell b7 c17; have HW7 := Lib.hid (HW.out.below b7); have hn7 := HSent_c (HO.out.below b7); (rw [Ys.out] at hn7); have HN7 := Lib.hid hn7; have hm2 := HM2.out w7 b7; (rw [Yb.out] at hm2); have HB := Lib.hid hm2; clear m7 b7 hn7 hm2)
      | ((with_reducible refine (CHold_c HW7.out).mono ?_); rintro e w6 ⟨rfl, rfl⟩)
      | ((with_reducible refine HN7.out.mono ?_); rintro e w6 ⟨rfl, rfl⟩)
      | ((with_reducible refine HB.out.mono ?_); rintro e w8 ⟨m2, rfl, _, b8, _⟩; have M8 := Lib.hid (Msgs.below M7.out b8); have B8 := Lib.hid (bl_then B7.out b8); have C8 := Lib.hid ((Y.out.below (bl_then B7.out b8)).msg.cut k (by omega)); clear b8)
      | ((with_reducible refine (SameAll_c M8.out (by have h := C8.out; first | exact h | (rw [if_neg (by assumption)] at h; exact h) | (rw [if_pos (by assumption)] at h; exact h)) (by rw [List.length_drop]; omega)).mono ?_); rintro e w9 ⟨rfl, b9⟩; have B9 := Lib.hid (bl_then B8.out b9); clear b9))
    all_goals
      go_ret
      exact ⟨rfl, bl_then HB1.out (bl_then Y.out.lk.v.bel B9.out)⟩
theorem FetchTells_w (cyc : Bool) (put send ans take behind : Int) (w : World) (put0 : 0 ≤ put) (put1 : put ≤ 255) (send0 : 0 ≤ send) (send1 : send ≤ 255) (ans0 : 0 ≤ ans) (ans1 : ans ≤ 255) (take0 : 0 ≤ take) (take1 : take ≤ 255) (behind0 : 0 ≤ behind) (behind1 : behind ≤ 255) :
    Calls Tryz.prog 16 #[.bool cyc, .int .u8 put, .int .u8 send, .int .u8 ans, .int .u8 take, .int .u8 behind] w fun e w' => e = .returned (.bool true) ∧ Below w.heap.size w w' :=
  FetchTells_c cyc put send ans take behind w ⟨put0, put1⟩ ⟨send0, send1⟩ ⟨ans0, ans1⟩ ⟨take0, take1⟩ ⟨behind0, behind1⟩
end Go.Proofs.YtdffinnnjcgfcaaGreatK
