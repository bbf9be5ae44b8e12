/- The walks of the laws LimitNumbers and LimitGrows: each returns true, whatever its arguments. -/
import Derived.Test.YtclfmhajloblgaaLaws
namespace Go.Proofs.Ytclfmhajloblgaa
open Go.RowKit Go.Proofs.YtclfmhajloblgaaK
set_option maxHeartbeats 1000000
set_option maxRecDepth 100000

theorem num_0000 (d g m o : Int) (w : World) (hd0 : -32768 ≤ d) (hd1 : d ≤ 32767) (hg0 : -32768 ≤ g) (hg1 : g ≤ 32767) (hm0 : -32768 ≤ m) (hm1 : m ≤ 32767) (ho0 : -32768 ≤ o) (ho1 : o ≤ 32767)
    (cg : ¬ (g < 0)) (cm : ¬ (m < 0)) (co : ¬ (o < 0)) :
    Calls Try.prog 4 #[.bool false, .int .i16 d, .int .i16 g, .int .i16 m, .int .i16 o] w fun e w' => e = .returned (.bool true) ∧ Below w.heap.size w w' := by
  have HB := bl_refl w
  have wb : 676 ≤ way_ d ∧ way_ d ≤ 10000 := by
    have := mx_bd d
    unfold way_; omega
  have ub : 1 ≤ unit_ (o) ∧ unit_ (o) ≤ 100000 := by
    have := mx_bd (o)
    unfold unit_; omega
  have em : mx m = m := by unfold mx; split <;> omega
  have eo : mx o = o := by unfold mx; split <;> omega
  have eg : mx g = g := by unfold mx; split <;> omega
  obtain ⟨W, hW⟩ : ∃ W, way_ d = W := ⟨_, rfl⟩
  obtain ⟨u, hu⟩ : ∃ u, unit_ (o) = u := ⟨_, rfl⟩
  have C7 : Hid (∀ w : World, Calls Try.prog 7 #[.int .i64 d] w fun e w' => e = .returned (.int .i64 W) ∧ w = w') := fun w => by rw [← hW]; exact lway_c d w (by omega)
  have C8 : Hid (∀ w : World, Calls Try.prog 11 #[.int .i64 8] w fun e w' => e = .returned (.int .i64 12) ∧ w = w') := fun w => unit_c 8 w (by omega)
  have C9 : Hid (∀ w : World, Calls Try.prog 11 #[.int .i64 279] w fun e w' => e = .returned (.int .i64 337) ∧ w = w') := fun w => unit_c 279 w (by omega)
  have CH : Hid (∀ w : World, Calls Try.prog 11 #[.int .i64 728] w fun e w' => e = .returned (.int .i64 876) ∧ w = w') := fun w => unit_c 728 w (by omega)
  have CU : Hid (∀ w : World, Calls Try.prog 11 #[.int .i64 (o)] w fun e w' => e = .returned (.int .i64 u) ∧ w = w') := fun w => by rw [← hu]; exact unit_c _ w (by omega)
  have CI : Hid (∀ w : World, Calls Try.prog 12 #[suV false usT, .int .i64 d, .int .i64 g] w fun e w' => e = .returned (.int .i64 (g + 1200 + 6 * W)) ∧ Below w.heap.size w w') := fun w => by
    have := inserv_c false usT d g w (by decide) (by decide) (by omega) (by omega)
    rwa [eg, hW, show usT.t4 = 1200 from rfl] at this
  have CR : Hid (∀ w : World, Calls Try.prog 8 #[suV false usT, .int .i64 d] w fun e w' => e = .returned (.int .i64 (2 * 876 + 3 * W)) ∧ Below w.heap.size w w') := fun w => by
    have := reply_c false usT d w (by omega)
    rwa [show reply_ false d = 2 * 876 + 3 * W by simp [reply_, hW]] at this
  have CN : Hid (∀ w : World, Calls Try.prog 13 #[suV false usT, .int .i64 d, .int .i64 m, .int .i64 o] w fun e w' => e = .returned (.int .i64 (2 * (m * 12 + u + 674) + 4 * W)) ∧ Below w.heap.size w w') := fun w => by
    have := answered_c false usT d m o w (by omega) (by omega) (by omega)
    rwa [show ans_ false d m o = 2 * (m * 12 + u + 674) + 4 * W by simp [ans_, ansN, hW, em, eo, hu]] at this
  rw [hW] at wb
  rw [hu] at ub
  clear hW hu em eo eg
  go_enter Try.func4, Try.ntmps4
  go_upto_region 2 with (first | ((with_reducible refine (usual_c _ _).mono ?_); rintro e w1 ⟨rfl, hb1⟩; replace HB := bl_then (by repeat (first | exact HB | apply bl_drew | (refine bl_alloc ?_ _))) hb1; clear hb1))
  have hblk : Hid (Blk (w1.alloc (.cells #[.bool false, .int .i64 8, .int .i64 300, .int .i64 16, .int .i64 600, .int .i64 usT.t0, .int .i64 usT.t1, .int .i64 usT.t2, .int .i64 usT.t3, .int .i64 usT.t4, .int .i64 usT.t5, .int .i64 usT.t6, .int .i64 usT.t7] 25)) w1.heap.size #[.bool false, .int .i64 8, .int .i64 300, .int .i64 16, .int .i64 600, .int .i64 usT.t0, .int .i64 usT.t1, .int .i64 usT.t2, .int .i64 usT.t3, .int .i64 usT.t4, .int .i64 usT.t5, .int .i64 usT.t6, .int .i64 usT.t7] 25) := Blk.new _ _ _
  replace HB := bl_alloc HB (.cells #[.bool false, .int .i64 8, .int .i64 300, .int .i64 16, .int .i64 600, .int .i64 usT.t0, .int .i64 usT.t1, .int .i64 usT.t2, .int .i64 usT.t3, .int .i64 usT.t4, .int .i64 usT.t5, .int .i64 usT.t6, .int .i64 usT.t7] 25)
  go_wp2_with (first | ((with_reducible refine (C7.out _).mono ?_); rintro e w1 ⟨rfl, rfl⟩) | ((with_reducible refine (C8.out _).mono ?_); rintro e w1 ⟨rfl, rfl⟩) | ((with_reducible refine (C9.out _).mono ?_); rintro e w1 ⟨rfl, rfl⟩) | ((with_reducible refine (CH.out _).mono ?_); rintro e w1 ⟨rfl, rfl⟩) | ((with_reducible refine (CU.out _).mono ?_); rintro e w1 ⟨rfl, rfl⟩) | ((with_reducible refine (awake_c _).mono ?_); rintro e w2 ⟨rfl, hb1⟩; replace HB := bl_then HB hb1; replace hblk := Lib.hid (hblk.out.below hb1); have hc3 := hblk.out.c; clear hb1) | ((with_reducible refine (CI.out _).mono ?_); rintro e w2 ⟨rfl, hb1⟩; replace HB := bl_then HB hb1; replace hblk := Lib.hid (hblk.out.below hb1); have hc3 := hblk.out.c; clear hb1) | ((with_reducible refine (CR.out _).mono ?_); rintro e w2 ⟨rfl, hb1⟩; replace HB := bl_then HB hb1; replace hblk := Lib.hid (hblk.out.below hb1); have hc3 := hblk.out.c; clear hb1) | ((with_reducible refine (CN.out _).mono ?_); rintro e w2 ⟨rfl, hb1⟩; replace HB := bl_then HB hb1; replace hblk := Lib.hid (hblk.out.below hb1); have hc3 := hblk.out.c; clear hb1))
  go_ret
  exact ⟨rfl, HB⟩
theorem num_0001 (d g m o : Int) (w : World) (hd0 : -32768 ≤ d) (hd1 : d ≤ 32767) (hg0 : -32768 ≤ g) (hg1 : g ≤ 32767) (hm0 : -32768 ≤ m) (hm1 : m ≤ 32767) (ho0 : -32768 ≤ o) (ho1 : o ≤ 32767)
    (cg : ¬ (g < 0)) (cm : ¬ (m < 0)) (co : (o < 0)) :
    Calls Try.prog 4 #[.bool false, .int .i16 d, .int .i16 g, .int .i16 m, .int .i16 o] w fun e w' => e = .returned (.bool true) ∧ Below w.heap.size w w' := by
  have HB := bl_refl w
  have wb : 676 ≤ way_ d ∧ way_ d ≤ 10000 := by
    have := mx_bd d
    unfold way_; omega
  have ub : 1 ≤ unit_ (0) ∧ unit_ (0) ≤ 100000 := by
    have := mx_bd (0)
    unfold unit_; omega
  have em : mx m = m := by unfold mx; split <;> omega
  have eo : mx o = 0 := by unfold mx; split <;> omega
  have eg : mx g = g := by unfold mx; split <;> omega
  obtain ⟨W, hW⟩ : ∃ W, way_ d = W := ⟨_, rfl⟩
  obtain ⟨u, hu⟩ : ∃ u, unit_ (0) = u := ⟨_, rfl⟩
  have C7 : Hid (∀ w : World, Calls Try.prog 7 #[.int .i64 d] w fun e w' => e = .returned (.int .i64 W) ∧ w = w') := fun w => by rw [← hW]; exact lway_c d w (by omega)
  have C8 : Hid (∀ w : World, Calls Try.prog 11 #[.int .i64 8] w fun e w' => e = .returned (.int .i64 12) ∧ w = w') := fun w => unit_c 8 w (by omega)
  have C9 : Hid (∀ w : World, Calls Try.prog 11 #[.int .i64 279] w fun e w' => e = .returned (.int .i64 337) ∧ w = w') := fun w => unit_c 279 w (by omega)
  have CH : Hid (∀ w : World, Calls Try.prog 11 #[.int .i64 728] w fun e w' => e = .returned (.int .i64 876) ∧ w = w') := fun w => unit_c 728 w (by omega)
  have CU : Hid (∀ w : World, Calls Try.prog 11 #[.int .i64 (0)] w fun e w' => e = .returned (.int .i64 u) ∧ w = w') := fun w => by rw [← hu]; exact unit_c _ w (by omega)
  have CI : Hid (∀ w : World, Calls Try.prog 12 #[suV false usT, .int .i64 d, .int .i64 g] w fun e w' => e = .returned (.int .i64 (g + 1200 + 6 * W)) ∧ Below w.heap.size w w') := fun w => by
    have := inserv_c false usT d g w (by decide) (by decide) (by omega) (by omega)
    rwa [eg, hW, show usT.t4 = 1200 from rfl] at this
  have CR : Hid (∀ w : World, Calls Try.prog 8 #[suV false usT, .int .i64 d] w fun e w' => e = .returned (.int .i64 (2 * 876 + 3 * W)) ∧ Below w.heap.size w w') := fun w => by
    have := reply_c false usT d w (by omega)
    rwa [show reply_ false d = 2 * 876 + 3 * W by simp [reply_, hW]] at this
  have CN : Hid (∀ w : World, Calls Try.prog 13 #[suV false usT, .int .i64 d, .int .i64 m, .int .i64 o] w fun e w' => e = .returned (.int .i64 (2 * (m * 12 + u + 674) + 4 * W)) ∧ Below w.heap.size w w') := fun w => by
    have := answered_c false usT d m o w (by omega) (by omega) (by omega)
    rwa [show ans_ false d m o = 2 * (m * 12 + u + 674) + 4 * W by simp [ans_, ansN, hW, em, eo, hu]] at this
  rw [hW] at wb
  rw [hu] at ub
  clear hW hu em eo eg
  go_enter Try.func4, Try.ntmps4
  go_upto_region 2 with (first | ((with_reducible refine (usual_c _ _).mono ?_); rintro e w1 ⟨rfl, hb1⟩; replace HB := bl_then (by repeat (first | exact HB | apply bl_drew | (refine bl_alloc ?_ _))) hb1; clear hb1))
  have hblk : Hid (Blk (w1.alloc (.cells #[.bool false, .int .i64 8, .int .i64 300, .int .i64 16, .int .i64 600, .int .i64 usT.t0, .int .i64 usT.t1, .int .i64 usT.t2, .int .i64 usT.t3, .int .i64 usT.t4, .int .i64 usT.t5, .int .i64 usT.t6, .int .i64 usT.t7] 25)) w1.heap.size #[.bool false, .int .i64 8, .int .i64 300, .int .i64 16, .int .i64 600, .int .i64 usT.t0, .int .i64 usT.t1, .int .i64 usT.t2, .int .i64 usT.t3, .int .i64 usT.t4, .int .i64 usT.t5, .int .i64 usT.t6, .int .i64 usT.t7] 25) := Blk.new _ _ _
  replace HB := bl_alloc HB (.cells #[.bool false, .int .i64 8, .int .i64 300, .int .i64 16, .int .i64 600, .int .i64 usT.t0, .int .i64 usT.t1, .int .i64 usT.t2, .int .i64 usT.t3, .int .i64 usT.t4, .int .i64 usT.t5, .int .i64 usT.t6, .int .i64 usT.t7] 25)
  go_wp2_with (first | ((with_reducible refine (C7.out _).mono ?_); rintro e w1 ⟨rfl, rfl⟩) | ((with_reducible refine (C8.out _).mono ?_); rintro e w1 ⟨rfl, rfl⟩) | ((with_reducible refine (C9.out _).mono ?_); rintro e w1 ⟨rfl, rfl⟩) | ((with_reducible refine (CH.out _).mono ?_); rintro e w1 ⟨rfl, rfl⟩) | ((with_reducible refine (CU.out _).mono ?_); rintro e w1 ⟨rfl, rfl⟩) | ((with_reducible refine (awake_c _).mono ?_); rintro e w2 ⟨rfl, hb1⟩; replace HB := bl_then HB hb1; replace hblk := Lib.hid (hblk.out.below hb1); have hc3 := hblk.out.c; clear hb1) | ((with_reducible refine (CI.out _).mono ?_); rintro e w2 ⟨rfl, hb1⟩; replace HB := bl_then HB hb1; replace hblk := Lib.hid (hblk.out.below hb1); have hc3 := hblk.out.c; clear hb1) | ((with_reducible refine (CR.out _).mono ?_); rintro e w2 ⟨rfl, hb1⟩; replace HB := bl_then HB hb1; replace hblk := Lib.hid (hblk.out.below hb1); have hc3 := hblk.out.c; clear hb1) | ((with_reducible refine (CN.out _).mono ?_); rintro e w2 ⟨rfl, hb1⟩; replace HB := bl_then HB hb1; replace hblk := Lib.hid (hblk.out.below hb1); have hc3 := hblk.out.c; clear hb1))
  go_ret
  exact ⟨rfl, HB⟩
theorem num_0010 (d g m o : Int) (w : World) (hd0 : -32768 ≤ d) (hd1 : d ≤ 32767) (hg0 : -32768 ≤ g) (hg1 : g ≤ 32767) (hm0 : -32768 ≤ m) (hm1 : m ≤ 32767) (ho0 : -32768 ≤ o) (ho1 : o ≤ 32767)
    (cg : ¬ (g < 0)) (cm : (m < 0)) (co : ¬ (o < 0)) :
    Calls Try.prog 4 #[.bool false, .int .i16 d, .int .i16 g, .int .i16 m, .int .i16 o] w fun e w' => e = .returned (.bool true) ∧ Below w.heap.size w w' := by
  have HB := bl_refl w
  have wb : 676 ≤ way_ d ∧ way_ d ≤ 10000 := by
    have := mx_bd d
    unfold way_; omega
  have ub : 1 ≤ unit_ (o) ∧ unit_ (o) ≤ 100000 := by
    have := mx_bd (o)
    unfold unit_; omega
  have em : mx m = 0 := by unfold mx; split <;> omega
  have eo : mx o = o := by unfold mx; split <;> omega
  have eg : mx g = g := by unfold mx; split <;> omega
  obtain ⟨W, hW⟩ : ∃ W, way_ d = W := ⟨_, rfl⟩
  obtain ⟨u, hu⟩ : ∃ u, unit_ (o) = u := ⟨_, rfl⟩
  have C7 : Hid (∀ w : World, Calls Try.prog 7 #[.int .i64 d] w fun e w' => e = .returned (.int .i64 W) ∧ w = w') := fun w => by rw [← hW]; exact lway_c d w (by omega)
  have C8 : Hid (∀ w : World, Calls Try.prog 11 #[.int .i64 8] w fun e w' => e = .returned (.int .i64 12) ∧ w = w') := fun w => unit_c 8 w (by omega)
  have C9 : Hid (∀ w : World, Calls Try.prog 11 #[.int .i64 279] w fun e w' => e = .returned (.int .i64 337) ∧ w = w') := fun w => unit_c 279 w (by omega)
  have CH : Hid (∀ w : World, Calls Try.prog 11 #[.int .i64 728] w fun e w' => e = .returned (.int .i64 876) ∧ w = w') := fun w => unit_c 728 w (by omega)
  have CU : Hid (∀ w : World, Calls Try.prog 11 #[.int .i64 (o)] w fun e w' => e = .returned (.int .i64 u) ∧ w = w') := fun w => by rw [← hu]; exact unit_c _ w (by omega)
  have CI : Hid (∀ w : World, Calls Try.prog 12 #[suV false usT, .int .i64 d, .int .i64 g] w fun e w' => e = .returned (.int .i64 (g + 1200 + 6 * W)) ∧ Below w.heap.size w w') := fun w => by
    have := inserv_c false usT d g w (by decide) (by decide) (by omega) (by omega)
    rwa [eg, hW, show usT.t4 = 1200 from rfl] at this
  have CR : Hid (∀ w : World, Calls Try.prog 8 #[suV false usT, .int .i64 d] w fun e w' => e = .returned (.int .i64 (2 * 876 + 3 * W)) ∧ Below w.heap.size w w') := fun w => by
    have := reply_c false usT d w (by omega)
    rwa [show reply_ false d = 2 * 876 + 3 * W by simp [reply_, hW]] at this
  have CN : Hid (∀ w : World, Calls Try.prog 13 #[suV false usT, .int .i64 d, .int .i64 m, .int .i64 o] w fun e w' => e = .returned (.int .i64 (2 * (0 * 12 + u + 674) + 4 * W)) ∧ Below w.heap.size w w') := fun w => by
    have := answered_c false usT d m o w (by omega) (by omega) (by omega)
    rwa [show ans_ false d m o = 2 * (0 * 12 + u + 674) + 4 * W by simp [ans_, ansN, hW, em, eo, hu]] at this
  rw [hW] at wb
  rw [hu] at ub
  clear hW hu em eo eg
  go_enter Try.func4, Try.ntmps4
  go_upto_region 2 with (first | ((with_reducible refine (usual_c _ _).mono ?_); rintro e w1 ⟨rfl, hb1⟩; replace HB := bl_then (by repeat (first | exact HB | apply bl_drew | (refine bl_alloc ?_ _))) hb1; clear hb1))
  have hblk : Hid (Blk (w1.alloc (.cells #[.bool false, .int .i64 8, .int .i64 300, .int .i64 16, .int .i64 600, .int .i64 usT.t0, .int .i64 usT.t1, .int .i64 usT.t2, .int .i64 usT.t3, .int .i64 usT.t4, .int .i64 usT.t5, .int .i64 usT.t6, .int .i64 usT.t7] 25)) w1.heap.size #[.bool false, .int .i64 8, .int .i64 300, .int .i64 16, .int .i64 600, .int .i64 usT.t0, .int .i64 usT.t1, .int .i64 usT.t2, .int .i64 usT.t3, .int .i64 usT.t4, .int .i64 usT.t5, .int .i64 usT.t6, .int .i64 usT.t7] 25) := Blk.new _ _ _
  replace HB := bl_alloc HB (.cells #[.bool false, .int .i64 8, .int .i64 300, .int .i64 16, .int .i64 600, .int .i64 usT.t0, .int .i64 usT.t1, .int .i64 usT.t2, .int .i64 usT.t3, .int .i64 usT.t4, .int .i64 usT.t5, .int .i64 usT.t6, .int .i64 usT.t7] 25)
  go_wp2_with (first | ((with_reducible refine (C7.out _).mono ?_); rintro e w1 ⟨rfl, rfl⟩) | ((with_reducible refine (C8.out _).mono ?_); rintro e w1 ⟨rfl, rfl⟩) | ((with_reducible refine (C9.out _).mono ?_); rintro e w1 ⟨rfl, rfl⟩) | ((with_reducible refine (CH.out _).mono ?_); rintro e w1 ⟨rfl, rfl⟩) | ((with_reducible refine (CU.out _).mono ?_); rintro e w1 ⟨rfl, rfl⟩) | ((with_reducible refine (awake_c _).mono ?_); rintro e w2 ⟨rfl, hb1⟩; replace HB := bl_then HB hb1; replace hblk := Lib.hid (hblk.out.below hb1); have hc3 := hblk.out.c; clear hb1) | ((with_reducible refine (CI.out _).mono ?_); rintro e w2 ⟨rfl, hb1⟩; replace HB := bl_then HB hb1; replace hblk := Lib.hid (hblk.out.below hb1); have hc3 := hblk.out.c; clear hb1) | ((with_reducible refine (CR.out _).mono ?_); rintro e w2 ⟨rfl, hb1⟩; replace HB := bl_then HB hb1; replace hblk := Lib.hid (hblk.out.below hb1); have hc3 := hblk.out.c; clear hb1) | ((with_reducible refine (CN.out _).mono ?_); rintro e w2 ⟨rfl, hb1⟩; replace HB := bl_then HB hb1; replace hblk := Lib.hid (hblk.out.below hb1); have hc3 := hblk.out.c; clear hb1))
  go_ret
  exact ⟨rfl, HB⟩
theorem num_0011 (d g m o : Int) (w : World) (hd0 : -32768 ≤ d) (hd1 : d ≤ 32767) (hg0 : -32768 ≤ g) (hg1 : g ≤ 32767) (hm0 : -32768 ≤ m) (hm1 : m ≤ 32767) (ho0 : -32768 ≤ o) (ho1 : o ≤ 32767)
    (cg : ¬ (g < 0)) (cm : (m < 0)) (co : (o < 0)) :
    Calls Try.prog 4 #[.bool false, .int .i16 d, .int .i16 g, .int .i16 m, .int .i16 o] w fun e w' => e = .returned (.bool true) ∧ Below w.heap.size w w' := by
  have HB := bl_refl w
  have wb : 676 ≤ way_ d ∧ way_ d ≤ 10000 := by
    have := mx_bd d
    unfold way_; omega
  have ub : 1 ≤ unit_ (0) ∧ unit_ (0) ≤ 100000 := by
    have := mx_bd (0)
    unfold unit_; omega
  have em : mx m = 0 := by unfold mx; split <;> omega
  have eo : mx o = 0 := by unfold mx; split <;> omega
  have eg : mx g = g := by unfold mx; split <;> omega
  obtain ⟨W, hW⟩ : ∃ W, way_ d = W := ⟨_, rfl⟩
  obtain ⟨u, hu⟩ : ∃ u, unit_ (0) = u := ⟨_, rfl⟩
  have C7 : Hid (∀ w : World, Calls Try.prog 7 #[.int .i64 d] w fun e w' => e = .returned (.int .i64 W) ∧ w = w') := fun w => by rw [← hW]; exact lway_c d w (by omega)
  have C8 : Hid (∀ w : World, Calls Try.prog 11 #[.int .i64 8] w fun e w' => e = .returned (.int .i64 12) ∧ w = w') := fun w => unit_c 8 w (by omega)
  have C9 : Hid (∀ w : World, Calls Try.prog 11 #[.int .i64 279] w fun e w' => e = .returned (.int .i64 337) ∧ w = w') := fun w => unit_c 279 w (by omega)
  have CH : Hid (∀ w : World, Calls Try.prog 11 #[.int .i64 728] w fun e w' => e = .returned (.int .i64 876) ∧ w = w') := fun w => unit_c 728 w (by omega)
  have CU : Hid (∀ w : World, Calls Try.prog 11 #[.int .i64 (0)] w fun e w' => e = .returned (.int .i64 u) ∧ w = w') := fun w => by rw [← hu]; exact unit_c _ w (by omega)
  have CI : Hid (∀ w : World, Calls Try.prog 12 #[suV false usT, .int .i64 d, .int .i64 g] w fun e w' => e = .returned (.int .i64 (g + 1200 + 6 * W)) ∧ Below w.heap.size w w') := fun w => by
    have := inserv_c false usT d g w (by decide) (by decide) (by omega) (by omega)
    rwa [eg, hW, show usT.t4 = 1200 from rfl] at this
  have CR : Hid (∀ w : World, Calls Try.prog 8 #[suV false usT, .int .i64 d] w fun e w' => e = .returned (.int .i64 (2 * 876 + 3 * W)) ∧ Below w.heap.size w w') := fun w => by
    have := reply_c false usT d w (by omega)
    rwa [show reply_ false d = 2 * 876 + 3 * W by simp [reply_, hW]] at this
  have CN : Hid (∀ w : World, Calls Try.prog 13 #[suV false usT, .int .i64 d, .int .i64 m, .int .i64 o] w fun e w' => e = .returned (.int .i64 (2 * (0 * 12 + u + 674) + 4 * W)) ∧ Below w.heap.size w w') := fun w => by
    have := answered_c false usT d m o w (by omega) (by omega) (by omega)
    rwa [show ans_ false d m o = 2 * (0 * 12 + u + 674) + 4 * W by simp [ans_, ansN, hW, em, eo, hu]] at this
  rw [hW] at wb
  rw [hu] at ub
  clear hW hu em eo eg
  go_enter Try.func4, Try.ntmps4
  go_upto_region 2 with (first | ((with_reducible refine (usual_c _ _).mono ?_); rintro e w1 ⟨rfl, hb1⟩; replace HB := bl_then (by repeat (first | exact HB | apply bl_drew | (refine bl_alloc ?_ _))) hb1; clear hb1))
  have hblk : Hid (Blk (w1.alloc (.cells #[.bool false, .int .i64 8, .int .i64 300, .int .i64 16, .int .i64 600, .int .i64 usT.t0, .int .i64 usT.t1, .int .i64 usT.t2, .int .i64 usT.t3, .int .i64 usT.t4, .int .i64 usT.t5, .int .i64 usT.t6, .int .i64 usT.t7] 25)) w1.heap.size #[.bool false, .int .i64 8, .int .i64 300, .int .i64 16, .int .i64 600, .int .i64 usT.t0, .int .i64 usT.t1, .int .i64 usT.t2, .int .i64 usT.t3, .int .i64 usT.t4, .int .i64 usT.t5, .int .i64 usT.t6, .int .i64 usT.t7] 25) := Blk.new _ _ _
  replace HB := bl_alloc HB (.cells #[.bool false, .int .i64 8, .int .i64 300, .int .i64 16, .int .i64 600, .int .i64 usT.t0, .int .i64 usT.t1, .int .i64 usT.t2, .int .i64 usT.t3, .int .i64 usT.t4, .int .i64 usT.t5, .int .i64 usT.t6, .int .i64 usT.t7] 25)
  go_wp2_with (first | ((with_reducible refine (C7.out _).mono ?_); rintro e w1 ⟨rfl, rfl⟩) | ((with_reducible refine (C8.out _).mono ?_); rintro e w1 ⟨rfl, rfl⟩) | ((with_reducible refine (C9.out _).mono ?_); rintro e w1 ⟨rfl, rfl⟩) | ((with_reducible refine (CH.out _).mono ?_); rintro e w1 ⟨rfl, rfl⟩) | ((with_reducible refine (CU.out _).mono ?_); rintro e w1 ⟨rfl, rfl⟩) | ((with_reducible refine (awake_c _).mono ?_); rintro e w2 ⟨rfl, hb1⟩; replace HB := bl_then HB hb1; replace hblk := Lib.hid (hblk.out.below hb1); have hc3 := hblk.out.c; clear hb1) | ((with_reducible refine (CI.out _).mono ?_); rintro e w2 ⟨rfl, hb1⟩; replace HB := bl_then HB hb1; replace hblk := Lib.hid (hblk.out.below hb1); have hc3 := hblk.out.c; clear hb1) | ((with_reducible refine (CR.out _).mono ?_); rintro e w2 ⟨rfl, hb1⟩; replace HB := bl_then HB hb1; replace hblk := Lib.hid (hblk.out.below hb1); have hc3 := hblk.out.c; clear hb1) | ((with_reducible refine (CN.out _).mono ?_); rintro e w2 ⟨rfl, hb1⟩; replace HB := bl_then HB hb1; replace hblk := Lib.hid (hblk.out.below hb1); have hc3 := hblk.out.c; clear hb1))
  go_ret
  exact ⟨rfl, HB⟩
theorem num_0100 (d g m o : Int) (w : World) (hd0 : -32768 ≤ d) (hd1 : d ≤ 32767) (hg0 : -32768 ≤ g) (hg1 : g ≤ 32767) (hm0 : -32768 ≤ m) (hm1 : m ≤ 32767) (ho0 : -32768 ≤ o) (ho1 : o ≤ 32767)
    (cg : (g < 0)) (cm : ¬ (m < 0)) (co : ¬ (o < 0)) :
    Calls Try.prog 4 #[.bool false, .int .i16 d, .int .i16 g, .int .i16 m, .int .i16 o] w fun e w' => e = .returned (.bool true) ∧ Below w.heap.size w w' := by
  have HB := bl_refl w
  have wb : 676 ≤ way_ d ∧ way_ d ≤ 10000 := by
    have := mx_bd d
    unfold way_; omega
  have ub : 1 ≤ unit_ (o) ∧ unit_ (o) ≤ 100000 := by
    have := mx_bd (o)
    unfold unit_; omega
  have em : mx m = m := by unfold mx; split <;> omega
  have eo : mx o = o := by unfold mx; split <;> omega
  have eg : mx g = 0 := by unfold mx; split <;> omega
  obtain ⟨W, hW⟩ : ∃ W, way_ d = W := ⟨_, rfl⟩
  obtain ⟨u, hu⟩ : ∃ u, unit_ (o) = u := ⟨_, rfl⟩
  have C7 : Hid (∀ w : World, Calls Try.prog 7 #[.int .i64 d] w fun e w' => e = .returned (.int .i64 W) ∧ w = w') := fun w => by rw [← hW]; exact lway_c d w (by omega)
  have C8 : Hid (∀ w : World, Calls Try.prog 11 #[.int .i64 8] w fun e w' => e = .returned (.int .i64 12) ∧ w = w') := fun w => unit_c 8 w (by omega)
  have C9 : Hid (∀ w : World, Calls Try.prog 11 #[.int .i64 279] w fun e w' => e = .returned (.int .i64 337) ∧ w = w') := fun w => unit_c 279 w (by omega)
  have CH : Hid (∀ w : World, Calls Try.prog 11 #[.int .i64 728] w fun e w' => e = .returned (.int .i64 876) ∧ w = w') := fun w => unit_c 728 w (by omega)
  have CU : Hid (∀ w : World, Calls Try.prog 11 #[.int .i64 (o)] w fun e w' => e = .returned (.int .i64 u) ∧ w = w') := fun w => by rw [← hu]; exact unit_c _ w (by omega)
  have CI : Hid (∀ w : World, Calls Try.prog 12 #[suV false usT, .int .i64 d, .int .i64 g] w fun e w' => e = .returned (.int .i64 (0 + 1200 + 6 * W)) ∧ Below w.heap.size w w') := fun w => by
    have := inserv_c false usT d g w (by decide) (by decide) (by omega) (by omega)
    rwa [eg, hW, show usT.t4 = 1200 from rfl] at this
  have CR : Hid (∀ w : World, Calls Try.prog 8 #[suV false usT, .int .i64 d] w fun e w' => e = .returned (.int .i64 (2 * 876 + 3 * W)) ∧ Below w.heap.size w w') := fun w => by
    have := reply_c false usT d w (by omega)
    rwa [show reply_ false d = 2 * 876 + 3 * W by simp [reply_, hW]] at this
  have CN : Hid (∀ w : World, Calls Try.prog 13 #[suV false usT, .int .i64 d, .int .i64 m, .int .i64 o] w fun e w' => e = .returned (.int .i64 (2 * (m * 12 + u + 674) + 4 * W)) ∧ Below w.heap.size w w') := fun w => by
    have := answered_c false usT d m o w (by omega) (by omega) (by omega)
    rwa [show ans_ false d m o = 2 * (m * 12 + u + 674) + 4 * W by simp [ans_, ansN, hW, em, eo, hu]] at this
  rw [hW] at wb
  rw [hu] at ub
  clear hW hu em eo eg
  go_enter Try.func4, Try.ntmps4
  go_upto_region 2 with (first | ((with_reducible refine (usual_c _ _).mono ?_); rintro e w1 ⟨rfl, hb1⟩; replace HB := bl_then (by repeat (first | exact HB | apply bl_drew | (refine bl_alloc ?_ _))) hb1; clear hb1))
  have hblk : Hid (Blk (w1.alloc (.cells #[.bool false, .int .i64 8, .int .i64 300, .int .i64 16, .int .i64 600, .int .i64 usT.t0, .int .i64 usT.t1, .int .i64 usT.t2, .int .i64 usT.t3, .int .i64 usT.t4, .int .i64 usT.t5, .int .i64 usT.t6, .int .i64 usT.t7] 25)) w1.heap.size #[.bool false, .int .i64 8, .int .i64 300, .int .i64 16, .int .i64 600, .int .i64 usT.t0, .int .i64 usT.t1, .int .i64 usT.t2, .int .i64 usT.t3, .int .i64 usT.t4, .int .i64 usT.t5, .int .i64 usT.t6, .int .i64 usT.t7] 25) := Blk.new _ _ _
  replace HB := bl_alloc HB (.cells #[.bool false, .int .i64 8, .int .i64 300, .int .i64 16, .int .i64 600, .int .i64 usT.t0, .int .i64 usT.t1, .int .i64 usT.t2, .int .i64 usT.t3, .int .i64 usT.t4, .int .i64 usT.t5, .int .i64 usT.t6, .int .i64 usT.t7] 25)
  go_wp2_with (first | ((with_reducible refine (C7.out _).mono ?_); rintro e w1 ⟨rfl, rfl⟩) | ((with_reducible refine (C8.out _).mono ?_); rintro e w1 ⟨rfl, rfl⟩) | ((with_reducible refine (C9.out _).mono ?_); rintro e w1 ⟨rfl, rfl⟩) | ((with_reducible refine (CH.out _).mono ?_); rintro e w1 ⟨rfl, rfl⟩) | ((with_reducible refine (CU.out _).mono ?_); rintro e w1 ⟨rfl, rfl⟩) | ((with_reducible refine (awake_c _).mono ?_); rintro e w2 ⟨rfl, hb1⟩; replace HB := bl_then HB hb1; replace hblk := Lib.hid (hblk.out.below hb1); have hc3 := hblk.out.c; clear hb1) | ((with_reducible refine (CI.out _).mono ?_); rintro e w2 ⟨rfl, hb1⟩; replace HB := bl_then HB hb1; replace hblk := Lib.hid (hblk.out.below hb1); have hc3 := hblk.out.c; clear hb1) | ((with_reducible refine (CR.out _).mono ?_); rintro e w2 ⟨rfl, hb1⟩; replace HB := bl_then HB hb1; replace hblk := Lib.hid (hblk.out.below hb1); have hc3 := hblk.out.c; clear hb1) | ((with_reducible refine (CN.out _).mono ?_); rintro e w2 ⟨rfl, hb1⟩; replace HB := bl_then HB hb1; replace hblk := Lib.hid (hblk.out.below hb1); have hc3 := hblk.out.c; clear hb1))
  go_ret
  exact ⟨rfl, HB⟩
theorem num_0101 (d g m o : Int) (w : World) (hd0 : -32768 ≤ d) (hd1 : d ≤ 32767) (hg0 : -32768 ≤ g) (hg1 : g ≤ 32767) (hm0 : -32768 ≤ m) (hm1 : m ≤ 32767) (ho0 : -32768 ≤ o) (ho1 : o ≤ 32767)
    (cg : (g < 0)) (cm : ¬ (m < 0)) (co : (o < 0)) :
    Calls Try.prog 4 #[.bool false, .int .i16 d, .int .i16 g, .int .i16 m, .int .i16 o] w fun e w' => e = .returned (.bool true) ∧ Below w.heap.size w w' := by
  have HB := bl_refl w
  have wb : 676 ≤ way_ d ∧ way_ d ≤ 10000 := by
    have := mx_bd d
    unfold way_; omega
  have ub : 1 ≤ unit_ (0) ∧ unit_ (0) ≤ 100000 := by
    have := mx_bd (0)
    unfold unit_; omega
  have em : mx m = m := by unfold mx; split <;> omega
  have eo : mx o = 0 := by unfold mx; split <;> omega
  have eg : mx g = 0 := by unfold mx; split <;> omega
  obtain ⟨W, hW⟩ : ∃ W, way_ d = W := ⟨_, rfl⟩
  obtain ⟨u, hu⟩ : ∃ u, unit_ (0) = u := ⟨_, rfl⟩
  have C7 : Hid (∀ w : World, Calls Try.prog 7 #[.int .i64 d] w fun e w' => e = .returned (.int .i64 W) ∧ w = w') := fun w => by rw [← hW]; exact lway_c d w (by omega)
  have C8 : Hid (∀ w : World, Calls Try.prog 11 #[.int .i64 8] w fun e w' => e = .returned (.int .i64 12) ∧ w = w') := fun w => unit_c 8 w (by omega)
  have C9 : Hid (∀ w : World, Calls Try.prog 11 #[.int .i64 279] w fun e w' => e = .returned (.int .i64 337) ∧ w = w') := fun w => unit_c 279 w (by omega)
  have CH : Hid (∀ w : World, Calls Try.prog 11 #[.int .i64 728] w fun e w' => e = .returned (.int .i64 876) ∧ w = w') := fun w => unit_c 728 w (by omega)
  have CU : Hid (∀ w : World, Calls Try.prog 11 #[.int .i64 (0)] w fun e w' => e = .returned (.int .i64 u) ∧ w = w') := fun w => by rw [← hu]; exact unit_c _ w (by omega)
  have CI : Hid (∀ w : World, Calls Try.prog 12 #[suV false usT, .int .i64 d, .int .i64 g] w fun e w' => e = .returned (.int .i64 (0 + 1200 + 6 * W)) ∧ Below w.heap.size w w') := fun w => by
    have := inserv_c false usT d g w (by decide) (by decide) (by omega) (by omega)
    rwa [eg, hW, show usT.t4 = 1200 from rfl] at this
  have CR : Hid (∀ w : World, Calls Try.prog 8 #[suV false usT, .int .i64 d] w fun e w' => e = .returned (.int .i64 (2 * 876 + 3 * W)) ∧ Below w.heap.size w w') := fun w => by
    have := reply_c false usT d w (by omega)
    rwa [show reply_ false d = 2 * 876 + 3 * W by simp [reply_, hW]] at this
  have CN : Hid (∀ w : World, Calls Try.prog 13 #[suV false usT, .int .i64 d, .int .i64 m, .int .i64 o] w fun e w' => e = .returned (.int .i64 (2 * (m * 12 + u + 674) + 4 * W)) ∧ Below w.heap.size w w') := fun w => by
    have := answered_c false usT d m o w (by omega) (by omega) (by omega)
    rwa [show ans_ false d m o = 2 * (m * 12 + u + 674) + 4 * W by simp [ans_, ansN, hW, em, eo, hu]] at this
  rw [hW] at wb
  rw [hu] at ub
  clear hW hu em eo eg
  go_enter Try.func4, Try.ntmps4
  go_upto_region 2 with (first | ((with_reducible refine (usual_c _ _).mono ?_); rintro e w1 ⟨rfl, hb1⟩; replace HB := bl_then (by repeat (first | exact HB | apply bl_drew | (refine bl_alloc ?_ _))) hb1; clear hb1))
  have hblk : Hid (Blk (w1.alloc (.cells #[.bool false, .int .i64 8, .int .i64 300, .int .i64 16, .int .i64 600, .int .i64 usT.t0, .int .i64 usT.t1, .int .i64 usT.t2, .int .i64 usT.t3, .int .i64 usT.t4, .int .i64 usT.t5, .int .i64 usT.t6, .int .i64 usT.t7] 25)) w1.heap.size #[.bool false, .int .i64 8, .int .i64 300, .int .i64 16, .int .i64 600, .int .i64 usT.t0, .int .i64 usT.t1, .int .i64 usT.t2, .int .i64 usT.t3, .int .i64 usT.t4, .int .i64 usT.t5, .int .i64 usT.t6, .int .i64 usT.t7] 25) := Blk.new _ _ _
  replace HB := bl_alloc HB (.cells #[.bool false, .int .i64 8, .int .i64 300, .int .i64 16, .int .i64 600, .int .i64 usT.t0, .int .i64 usT.t1, .int .i64 usT.t2, .int .i64 usT.t3, .int .i64 usT.t4, .int .i64 usT.t5, .int .i64 usT.t6, .int .i64 usT.t7] 25)
  go_wp2_with (first | ((with_reducible refine (C7.out _).mono ?_); rintro e w1 ⟨rfl, rfl⟩) | ((with_reducible refine (C8.out _).mono ?_); rintro e w1 ⟨rfl, rfl⟩) | ((with_reducible refine (C9.out _).mono ?_); rintro e w1 ⟨rfl, rfl⟩) | ((with_reducible refine (CH.out _).mono ?_); rintro e w1 ⟨rfl, rfl⟩) | ((with_reducible refine (CU.out _).mono ?_); rintro e w1 ⟨rfl, rfl⟩) | ((with_reducible refine (awake_c _).mono ?_); rintro e w2 ⟨rfl, hb1⟩; replace HB := bl_then HB hb1; replace hblk := Lib.hid (hblk.out.below hb1); have hc3 := hblk.out.c; clear hb1) | ((with_reducible refine (CI.out _).mono ?_); rintro e w2 ⟨rfl, hb1⟩; replace HB := bl_then HB hb1; replace hblk := Lib.hid (hblk.out.below hb1); have hc3 := hblk.out.c; clear hb1) | ((with_reducible refine (CR.out _).mono ?_); rintro e w2 ⟨rfl, hb1⟩; replace HB := bl_then HB hb1; replace hblk := Lib.hid (hblk.out.below hb1); have hc3 := hblk.out.c; clear hb1) | ((with_reducible refine (CN.out _).mono ?_); rintro e w2 ⟨rfl, hb1⟩; replace HB := bl_then HB hb1; replace hblk := Lib.hid (hblk.out.below hb1); have hc3 := hblk.out.c; clear hb1))
  go_ret
  exact ⟨rfl, HB⟩
theorem num_0110 (d g m o : Int) (w : World) (hd0 : -32768 ≤ d) (hd1 : d ≤ 32767) (hg0 : -32768 ≤ g) (hg1 : g ≤ 32767) (hm0 : -32768 ≤ m) (hm1 : m ≤ 32767) (ho0 : -32768 ≤ o) (ho1 : o ≤ 32767)
    (cg : (g < 0)) (cm : (m < 0)) (co : ¬ (o < 0)) :
    Calls Try.prog 4 #[.bool false, .int .i16 d, .int .i16 g, .int .i16 m, .int .i16 o] w fun e w' => e = .returned (.bool true) ∧ Below w.heap.size w w' := by
  have HB := bl_refl w
  have wb : 676 ≤ way_ d ∧ way_ d ≤ 10000 := by
    have := mx_bd d
    unfold way_; omega
  have ub : 1 ≤ unit_ (o) ∧ unit_ (o) ≤ 100000 := by
    have := mx_bd (o)
    unfold unit_; omega
  have em : mx m = 0 := by unfold mx; split <;> omega
  have eo : mx o = o := by unfold mx; split <;> omega
  have eg : mx g = 0 := by unfold mx; split <;> omega
  obtain ⟨W, hW⟩ : ∃ W, way_ d = W := ⟨_, rfl⟩
  obtain ⟨u, hu⟩ : ∃ u, unit_ (o) = u := ⟨_, rfl⟩
  have C7 : Hid (∀ w : World, Calls Try.prog 7 #[.int .i64 d] w fun e w' => e = .returned (.int .i64 W) ∧ w = w') := fun w => by rw [← hW]; exact lway_c d w (by omega)
  have C8 : Hid (∀ w : World, Calls Try.prog 11 #[.int .i64 8] w fun e w' => e = .returned (.int .i64 12) ∧ w = w') := fun w => unit_c 8 w (by omega)
  have C9 : Hid (∀ w : World, Calls Try.prog 11 #[.int .i64 279] w fun e w' => e = .returned (.int .i64 337) ∧ w = w') := fun w => unit_c 279 w (by omega)
  have CH : Hid (∀ w : World, Calls Try.prog 11 #[.int .i64 728] w fun e w' => e = .returned (.int .i64 876) ∧ w = w') := fun w => unit_c 728 w (by omega)
  have CU : Hid (∀ w : World, Calls Try.prog 11 #[.int .i64 (o)] w fun e w' => e = .returned (.int .i64 u) ∧ w = w') := fun w => by rw [← hu]; exact unit_c _ w (by omega)
  have CI : Hid (∀ w : World, Calls Try.prog 12 #[suV false usT, .int .i64 d, .int .i64 g] w fun e w' => e = .returned (.int .i64 (0 + 1200 + 6 * W)) ∧ Below w.heap.size w w') := fun w => by
    have := inserv_c false usT d g w (by decide) (by decide) (by omega) (by omega)
    rwa [eg, hW, show usT.t4 = 1200 from rfl] at this
  have CR : Hid (∀ w : World, Calls Try.prog 8 #[suV false usT, .int .i64 d] w fun e w' => e = .returned (.int .i64 (2 * 876 + 3 * W)) ∧ Below w.heap.size w w') := fun w => by
    have := reply_c false usT d w (by omega)
    rwa [show reply_ false d = 2 * 876 + 3 * W by simp [reply_, hW]] at this
  have CN : Hid (∀ w : World, Calls Try.prog 13 #[suV false usT, .int .i64 d, .int .i64 m, .int .i64 o] w fun e w' => e = .returned (.int .i64 (2 * (0 * 12 + u + 674) + 4 * W)) ∧ Below w.heap.size w w') := fun w => by
    have := answered_c false usT d m o w (by omega) (by omega) (by omega)
    rwa [show ans_ false d m o = 2 * (0 * 12 + u + 674) + 4 * W by simp [ans_, ansN, hW, em, eo, hu]] at this
  rw [hW] at wb
  rw [hu] at ub
  clear hW hu em eo eg
  go_enter Try.func4, Try.ntmps4
  go_upto_region 2 with (first | ((with_reducible refine (usual_c _ _).mono ?_); rintro e w1 ⟨rfl, hb1⟩; replace HB := bl_then (by repeat (first | exact HB | apply bl_drew | (refine bl_alloc ?_ _))) hb1; clear hb1))
  have hblk : Hid (Blk (w1.alloc (.cells #[.bool false, .int .i64 8, .int .i64 300, .int .i64 16, .int .i64 600, .int .i64 usT.t0, .int .i64 usT.t1, .int .i64 usT.t2, .int .i64 usT.t3, .int .i64 usT.t4, .int .i64 usT.t5, .int .i64 usT.t6, .int .i64 usT.t7] 25)) w1.heap.size #[.bool false, .int .i64 8, .int .i64 300, .int .i64 16, .int .i64 600, .int .i64 usT.t0, .int .i64 usT.t1, .int .i64 usT.t2, .int .i64 usT.t3, .int .i64 usT.t4, .int .i64 usT.t5, .int .i64 usT.t6, .int .i64 usT.t7] 25) := Blk.new _ _ _
  replace HB := bl_alloc HB (.cells #[.bool false, .int .i64 8, .int .i64 300, .int .i64 16, .int .i64 600, .int .i64 usT.t0, .int .i64 usT.t1, .int .i64 usT.t2, .int .i64 usT.t3, .int .i64 usT.t4, .int .i64 usT.t5, .int .i64 usT.t6, .int .i64 usT.t7] 25)
  go_wp2_with (first | ((with_reducible refine (C7.out _).mono ?_); rintro e w1 ⟨rfl, rfl⟩) | ((with_reducible refine (C8.out _).mono ?_); rintro e w1 ⟨rfl, rfl⟩) | ((with_reducible refine (C9.out _).mono ?_); rintro e w1 ⟨rfl, rfl⟩) | ((with_reducible refine (CH.out _).mono ?_); rintro e w1 ⟨rfl, rfl⟩) | ((with_reducible refine (CU.out _).mono ?_); rintro e w1 ⟨rfl, rfl⟩) | ((with_reducible refine (awake_c _).mono ?_); rintro e w2 ⟨rfl, hb1⟩; replace HB := bl_then HB hb1; replace hblk := Lib.hid (hblk.out.below hb1); have hc3 := hblk.out.c; clear hb1) | ((with_reducible refine (CI.out _).mono ?_); rintro e w2 ⟨rfl, hb1⟩; replace HB := bl_then HB hb1; replace hblk := Lib.hid (hblk.out.below hb1); have hc3 := hblk.out.c; clear hb1) | ((with_reducible refine (CR.out _).mono ?_); rintro e w2 ⟨rfl, hb1⟩; replace HB := bl_then HB hb1; replace hblk := Lib.hid (hblk.out.below hb1); have hc3 := hblk.out.c; clear hb1) | ((with_reducible refine (CN.out _).mono ?_); rintro e w2 ⟨rfl, hb1⟩; replace HB := bl_then HB hb1; replace hblk := Lib.hid (hblk.out.below hb1); have hc3 := hblk.out.c; clear hb1))
  go_ret
  exact ⟨rfl, HB⟩
theorem num_0111 (d g m o : Int) (w : World) (hd0 : -32768 ≤ d) (hd1 : d ≤ 32767) (hg0 : -32768 ≤ g) (hg1 : g ≤ 32767) (hm0 : -32768 ≤ m) (hm1 : m ≤ 32767) (ho0 : -32768 ≤ o) (ho1 : o ≤ 32767)
    (cg : (g < 0)) (cm : (m < 0)) (co : (o < 0)) :
    Calls Try.prog 4 #[.bool false, .int .i16 d, .int .i16 g, .int .i16 m, .int .i16 o] w fun e w' => e = .returned (.bool true) ∧ Below w.heap.size w w' := by
  have HB := bl_refl w
  have wb : 676 ≤ way_ d ∧ way_ d ≤ 10000 := by
    have := mx_bd d
    unfold way_; omega
  have ub : 1 ≤ unit_ (0) ∧ unit_ (0) ≤ 100000 := by
    have := mx_bd (0)
    unfold unit_; omega
  have em : mx m = 0 := by unfold mx; split <;> omega
  have eo : mx o = 0 := by unfold mx; split <;> omega
  have eg : mx g = 0 := by unfold mx; split <;> omega
  obtain ⟨W, hW⟩ : ∃ W, way_ d = W := ⟨_, rfl⟩
  obtain ⟨u, hu⟩ : ∃ u, unit_ (0) = u := ⟨_, rfl⟩
  have C7 : Hid (∀ w : World, Calls Try.prog 7 #[.int .i64 d] w fun e w' => e = .returned (.int .i64 W) ∧ w = w') := fun w => by rw [← hW]; exact lway_c d w (by omega)
  have C8 : Hid (∀ w : World, Calls Try.prog 11 #[.int .i64 8] w fun e w' => e = .returned (.int .i64 12) ∧ w = w') := fun w => unit_c 8 w (by omega)
  have C9 : Hid (∀ w : World, Calls Try.prog 11 #[.int .i64 279] w fun e w' => e = .returned (.int .i64 337) ∧ w = w') := fun w => unit_c 279 w (by omega)
  have CH : Hid (∀ w : World, Calls Try.prog 11 #[.int .i64 728] w fun e w' => e = .returned (.int .i64 876) ∧ w = w') := fun w => unit_c 728 w (by omega)
  have CU : Hid (∀ w : World, Calls Try.prog 11 #[.int .i64 (0)] w fun e w' => e = .returned (.int .i64 u) ∧ w = w') := fun w => by rw [← hu]; exact unit_c _ w (by omega)
  have CI : Hid (∀ w : World, Calls Try.prog 12 #[suV false usT, .int .i64 d, .int .i64 g] w fun e w' => e = .returned (.int .i64 (0 + 1200 + 6 * W)) ∧ Below w.heap.size w w') := fun w => by
    have := inserv_c false usT d g w (by decide) (by decide) (by omega) (by omega)
    rwa [eg, hW, show usT.t4 = 1200 from rfl] at this
  have CR : Hid (∀ w : World, Calls Try.prog 8 #[suV false usT, .int .i64 d] w fun e w' => e = .returned (.int .i64 (2 * 876 + 3 * W)) ∧ Below w.heap.size w w') := fun w => by
    have := reply_c false usT d w (by omega)
    rwa [show reply_ false d = 2 * 876 + 3 * W by simp [reply_, hW]] at this
  have CN : Hid (∀ w : World, Calls Try.prog 13 #[suV false usT, .int .i64 d, .int .i64 m, .int .i64 o] w fun e w' => e = .returned (.int .i64 (2 * (0 * 12 + u + 674) + 4 * W)) ∧ Below w.heap.size w w') := fun w => by
    have := answered_c false usT d m o w (by omega) (by omega) (by omega)
    rwa [show ans_ false d m o = 2 * (0 * 12 + u + 674) + 4 * W by simp [ans_, ansN, hW, em, eo, hu]] at this
  rw [hW] at wb
  rw [hu] at ub
  clear hW hu em eo eg
  go_enter Try.func4, Try.ntmps4
  go_upto_region 2 with (first | ((with_reducible refine (usual_c _ _).mono ?_); rintro e w1 ⟨rfl, hb1⟩; replace HB := bl_then (by repeat (first | exact HB | apply bl_drew | (refine bl_alloc ?_ _))) hb1; clear hb1))
  have hblk : Hid (Blk (w1.alloc (.cells #[.bool false, .int .i64 8, .int .i64 300, .int .i64 16, .int .i64 600, .int .i64 usT.t0, .int .i64 usT.t1, .int .i64 usT.t2, .int .i64 usT.t3, .int .i64 usT.t4, .int .i64 usT.t5, .int .i64 usT.t6, .int .i64 usT.t7] 25)) w1.heap.size #[.bool false, .int .i64 8, .int .i64 300, .int .i64 16, .int .i64 600, .int .i64 usT.t0, .int .i64 usT.t1, .int .i64 usT.t2, .int .i64 usT.t3, .int .i64 usT.t4, .int .i64 usT.t5, .int .i64 usT.t6, .int .i64 usT.t7] 25) := Blk.new _ _ _
  replace HB := bl_alloc HB (.cells #[.bool false, .int .i64 8, .int .i64 300, .int .i64 16, .int .i64 600, .int .i64 usT.t0, .int .i64 usT.t1, .int .i64 usT.t2, .int .i64 usT.t3, .int .i64 usT.t4, .int .i64 usT.t5, .int .i64 usT.t6, .int .i64 usT.t7] 25)
  go_wp2_with (first | ((with_reducible refine (C7.out _).mono ?_); rintro e w1 ⟨rfl, rfl⟩) | ((with_reducible refine (C8.out _).mono ?_); rintro e w1 ⟨rfl, rfl⟩) | ((with_reducible refine (C9.out _).mono ?_); rintro e w1 ⟨rfl, rfl⟩) | ((with_reducible refine (CH.out _).mono ?_); rintro e w1 ⟨rfl, rfl⟩) | ((with_reducible refine (CU.out _).mono ?_); rintro e w1 ⟨rfl, rfl⟩) | ((with_reducible refine (awake_c _).mono ?_); rintro e w2 ⟨rfl, hb1⟩; replace HB := bl_then HB hb1; replace hblk := Lib.hid (hblk.out.below hb1); have hc3 := hblk.out.c; clear hb1) | ((with_reducible refine (CI.out _).mono ?_); rintro e w2 ⟨rfl, hb1⟩; replace HB := bl_then HB hb1; replace hblk := Lib.hid (hblk.out.below hb1); have hc3 := hblk.out.c; clear hb1) | ((with_reducible refine (CR.out _).mono ?_); rintro e w2 ⟨rfl, hb1⟩; replace HB := bl_then HB hb1; replace hblk := Lib.hid (hblk.out.below hb1); have hc3 := hblk.out.c; clear hb1) | ((with_reducible refine (CN.out _).mono ?_); rintro e w2 ⟨rfl, hb1⟩; replace HB := bl_then HB hb1; replace hblk := Lib.hid (hblk.out.below hb1); have hc3 := hblk.out.c; clear hb1))
  go_ret
  exact ⟨rfl, HB⟩
theorem num_1000 (d g m o : Int) (w : World) (hd0 : -32768 ≤ d) (hd1 : d ≤ 32767) (hg0 : -32768 ≤ g) (hg1 : g ≤ 32767) (hm0 : -32768 ≤ m) (hm1 : m ≤ 32767) (ho0 : -32768 ≤ o) (ho1 : o ≤ 32767)
    (cg : ¬ (g < 0)) (cm : ¬ (m < 0)) (co : ¬ (o < 0)) :
    Calls Try.prog 4 #[.bool true, .int .i16 d, .int .i16 g, .int .i16 m, .int .i16 o] w fun e w' => e = .returned (.bool true) ∧ Below w.heap.size w w' := by
  have HB := bl_refl w
  have wb : 676 ≤ way_ d ∧ way_ d ≤ 10000 := by
    have := mx_bd d
    unfold way_; omega
  have ub : 1 ≤ unit_ (o) ∧ unit_ (o) ≤ 100000 := by
    have := mx_bd (o)
    unfold unit_; omega
  have em : mx m = m := by unfold mx; split <;> omega
  have eo : mx o = o := by unfold mx; split <;> omega
  have eg : mx g = g := by unfold mx; split <;> omega
  obtain ⟨W, hW⟩ : ∃ W, way_ d = W := ⟨_, rfl⟩
  obtain ⟨u, hu⟩ : ∃ u, unit_ (o) = u := ⟨_, rfl⟩
  have C7 : Hid (∀ w : World, Calls Try.prog 7 #[.int .i64 d] w fun e w' => e = .returned (.int .i64 W) ∧ w = w') := fun w => by rw [← hW]; exact lway_c d w (by omega)
  have C8 : Hid (∀ w : World, Calls Try.prog 11 #[.int .i64 8] w fun e w' => e = .returned (.int .i64 12) ∧ w = w') := fun w => unit_c 8 w (by omega)
  have C9 : Hid (∀ w : World, Calls Try.prog 11 #[.int .i64 279] w fun e w' => e = .returned (.int .i64 337) ∧ w = w') := fun w => unit_c 279 w (by omega)
  have CH : Hid (∀ w : World, Calls Try.prog 11 #[.int .i64 636] w fun e w' => e = .returned (.int .i64 766) ∧ w = w') := fun w => unit_c 636 w (by omega)
  have CU : Hid (∀ w : World, Calls Try.prog 11 #[.int .i64 (o)] w fun e w' => e = .returned (.int .i64 u) ∧ w = w') := fun w => by rw [← hu]; exact unit_c _ w (by omega)
  have CI : Hid (∀ w : World, Calls Try.prog 12 #[suV true usT, .int .i64 d, .int .i64 g] w fun e w' => e = .returned (.int .i64 (g + 1200 + 6 * W)) ∧ Below w.heap.size w w') := fun w => by
    have := inserv_c true usT d g w (by decide) (by decide) (by omega) (by omega)
    rwa [eg, hW, show usT.t4 = 1200 from rfl] at this
  have CR : Hid (∀ w : World, Calls Try.prog 8 #[suV true usT, .int .i64 d] w fun e w' => e = .returned (.int .i64 (2 * 766 + 3 * W)) ∧ Below w.heap.size w w') := fun w => by
    have := reply_c true usT d w (by omega)
    rwa [show reply_ true d = 2 * 766 + 3 * W by simp [reply_, hW]] at this
  have CN : Hid (∀ w : World, Calls Try.prog 13 #[suV true usT, .int .i64 d, .int .i64 m, .int .i64 o] w fun e w' => e = .returned (.int .i64 (2 * ((m * 12 + u + 674 + 2 * W) * (m + 2)) + 4 * W)) ∧ Below w.heap.size w w') := fun w => by
    have := answered_c true usT d m o w (by omega) (by omega) (by omega)
    rwa [show ans_ true d m o = 2 * ((m * 12 + u + 674 + 2 * W) * (m + 2)) + 4 * W by simp [ans_, ansN, hW, em, eo, hu]] at this
  rw [hW] at wb
  rw [hu] at ub
  clear hW hu em eo eg
  have n1 : 0 ≤ (m * 12 + u + 674 + 2 * W) * (m + 2) := Int.mul_nonneg (by omega) (by omega)
  have n2 : (m * 12 + u + 674 + 2 * W) * (m + 2) ≤ 10000000 * 100002 := Int.mul_le_mul (by omega) (by omega) (by omega) (by omega)
  go_enter Try.func4, Try.ntmps4
  go_upto_region 2 with (first | ((with_reducible refine (usual_c _ _).mono ?_); rintro e w1 ⟨rfl, hb1⟩; replace HB := bl_then (by repeat (first | exact HB | apply bl_drew | (refine bl_alloc ?_ _))) hb1; clear hb1))
  have hblk : Hid (Blk (w1.alloc (.cells #[.bool true, .int .i64 8, .int .i64 300, .int .i64 16, .int .i64 600, .int .i64 usT.t0, .int .i64 usT.t1, .int .i64 usT.t2, .int .i64 usT.t3, .int .i64 usT.t4, .int .i64 usT.t5, .int .i64 usT.t6, .int .i64 usT.t7] 25)) w1.heap.size #[.bool true, .int .i64 8, .int .i64 300, .int .i64 16, .int .i64 600, .int .i64 usT.t0, .int .i64 usT.t1, .int .i64 usT.t2, .int .i64 usT.t3, .int .i64 usT.t4, .int .i64 usT.t5, .int .i64 usT.t6, .int .i64 usT.t7] 25) := Blk.new _ _ _
  replace HB := bl_alloc HB (.cells #[.bool true, .int .i64 8, .int .i64 300, .int .i64 16, .int .i64 600, .int .i64 usT.t0, .int .i64 usT.t1, .int .i64 usT.t2, .int .i64 usT.t3, .int .i64 usT.t4, .int .i64 usT.t5, .int .i64 usT.t6, .int .i64 usT.t7] 25)
  go_wp2_with (first | ((with_reducible refine (C7.out _).mono ?_); rintro e w1 ⟨rfl, rfl⟩) | ((with_reducible refine (C8.out _).mono ?_); rintro e w1 ⟨rfl, rfl⟩) | ((with_reducible refine (C9.out _).mono ?_); rintro e w1 ⟨rfl, rfl⟩) | ((with_reducible refine (CH.out _).mono ?_); rintro e w1 ⟨rfl, rfl⟩) | ((with_reducible refine (CU.out _).mono ?_); rintro e w1 ⟨rfl, rfl⟩) | ((with_reducible refine (awake_c _).mono ?_); rintro e w2 ⟨rfl, hb1⟩; replace HB := bl_then HB hb1; replace hblk := Lib.hid (hblk.out.below hb1); have hc3 := hblk.out.c; clear hb1) | ((with_reducible refine (CI.out _).mono ?_); rintro e w2 ⟨rfl, hb1⟩; replace HB := bl_then HB hb1; replace hblk := Lib.hid (hblk.out.below hb1); have hc3 := hblk.out.c; clear hb1) | ((with_reducible refine (CR.out _).mono ?_); rintro e w2 ⟨rfl, hb1⟩; replace HB := bl_then HB hb1; replace hblk := Lib.hid (hblk.out.below hb1); have hc3 := hblk.out.c; clear hb1) | ((with_reducible refine (CN.out _).mono ?_); rintro e w2 ⟨rfl, hb1⟩; replace HB := bl_then HB hb1; replace hblk := Lib.hid (hblk.out.below hb1); have hc3 := hblk.out.c; clear hb1))
  go_ret
  exact ⟨rfl, HB⟩
theorem num_1001 (d g m o : Int) (w : World) (hd0 : -32768 ≤ d) (hd1 : d ≤ 32767) (hg0 : -32768 ≤ g) (hg1 : g ≤ 32767) (hm0 : -32768 ≤ m) (hm1 : m ≤ 32767) (ho0 : -32768 ≤ o) (ho1 : o ≤ 32767)
    (cg : ¬ (g < 0)) (cm : ¬ (m < 0)) (co : (o < 0)) :
    Calls Try.prog 4 #[.bool true, .int .i16 d, .int .i16 g, .int .i16 m, .int .i16 o] w fun e w' => e = .returned (.bool true) ∧ Below w.heap.size w w' := by
  have HB := bl_refl w
  have wb : 676 ≤ way_ d ∧ way_ d ≤ 10000 := by
    have := mx_bd d
    unfold way_; omega
  have ub : 1 ≤ unit_ (0) ∧ unit_ (0) ≤ 100000 := by
    have := mx_bd (0)
    unfold unit_; omega
  have em : mx m = m := by unfold mx; split <;> omega
  have eo : mx o = 0 := by unfold mx; split <;> omega
  have eg : mx g = g := by unfold mx; split <;> omega
  obtain ⟨W, hW⟩ : ∃ W, way_ d = W := ⟨_, rfl⟩
  obtain ⟨u, hu⟩ : ∃ u, unit_ (0) = u := ⟨_, rfl⟩
  have C7 : Hid (∀ w : World, Calls Try.prog 7 #[.int .i64 d] w fun e w' => e = .returned (.int .i64 W) ∧ w = w') := fun w => by rw [← hW]; exact lway_c d w (by omega)
  have C8 : Hid (∀ w : World, Calls Try.prog 11 #[.int .i64 8] w fun e w' => e = .returned (.int .i64 12) ∧ w = w') := fun w => unit_c 8 w (by omega)
  have C9 : Hid (∀ w : World, Calls Try.prog 11 #[.int .i64 279] w fun e w' => e = .returned (.int .i64 337) ∧ w = w') := fun w => unit_c 279 w (by omega)
  have CH : Hid (∀ w : World, Calls Try.prog 11 #[.int .i64 636] w fun e w' => e = .returned (.int .i64 766) ∧ w = w') := fun w => unit_c 636 w (by omega)
  have CU : Hid (∀ w : World, Calls Try.prog 11 #[.int .i64 (0)] w fun e w' => e = .returned (.int .i64 u) ∧ w = w') := fun w => by rw [← hu]; exact unit_c _ w (by omega)
  have CI : Hid (∀ w : World, Calls Try.prog 12 #[suV true usT, .int .i64 d, .int .i64 g] w fun e w' => e = .returned (.int .i64 (g + 1200 + 6 * W)) ∧ Below w.heap.size w w') := fun w => by
    have := inserv_c true usT d g w (by decide) (by decide) (by omega) (by omega)
    rwa [eg, hW, show usT.t4 = 1200 from rfl] at this
  have CR : Hid (∀ w : World, Calls Try.prog 8 #[suV true usT, .int .i64 d] w fun e w' => e = .returned (.int .i64 (2 * 766 + 3 * W)) ∧ Below w.heap.size w w') := fun w => by
    have := reply_c true usT d w (by omega)
    rwa [show reply_ true d = 2 * 766 + 3 * W by simp [reply_, hW]] at this
  have CN : Hid (∀ w : World, Calls Try.prog 13 #[suV true usT, .int .i64 d, .int .i64 m, .int .i64 o] w fun e w' => e = .returned (.int .i64 (2 * ((m * 12 + u + 674 + 2 * W) * (m + 2)) + 4 * W)) ∧ Below w.heap.size w w') := fun w => by
    have := answered_c true usT d m o w (by omega) (by omega) (by omega)
    rwa [show ans_ true d m o = 2 * ((m * 12 + u + 674 + 2 * W) * (m + 2)) + 4 * W by simp [ans_, ansN, hW, em, eo, hu]] at this
  rw [hW] at wb
  rw [hu] at ub
  clear hW hu em eo eg
  have n1 : 0 ≤ (m * 12 + u + 674 + 2 * W) * (m + 2) := Int.mul_nonneg (by omega) (by omega)
  have n2 : (m * 12 + u + 674 + 2 * W) * (m + 2) ≤ 10000000 * 100002 := Int.mul_le_mul (by omega) (by omega) (by omega) (by omega)
  go_enter Try.func4, Try.ntmps4
  go_upto_region 2 with (first | ((with_reducible refine (usual_c _ _).mono ?_); rintro e w1 ⟨rfl, hb1⟩; replace HB := bl_then (by repeat (first | exact HB | apply bl_drew | (refine bl_alloc ?_ _))) hb1; clear hb1))
  have hblk : Hid (Blk (w1.alloc (.cells #[.bool true, .int .i64 8, .int .i64 300, .int .i64 16, .int .i64 600, .int .i64 usT.t0, .int .i64 usT.t1, .int .i64 usT.t2, .int .i64 usT.t3, .int .i64 usT.t4, .int .i64 usT.t5, .int .i64 usT.t6, .int .i64 usT.t7] 25)) w1.heap.size #[.bool true, .int .i64 8, .int .i64 300, .int .i64 16, .int .i64 600, .int .i64 usT.t0, .int .i64 usT.t1, .int .i64 usT.t2, .int .i64 usT.t3, .int .i64 usT.t4, .int .i64 usT.t5, .int .i64 usT.t6, .int .i64 usT.t7] 25) := Blk.new _ _ _
  replace HB := bl_alloc HB (.cells #[.bool true, .int .i64 8, .int .i64 300, .int .i64 16, .int .i64 600, .int .i64 usT.t0, .int .i64 usT.t1, .int .i64 usT.t2, .int .i64 usT.t3, .int .i64 usT.t4, .int .i64 usT.t5, .int .i64 usT.t6, .int .i64 usT.t7] 25)
  go_wp2_with (first | ((with_reducible refine (C7.out _).mono ?_); rintro e w1 ⟨rfl, rfl⟩) | ((with_reducible refine (C8.out _).mono ?_); rintro e w1 ⟨rfl, rfl⟩) | ((with_reducible refine (C9.out _).mono ?_); rintro e w1 ⟨rfl, rfl⟩) | ((with_reducible refine (CH.out _).mono ?_); rintro e w1 ⟨rfl, rfl⟩) | ((with_reducible refine (CU.out _).mono ?_); rintro e w1 ⟨rfl, rfl⟩) | ((with_reducible refine (awake_c _).mono ?_); rintro e w2 ⟨rfl, hb1⟩; replace HB := bl_then HB hb1; replace hblk := Lib.hid (hblk.out.below hb1); have hc3 := hblk.out.c; clear hb1) | ((with_reducible refine (CI.out _).mono ?_); rintro e w2 ⟨rfl, hb1⟩; replace HB := bl_then HB hb1; replace hblk := Lib.hid (hblk.out.below hb1); have hc3 := hblk.out.c; clear hb1) | ((with_reducible refine (CR.out _).mono ?_); rintro e w2 ⟨rfl, hb1⟩; replace HB := bl_then HB hb1; replace hblk := Lib.hid (hblk.out.below hb1); have hc3 := hblk.out.c; clear hb1) | ((with_reducible refine (CN.out _).mono ?_); rintro e w2 ⟨rfl, hb1⟩; replace HB := bl_then HB hb1; replace hblk := Lib.hid (hblk.out.below hb1); have hc3 := hblk.out.c; clear hb1))
  go_ret
  exact ⟨rfl, HB⟩
theorem num_1010 (d g m o : Int) (w : World) (hd0 : -32768 ≤ d) (hd1 : d ≤ 32767) (hg0 : -32768 ≤ g) (hg1 : g ≤ 32767) (hm0 : -32768 ≤ m) (hm1 : m ≤ 32767) (ho0 : -32768 ≤ o) (ho1 : o ≤ 32767)
    (cg : ¬ (g < 0)) (cm : (m < 0)) (co : ¬ (o < 0)) :
    Calls Try.prog 4 #[.bool true, .int .i16 d, .int .i16 g, .int .i16 m, .int .i16 o] w fun e w' => e = .returned (.bool true) ∧ Below w.heap.size w w' := by
  have HB := bl_refl w
  have wb : 676 ≤ way_ d ∧ way_ d ≤ 10000 := by
    have := mx_bd d
    unfold way_; omega
  have ub : 1 ≤ unit_ (o) ∧ unit_ (o) ≤ 100000 := by
    have := mx_bd (o)
    unfold unit_; omega
  have em : mx m = 0 := by unfold mx; split <;> omega
  have eo : mx o = o := by unfold mx; split <;> omega
  have eg : mx g = g := by unfold mx; split <;> omega
  obtain ⟨W, hW⟩ : ∃ W, way_ d = W := ⟨_, rfl⟩
  obtain ⟨u, hu⟩ : ∃ u, unit_ (o) = u := ⟨_, rfl⟩
  have C7 : Hid (∀ w : World, Calls Try.prog 7 #[.int .i64 d] w fun e w' => e = .returned (.int .i64 W) ∧ w = w') := fun w => by rw [← hW]; exact lway_c d w (by omega)
  have C8 : Hid (∀ w : World, Calls Try.prog 11 #[.int .i64 8] w fun e w' => e = .returned (.int .i64 12) ∧ w = w') := fun w => unit_c 8 w (by omega)
  have C9 : Hid (∀ w : World, Calls Try.prog 11 #[.int .i64 279] w fun e w' => e = .returned (.int .i64 337) ∧ w = w') := fun w => unit_c 279 w (by omega)
  have CH : Hid (∀ w : World, Calls Try.prog 11 #[.int .i64 636] w fun e w' => e = .returned (.int .i64 766) ∧ w = w') := fun w => unit_c 636 w (by omega)
  have CU : Hid (∀ w : World, Calls Try.prog 11 #[.int .i64 (o)] w fun e w' => e = .returned (.int .i64 u) ∧ w = w') := fun w => by rw [← hu]; exact unit_c _ w (by omega)
  have CI : Hid (∀ w : World, Calls Try.prog 12 #[suV true usT, .int .i64 d, .int .i64 g] w fun e w' => e = .returned (.int .i64 (g + 1200 + 6 * W)) ∧ Below w.heap.size w w') := fun w => by
    have := inserv_c true usT d g w (by decide) (by decide) (by omega) (by omega)
    rwa [eg, hW, show usT.t4 = 1200 from rfl] at this
  have CR : Hid (∀ w : World, Calls Try.prog 8 #[suV true usT, .int .i64 d] w fun e w' => e = .returned (.int .i64 (2 * 766 + 3 * W)) ∧ Below w.heap.size w w') := fun w => by
    have := reply_c true usT d w (by omega)
    rwa [show reply_ true d = 2 * 766 + 3 * W by simp [reply_, hW]] at this
  have CN : Hid (∀ w : World, Calls Try.prog 13 #[suV true usT, .int .i64 d, .int .i64 m, .int .i64 o] w fun e w' => e = .returned (.int .i64 (2 * ((0 * 12 + u + 674 + 2 * W) * (0 + 2)) + 4 * W)) ∧ Below w.heap.size w w') := fun w => by
    have := answered_c true usT d m o w (by omega) (by omega) (by omega)
    rwa [show ans_ true d m o = 2 * ((0 * 12 + u + 674 + 2 * W) * (0 + 2)) + 4 * W by simp [ans_, ansN, hW, em, eo, hu]] at this
  rw [hW] at wb
  rw [hu] at ub
  clear hW hu em eo eg
  go_enter Try.func4, Try.ntmps4
  go_upto_region 2 with (first | ((with_reducible refine (usual_c _ _).mono ?_); rintro e w1 ⟨rfl, hb1⟩; replace HB := bl_then (by repeat (first | exact HB | apply bl_drew | (refine bl_alloc ?_ _))) hb1; clear hb1))
  have hblk : Hid (Blk (w1.alloc (.cells #[.bool true, .int .i64 8, .int .i64 300, .int .i64 16, .int .i64 600, .int .i64 usT.t0, .int .i64 usT.t1, .int .i64 usT.t2, .int .i64 usT.t3, .int .i64 usT.t4, .int .i64 usT.t5, .int .i64 usT.t6, .int .i64 usT.t7] 25)) w1.heap.size #[.bool true, .int .i64 8, .int .i64 300, .int .i64 16, .int .i64 600, .int .i64 usT.t0, .int .i64 usT.t1, .int .i64 usT.t2, .int .i64 usT.t3, .int .i64 usT.t4, .int .i64 usT.t5, .int .i64 usT.t6, .int .i64 usT.t7] 25) := Blk.new _ _ _
  replace HB := bl_alloc HB (.cells #[.bool true, .int .i64 8, .int .i64 300, .int .i64 16, .int .i64 600, .int .i64 usT.t0, .int .i64 usT.t1, .int .i64 usT.t2, .int .i64 usT.t3, .int .i64 usT.t4, .int .i64 usT.t5, .int .i64 usT.t6, .int .i64 usT.t7] 25)
  go_wp2_with (first | ((with_reducible refine (C7.out _).mono ?_); rintro e w1 ⟨rfl, rfl⟩) | ((with_reducible refine (C8.out _).mono ?_); rintro e w1 ⟨rfl, rfl⟩) | ((with_reducible refine (C9.out _).mono ?_); rintro e w1 ⟨rfl, rfl⟩) | ((with_reducible refine (CH.out _).mono ?_); rintro e w1 ⟨rfl, rfl⟩) | ((with_reducible refine (CU.out _).mono ?_); rintro e w1 ⟨rfl, rfl⟩) | ((with_reducible refine (awake_c _).mono ?_); rintro e w2 ⟨rfl, hb1⟩; replace HB := bl_then HB hb1; replace hblk := Lib.hid (hblk.out.below hb1); have hc3 := hblk.out.c; clear hb1) | ((with_reducible refine (CI.out _).mono ?_); rintro e w2 ⟨rfl, hb1⟩; replace HB := bl_then HB hb1; replace hblk := Lib.hid (hblk.out.below hb1); have hc3 := hblk.out.c; clear hb1) | ((with_reducible refine (CR.out _).mono ?_); rintro e w2 ⟨rfl, hb1⟩; replace HB := bl_then HB hb1; replace hblk := Lib.hid (hblk.out.below hb1); have hc3 := hblk.out.c; clear hb1) | ((with_reducible refine (CN.out _).mono ?_); rintro e w2 ⟨rfl, hb1⟩; replace HB := bl_then HB hb1; replace hblk := Lib.hid (hblk.out.below hb1); have hc3 := hblk.out.c; clear hb1))
  go_ret
  exact ⟨rfl, HB⟩
theorem num_1011 (d g m o : Int) (w : World) (hd0 : -32768 ≤ d) (hd1 : d ≤ 32767) (hg0 : -32768 ≤ g) (hg1 : g ≤ 32767) (hm0 : -32768 ≤ m) (hm1 : m ≤ 32767) (ho0 : -32768 ≤ o) (ho1 : o ≤ 32767)
    (cg : ¬ (g < 0)) (cm : (m < 0)) (co : (o < 0)) :
    Calls Try.prog 4 #[.bool true, .int .i16 d, .int .i16 g, .int .i16 m, .int .i16 o] w fun e w' => e = .returned (.bool true) ∧ Below w.heap.size w w' := by
  have HB := bl_refl w
  have wb : 676 ≤ way_ d ∧ way_ d ≤ 10000 := by
    have := mx_bd d
    unfold way_; omega
  have ub : 1 ≤ unit_ (0) ∧ unit_ (0) ≤ 100000 := by
    have := mx_bd (0)
    unfold unit_; omega
  have em : mx m = 0 := by unfold mx; split <;> omega
  have eo : mx o = 0 := by unfold mx; split <;> omega
  have eg : mx g = g := by unfold mx; split <;> omega
  obtain ⟨W, hW⟩ : ∃ W, way_ d = W := ⟨_, rfl⟩
  obtain ⟨u, hu⟩ : ∃ u, unit_ (0) = u := ⟨_, rfl⟩
  have C7 : Hid (∀ w : World, Calls Try.prog 7 #[.int .i64 d] w fun e w' => e = .returned (.int .i64 W) ∧ w = w') := fun w => by rw [← hW]; exact lway_c d w (by omega)
  have C8 : Hid (∀ w : World, Calls Try.prog 11 #[.int .i64 8] w fun e w' => e = .returned (.int .i64 12) ∧ w = w') := fun w => unit_c 8 w (by omega)
  have C9 : Hid (∀ w : World, Calls Try.prog 11 #[.int .i64 279] w fun e w' => e = .returned (.int .i64 337) ∧ w = w') := fun w => unit_c 279 w (by omega)
  have CH : Hid (∀ w : World, Calls Try.prog 11 #[.int .i64 636] w fun e w' => e = .returned (.int .i64 766) ∧ w = w') := fun w => unit_c 636 w (by omega)
  have CU : Hid (∀ w : World, Calls Try.prog 11 #[.int .i64 (0)] w fun e w' => e = .returned (.int .i64 u) ∧ w = w') := fun w => by rw [← hu]; exact unit_c _ w (by omega)
  have CI : Hid (∀ w : World, Calls Try.prog 12 #[suV true usT, .int .i64 d, .int .i64 g] w fun e w' => e = .returned (.int .i64 (g + 1200 + 6 * W)) ∧ Below w.heap.size w w') := fun w => by
    have := inserv_c true usT d g w (by decide) (by decide) (by omega) (by omega)
    rwa [eg, hW, show usT.t4 = 1200 from rfl] at this
  have CR : Hid (∀ w : World, Calls Try.prog 8 #[suV true usT, .int .i64 d] w fun e w' => e = .returned (.int .i64 (2 * 766 + 3 * W)) ∧ Below w.heap.size w w') := fun w => by
    have := reply_c true usT d w (by omega)
    rwa [show reply_ true d = 2 * 766 + 3 * W by simp [reply_, hW]] at this
  have CN : Hid (∀ w : World, Calls Try.prog 13 #[suV true usT, .int .i64 d, .int .i64 m, .int .i64 o] w fun e w' => e = .returned (.int .i64 (2 * ((0 * 12 + u + 674 + 2 * W) * (0 + 2)) + 4 * W)) ∧ Below w.heap.size w w') := fun w => by
    have := answered_c true usT d m o w (by omega) (by omega) (by omega)
    rwa [show ans_ true d m o = 2 * ((0 * 12 + u + 674 + 2 * W) * (0 + 2)) + 4 * W by simp [ans_, ansN, hW, em, eo, hu]] at this
  rw [hW] at wb
  rw [hu] at ub
  clear hW hu em eo eg
  go_enter Try.func4, Try.ntmps4
  go_upto_region 2 with (first | ((with_reducible refine (usual_c _ _).mono ?_); rintro e w1 ⟨rfl, hb1⟩; replace HB := bl_then (by repeat (first | exact HB | apply bl_drew | (refine bl_alloc ?_ _))) hb1; clear hb1))
  have hblk : Hid (Blk (w1.alloc (.cells #[.bool true, .int .i64 8, .int .i64 300, .int .i64 16, .int .i64 600, .int .i64 usT.t0, .int .i64 usT.t1, .int .i64 usT.t2, .int .i64 usT.t3, .int .i64 usT.t4, .int .i64 usT.t5, .int .i64 usT.t6, .int .i64 usT.t7] 25)) w1.heap.size #[.bool true, .int .i64 8, .int .i64 300, .int .i64 16, .int .i64 600, .int .i64 usT.t0, .int .i64 usT.t1, .int .i64 usT.t2, .int .i64 usT.t3, .int .i64 usT.t4, .int .i64 usT.t5, .int .i64 usT.t6, .int .i64 usT.t7] 25) := Blk.new _ _ _
  replace HB := bl_alloc HB (.cells #[.bool true, .int .i64 8, .int .i64 300, .int .i64 16, .int .i64 600, .int .i64 usT.t0, .int .i64 usT.t1, .int .i64 usT.t2, .int .i64 usT.t3, .int .i64 usT.t4, .int .i64 usT.t5, .int .i64 usT.t6, .int .i64 usT.t7] 25)
  go_wp2_with (first | ((with_reducible refine (C7.out _).mono ?_); rintro e w1 ⟨rfl, rfl⟩) | ((with_reducible refine (C8.out _).mono ?_); rintro e w1 ⟨rfl, rfl⟩) | ((with_reducible refine (C9.out _).mono ?_); rintro e w1 ⟨rfl, rfl⟩) | ((with_reducible refine (CH.out _).mono ?_); rintro e w1 ⟨rfl, rfl⟩) | ((with_reducible refine (CU.out _).mono ?_); rintro e w1 ⟨rfl, rfl⟩) | ((with_reducible refine (awake_c _).mono ?_); rintro e w2 ⟨rfl, hb1⟩; replace HB := bl_then HB hb1; replace hblk := Lib.hid (hblk.out.below hb1); have hc3 := hblk.out.c; clear hb1) | ((with_reducible refine (CI.out _).mono ?_); rintro e w2 ⟨rfl, hb1⟩; replace HB := bl_then HB hb1; replace hblk := Lib.hid (hblk.out.below hb1); have hc3 := hblk.out.c; clear hb1) | ((with_reducible refine (CR.out _).mono ?_); rintro e w2 ⟨rfl, hb1⟩; replace HB := bl_then HB hb1; replace hblk := Lib.hid (hblk.out.below hb1); have hc3 := hblk.out.c; clear hb1) | ((with_reducible refine (CN.out _).mono ?_); rintro e w2 ⟨rfl, hb1⟩; replace HB := bl_then HB hb1; replace hblk := Lib.hid (hblk.out.below hb1); have hc3 := hblk.out.c; clear hb1))
  go_ret
  exact ⟨rfl, HB⟩
theorem num_1100 (d g m o : Int) (w : World) (hd0 : -32768 ≤ d) (hd1 : d ≤ 32767) (hg0 : -32768 ≤ g) (hg1 : g ≤ 32767) (hm0 : -32768 ≤ m) (hm1 : m ≤ 32767) (ho0 : -32768 ≤ o) (ho1 : o ≤ 32767)
    (cg : (g < 0)) (cm : ¬ (m < 0)) (co : ¬ (o < 0)) :
    Calls Try.prog 4 #[.bool true, .int .i16 d, .int .i16 g, .int .i16 m, .int .i16 o] w fun e w' => e = .returned (.bool true) ∧ Below w.heap.size w w' := by
  have HB := bl_refl w
  have wb : 676 ≤ way_ d ∧ way_ d ≤ 10000 := by
    have := mx_bd d
    unfold way_; omega
  have ub : 1 ≤ unit_ (o) ∧ unit_ (o) ≤ 100000 := by
    have := mx_bd (o)
    unfold unit_; omega
  have em : mx m = m := by unfold mx; split <;> omega
  have eo : mx o = o := by unfold mx; split <;> omega
  have eg : mx g = 0 := by unfold mx; split <;> omega
  obtain ⟨W, hW⟩ : ∃ W, way_ d = W := ⟨_, rfl⟩
  obtain ⟨u, hu⟩ : ∃ u, unit_ (o) = u := ⟨_, rfl⟩
  have C7 : Hid (∀ w : World, Calls Try.prog 7 #[.int .i64 d] w fun e w' => e = .returned (.int .i64 W) ∧ w = w') := fun w => by rw [← hW]; exact lway_c d w (by omega)
  have C8 : Hid (∀ w : World, Calls Try.prog 11 #[.int .i64 8] w fun e w' => e = .returned (.int .i64 12) ∧ w = w') := fun w => unit_c 8 w (by omega)
  have C9 : Hid (∀ w : World, Calls Try.prog 11 #[.int .i64 279] w fun e w' => e = .returned (.int .i64 337) ∧ w = w') := fun w => unit_c 279 w (by omega)
  have CH : Hid (∀ w : World, Calls Try.prog 11 #[.int .i64 636] w fun e w' => e = .returned (.int .i64 766) ∧ w = w') := fun w => unit_c 636 w (by omega)
  have CU : Hid (∀ w : World, Calls Try.prog 11 #[.int .i64 (o)] w fun e w' => e = .returned (.int .i64 u) ∧ w = w') := fun w => by rw [← hu]; exact unit_c _ w (by omega)
  have CI : Hid (∀ w : World, Calls Try.prog 12 #[suV true usT, .int .i64 d, .int .i64 g] w fun e w' => e = .returned (.int .i64 (0 + 1200 + 6 * W)) ∧ Below w.heap.size w w') := fun w => by
    have := inserv_c true usT d g w (by decide) (by decide) (by omega) (by omega)
    rwa [eg, hW, show usT.t4 = 1200 from rfl] at this
  have CR : Hid (∀ w : World, Calls Try.prog 8 #[suV true usT, .int .i64 d] w fun e w' => e = .returned (.int .i64 (2 * 766 + 3 * W)) ∧ Below w.heap.size w w') := fun w => by
    have := reply_c true usT d w (by omega)
    rwa [show reply_ true d = 2 * 766 + 3 * W by simp [reply_, hW]] at this
  have CN : Hid (∀ w : World, Calls Try.prog 13 #[suV true usT, .int .i64 d, .int .i64 m, .int .i64 o] w fun e w' => e = .returned (.int .i64 (2 * ((m * 12 + u + 674 + 2 * W) * (m + 2)) + 4 * W)) ∧ Below w.heap.size w w') := fun w => by
    have := answered_c true usT d m o w (by omega) (by omega) (by omega)
    rwa [show ans_ true d m o = 2 * ((m * 12 + u + 674 + 2 * W) * (m + 2)) + 4 * W by simp [ans_, ansN, hW, em, eo, hu]] at this
  rw [hW] at wb
  rw [hu] at ub
  clear hW hu em eo eg
  have n1 : 0 ≤ (m * 12 + u + 674 + 2 * W) * (m + 2) := Int.mul_nonneg (by omega) (by omega)
  have n2 : (m * 12 + u + 674 + 2 * W) * (m + 2) ≤ 10000000 * 100002 := Int.mul_le_mul (by omega) (by omega) (by omega) (by omega)
  go_enter Try.func4, Try.ntmps4
  go_upto_region 2 with (first | ((with_reducible refine (usual_c _ _).mono ?_); rintro e w1 ⟨rfl, hb1⟩; replace HB := bl_then (by repeat (first | exact HB | apply bl_drew | (refine bl_alloc ?_ _))) hb1; clear hb1))
  have hblk : Hid (Blk (w1.alloc (.cells #[.bool true, .int .i64 8, .int .i64 300, .int .i64 16, .int .i64 600, .int .i64 usT.t0, .int .i64 usT.t1, .int .i64 usT.t2, .int .i64 usT.t3, .int .i64 usT.t4, .int .i64 usT.t5, .int .i64 usT.t6, .int .i64 usT.t7] 25)) w1.heap.size #[.bool true, .int .i64 8, .int .i64 300, .int .i64 16, .int .i64 600, .int .i64 usT.t0, .int .i64 usT.t1, .int .i64 usT.t2, .int .i64 usT.t3, .int .i64 usT.t4, .int .i64 usT.t5, .int .i64 usT.t6, .int .i64 usT.t7] 25) := Blk.new _ _ _
  replace HB := bl_alloc HB (.cells #[.bool true, .int .i64 8, .int .i64 300, .int .i64 16, .int .i64 600, .int .i64 usT.t0, .int .i64 usT.t1, .int .i64 usT.t2, .int .i64 usT.t3, .int .i64 usT.t4, .int .i64 usT.t5, .int .i64 usT.t6, .int .i64 usT.t7] 25)
  go_wp2_with (first | ((with_reducible refine (C7.out _).mono ?_); rintro e w1 ⟨rfl, rfl⟩) | ((with_reducible refine (C8.out _).mono ?_); rintro e w1 ⟨rfl, rfl⟩) | ((with_reducible refine (C9.out _).mono ?_); rintro e w1 ⟨rfl, rfl⟩) | ((with_reducible refine (CH.out _).mono ?_); rintro e w1 ⟨rfl, rfl⟩) | ((with_reducible refine (CU.out _).mono ?_); rintro e w1 ⟨rfl, rfl⟩) | ((with_reducible refine (awake_c _).mono ?_); rintro e w2 ⟨rfl, hb1⟩; replace HB := bl_then HB hb1; replace hblk := Lib.hid (hblk.out.below hb1); have hc3 := hblk.out.c; clear hb1) | ((with_reducible refine (CI.out _).mono ?_); rintro e w2 ⟨rfl, hb1⟩; replace HB := bl_then HB hb1; replace hblk := Lib.hid (hblk.out.below hb1); have hc3 := hblk.out.c; clear hb1) | ((with_reducible refine (CR.out _).mono ?_); rintro e w2 ⟨rfl, hb1⟩; replace HB := bl_then HB hb1; replace hblk := Lib.hid (hblk.out.below hb1); have hc3 := hblk.out.c; clear hb1) | ((with_reducible refine (CN.out _).mono ?_); rintro e w2 ⟨rfl, hb1⟩; replace HB := bl_then HB hb1; replace hblk := Lib.hid (hblk.out.below hb1); have hc3 := hblk.out.c; clear hb1))
  go_ret
  exact ⟨rfl, HB⟩
theorem num_1101 (d g m o : Int) (w : World) (hd0 : -32768 ≤ d) (hd1 : d ≤ 32767) (hg0 : -32768 ≤ g) (hg1 : g ≤ 32767) (hm0 : -32768 ≤ m) (hm1 : m ≤ 32767) (ho0 : -32768 ≤ o) (ho1 : o ≤ 32767)
    (cg : (g < 0)) (cm : ¬ (m < 0)) (co : (o < 0)) :
    Calls Try.prog 4 #[.bool true, .int .i16 d, .int .i16 g, .int .i16 m, .int .i16 o] w fun e w' => e = .returned (.bool true) ∧ Below w.heap.size w w' := by
  have HB := bl_refl w
  have wb : 676 ≤ way_ d ∧ way_ d ≤ 10000 := by
    have := mx_bd d
    unfold way_; omega
  have ub : 1 ≤ unit_ (0) ∧ unit_ (0) ≤ 100000 := by
    have := mx_bd (0)
    unfold unit_; omega
  have em : mx m = m := by unfold mx; split <;> omega
  have eo : mx o = 0 := by unfold mx; split <;> omega
  have eg : mx g = 0 := by unfold mx; split <;> omega
  obtain ⟨W, hW⟩ : ∃ W, way_ d = W := ⟨_, rfl⟩
  obtain ⟨u, hu⟩ : ∃ u, unit_ (0) = u := ⟨_, rfl⟩
  have C7 : Hid (∀ w : World, Calls Try.prog 7 #[.int .i64 d] w fun e w' => e = .returned (.int .i64 W) ∧ w = w') := fun w => by rw [← hW]; exact lway_c d w (by omega)
  have C8 : Hid (∀ w : World, Calls Try.prog 11 #[.int .i64 8] w fun e w' => e = .returned (.int .i64 12) ∧ w = w') := fun w => unit_c 8 w (by omega)
  have C9 : Hid (∀ w : World, Calls Try.prog 11 #[.int .i64 279] w fun e w' => e = .returned (.int .i64 337) ∧ w = w') := fun w => unit_c 279 w (by omega)
  have CH : Hid (∀ w : World, Calls Try.prog 11 #[.int .i64 636] w fun e w' => e = .returned (.int .i64 766) ∧ w = w') := fun w => unit_c 636 w (by omega)
  have CU : Hid (∀ w : World, Calls Try.prog 11 #[.int .i64 (0)] w fun e w' => e = .returned (.int .i64 u) ∧ w = w') := fun w => by rw [← hu]; exact unit_c _ w (by omega)
  have CI : Hid (∀ w : World, Calls Try.prog 12 #[suV true usT, .int .i64 d, .int .i64 g] w fun e w' => e = .returned (.int .i64 (0 + 1200 + 6 * W)) ∧ Below w.heap.size w w') := fun w => by
    have := inserv_c true usT d g w (by decide) (by decide) (by omega) (by omega)
    rwa [eg, hW, show usT.t4 = 1200 from rfl] at this
  have CR : Hid (∀ w : World, Calls Try.prog 8 #[suV true usT, .int .i64 d] w fun e w' => e = .returned (.int .i64 (2 * 766 + 3 * W)) ∧ Below w.heap.size w w') := fun w => by
    have := reply_c true usT d w (by omega)
    rwa [show reply_ true d = 2 * 766 + 3 * W by simp [reply_, hW]] at this
  have CN : Hid (∀ w : World, Calls Try.prog 13 #[suV true usT, .int .i64 d, .int .i64 m, .int .i64 o] w fun e w' => e = .returned (.int .i64 (2 * ((m * 12 + u + 674 + 2 * W) * (m + 2)) + 4 * W)) ∧ Below w.heap.size w w') := fun w => by
    have := answered_c true usT d m o w (by omega) (by omega) (by omega)
    rwa [show ans_ true d m o = 2 * ((m * 12 + u + 674 + 2 * W) * (m + 2)) + 4 * W by simp [ans_, ansN, hW, em, eo, hu]] at this
  rw [hW] at wb
  rw [hu] at ub
  clear hW hu em eo eg
  have n1 : 0 ≤ (m * 12 + u + 674 + 2 * W) * (m + 2) := Int.mul_nonneg (by omega) (by omega)
  have n2 : (m * 12 + u + 674 + 2 * W) * (m + 2) ≤ 10000000 * 100002 := Int.mul_le_mul (by omega) (by omega) (by omega) (by omega)
  go_enter Try.func4, Try.ntmps4
  go_upto_region 2 with (first | ((with_reducible refine (usual_c _ _).mono ?_); rintro e w1 ⟨rfl, hb1⟩; replace HB := bl_then (by repeat (first | exact HB | apply bl_drew | (refine bl_alloc ?_ _))) hb1; clear hb1))
  have hblk : Hid (Blk (w1.alloc (.cells #[.bool true, .int .i64 8, .int .i64 300, .int .i64 16, .int .i64 600, .int .i64 usT.t0, .int .i64 usT.t1, .int .i64 usT.t2, .int .i64 usT.t3, .int .i64 usT.t4, .int .i64 usT.t5, .int .i64 usT.t6, .int .i64 usT.t7] 25)) w1.heap.size #[.bool true, .int .i64 8, .int .i64 300, .int .i64 16, .int .i64 600, .int .i64 usT.t0, .int .i64 usT.t1, .int .i64 usT.t2, .int .i64 usT.t3, .int .i64 usT.t4, .int .i64 usT.t5, .int .i64 usT.t6, .int .i64 usT.t7] 25) := Blk.new _ _ _
  replace HB := bl_alloc HB (.cells #[.bool true, .int .i64 8, .int .i64 300, .int .i64 16, .int .i64 600, .int .i64 usT.t0, .int .i64 usT.t1, .int .i64 usT.t2, .int .i64 usT.t3, .int .i64 usT.t4, .int .i64 usT.t5, .int .i64 usT.t6, .int .i64 usT.t7] 25)
  go_wp2_with (first | ((with_reducible refine (C7.out _).mono ?_); rintro e w1 ⟨rfl, rfl⟩) | ((with_reducible refine (C8.out _).mono ?_); rintro e w1 ⟨rfl, rfl⟩) | ((with_reducible refine (C9.out _).mono ?_); rintro e w1 ⟨rfl, rfl⟩) | ((with_reducible refine (CH.out _).mono ?_); rintro e w1 ⟨rfl, rfl⟩) | ((with_reducible refine (CU.out _).mono ?_); rintro e w1 ⟨rfl, rfl⟩) | ((with_reducible refine (awake_c _).mono ?_); rintro e w2 ⟨rfl, hb1⟩; replace HB := bl_then HB hb1; replace hblk := Lib.hid (hblk.out.below hb1); have hc3 := hblk.out.c; clear hb1) | ((with_reducible refine (CI.out _).mono ?_); rintro e w2 ⟨rfl, hb1⟩; replace HB := bl_then HB hb1; replace hblk := Lib.hid (hblk.out.below hb1); have hc3 := hblk.out.c; clear hb1) | ((with_reducible refine (CR.out _).mono ?_); rintro e w2 ⟨rfl, hb1⟩; replace HB := bl_then HB hb1; replace hblk := Lib.hid (hblk.out.below hb1); have hc3 := hblk.out.c; clear hb1) | ((with_reducible refine (CN.out _).mono ?_); rintro e w2 ⟨rfl, hb1⟩; replace HB := bl_then HB hb1; replace hblk := Lib.hid (hblk.out.below hb1); have hc3 := hblk.out.c; clear hb1))
  go_ret
  exact ⟨rfl, HB⟩
theorem num_1110 (d g m o : Int) (w : World) (hd0 : -32768 ≤ d) (hd1 : d ≤ 32767) (hg0 : -32768 ≤ g) (hg1 : g ≤ 32767) (hm0 : -32768 ≤ m) (hm1 : m ≤ 32767) (ho0 : -32768 ≤ o) (ho1 : o ≤ 32767)
    (cg : (g < 0)) (cm : (m < 0)) (co : ¬ (o < 0)) :
    Calls Try.prog 4 #[.bool true, .int .i16 d, .int .i16 g, .int .i16 m, .int .i16 o] w fun e w' => e = .returned (.bool true) ∧ Below w.heap.size w w' := by
  have HB := bl_refl w
  have wb : 676 ≤ way_ d ∧ way_ d ≤ 10000 := by
    have := mx_bd d
    unfold way_; omega
  have ub : 1 ≤ unit_ (o) ∧ unit_ (o) ≤ 100000 := by
    have := mx_bd (o)
    unfold unit_; omega
  have em : mx m = 0 := by unfold mx; split <;> omega
  have eo : mx o = o := by unfold mx; split <;> omega
  have eg : mx g = 0 := by unfold mx; split <;> omega
  obtain ⟨W, hW⟩ : ∃ W, way_ d = W := ⟨_, rfl⟩
  obtain ⟨u, hu⟩ : ∃ u, unit_ (o) = u := ⟨_, rfl⟩
  have C7 : Hid (∀ w : World, Calls Try.prog 7 #[.int .i64 d] w fun e w' => e = .returned (.int .i64 W) ∧ w = w') := fun w => by rw [← hW]; exact lway_c d w (by omega)
  have C8 : Hid (∀ w : World, Calls Try.prog 11 #[.int .i64 8] w fun e w' => e = .returned (.int .i64 12) ∧ w = w') := fun w => unit_c 8 w (by omega)
  have C9 : Hid (∀ w : World, Calls Try.prog 11 #[.int .i64 279] w fun e w' => e = .returned (.int .i64 337) ∧ w = w') := fun w => unit_c 279 w (by omega)
  have CH : Hid (∀ w : World, Calls Try.prog 11 #[.int .i64 636] w fun e w' => e = .returned (.int .i64 766) ∧ w = w') := fun w => unit_c 636 w (by omega)
  have CU : Hid (∀ w : World, Calls Try.prog 11 #[.int .i64 (o)] w fun e w' => e = .returned (.int .i64 u) ∧ w = w') := fun w => by rw [← hu]; exact unit_c _ w (by omega)
  have CI : Hid (∀ w : World, Calls Try.prog 12 #[suV true usT, .int .i64 d, .int .i64 g] w fun e w' => e = .returned (.int .i64 (0 + 1200 + 6 * W)) ∧ Below w.heap.size w w') := fun w => by
    have := inserv_c true usT d g w (by decide) (by decide) (by omega) (by omega)
    rwa [eg, hW, show usT.t4 = 1200 from rfl] at this
  have CR : Hid (∀ w : World, Calls Try.prog 8 #[suV true usT, .int .i64 d] w fun e w' => e = .returned (.int .i64 (2 * 766 + 3 * W)) ∧ Below w.heap.size w w') := fun w => by
    have := reply_c true usT d w (by omega)
    rwa [show reply_ true d = 2 * 766 + 3 * W by simp [reply_, hW]] at this
  have CN : Hid (∀ w : World, Calls Try.prog 13 #[suV true usT, .int .i64 d, .int .i64 m, .int .i64 o] w fun e w' => e = .returned (.int .i64 (2 * ((0 * 12 + u + 674 + 2 * W) * (0 + 2)) + 4 * W)) ∧ Below w.heap.size w w') := fun w => by
    have := answered_c true usT d m o w (by omega) (by omega) (by omega)
    rwa [show ans_ true d m o = 2 * ((0 * 12 + u + 674 + 2 * W) * (0 + 2)) + 4 * W by simp [ans_, ansN, hW, em, eo, hu]] at this
  rw [hW] at wb
  rw [hu] at ub
  clear hW hu em eo eg
  go_enter Try.func4, Try.ntmps4
  go_upto_region 2 with (first | ((with_reducible refine (usual_c _ _).mono ?_); rintro e w1 ⟨rfl, hb1⟩; replace HB := bl_then (by repeat (first | exact HB | apply bl_drew | (refine bl_alloc ?_ _))) hb1; clear hb1))
  have hblk : Hid (Blk (w1.alloc (.cells #[.bool true, .int .i64 8, .int .i64 300, .int .i64 16, .int .i64 600, .int .i64 usT.t0, .int .i64 usT.t1, .int .i64 usT.t2, .int .i64 usT.t3, .int .i64 usT.t4, .int .i64 usT.t5, .int .i64 usT.t6, .int .i64 usT.t7] 25)) w1.heap.size #[.bool true, .int .i64 8, .int .i64 300, .int .i64 16, .int .i64 600, .int .i64 usT.t0, .int .i64 usT.t1, .int .i64 usT.t2, .int .i64 usT.t3, .int .i64 usT.t4, .int .i64 usT.t5, .int .i64 usT.t6, .int .i64 usT.t7] 25) := Blk.new _ _ _
  replace HB := bl_alloc HB (.cells #[.bool true, .int .i64 8, .int .i64 300, .int .i64 16, .int .i64 600, .int .i64 usT.t0, .int .i64 usT.t1, .int .i64 usT.t2, .int .i64 usT.t3, .int .i64 usT.t4, .int .i64 usT.t5, .int .i64 usT.t6, .int .i64 usT.t7] 25)
  go_wp2_with (first | ((with_reducible refine (C7.out _).mono ?_); rintro e w1 ⟨rfl, rfl⟩) | ((with_reducible refine (C8.out _).mono ?_); rintro e w1 ⟨rfl, rfl⟩) | ((with_reducible refine (C9.out _).mono ?_); rintro e w1 ⟨rfl, rfl⟩) | ((with_reducible refine (CH.out _).mono ?_); rintro e w1 ⟨rfl, rfl⟩) | ((with_reducible refine (CU.out _).mono ?_); rintro e w1 ⟨rfl, rfl⟩) | ((with_reducible refine (awake_c _).mono ?_); rintro e w2 ⟨rfl, hb1⟩; replace HB := bl_then HB hb1; replace hblk := Lib.hid (hblk.out.below hb1); have hc3 := hblk.out.c; clear hb1) | ((with_reducible refine (CI.out _).mono ?_); rintro e w2 ⟨rfl, hb1⟩; replace HB := bl_then HB hb1; replace hblk := Lib.hid (hblk.out.below hb1); have hc3 := hblk.out.c; clear hb1) | ((with_reducible refine (CR.out _).mono ?_); rintro e w2 ⟨rfl, hb1⟩; replace HB := bl_then HB hb1; replace hblk := Lib.hid (hblk.out.below hb1); have hc3 := hblk.out.c; clear hb1) | ((with_reducible refine (CN.out _).mono ?_); rintro e w2 ⟨rfl, hb1⟩; replace HB := bl_then HB hb1; replace hblk := Lib.hid (hblk.out.below hb1); have hc3 := hblk.out.c; clear hb1))
  go_ret
  exact ⟨rfl, HB⟩
theorem num_1111 (d g m o : Int) (w : World) (hd0 : -32768 ≤ d) (hd1 : d ≤ 32767) (hg0 : -32768 ≤ g) (hg1 : g ≤ 32767) (hm0 : -32768 ≤ m) (hm1 : m ≤ 32767) (ho0 : -32768 ≤ o) (ho1 : o ≤ 32767)
    (cg : (g < 0)) (cm : (m < 0)) (co : (o < 0)) :
    Calls Try.prog 4 #[.bool true, .int .i16 d, .int .i16 g, .int .i16 m, .int .i16 o] w fun e w' => e = .returned (.bool true) ∧ Below w.heap.size w w' := by
  have HB := bl_refl w
  have wb : 676 ≤ way_ d ∧ way_ d ≤ 10000 := by
    have := mx_bd d
    unfold way_; omega
  have ub : 1 ≤ unit_ (0) ∧ unit_ (0) ≤ 100000 := by
    have := mx_bd (0)
    unfold unit_; omega
  have em : mx m = 0 := by unfold mx; split <;> omega
  have eo : mx o = 0 := by unfold mx; split <;> omega
  have eg : mx g = 0 := by unfold mx; split <;> omega
  obtain ⟨W, hW⟩ : ∃ W, way_ d = W := ⟨_, rfl⟩
  obtain ⟨u, hu⟩ : ∃ u, unit_ (0) = u := ⟨_, rfl⟩
  have C7 : Hid (∀ w : World, Calls Try.prog 7 #[.int .i64 d] w fun e w' => e = .returned (.int .i64 W) ∧ w = w') := fun w => by rw [← hW]; exact lway_c d w (by omega)
  have C8 : Hid (∀ w : World, Calls Try.prog 11 #[.int .i64 8] w fun e w' => e = .returned (.int .i64 12) ∧ w = w') := fun w => unit_c 8 w (by omega)
  have C9 : Hid (∀ w : World, Calls Try.prog 11 #[.int .i64 279] w fun e w' => e = .returned (.int .i64 337) ∧ w = w') := fun w => unit_c 279 w (by omega)
  have CH : Hid (∀ w : World, Calls Try.prog 11 #[.int .i64 636] w fun e w' => e = .returned (.int .i64 766) ∧ w = w') := fun w => unit_c 636 w (by omega)
  have CU : Hid (∀ w : World, Calls Try.prog 11 #[.int .i64 (0)] w fun e w' => e = .returned (.int .i64 u) ∧ w = w') := fun w => by rw [← hu]; exact unit_c _ w (by omega)
  have CI : Hid (∀ w : World, Calls Try.prog 12 #[suV true usT, .int .i64 d, .int .i64 g] w fun e w' => e = .returned (.int .i64 (0 + 1200 + 6 * W)) ∧ Below w.heap.size w w') := fun w => by
    have := inserv_c true usT d g w (by decide) (by decide) (by omega) (by omega)
    rwa [eg, hW, show usT.t4 = 1200 from rfl] at this
  have CR : Hid (∀ w : World, Calls Try.prog 8 #[suV true usT, .int .i64 d] w fun e w' => e = .returned (.int .i64 (2 * 766 + 3 * W)) ∧ Below w.heap.size w w') := fun w => by
    have := reply_c true usT d w (by omega)
    rwa [show reply_ true d = 2 * 766 + 3 * W by simp [reply_, hW]] at this
  have CN : Hid (∀ w : World, Calls Try.prog 13 #[suV true usT, .int .i64 d, .int .i64 m, .int .i64 o] w fun e w' => e = .returned (.int .i64 (2 * ((0 * 12 + u + 674 + 2 * W) * (0 + 2)) + 4 * W)) ∧ Below w.heap.size w w') := fun w => by
    have := answered_c true usT d m o w (by omega) (by omega) (by omega)
    rwa [show ans_ true d m o = 2 * ((0 * 12 + u + 674 + 2 * W) * (0 + 2)) + 4 * W by simp [ans_, ansN, hW, em, eo, hu]] at this
  rw [hW] at wb
  rw [hu] at ub
  clear hW hu em eo eg
  go_enter Try.func4, Try.ntmps4
  go_upto_region 2 with (first | ((with_reducible refine (usual_c _ _).mono ?_); rintro e w1 ⟨rfl, hb1⟩; replace HB := bl_then (by repeat (first | exact HB | apply bl_drew | (refine bl_alloc ?_ _))) hb1; clear hb1))
  have hblk : Hid (Blk (w1.alloc (.cells #[.bool true, .int .i64 8, .int .i64 300, .int .i64 16, .int .i64 600, .int .i64 usT.t0, .int .i64 usT.t1, .int .i64 usT.t2, .int .i64 usT.t3, .int .i64 usT.t4, .int .i64 usT.t5, .int .i64 usT.t6, .int .i64 usT.t7] 25)) w1.heap.size #[.bool true, .int .i64 8, .int .i64 300, .int .i64 16, .int .i64 600, .int .i64 usT.t0, .int .i64 usT.t1, .int .i64 usT.t2, .int .i64 usT.t3, .int .i64 usT.t4, .int .i64 usT.t5, .int .i64 usT.t6, .int .i64 usT.t7] 25) := Blk.new _ _ _
  replace HB := bl_alloc HB (.cells #[.bool true, .int .i64 8, .int .i64 300, .int .i64 16, .int .i64 600, .int .i64 usT.t0, .int .i64 usT.t1, .int .i64 usT.t2, .int .i64 usT.t3, .int .i64 usT.t4, .int .i64 usT.t5, .int .i64 usT.t6, .int .i64 usT.t7] 25)
  go_wp2_with (first | ((with_reducible refine (C7.out _).mono ?_); rintro e w1 ⟨rfl, rfl⟩) | ((with_reducible refine (C8.out _).mono ?_); rintro e w1 ⟨rfl, rfl⟩) | ((with_reducible refine (C9.out _).mono ?_); rintro e w1 ⟨rfl, rfl⟩) | ((with_reducible refine (CH.out _).mono ?_); rintro e w1 ⟨rfl, rfl⟩) | ((with_reducible refine (CU.out _).mono ?_); rintro e w1 ⟨rfl, rfl⟩) | ((with_reducible refine (awake_c _).mono ?_); rintro e w2 ⟨rfl, hb1⟩; replace HB := bl_then HB hb1; replace hblk := Lib.hid (hblk.out.below hb1); have hc3 := hblk.out.c; clear hb1) | ((with_reducible refine (CI.out _).mono ?_); rintro e w2 ⟨rfl, hb1⟩; replace HB := bl_then HB hb1; replace hblk := Lib.hid (hblk.out.below hb1); have hc3 := hblk.out.c; clear hb1) | ((with_reducible refine (CR.out _).mono ?_); rintro e w2 ⟨rfl, hb1⟩; replace HB := bl_then HB hb1; replace hblk := Lib.hid (hblk.out.below hb1); have hc3 := hblk.out.c; clear hb1) | ((with_reducible refine (CN.out _).mono ?_); rintro e w2 ⟨rfl, hb1⟩; replace HB := bl_then HB hb1; replace hblk := Lib.hid (hblk.out.below hb1); have hc3 := hblk.out.c; clear hb1))
  go_ret
  exact ⟨rfl, HB⟩
theorem law_numbers (c : Bool) (d g m o : Int) (w : World) (hd0 : -32768 ≤ d) (hd1 : d ≤ 32767) (hg0 : -32768 ≤ g) (hg1 : g ≤ 32767) (hm0 : -32768 ≤ m) (hm1 : m ≤ 32767) (ho0 : -32768 ≤ o) (ho1 : o ≤ 32767) :
    Calls Try.prog 4 #[.bool c, .int .i16 d, .int .i16 g, .int .i16 m, .int .i16 o] w fun e w' => e = .returned (.bool true) ∧ Below w.heap.size w w' := by
  cases c <;> by_cases cg : g < 0 <;> by_cases cm : m < 0 <;> by_cases co : o < 0
  · exact num_0111 d g m o w hd0 hd1 hg0 hg1 hm0 hm1 ho0 ho1 cg cm co
  · exact num_0110 d g m o w hd0 hd1 hg0 hg1 hm0 hm1 ho0 ho1 cg cm co
  · exact num_0101 d g m o w hd0 hd1 hg0 hg1 hm0 hm1 ho0 ho1 cg cm co
  · exact num_0100 d g m o w hd0 hd1 hg0 hg1 hm0 hm1 ho0 ho1 cg cm co
  · exact num_0011 d g m o w hd0 hd1 hg0 hg1 hm0 hm1 ho0 ho1 cg cm co
  · exact num_0010 d g m o w hd0 hd1 hg0 hg1 hm0 hm1 ho0 ho1 cg cm co
  · exact num_0001 d g m o w hd0 hd1 hg0 hg1 hm0 hm1 ho0 ho1 cg cm co
  · exact num_0000 d g m o w hd0 hd1 hg0 hg1 hm0 hm1 ho0 ho1 cg cm co
  · exact num_1111 d g m o w hd0 hd1 hg0 hg1 hm0 hm1 ho0 ho1 cg cm co
  · exact num_1110 d g m o w hd0 hd1 hg0 hg1 hm0 hm1 ho0 ho1 cg cm co
  · exact num_1101 d g m o w hd0 hd1 hg0 hg1 hm0 hm1 ho0 ho1 cg cm co
  · exact num_1100 d g m o w hd0 hd1 hg0 hg1 hm0 hm1 ho0 ho1 cg cm co
  · exact num_1011 d g m o w hd0 hd1 hg0 hg1 hm0 hm1 ho0 ho1 cg cm co
  · exact num_1010 d g m o w hd0 hd1 hg0 hg1 hm0 hm1 ho0 ho1 cg cm co
  · exact num_1001 d g m o w hd0 hd1 hg0 hg1 hm0 hm1 ho0 ho1 cg cm co
  · exact num_1000 d g m o w hd0 hd1 hg0 hg1 hm0 hm1 ho0 ho1 cg cm co
end Go.Proofs.Ytclfmhajloblgaa
