/- The walk of the law LimitGrows: it returns true, whatever its arguments. -/
import Derived.Test.YtclfmhajloblgaaLaws
namespace Go.Proofs.Ytclfmhajloblgaa
open Go.RowKit Go.Proofs.YtclfmhajloblgaaK
theorem mx_of {a : Int} (h : 0 ≤ a) : mx a = a := by unfold mx; split <;> omega
theorem way_mono {d e : Int} (h0 : 0 ≤ d) (h : d ≤ e) : way_ d ≤ way_ e := by unfold way_; rw [mx_of h0, mx_of (by omega)]; omega
theorem unit_mono {d e : Int} (h0 : 0 ≤ d) (h : d ≤ e) : unit_ d ≤ unit_ e := by unfold unit_; rw [mx_of h0, mx_of (by omega)]; omega
theorem unit_pos {d : Int} (h0 : 0 ≤ d) : 1 ≤ unit_ d := by unfold unit_; rw [mx_of h0]; omega
theorem ans_mono (c : Bool) {d e m o o' : Int} (h0 : 0 ≤ d) (h : d ≤ e) (hm : 0 ≤ m) (ho : 0 ≤ o) (h' : o ≤ o') : ans_ c d m o ≤ ans_ c e m o' := by
  have w1 := way_mono h0 h
  have w0 : 676 ≤ way_ d := by unfold way_; rw [mx_of h0]; omega
  have u1 := unit_mono ho h'
  have u0 := unit_pos ho
  unfold ans_ ansN
  rw [mx_of hm, mx_of ho, mx_of (show 0 ≤ o' by omega)]
  cases c
  · simp only [Bool.false_eq_true, if_false]; omega
  · simp only [if_true]
    have := Int.mul_le_mul (show m * 12 + unit_ o + 674 + 2 * way_ d ≤ m * 12 + unit_ o' + 674 + 2 * way_ e by omega) (Int.le_refl (m + 2)) (by omega) (by omega)
    omega
theorem ans_more (c : Bool) {d m o : Int} (h0 : 0 ≤ d) (hm : 0 ≤ m) (ho : 0 ≤ o) : ans_ c d m o < ans_ c d (m + 1) o := by
  have w0 : 676 ≤ way_ d := by unfold way_; rw [mx_of h0]; omega
  have u0 := unit_pos ho
  unfold ans_ ansN
  rw [mx_of hm, mx_of ho, mx_of (show 0 ≤ m + 1 by omega)]
  cases c
  · simp only [Bool.false_eq_true, if_false]; omega
  · simp only [if_true]
    have h1 := Int.mul_le_mul (show m * 12 + unit_ o + 674 + 2 * way_ d ≤ (m + 1) * 12 + unit_ o + 674 + 2 * way_ d by omega) (Int.le_refl (m + 2)) (by omega) (by omega)
    have h2 : ((m + 1) * 12 + unit_ o + 674 + 2 * way_ d) * (m + 1 + 2) = ((m + 1) * 12 + unit_ o + 674 + 2 * way_ d) * (m + 2) + ((m + 1) * 12 + unit_ o + 674 + 2 * way_ d) := by
      rw [show m + 1 + 2 = (m + 2) + 1 by omega, Int.mul_add, Int.mul_one]
    rw [h2]
    omega
theorem fits_mono (c : Bool) {d e : Int} (h0 : 0 ≤ d) (h : d ≤ e) (he : e ≤ 100000) (hf : fits_ c usT e = true) : fits_ c usT d = true := by
  have w1 := way_mono h0 h
  have w0 : 676 ≤ way_ d := by unfold way_; rw [mx_of h0]; omega
  have w2 : way_ e ≤ 100000 := by unfold way_; rw [mx_of (by omega)]; omega
  unfold fits_ reply_ usT at *
  simp only [wrap64] at *
  simp only [Bool.and_eq_true, decide_eq_true_eq] at *
  cases c <;> simp only [Bool.false_eq_true, if_false, if_true] at * <;> omega
set_option maxHeartbeats 4000000
set_option maxRecDepth 100000
theorem law_grows_false (c : Bool) (d k m o : Int) (w : World) (hd0 : 0 ≤ d) (hd1 : d ≤ 65535) (hk0 : 0 ≤ k) (hk1 : k ≤ 255) (hm0 : 0 ≤ m) (hm1 : m ≤ 255) (ho0 : 0 ≤ o) (ho1 : o ≤ 65535) (hf : fits_ c usT (d + k) = false) :
    Calls Try.prog 5 #[.bool c, .int .u16 d, .int .u8 k, .int .u8 m, .int .u16 o] w fun e w' => e = .returned (.bool true) ∧ Below w.heap.size w w' := by
  have HB := bl_refl w
  have q1 := way_mono hd0 (show d ≤ d + k by omega)
  have q2 := ans_mono c hd0 (show d ≤ d + k by omega) hm0 ho0 (Int.le_refl o)
  have q3 := ans_more c hd0 hm0 ho0
  have q4 := ans_mono c hd0 (Int.le_refl d) hm0 ho0 (show o ≤ o + 1 by omega)
  have q5 := fits_mono c hd0 (show d ≤ d + k by omega) (by omega)
  obtain ⟨i1, hi1⟩ : ∃ i, mx m + usT.t4 + 6 * way_ (d + k) = i := ⟨_, rfl⟩
  obtain ⟨i2, hi2⟩ : ∃ i, mx m + usT.t4 + 6 * way_ d = i := ⟨_, rfl⟩
  obtain ⟨i3, hi3⟩ : ∃ i, mx (m + 1) + usT.t4 + 6 * way_ d = i := ⟨_, rfl⟩
  obtain ⟨a1, ha1⟩ : ∃ i, ans_ c (d + k) m o = i := ⟨_, rfl⟩
  obtain ⟨a2, ha2⟩ : ∃ i, ans_ c d m o = i := ⟨_, rfl⟩
  obtain ⟨a3, ha3⟩ : ∃ i, ans_ c d (m + 1) o = i := ⟨_, rfl⟩
  obtain ⟨a4, ha4⟩ : ∃ i, ans_ c d m (o + 1) = i := ⟨_, rfl⟩
  obtain ⟨f1, hf1⟩ : ∃ i, fits_ c usT (d + k) = i := ⟨_, rfl⟩
  obtain ⟨f2, hf2⟩ : ∃ i, fits_ c usT d = i := ⟨_, rfl⟩
  have e1 : IntKind.i64.wrap (d + k) = d + k := IntWalk.i64_in _ (by omega)
  have e2 : IntKind.i64.wrap (m + 1) = m + 1 := IntWalk.i64_in _ (by omega)
  have e3 : IntKind.i64.wrap (o + 1) = o + 1 := IntWalk.i64_in _ (by omega)
  have CI1 : Hid (∀ w : World, Calls Try.prog 12 #[suV c usT, .int .i64 (d + k), .int .i64 m] w fun e w' => e = .returned (.int .i64 i1) ∧ Below w.heap.size w w') := fun w => by rw [← hi1]; exact inserv_c c usT (d + k) (m) w (by decide) (by decide) (by omega) (by omega)
  have CI2 : Hid (∀ w : World, Calls Try.prog 12 #[suV c usT, .int .i64 d, .int .i64 m] w fun e w' => e = .returned (.int .i64 i2) ∧ Below w.heap.size w w') := fun w => by rw [← hi2]; exact inserv_c c usT (d) (m) w (by decide) (by decide) (by omega) (by omega)
  have CI3 : Hid (∀ w : World, Calls Try.prog 12 #[suV c usT, .int .i64 d, .int .i64 (m + 1)] w fun e w' => e = .returned (.int .i64 i3) ∧ Below w.heap.size w w') := fun w => by rw [← hi3]; exact inserv_c c usT (d) (m + 1) w (by decide) (by decide) (by omega) (by omega)
  have CN1 : Hid (∀ w : World, Calls Try.prog 13 #[suV c usT, .int .i64 (d + k), .int .i64 m, .int .i64 o] w fun e w' => e = .returned (.int .i64 a1) ∧ Below w.heap.size w w') := fun w => by rw [← ha1]; exact answered_c c usT (d + k) (m) (o) w (by omega) (by omega) (by omega)
  have CN2 : Hid (∀ w : World, Calls Try.prog 13 #[suV c usT, .int .i64 d, .int .i64 m, .int .i64 o] w fun e w' => e = .returned (.int .i64 a2) ∧ Below w.heap.size w w') := fun w => by rw [← ha2]; exact answered_c c usT (d) (m) (o) w (by omega) (by omega) (by omega)
  have CN3 : Hid (∀ w : World, Calls Try.prog 13 #[suV c usT, .int .i64 d, .int .i64 (m + 1), .int .i64 o] w fun e w' => e = .returned (.int .i64 a3) ∧ Below w.heap.size w w') := fun w => by rw [← ha3]; exact answered_c c usT (d) (m + 1) (o) w (by omega) (by omega) (by omega)
  have CN4 : Hid (∀ w : World, Calls Try.prog 13 #[suV c usT, .int .i64 d, .int .i64 m, .int .i64 (o + 1)] w fun e w' => e = .returned (.int .i64 a4) ∧ Below w.heap.size w w') := fun w => by rw [← ha4]; exact answered_c c usT (d) (m) (o + 1) w (by omega) (by omega) (by omega)
  have CF1 : Hid (∀ w : World, Calls Try.prog 10 #[suV c usT, .int .i64 (d + k)] w fun e w' => e = .returned (.bool f1) ∧ Below w.heap.size w w') := fun w => by rw [← hf1]; exact fits_c c usT (d + k) w (by omega)
  have CF2 : Hid (∀ w : World, Calls Try.prog 10 #[suV c usT, .int .i64 d] w fun e w' => e = .returned (.bool f2) ∧ Below w.heap.size w w') := fun w => by rw [← hf2]; exact fits_c c usT (d) w (by omega)
  have r1 : i2 ≤ i1 := by omega
  have r2 : i2 < i3 := by rw [← hi2, ← hi3, mx_of hm0, mx_of (by omega)]; omega
  rw [ha1, ha2] at q2
  rw [ha2, ha3] at q3
  rw [ha2, ha4] at q4
  rw [hf1, hf2] at q5
  have k1 : decide (i2 ≤ i1) = true := decide_eq_true r1
  have k2 : decide (i2 < i3) = true := decide_eq_true r2
  have k3 : decide (a2 ≤ a1) = true := decide_eq_true q2
  have k4 : decide (a2 < a3) = true := decide_eq_true q3
  have k5 : decide (a2 ≤ a4) = true := decide_eq_true q4
  rw [hf1] at hf
  subst hf
  clear q5
  clear hi1 hi2 hi3 ha1 ha2 ha3 ha4 hf1 hf2 q1
  go_enter Try.func5, Try.ntmps5
  go_upto_region 2 with (first | ((with_reducible refine (usual_c _ _).mono ?_); rintro e w1 ⟨rfl, hb1⟩; replace HB := bl_then (by repeat (first | exact HB | apply bl_drew | (refine bl_alloc ?_ _))) hb1; clear hb1))
  have hblk : Hid (Blk (w1.alloc (.cells #[.bool c, .int .i64 8, .int .i64 300, .int .i64 16, .int .i64 600, .int .i64 usT.t0, .int .i64 usT.t1, .int .i64 usT.t2, .int .i64 usT.t3, .int .i64 usT.t4, .int .i64 usT.t5, .int .i64 usT.t6, .int .i64 usT.t7] 25)) w1.heap.size #[.bool c, .int .i64 8, .int .i64 300, .int .i64 16, .int .i64 600, .int .i64 usT.t0, .int .i64 usT.t1, .int .i64 usT.t2, .int .i64 usT.t3, .int .i64 usT.t4, .int .i64 usT.t5, .int .i64 usT.t6, .int .i64 usT.t7] 25) := Blk.new _ _ _
  replace HB := bl_alloc HB (.cells #[.bool c, .int .i64 8, .int .i64 300, .int .i64 16, .int .i64 600, .int .i64 usT.t0, .int .i64 usT.t1, .int .i64 usT.t2, .int .i64 usT.t3, .int .i64 usT.t4, .int .i64 usT.t5, .int .i64 usT.t6, .int .i64 usT.t7] 25)
  go_wp2
  refine wp_region_up (by kernel_rfl) (by kernel_rfl) ?_
  simp only [List.append]
  have hld : ∀ g : Up (w1.alloc (.cells #[.bool c, .int .i64 8, .int .i64 300, .int .i64 16, .int .i64 600, .int .i64 usT.t0, .int .i64 usT.t1, .int .i64 usT.t2, .int .i64 usT.t3, .int .i64 usT.t4, .int .i64 usT.t5, .int .i64 usT.t6, .int .i64 usT.t7] 25)), ∀ i, g.val.cell? ⟨w1.heap.size, i, none⟩ = (#[.bool c, .int .i64 8, .int .i64 300, .int .i64 16, .int .i64 600, .int .i64 usT.t0, .int .i64 usT.t1, .int .i64 usT.t2, .int .i64 usT.t3, .int .i64 usT.t4, .int .i64 usT.t5, .int .i64 usT.t6, .int .i64 usT.t7] : Array Value)[i]? := fun g i => cell_of_row _ _ _ _ _ _ (g.blk hblk.out)
  repeat (go_big_quiet_step (first | with_reducible exact Up.calls _ (awake_c _) | with_reducible exact Up.calls _ (CI1.out _) | with_reducible exact Up.calls _ (CI2.out _) | with_reducible exact Up.calls _ (CI3.out _) | with_reducible exact Up.calls _ (CN1.out _) | with_reducible exact Up.calls _ (CN2.out _) | with_reducible exact Up.calls _ (CN3.out _) | with_reducible exact Up.calls _ (CN4.out _) | with_reducible exact Up.calls _ (CF1.out _) | with_reducible exact Up.calls _ (CF2.out _)))
  refine wpQuiet_nil ?_
  refine up_elim (fun w2 hb2 => ?_)
  replace HB := bl_then HB hb2
  clear hld hblk hb2
  go_wp2
  go_ret
  exact ⟨rfl, HB⟩
theorem law_grows_true (c : Bool) (d k m o : Int) (w : World) (hd0 : 0 ≤ d) (hd1 : d ≤ 65535) (hk0 : 0 ≤ k) (hk1 : k ≤ 255) (hm0 : 0 ≤ m) (hm1 : m ≤ 255) (ho0 : 0 ≤ o) (ho1 : o ≤ 65535) (hf : fits_ c usT (d + k) = true) :
    Calls Try.prog 5 #[.bool c, .int .u16 d, .int .u8 k, .int .u8 m, .int .u16 o] w fun e w' => e = .returned (.bool true) ∧ Below w.heap.size w w' := by
  have HB := bl_refl w
  have q1 := way_mono hd0 (show d ≤ d + k by omega)
  have q2 := ans_mono c hd0 (show d ≤ d + k by omega) hm0 ho0 (Int.le_refl o)
  have q3 := ans_more c hd0 hm0 ho0
  have q4 := ans_mono c hd0 (Int.le_refl d) hm0 ho0 (show o ≤ o + 1 by omega)
  have q5 := fits_mono c hd0 (show d ≤ d + k by omega) (by omega)
  obtain ⟨i1, hi1⟩ : ∃ i, mx m + usT.t4 + 6 * way_ (d + k) = i := ⟨_, rfl⟩
  obtain ⟨i2, hi2⟩ : ∃ i, mx m + usT.t4 + 6 * way_ d = i := ⟨_, rfl⟩
  obtain ⟨i3, hi3⟩ : ∃ i, mx (m + 1) + usT.t4 + 6 * way_ d = i := ⟨_, rfl⟩
  obtain ⟨a1, ha1⟩ : ∃ i, ans_ c (d + k) m o = i := ⟨_, rfl⟩
  obtain ⟨a2, ha2⟩ : ∃ i, ans_ c d m o = i := ⟨_, rfl⟩
  obtain ⟨a3, ha3⟩ : ∃ i, ans_ c d (m + 1) o = i := ⟨_, rfl⟩
  obtain ⟨a4, ha4⟩ : ∃ i, ans_ c d m (o + 1) = i := ⟨_, rfl⟩
  obtain ⟨f1, hf1⟩ : ∃ i, fits_ c usT (d + k) = i := ⟨_, rfl⟩
  obtain ⟨f2, hf2⟩ : ∃ i, fits_ c usT d = i := ⟨_, rfl⟩
  have e1 : IntKind.i64.wrap (d + k) = d + k := IntWalk.i64_in _ (by omega)
  have e2 : IntKind.i64.wrap (m + 1) = m + 1 := IntWalk.i64_in _ (by omega)
  have e3 : IntKind.i64.wrap (o + 1) = o + 1 := IntWalk.i64_in _ (by omega)
  have CI1 : Hid (∀ w : World, Calls Try.prog 12 #[suV c usT, .int .i64 (d + k), .int .i64 m] w fun e w' => e = .returned (.int .i64 i1) ∧ Below w.heap.size w w') := fun w => by rw [← hi1]; exact inserv_c c usT (d + k) (m) w (by decide) (by decide) (by omega) (by omega)
  have CI2 : Hid (∀ w : World, Calls Try.prog 12 #[suV c usT, .int .i64 d, .int .i64 m] w fun e w' => e = .returned (.int .i64 i2) ∧ Below w.heap.size w w') := fun w => by rw [← hi2]; exact inserv_c c usT (d) (m) w (by decide) (by decide) (by omega) (by omega)
  have CI3 : Hid (∀ w : World, Calls Try.prog 12 #[suV c usT, .int .i64 d, .int .i64 (m + 1)] w fun e w' => e = .returned (.int .i64 i3) ∧ Below w.heap.size w w') := fun w => by rw [← hi3]; exact inserv_c c usT (d) (m + 1) w (by decide) (by decide) (by omega) (by omega)
  have CN1 : Hid (∀ w : World, Calls Try.prog 13 #[suV c usT, .int .i64 (d + k), .int .i64 m, .int .i64 o] w fun e w' => e = .returned (.int .i64 a1) ∧ Below w.heap.size w w') := fun w => by rw [← ha1]; exact answered_c c usT (d + k) (m) (o) w (by omega) (by omega) (by omega)
  have CN2 : Hid (∀ w : World, Calls Try.prog 13 #[suV c usT, .int .i64 d, .int .i64 m, .int .i64 o] w fun e w' => e = .returned (.int .i64 a2) ∧ Below w.heap.size w w') := fun w => by rw [← ha2]; exact answered_c c usT (d) (m) (o) w (by omega) (by omega) (by omega)
  have CN3 : Hid (∀ w : World, Calls Try.prog 13 #[suV c usT, .int .i64 d, .int .i64 (m + 1), .int .i64 o] w fun e w' => e = .returned (.int .i64 a3) ∧ Below w.heap.size w w') := fun w => by rw [← ha3]; exact answered_c c usT (d) (m + 1) (o) w (by omega) (by omega) (by omega)
  have CN4 : Hid (∀ w : World, Calls Try.prog 13 #[suV c usT, .int .i64 d, .int .i64 m, .int .i64 (o + 1)] w fun e w' => e = .returned (.int .i64 a4) ∧ Below w.heap.size w w') := fun w => by rw [← ha4]; exact answered_c c usT (d) (m) (o + 1) w (by omega) (by omega) (by omega)
  have CF1 : Hid (∀ w : World, Calls Try.prog 10 #[suV c usT, .int .i64 (d + k)] w fun e w' => e = .returned (.bool f1) ∧ Below w.heap.size w w') := fun w => by rw [← hf1]; exact fits_c c usT (d + k) w (by omega)
  have CF2 : Hid (∀ w : World, Calls Try.prog 10 #[suV c usT, .int .i64 d] w fun e w' => e = .returned (.bool f2) ∧ Below w.heap.size w w') := fun w => by rw [← hf2]; exact fits_c c usT (d) w (by omega)
  have r1 : i2 ≤ i1 := by omega
  have r2 : i2 < i3 := by rw [← hi2, ← hi3, mx_of hm0, mx_of (by omega)]; omega
  rw [ha1, ha2] at q2
  rw [ha2, ha3] at q3
  rw [ha2, ha4] at q4
  rw [hf1, hf2] at q5
  have k1 : decide (i2 ≤ i1) = true := decide_eq_true r1
  have k2 : decide (i2 < i3) = true := decide_eq_true r2
  have k3 : decide (a2 ≤ a1) = true := decide_eq_true q2
  have k4 : decide (a2 < a3) = true := decide_eq_true q3
  have k5 : decide (a2 ≤ a4) = true := decide_eq_true q4
  rw [hf1] at hf
  subst hf
  obtain rfl := q5 rfl
  clear q5
  clear hi1 hi2 hi3 ha1 ha2 ha3 ha4 hf1 hf2 q1
  go_enter Try.func5, Try.ntmps5
  go_upto_region 2 with (first | ((with_reducible refine (usual_c _ _).mono ?_); rintro e w1 ⟨rfl, hb1⟩; replace HB := bl_then (by repeat (first | exact HB | apply bl_drew | (refine bl_alloc ?_ _))) hb1; clear hb1))
  have hblk : Hid (Blk (w1.alloc (.cells #[.bool c, .int .i64 8, .int .i64 300, .int .i64 16, .int .i64 600, .int .i64 usT.t0, .int .i64 usT.t1, .int .i64 usT.t2, .int .i64 usT.t3, .int .i64 usT.t4, .int .i64 usT.t5, .int .i64 usT.t6, .int .i64 usT.t7] 25)) w1.heap.size #[.bool c, .int .i64 8, .int .i64 300, .int .i64 16, .int .i64 600, .int .i64 usT.t0, .int .i64 usT.t1, .int .i64 usT.t2, .int .i64 usT.t3, .int .i64 usT.t4, .int .i64 usT.t5, .int .i64 usT.t6, .int .i64 usT.t7] 25) := Blk.new _ _ _
  replace HB := bl_alloc HB (.cells #[.bool c, .int .i64 8, .int .i64 300, .int .i64 16, .int .i64 600, .int .i64 usT.t0, .int .i64 usT.t1, .int .i64 usT.t2, .int .i64 usT.t3, .int .i64 usT.t4, .int .i64 usT.t5, .int .i64 usT.t6, .int .i64 usT.t7] 25)
  go_wp2
  refine wp_region_up (by kernel_rfl) (by kernel_rfl) ?_
  simp only [List.append]
  have hld : ∀ g : Up (w1.alloc (.cells #[.bool c, .int .i64 8, .int .i64 300, .int .i64 16, .int .i64 600, .int .i64 usT.t0, .int .i64 usT.t1, .int .i64 usT.t2, .int .i64 usT.t3, .int .i64 usT.t4, .int .i64 usT.t5, .int .i64 usT.t6, .int .i64 usT.t7] 25)), ∀ i, g.val.cell? ⟨w1.heap.size, i, none⟩ = (#[.bool c, .int .i64 8, .int .i64 300, .int .i64 16, .int .i64 600, .int .i64 usT.t0, .int .i64 usT.t1, .int .i64 usT.t2, .int .i64 usT.t3, .int .i64 usT.t4, .int .i64 usT.t5, .int .i64 usT.t6, .int .i64 usT.t7] : Array Value)[i]? := fun g i => cell_of_row _ _ _ _ _ _ (g.blk hblk.out)
  repeat (go_big_quiet_step (first | with_reducible exact Up.calls _ (awake_c _) | with_reducible exact Up.calls _ (CI1.out _) | with_reducible exact Up.calls _ (CI2.out _) | with_reducible exact Up.calls _ (CI3.out _) | with_reducible exact Up.calls _ (CN1.out _) | with_reducible exact Up.calls _ (CN2.out _) | with_reducible exact Up.calls _ (CN3.out _) | with_reducible exact Up.calls _ (CN4.out _) | with_reducible exact Up.calls _ (CF1.out _) | with_reducible exact Up.calls _ (CF2.out _)))
  refine wpQuiet_nil ?_
  refine up_elim (fun w2 hb2 => ?_)
  replace HB := bl_then HB hb2
  clear hld hblk hb2
  go_wp2
  go_ret
  exact ⟨rfl, HB⟩
theorem law_grows (c : Bool) (d k m o : Int) (w : World) (hd0 : 0 ≤ d) (hd1 : d ≤ 65535) (hk0 : 0 ≤ k) (hk1 : k ≤ 255) (hm0 : 0 ≤ m) (hm1 : m ≤ 255) (ho0 : 0 ≤ o) (ho1 : o ≤ 65535) :
    Calls Try.prog 5 #[.bool c, .int .u16 d, .int .u8 k, .int .u8 m, .int .u16 o] w fun e w' => e = .returned (.bool true) ∧ Below w.heap.size w w' := by
  cases hf : fits_ c usT (d + k)
  · exact law_grows_false c d k m o w hd0 hd1 hk0 hk1 hm0 hm1 ho0 ho1 hf
  · exact law_grows_true c d k m o w hd0 hd1 hk0 hk1 hm0 hm1 ho0 ho1 hf
end Go.Proofs.Ytclfmhajloblgaa
