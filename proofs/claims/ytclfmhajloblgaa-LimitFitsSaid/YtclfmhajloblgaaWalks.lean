/- The walks of the three laws of layer 22 that reach setups and limits alone: what each function computes, in whatever memory. -/
import Derived.Test.YtclfmhajloblgaaProg
import Derived.Below
import Derived.WalkKit
import Derived.Deep.QuietTactic
import Derived.BigQuiet
import Derived.Lib.Hide
import Derived.Test.YtclfmhajloblgaaCore
namespace Go.Proofs.Ytclfmhajloblgaa
open Go.RowKit Go.Proofs.YtclfmhajloblgaaK
/-- The eight timers of a setup. -/
structure Ti where
  t0 : Int
  t1 : Int
  t2 : Int
  t3 : Int
  t4 : Int
  t5 : Int
  t6 : Int
  t7 : Int
/-- A usual setup, but for its timers. -/
abbrev suV (c : Bool) (t : Ti) : Value := .agg #[.bool c, .int .i64 8, .int .i64 300, .int .i64 16, .int .i64 600, .int .i64 t.t0, .int .i64 t.t1, .int .i64 t.t2, .int .i64 t.t3, .int .i64 t.t4, .int .i64 t.t5, .int .i64 t.t6, .int .i64 t.t7]
def usT : Ti := ⟨600, 12000, 8000, 4000, 1200, 100, 4000, 6000⟩
def mx (a : Int) : Int := if a < 0 then 0 else a
theorem mx_bd (a : Int) : 0 ≤ mx a ∧ a ≤ mx a ∧ (mx a = a ∨ mx a = 0) := by unfold mx; split <;> omega
def unit_ (a : Int) : Int := (mx a * 8 + mx a * 8 / 5 + 15) / 8 + 1
theorem unit_bd (a : Int) (h : a ≤ 1000000000) : 1 ≤ unit_ a ∧ unit_ a ≤ 4000000000 := by
  have := mx_bd a
  unfold unit_; omega
def way_ (d : Int) : Int := (mx d + 7) / 8 + 676
theorem way_bd (d : Int) (h : d ≤ 1000000000) : 676 ≤ way_ d ∧ way_ d ≤ 1000000000 := by
  have := mx_bd d
  unfold way_; omega
theorem unit279 : unit_ 279 = 337 := by decide
set_option maxHeartbeats 1000000
set_option maxRecDepth 100000
theorem unit_c (a : Int) (w : World) (ha : a ≤ 1000000000) : Calls Try.prog 11 #[.int .i64 a] w fun e w' => e = .returned (.int .i64 (unit_ a)) ∧ w = w' := by
  obtain ⟨m, hm⟩ : ∃ m, mx a = m := ⟨_, rfl⟩
  have hb := mx_bd a
  rw [hm] at hb
  have b1 : 0 ≤ m := by omega
  have b2 : m ≤ 1000000000 := by omega
  have hm' := hm
  unfold mx at hm'
  have H : Hid (unit_ a = ((m * 8 + m * 8 / 5 + 8 + 7) / 8 + 1)) := by
    show unit_ a = _
    unfold unit_
    rw [hm]
    omega
  clear hm hb
  go_enter Try.func11, Try.ntmps11
  go_wp2
  go_ret
  rw [H.out]
  exact ⟨rfl, rfl⟩
theorem lway_c (a : Int) (w : World) (ha : a ≤ 1000000000) : Calls Try.prog 7 #[.int .i64 a] w fun e w' => e = .returned (.int .i64 (way_ a)) ∧ w = w' := by
  have u := unit279
  have U := Lib.hid u
  by_cases h : a < 0
  · have hm : way_ a = 676 := by simp [way_, mx, h]
    rw [hm]
    clear hm u
    go_enter Try.func7, Try.ntmps7
    go_wp2_with (go_at_call 11; refine (unit_c _ _ (by omega)).mono ?_; rintro e w' ⟨rfl, rfl⟩; rw [U.out])
    go_ret
    exact ⟨rfl, rfl⟩
  · have hm : way_ a = (a + 7) / 8 + 674 + 2 := by simp [way_, mx, h]; omega
    rw [hm]
    clear hm u
    go_enter Try.func7, Try.ntmps7
    go_wp2_with (go_at_call 11; refine (unit_c _ _ (by omega)).mono ?_; rintro e w' ⟨rfl, rfl⟩; rw [U.out])
    go_ret
    exact ⟨rfl, rfl⟩
theorem frame_c (w : World) : Calls Try.prog 15 #[] w fun e w' => e = .returned (.int .i64 337) ∧ w = w' := by
  have U := Lib.hid unit279
  go_enter Try.func15, Try.ntmps15
  go_wp2_with (go_at_call 11; refine (unit_c _ _ (by omega)).mono ?_; rintro e w' ⟨rfl, rfl⟩; rw [U.out])
  go_ret
  exact ⟨rfl, rfl⟩
theorem way_c (a : Int) (w : World) (ha : a ≤ 1000000000) : Calls Try.prog 14 #[.int .i64 a] w fun e w' => e = .returned (.int .i64 (way_ a)) ∧ w = w' := by
  obtain ⟨m, hm⟩ : ∃ m, mx a = m := ⟨_, rfl⟩
  have hb := mx_bd a
  rw [hm] at hb
  have b1 : 0 ≤ m := by omega
  have b2 : m ≤ 1000000000 := by omega
  have hm' := hm
  unfold mx at hm'
  have H : Hid (way_ a = ((m + 7) / 8 + 674 + 2)) := by
    show way_ a = _
    unfold way_
    rw [hm]
    omega
  clear hm hb
  go_enter Try.func14, Try.ntmps14
  go_wp2_with (go_at_call 15; refine (frame_c _).mono ?_; rintro e w' ⟨rfl, rfl⟩)
  go_ret
  rw [H.out]
  exact ⟨rfl, rfl⟩
theorem usual_c (c : Bool) (w : World) : Calls Try.prog 6 #[.bool c] w fun e w' => e = .returned (suV c usT) ∧ Below w.heap.size w w' := by
  go_enter Try.func6, Try.ntmps6
  go_wp2
  exact bodyPost_ret (v := suV c usT) (by simp [results, Try.results6, go_sem, suV, usT]) rfl ⟨rfl, by repeat (first | exact Below.refl _ _ | apply Below.drew | (refine Below.alloc ?_ (by simp) _))⟩
def reply_ (c : Bool) (d : Int) : Int := if c then 1532 + 3 * way_ d else 1752 + 3 * way_ d
theorem reply_c (c : Bool) (t : Ti) (d : Int) (w : World) (hd : d ≤ 1000000000) : Calls Try.prog 8 #[suV c t, .int .i64 d] w fun e w' => e = .returned (.int .i64 (reply_ c d)) ∧ Below w.heap.size w w' := by
  have wb := way_bd d hd
  obtain ⟨W, hW⟩ : ∃ W, way_ d = W := ⟨_, rfl⟩
  have HW := Lib.hid hW
  rw [hW] at wb
  have u1 : unit_ 636 = 766 := by decide
  have u2 : unit_ 728 = 876 := by decide
  have U1 := Lib.hid u1
  have U2 := Lib.hid u2
  cases c
  · have hr : reply_ false d = 1752 + 3 * W := by simp [reply_, hW]
    rw [hr]
    clear hr hW u1 u2
    go_enter Try.func8, Try.ntmps8
    go_wp2_with (first | (go_at_call 11; refine (unit_c _ _ (by omega)).mono ?_; rintro e w' ⟨rfl, rfl⟩; rw [U2.out]) | (go_at_call 14; refine (way_c _ _ hd).mono ?_; rintro e w' ⟨rfl, rfl⟩; rw [HW.out]))
    go_ret
    exact ⟨rfl, by repeat (first | exact Below.refl _ _ | apply Below.drew | (refine Below.alloc ?_ (by simp) _))⟩
  · have hr : reply_ true d = 1532 + 3 * W := by simp [reply_, hW]
    rw [hr]
    clear hr hW u1 u2
    go_enter Try.func8, Try.ntmps8
    go_wp2_with (first | (go_at_call 11; refine (unit_c _ _ (by omega)).mono ?_; rintro e w' ⟨rfl, rfl⟩; rw [U1.out]) | (go_at_call 14; refine (way_c _ _ hd).mono ?_; rintro e w' ⟨rfl, rfl⟩; rw [HW.out]))
    go_ret
    exact ⟨rfl, by repeat (first | exact Below.refl _ _ | apply Below.drew | (refine Below.alloc ?_ (by simp) _))⟩
def fits_ (c : Bool) (t : Ti) (d : Int) : Bool := decide (reply_ c d < t.t7) && decide (wrap64 (t.t4 + 4 * way_ d) < t.t1) && decide (4 * way_ d < t.t2) && decide (4 * way_ d < t.t3)
theorem fits_0 (c : Bool) (t : Ti) (d : Int) (w : World) (hd : d ≤ 1000000000) (h1 : ¬ (reply_ c d < t.t7)) : Calls Try.prog 10 #[suV c t, .int .i64 d] w fun e w' => e = .returned (.bool false) ∧ Below w.heap.size w w' := by
  have wb := way_bd d hd
  obtain ⟨W, hW⟩ : ∃ W, way_ d = W := ⟨_, rfl⟩
  have HW := Lib.hid hW
  rw [hW] at wb 
  clear hW
  have k1 : decide (reply_ c d < t.t7) = false := by simp; omega
  go_enter Try.func10, Try.ntmps10
  go_wp2_with (go_at_call 14; refine (way_c _ _ hd).mono ?_; rintro e w' ⟨rfl, rfl⟩; rw [HW.out])
  refine wp_region_up (by kernel_rfl) (by kernel_rfl) ?_
  have hld : ∀ g : Up (w.alloc (.cells #[.bool c, .int .i64 8, .int .i64 300, .int .i64 16, .int .i64 600, .int .i64 t.t0, .int .i64 t.t1, .int .i64 t.t2, .int .i64 t.t3, .int .i64 t.t4, .int .i64 t.t5, .int .i64 t.t6, .int .i64 t.t7] 25)), ∀ i, g.val.cell? ⟨w.heap.size, i, none⟩ = (#[.bool c, .int .i64 8, .int .i64 300, .int .i64 16, .int .i64 600, .int .i64 t.t0, .int .i64 t.t1, .int .i64 t.t2, .int .i64 t.t3, .int .i64 t.t4, .int .i64 t.t5, .int .i64 t.t6, .int .i64 t.t7] : Array Value)[i]? := fun g i => cell_of_row _ _ _ _ _ _ (g.blk (heap_alloc_new _ _))
  repeat (first | go_big_quiet_step (refine Up.calls _ (reply_c c t d _ hd)) | quiet_step (refine Up.calls _ (reply_c c t d _ hd)))
  refine wpQuiet_nil ?_
  rintro _ ⟨⟨w1, hb1⟩, rfl⟩
  clear hld
  go_wp2
  go_ret
  exact ⟨rfl, Below.trans (((Below.refl _ _).alloc (Nat.le_refl _) _)) (hb1.mono (by simp))⟩
theorem fits_1 (c : Bool) (t : Ti) (d : Int) (w : World) (hd : d ≤ 1000000000) (h1 : reply_ c d < t.t7) (h2 : ¬ (wrap64 (t.t4 + 4 * way_ d) < t.t1)) : Calls Try.prog 10 #[suV c t, .int .i64 d] w fun e w' => e = .returned (.bool false) ∧ Below w.heap.size w w' := by
  have wb := way_bd d hd
  obtain ⟨W, hW⟩ : ∃ W, way_ d = W := ⟨_, rfl⟩
  have HW := Lib.hid hW
  rw [hW] at wb h2
  clear hW
  have k1 : decide (reply_ c d < t.t7) = true := by simp; omega
  have k2 : decide (wrap64 (t.t4 + 4 * W) < t.t1) = false := by simp; omega
  go_enter Try.func10, Try.ntmps10
  go_wp2_with (go_at_call 14; refine (way_c _ _ hd).mono ?_; rintro e w' ⟨rfl, rfl⟩; rw [HW.out])
  refine wp_region_up (by kernel_rfl) (by kernel_rfl) ?_
  have hld : ∀ g : Up (w.alloc (.cells #[.bool c, .int .i64 8, .int .i64 300, .int .i64 16, .int .i64 600, .int .i64 t.t0, .int .i64 t.t1, .int .i64 t.t2, .int .i64 t.t3, .int .i64 t.t4, .int .i64 t.t5, .int .i64 t.t6, .int .i64 t.t7] 25)), ∀ i, g.val.cell? ⟨w.heap.size, i, none⟩ = (#[.bool c, .int .i64 8, .int .i64 300, .int .i64 16, .int .i64 600, .int .i64 t.t0, .int .i64 t.t1, .int .i64 t.t2, .int .i64 t.t3, .int .i64 t.t4, .int .i64 t.t5, .int .i64 t.t6, .int .i64 t.t7] : Array Value)[i]? := fun g i => cell_of_row _ _ _ _ _ _ (g.blk (heap_alloc_new _ _))
  repeat (first | go_big_quiet_step (refine Up.calls _ (reply_c c t d _ hd)) | quiet_step (refine Up.calls _ (reply_c c t d _ hd)))
  refine wpQuiet_nil ?_
  rintro _ ⟨⟨w1, hb1⟩, rfl⟩
  clear hld
  go_wp2
  go_ret
  exact ⟨rfl, Below.trans (((Below.refl _ _).alloc (Nat.le_refl _) _)) (hb1.mono (by simp))⟩
theorem fits_2 (c : Bool) (t : Ti) (d : Int) (w : World) (hd : d ≤ 1000000000) (h1 : reply_ c d < t.t7) (h2 : wrap64 (t.t4 + 4 * way_ d) < t.t1) (h3 : ¬ (4 * way_ d < t.t2)) : Calls Try.prog 10 #[suV c t, .int .i64 d] w fun e w' => e = .returned (.bool false) ∧ Below w.heap.size w w' := by
  have wb := way_bd d hd
  obtain ⟨W, hW⟩ : ∃ W, way_ d = W := ⟨_, rfl⟩
  have HW := Lib.hid hW
  rw [hW] at wb h2 h3
  clear hW
  have k1 : decide (reply_ c d < t.t7) = true := by simp; omega
  have k2 : decide (wrap64 (t.t4 + 4 * W) < t.t1) = true := by simp; omega
  have k3 : decide (4 * W < t.t2) = false := by simp; omega
  go_enter Try.func10, Try.ntmps10
  go_wp2_with (go_at_call 14; refine (way_c _ _ hd).mono ?_; rintro e w' ⟨rfl, rfl⟩; rw [HW.out])
  refine wp_region_up (by kernel_rfl) (by kernel_rfl) ?_
  have hld : ∀ g : Up (w.alloc (.cells #[.bool c, .int .i64 8, .int .i64 300, .int .i64 16, .int .i64 600, .int .i64 t.t0, .int .i64 t.t1, .int .i64 t.t2, .int .i64 t.t3, .int .i64 t.t4, .int .i64 t.t5, .int .i64 t.t6, .int .i64 t.t7] 25)), ∀ i, g.val.cell? ⟨w.heap.size, i, none⟩ = (#[.bool c, .int .i64 8, .int .i64 300, .int .i64 16, .int .i64 600, .int .i64 t.t0, .int .i64 t.t1, .int .i64 t.t2, .int .i64 t.t3, .int .i64 t.t4, .int .i64 t.t5, .int .i64 t.t6, .int .i64 t.t7] : Array Value)[i]? := fun g i => cell_of_row _ _ _ _ _ _ (g.blk (heap_alloc_new _ _))
  repeat (first | go_big_quiet_step (refine Up.calls _ (reply_c c t d _ hd)) | quiet_step (refine Up.calls _ (reply_c c t d _ hd)))
  refine wpQuiet_nil ?_
  rintro _ ⟨⟨w1, hb1⟩, rfl⟩
  clear hld
  go_wp2
  go_ret
  exact ⟨rfl, Below.trans (((Below.refl _ _).alloc (Nat.le_refl _) _)) (hb1.mono (by simp))⟩
theorem fits_3 (c : Bool) (t : Ti) (d : Int) (w : World) (hd : d ≤ 1000000000) (h1 : reply_ c d < t.t7) (h2 : wrap64 (t.t4 + 4 * way_ d) < t.t1) (h3 : 4 * way_ d < t.t2) (h4 : ¬ (4 * way_ d < t.t3)) : Calls Try.prog 10 #[suV c t, .int .i64 d] w fun e w' => e = .returned (.bool false) ∧ Below w.heap.size w w' := by
  have wb := way_bd d hd
  obtain ⟨W, hW⟩ : ∃ W, way_ d = W := ⟨_, rfl⟩
  have HW := Lib.hid hW
  rw [hW] at wb h2 h3 h4
  clear hW
  have k1 : decide (reply_ c d < t.t7) = true := by simp; omega
  have k2 : decide (wrap64 (t.t4 + 4 * W) < t.t1) = true := by simp; omega
  have k3 : decide (4 * W < t.t2) = true := by simp; omega
  have k4 : decide (4 * W < t.t3) = false := by simp; omega
  go_enter Try.func10, Try.ntmps10
  go_wp2_with (go_at_call 14; refine (way_c _ _ hd).mono ?_; rintro e w' ⟨rfl, rfl⟩; rw [HW.out])
  refine wp_region_up (by kernel_rfl) (by kernel_rfl) ?_
  have hld : ∀ g : Up (w.alloc (.cells #[.bool c, .int .i64 8, .int .i64 300, .int .i64 16, .int .i64 600, .int .i64 t.t0, .int .i64 t.t1, .int .i64 t.t2, .int .i64 t.t3, .int .i64 t.t4, .int .i64 t.t5, .int .i64 t.t6, .int .i64 t.t7] 25)), ∀ i, g.val.cell? ⟨w.heap.size, i, none⟩ = (#[.bool c, .int .i64 8, .int .i64 300, .int .i64 16, .int .i64 600, .int .i64 t.t0, .int .i64 t.t1, .int .i64 t.t2, .int .i64 t.t3, .int .i64 t.t4, .int .i64 t.t5, .int .i64 t.t6, .int .i64 t.t7] : Array Value)[i]? := fun g i => cell_of_row _ _ _ _ _ _ (g.blk (heap_alloc_new _ _))
  repeat (first | go_big_quiet_step (refine Up.calls _ (reply_c c t d _ hd)) | quiet_step (refine Up.calls _ (reply_c c t d _ hd)))
  refine wpQuiet_nil ?_
  rintro _ ⟨⟨w1, hb1⟩, rfl⟩
  clear hld
  go_wp2
  go_ret
  exact ⟨rfl, Below.trans (((Below.refl _ _).alloc (Nat.le_refl _) _)) (hb1.mono (by simp))⟩
theorem fits_4 (c : Bool) (t : Ti) (d : Int) (w : World) (hd : d ≤ 1000000000) (h1 : reply_ c d < t.t7) (h2 : wrap64 (t.t4 + 4 * way_ d) < t.t1) (h3 : 4 * way_ d < t.t2) (h4 : 4 * way_ d < t.t3) : Calls Try.prog 10 #[suV c t, .int .i64 d] w fun e w' => e = .returned (.bool true) ∧ Below w.heap.size w w' := by
  have wb := way_bd d hd
  obtain ⟨W, hW⟩ : ∃ W, way_ d = W := ⟨_, rfl⟩
  have HW := Lib.hid hW
  rw [hW] at wb h2 h3 h4
  clear hW
  have k1 : decide (reply_ c d < t.t7) = true := by simp; omega
  have k2 : decide (wrap64 (t.t4 + 4 * W) < t.t1) = true := by simp; omega
  have k3 : decide (4 * W < t.t2) = true := by simp; omega
  have k4 : decide (4 * W < t.t3) = true := by simp; omega
  go_enter Try.func10, Try.ntmps10
  go_wp2_with (go_at_call 14; refine (way_c _ _ hd).mono ?_; rintro e w' ⟨rfl, rfl⟩; rw [HW.out])
  refine wp_region_up (by kernel_rfl) (by kernel_rfl) ?_
  have hld : ∀ g : Up (w.alloc (.cells #[.bool c, .int .i64 8, .int .i64 300, .int .i64 16, .int .i64 600, .int .i64 t.t0, .int .i64 t.t1, .int .i64 t.t2, .int .i64 t.t3, .int .i64 t.t4, .int .i64 t.t5, .int .i64 t.t6, .int .i64 t.t7] 25)), ∀ i, g.val.cell? ⟨w.heap.size, i, none⟩ = (#[.bool c, .int .i64 8, .int .i64 300, .int .i64 16, .int .i64 600, .int .i64 t.t0, .int .i64 t.t1, .int .i64 t.t2, .int .i64 t.t3, .int .i64 t.t4, .int .i64 t.t5, .int .i64 t.t6, .int .i64 t.t7] : Array Value)[i]? := fun g i => cell_of_row _ _ _ _ _ _ (g.blk (heap_alloc_new _ _))
  repeat (first | go_big_quiet_step (refine Up.calls _ (reply_c c t d _ hd)) | quiet_step (refine Up.calls _ (reply_c c t d _ hd)))
  refine wpQuiet_nil ?_
  rintro _ ⟨⟨w1, hb1⟩, rfl⟩
  clear hld
  go_wp2
  go_ret
  exact ⟨rfl, Below.trans (((Below.refl _ _).alloc (Nat.le_refl _) _)) (hb1.mono (by simp))⟩
theorem fits_c (c : Bool) (t : Ti) (d : Int) (w : World) (hd : d ≤ 1000000000) : Calls Try.prog 10 #[suV c t, .int .i64 d] w fun e w' => e = .returned (.bool (fits_ c t d)) ∧ Below w.heap.size w w' := by
  unfold fits_
  by_cases h1 : reply_ c d < t.t7
  · by_cases h2 : wrap64 (t.t4 + 4 * way_ d) < t.t1
    · by_cases h3 : 4 * way_ d < t.t2
      · by_cases h4 : 4 * way_ d < t.t3
        · simpa [h1, h2, h3, h4] using fits_4 c t d w hd h1 h2 h3 h4
        · simpa [h1, h2, h3, h4] using fits_3 c t d w hd h1 h2 h3 h4
      · simpa [h1, h2, h3] using fits_2 c t d w hd h1 h2 h3
    · simpa [h1, h2] using fits_1 c t d w hd h1 h2
  · simpa [h1] using fits_0 c t d w hd h1

end Go.Proofs.Ytclfmhajloblgaa
