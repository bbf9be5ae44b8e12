/- The walks of the three laws LimitFits, LimitNumbers, LimitGrows: each returns true, whatever its arguments. -/
import Derived.Test.YtclfmhajloblgaaWalks2
import Derived.Test.YtclfmhajloblgaaWalks3
import Derived.Deep.DeepCutAuto
namespace Go.Proofs.Ytclfmhajloblgaa
open Go.RowKit Go.Proofs.YtclfmhajloblgaaK
set_option maxHeartbeats 1000000
set_option maxRecDepth 100000
theorem awake_c (w : World) : Calls Try.prog 9 #[] w fun e w' => e = .returned (.bool true) ∧ Below w.heap.size w w' := by
  have CF : Hid (∀ (c : Bool) (w : World), Calls Try.prog 10 #[suV c usT, .int .i64 0] w fun e w' => e = .returned (.bool true) ∧ Below w.heap.size w w') := fun c w => by
    have := fits_c c usT 0 w (by omega)
    rwa [show fits_ c usT 0 = true by cases c <;> decide +kernel] at this
  have CI : Hid (∀ (w : World), Calls Try.prog 12 #[suV false usT, .int .i64 0, .int .i64 0] w fun e w' => e = .returned (.int .i64 5256) ∧ Below w.heap.size w w') := fun w => by
    have := inserv_c false usT 0 0 w (by decide) (by decide) (by omega) (by omega)
    rwa [show mx 0 + usT.t4 + 6 * way_ 0 = 5256 by decide] at this
  have HB := bl_refl w
  go_enter Try.func9, Try.ntmps9
  go_wp2_with (first | ((with_reducible refine (usual_c _ _).mono ?_); rintro e w1 ⟨rfl, hb1⟩; replace HB := bl_then (by repeat (first | exact HB | apply bl_drew | (refine bl_alloc ?_ _))) hb1; clear hb1) | ((with_reducible refine (CI.out _).mono ?_); rintro e w1 ⟨rfl, hb1⟩; replace HB := bl_then (by repeat (first | exact HB | apply bl_drew | (refine bl_alloc ?_ _))) hb1; clear hb1) | ((with_reducible refine (CF.out _ _).mono ?_); rintro e w1 ⟨rfl, hb1⟩; replace HB := bl_then (by repeat (first | exact HB | apply bl_drew | (refine bl_alloc ?_ _))) hb1; clear hb1))
  go_ret
  exact ⟨rfl, HB⟩
theorem same_way (W a : Int) : wrap64 (a + 4 * W) = wrap64 (a + 4 * W) := rfl
theorem law_fits (c : Bool) (d k v : Int) (w : World) (hd0 : -32768 ≤ d) (hd1 : d ≤ 32767) (hk0 : 0 ≤ k) (hk1 : k ≤ 255) :
    Calls Try.prog 3 #[.bool c, .int .i16 d, .int .u8 k, .int .i64 v] w fun e w' => e = .returned (.bool true) ∧ Below w.heap.size w w' := by
  have HB := bl_refl w
  go_enter Try.func3, Try.ntmps3
  go_upto_region 2 with (first | ((with_reducible refine (usual_c _ _).mono ?_); rintro e w1 ⟨rfl, hb1⟩; replace HB := bl_then (by repeat (first | exact HB | apply bl_drew | (refine bl_alloc ?_ _))) hb1; clear hb1))
  go_cut [9] (fun s9 wx => s9 = .pointer (some ⟨w1.heap.size, 0, none⟩) ∧ Below w.heap.size w wx ∧ ∃ t : Ti, Blk wx w1.heap.size #[.bool c, .int .i64 8, .int .i64 300, .int .i64 16, .int .i64 600, .int .i64 t.t0, .int .i64 t.t1, .int .i64 t.t2, .int .i64 t.t3, .int .i64 t.t4, .int .i64 t.t5, .int .i64 t.t6, .int .i64 t.t7] 25)
  case first =>
    obtain h | h | h | h | h | h | h | h : k % 8 = 0 ∨ k % 8 = 1 ∨ k % 8 = 2 ∨ k % 8 = 3 ∨ k % 8 = 4 ∨ k % 8 = 5 ∨ k % 8 = 6 ∨ k % 8 = 7 := by omega
    · have k0 : k % 8 = 0 := h
      go_wp2
      go_meet
      case rel =>
        exact ⟨rfl, by repeat (first | exact HB | apply bl_drew | (refine bl_alloc ?_ _) | (refine bl_set ?_ HB.size _)), ⟨v, usT.t1, usT.t2, usT.t3, usT.t4, usT.t5, usT.t6, usT.t7⟩, Blk.new _ _ _⟩
    · have k1 : k % 8 = 1 := h
      go_wp2
      go_meet
      case rel =>
        exact ⟨rfl, by repeat (first | exact HB | apply bl_drew | (refine bl_alloc ?_ _) | (refine bl_set ?_ HB.size _)), ⟨usT.t0, v, usT.t2, usT.t3, usT.t4, usT.t5, usT.t6, usT.t7⟩, Blk.new _ _ _⟩
    · have k2 : k % 8 = 2 := h
      go_wp2
      go_meet
      case rel =>
        exact ⟨rfl, by repeat (first | exact HB | apply bl_drew | (refine bl_alloc ?_ _) | (refine bl_set ?_ HB.size _)), ⟨usT.t0, usT.t1, v, usT.t3, usT.t4, usT.t5, usT.t6, usT.t7⟩, Blk.new _ _ _⟩
    · have k3 : k % 8 = 3 := h
      go_wp2
      go_meet
      case rel =>
        exact ⟨rfl, by repeat (first | exact HB | apply bl_drew | (refine bl_alloc ?_ _) | (refine bl_set ?_ HB.size _)), ⟨usT.t0, usT.t1, usT.t2, v, usT.t4, usT.t5, usT.t6, usT.t7⟩, Blk.new _ _ _⟩
    · have k4 : k % 8 = 4 := h
      go_wp2
      go_meet
      case rel =>
        exact ⟨rfl, by repeat (first | exact HB | apply bl_drew | (refine bl_alloc ?_ _) | (refine bl_set ?_ HB.size _)), ⟨usT.t0, usT.t1, usT.t2, usT.t3, v, usT.t5, usT.t6, usT.t7⟩, Blk.new _ _ _⟩
    · have k5 : k % 8 = 5 := h
      go_wp2
      go_meet
      case rel =>
        exact ⟨rfl, by repeat (first | exact HB | apply bl_drew | (refine bl_alloc ?_ _) | (refine bl_set ?_ HB.size _)), ⟨usT.t0, usT.t1, usT.t2, usT.t3, usT.t4, v, usT.t6, usT.t7⟩, Blk.new _ _ _⟩
    · have k6 : k % 8 = 6 := h
      go_wp2
      go_meet
      case rel =>
        exact ⟨rfl, by repeat (first | exact HB | apply bl_drew | (refine bl_alloc ?_ _) | (refine bl_set ?_ HB.size _)), ⟨usT.t0, usT.t1, usT.t2, usT.t3, usT.t4, usT.t5, v, usT.t7⟩, Blk.new _ _ _⟩
    · have k7 : k % 8 = 7 := h
      go_wp2
      go_meet
      case rel =>
        exact ⟨rfl, by repeat (first | exact HB | apply bl_drew | (refine bl_alloc ?_ _) | (refine bl_set ?_ HB.size _)), ⟨usT.t0, usT.t1, usT.t2, usT.t3, usT.t4, usT.t5, usT.t6, v⟩, Blk.new _ _ _⟩
  case rest =>
    obtain ⟨rfl, HB1, t, hblk⟩ := hcut
    have hc := hblk.c
    obtain ⟨W, hW⟩ : ∃ W, way_ d = W := ⟨_, rfl⟩
    have wb := way_bd d (by omega)
    have CW : Hid (∀ w : World, Calls Try.prog 7 #[.int .i64 d] w fun e w' => e = .returned (.int .i64 W) ∧ w = w') := fun w => by rw [← hW]; exact lway_c d w (by omega)
    obtain ⟨R, hR⟩ : ∃ R, reply_ c d = R := ⟨_, rfl⟩
    have CR : Hid (∀ w : World, Calls Try.prog 8 #[suV c t, .int .i64 d] w fun e w' => e = .returned (.int .i64 R) ∧ Below w.heap.size w w') := fun w => by rw [← hR]; exact reply_c c t d w (by omega)
    obtain ⟨F, hF⟩ : ∃ F, fits_ c t d = F := ⟨_, rfl⟩
    have CF : Hid (∀ w : World, Calls Try.prog 10 #[suV c t, .int .i64 d] w fun e w' => e = .returned (.bool F) ∧ Below w.heap.size w w') := fun w => by rw [← hF]; exact fits_c c t d w (by omega)
    unfold fits_ at hF
    rw [hW, hR] at hF
    have FIN := Lib.hid hF
    rw [hW] at wb
    clear hF hW hR HB
    have HB : Below w.heap.size w wc := HB1
    clear HB1
    by_cases h1 : R < t.t7
    · skip
      by_cases h2 : wrap64 (t.t4 + 4 * W) < t.t1
      · skip
        by_cases h3 : 4 * W < t.t2
        · skip
          by_cases h4 : 4 * W < t.t3
          · skip
            have k1 : decide (R < t.t7) = true := decide_eq_true h1
            have k2 : decide (wrap64 (t.t4 + 4 * W) < t.t1) = true := decide_eq_true h2
            have k3 : decide (4 * W < t.t2) = true := decide_eq_true h3
            have k4 : decide (4 * W < t.t3) = true := decide_eq_true h4
            have hFv : F = true := FIN.out.symm.trans (by simp [k1, k2, k3, k4])
            subst hFv
            clear FIN
            go_wp2_with (first | ((with_reducible refine (CW.out _).mono ?_); rintro e w1 ⟨rfl, rfl⟩))
            refine wp_region_up (by kernel_rfl) (by kernel_rfl) ?_
            have hld : ∀ g : Up wc, ∀ i, g.val.cell? ⟨w1.heap.size, i, none⟩ = (#[.bool c, .int .i64 8, .int .i64 300, .int .i64 16, .int .i64 600, .int .i64 t.t0, .int .i64 t.t1, .int .i64 t.t2, .int .i64 t.t3, .int .i64 t.t4, .int .i64 t.t5, .int .i64 t.t6, .int .i64 t.t7] : Array Value)[i]? := fun g i => cell_of_row _ _ _ _ _ _ (g.blk hblk)
            repeat (go_big_quiet_step (exact Up.calls _ (CR.out _)))
            refine wpQuiet_nil ?_
            refine up_elim (fun w2 hb2 => ?_)
            have hc2 : ∀ i, w2.cell? ⟨w1.heap.size, i, none⟩ = (#[.bool c, .int .i64 8, .int .i64 300, .int .i64 16, .int .i64 600, .int .i64 t.t0, .int .i64 t.t1, .int .i64 t.t2, .int .i64 t.t3, .int .i64 t.t4, .int .i64 t.t5, .int .i64 t.t6, .int .i64 t.t7] : Array Value)[i]? := (hblk.below hb2).c
            replace HB := bl_then HB hb2
            have hblk2 := Lib.hid (hblk.below hb2)
            clear hld hc hblk hb2 k1 k2 k3 k4 h1 h2 h3 h4
            by_cases hv0 : v < 0
            · go_wp2_with (first | ((with_reducible refine (awake_c _).mono ?_); rintro e w3 ⟨rfl, hb1⟩; replace HB := bl_then HB hb1; have hc3 := (hblk2.out.below hb1).c; clear hb1) | ((with_reducible refine (CF.out _).mono ?_); rintro e w4 ⟨rfl, hb1⟩; replace HB := bl_then HB hb1; clear hb1))
              go_ret
              exact ⟨rfl, HB⟩
            · by_cases hv1 : 1099511627776 < v
              · go_wp2_with (first | ((with_reducible refine (awake_c _).mono ?_); rintro e w3 ⟨rfl, hb1⟩; replace HB := bl_then HB hb1; have hc3 := (hblk2.out.below hb1).c; clear hb1) | ((with_reducible refine (CF.out _).mono ?_); rintro e w4 ⟨rfl, hb1⟩; replace HB := bl_then HB hb1; clear hb1))
                go_ret
                exact ⟨rfl, HB⟩
              · go_wp2_with (first | ((with_reducible refine (awake_c _).mono ?_); rintro e w3 ⟨rfl, hb1⟩; replace HB := bl_then HB hb1; have hc3 := (hblk2.out.below hb1).c; clear hb1) | ((with_reducible refine (CF.out _).mono ?_); rintro e w4 ⟨rfl, hb1⟩; replace HB := bl_then HB hb1; clear hb1))
                go_ret
                exact ⟨rfl, HB⟩
          · skip
            have k1 : decide (R < t.t7) = true := decide_eq_true h1
            have k2 : decide (wrap64 (t.t4 + 4 * W) < t.t1) = true := decide_eq_true h2
            have k3 : decide (4 * W < t.t2) = true := decide_eq_true h3
            have k4 : decide (4 * W < t.t3) = false := decide_eq_false h4
            have hFv : F = false := FIN.out.symm.trans (by simp [k1, k2, k3, k4])
            subst hFv
            clear FIN
            go_wp2_with (first | ((with_reducible refine (CW.out _).mono ?_); rintro e w1 ⟨rfl, rfl⟩))
            refine wp_region_up (by kernel_rfl) (by kernel_rfl) ?_
            have hld : ∀ g : Up wc, ∀ i, g.val.cell? ⟨w1.heap.size, i, none⟩ = (#[.bool c, .int .i64 8, .int .i64 300, .int .i64 16, .int .i64 600, .int .i64 t.t0, .int .i64 t.t1, .int .i64 t.t2, .int .i64 t.t3, .int .i64 t.t4, .int .i64 t.t5, .int .i64 t.t6, .int .i64 t.t7] : Array Value)[i]? := fun g i => cell_of_row _ _ _ _ _ _ (g.blk hblk)
            repeat (go_big_quiet_step (exact Up.calls _ (CR.out _)))
            refine wpQuiet_nil ?_
            refine up_elim (fun w2 hb2 => ?_)
            have hc2 : ∀ i, w2.cell? ⟨w1.heap.size, i, none⟩ = (#[.bool c, .int .i64 8, .int .i64 300, .int .i64 16, .int .i64 600, .int .i64 t.t0, .int .i64 t.t1, .int .i64 t.t2, .int .i64 t.t3, .int .i64 t.t4, .int .i64 t.t5, .int .i64 t.t6, .int .i64 t.t7] : Array Value)[i]? := (hblk.below hb2).c
            replace HB := bl_then HB hb2
            have hblk2 := Lib.hid (hblk.below hb2)
            clear hld hc hblk hb2 k1 k2 k3 k4 h1 h2 h3 h4
            by_cases hv0 : v < 0
            · go_wp2_with (first | ((with_reducible refine (awake_c _).mono ?_); rintro e w3 ⟨rfl, hb1⟩; replace HB := bl_then HB hb1; have hc3 := (hblk2.out.below hb1).c; clear hb1) | ((with_reducible refine (CF.out _).mono ?_); rintro e w4 ⟨rfl, hb1⟩; replace HB := bl_then HB hb1; clear hb1))
              go_ret
              exact ⟨rfl, HB⟩
            · by_cases hv1 : 1099511627776 < v
              · go_wp2_with (first | ((with_reducible refine (awake_c _).mono ?_); rintro e w3 ⟨rfl, hb1⟩; replace HB := bl_then HB hb1; have hc3 := (hblk2.out.below hb1).c; clear hb1) | ((with_reducible refine (CF.out _).mono ?_); rintro e w4 ⟨rfl, hb1⟩; replace HB := bl_then HB hb1; clear hb1))
                go_ret
                exact ⟨rfl, HB⟩
              · go_wp2_with (first | ((with_reducible refine (awake_c _).mono ?_); rintro e w3 ⟨rfl, hb1⟩; replace HB := bl_then HB hb1; have hc3 := (hblk2.out.below hb1).c; clear hb1) | ((with_reducible refine (CF.out _).mono ?_); rintro e w4 ⟨rfl, hb1⟩; replace HB := bl_then HB hb1; clear hb1))
                go_ret
                exact ⟨rfl, HB⟩
        · skip
          have k1 : decide (R < t.t7) = true := decide_eq_true h1
          have k2 : decide (wrap64 (t.t4 + 4 * W) < t.t1) = true := decide_eq_true h2
          have k3 : decide (4 * W < t.t2) = false := decide_eq_false h3
          have hFv : F = false := FIN.out.symm.trans (by simp [k1, k2, k3])
          subst hFv
          clear FIN
          go_wp2_with (first | ((with_reducible refine (CW.out _).mono ?_); rintro e w1 ⟨rfl, rfl⟩))
          refine wp_region_up (by kernel_rfl) (by kernel_rfl) ?_
          have hld : ∀ g : Up wc, ∀ i, g.val.cell? ⟨w1.heap.size, i, none⟩ = (#[.bool c, .int .i64 8, .int .i64 300, .int .i64 16, .int .i64 600, .int .i64 t.t0, .int .i64 t.t1, .int .i64 t.t2, .int .i64 t.t3, .int .i64 t.t4, .int .i64 t.t5, .int .i64 t.t6, .int .i64 t.t7] : Array Value)[i]? := fun g i => cell_of_row _ _ _ _ _ _ (g.blk hblk)
          repeat (go_big_quiet_step (exact Up.calls _ (CR.out _)))
          refine wpQuiet_nil ?_
          refine up_elim (fun w2 hb2 => ?_)
          have hc2 : ∀ i, w2.cell? ⟨w1.heap.size, i, none⟩ = (#[.bool c, .int .i64 8, .int .i64 300, .int .i64 16, .int .i64 600, .int .i64 t.t0, .int .i64 t.t1, .int .i64 t.t2, .int .i64 t.t3, .int .i64 t.t4, .int .i64 t.t5, .int .i64 t.t6, .int .i64 t.t7] : Array Value)[i]? := (hblk.below hb2).c
          replace HB := bl_then HB hb2
          have hblk2 := Lib.hid (hblk.below hb2)
          clear hld hc hblk hb2 k1 k2 k3 h1 h2 h3
          by_cases hv0 : v < 0
          · go_wp2_with (first | ((with_reducible refine (awake_c _).mono ?_); rintro e w3 ⟨rfl, hb1⟩; replace HB := bl_then HB hb1; have hc3 := (hblk2.out.below hb1).c; clear hb1) | ((with_reducible refine (CF.out _).mono ?_); rintro e w4 ⟨rfl, hb1⟩; replace HB := bl_then HB hb1; clear hb1))
            go_ret
            exact ⟨rfl, HB⟩
          · by_cases hv1 : 1099511627776 < v
            · go_wp2_with (first | ((with_reducible refine (awake_c _).mono ?_); rintro e w3 ⟨rfl, hb1⟩; replace HB := bl_then HB hb1; have hc3 := (hblk2.out.below hb1).c; clear hb1) | ((with_reducible refine (CF.out _).mono ?_); rintro e w4 ⟨rfl, hb1⟩; replace HB := bl_then HB hb1; clear hb1))
              go_ret
              exact ⟨rfl, HB⟩
            · go_wp2_with (first | ((with_reducible refine (awake_c _).mono ?_); rintro e w3 ⟨rfl, hb1⟩; replace HB := bl_then HB hb1; have hc3 := (hblk2.out.below hb1).c; clear hb1) | ((with_reducible refine (CF.out _).mono ?_); rintro e w4 ⟨rfl, hb1⟩; replace HB := bl_then HB hb1; clear hb1))
              go_ret
              exact ⟨rfl, HB⟩
      · skip
        have k1 : decide (R < t.t7) = true := decide_eq_true h1
        have k2 : decide (wrap64 (t.t4 + 4 * W) < t.t1) = false := decide_eq_false h2
        have hFv : F = false := FIN.out.symm.trans (by simp [k1, k2])
        subst hFv
        clear FIN
        go_wp2_with (first | ((with_reducible refine (CW.out _).mono ?_); rintro e w1 ⟨rfl, rfl⟩))
        refine wp_region_up (by kernel_rfl) (by kernel_rfl) ?_
        have hld : ∀ g : Up wc, ∀ i, g.val.cell? ⟨w1.heap.size, i, none⟩ = (#[.bool c, .int .i64 8, .int .i64 300, .int .i64 16, .int .i64 600, .int .i64 t.t0, .int .i64 t.t1, .int .i64 t.t2, .int .i64 t.t3, .int .i64 t.t4, .int .i64 t.t5, .int .i64 t.t6, .int .i64 t.t7] : Array Value)[i]? := fun g i => cell_of_row _ _ _ _ _ _ (g.blk hblk)
        repeat (go_big_quiet_step (exact Up.calls _ (CR.out _)))
        refine wpQuiet_nil ?_
        refine up_elim (fun w2 hb2 => ?_)
        have hc2 : ∀ i, w2.cell? ⟨w1.heap.size, i, none⟩ = (#[.bool c, .int .i64 8, .int .i64 300, .int .i64 16, .int .i64 600, .int .i64 t.t0, .int .i64 t.t1, .int .i64 t.t2, .int .i64 t.t3, .int .i64 t.t4, .int .i64 t.t5, .int .i64 t.t6, .int .i64 t.t7] : Array Value)[i]? := (hblk.below hb2).c
        replace HB := bl_then HB hb2
        have hblk2 := Lib.hid (hblk.below hb2)
        clear hld hc hblk hb2 k1 k2 h1 h2
        by_cases hv0 : v < 0
        · go_wp2_with (first | ((with_reducible refine (awake_c _).mono ?_); rintro e w3 ⟨rfl, hb1⟩; replace HB := bl_then HB hb1; have hc3 := (hblk2.out.below hb1).c; clear hb1) | ((with_reducible refine (CF.out _).mono ?_); rintro e w4 ⟨rfl, hb1⟩; replace HB := bl_then HB hb1; clear hb1))
          go_ret
          exact ⟨rfl, HB⟩
        · by_cases hv1 : 1099511627776 < v
          · go_wp2_with (first | ((with_reducible refine (awake_c _).mono ?_); rintro e w3 ⟨rfl, hb1⟩; replace HB := bl_then HB hb1; have hc3 := (hblk2.out.below hb1).c; clear hb1) | ((with_reducible refine (CF.out _).mono ?_); rintro e w4 ⟨rfl, hb1⟩; replace HB := bl_then HB hb1; clear hb1))
            go_ret
            exact ⟨rfl, HB⟩
          · go_wp2_with (first | ((with_reducible refine (awake_c _).mono ?_); rintro e w3 ⟨rfl, hb1⟩; replace HB := bl_then HB hb1; have hc3 := (hblk2.out.below hb1).c; clear hb1) | ((with_reducible refine (CF.out _).mono ?_); rintro e w4 ⟨rfl, hb1⟩; replace HB := bl_then HB hb1; clear hb1))
            go_ret
            exact ⟨rfl, HB⟩
    · skip
      have k1 : decide (R < t.t7) = false := decide_eq_false h1
      have hFv : F = false := FIN.out.symm.trans (by simp [k1])
      subst hFv
      clear FIN
      go_wp2_with (first | ((with_reducible refine (CW.out _).mono ?_); rintro e w1 ⟨rfl, rfl⟩))
      refine wp_region_up (by kernel_rfl) (by kernel_rfl) ?_
      have hld : ∀ g : Up wc, ∀ i, g.val.cell? ⟨w1.heap.size, i, none⟩ = (#[.bool c, .int .i64 8, .int .i64 300, .int .i64 16, .int .i64 600, .int .i64 t.t0, .int .i64 t.t1, .int .i64 t.t2, .int .i64 t.t3, .int .i64 t.t4, .int .i64 t.t5, .int .i64 t.t6, .int .i64 t.t7] : Array Value)[i]? := fun g i => cell_of_row _ _ _ _ _ _ (g.blk hblk)
      repeat (go_big_quiet_step (exact Up.calls _ (CR.out _)))
      refine wpQuiet_nil ?_
      refine up_elim (fun w2 hb2 => ?_)
      have hc2 : ∀ i, w2.cell? ⟨w1.heap.size, i, none⟩ = (#[.bool c, .int .i64 8, .int .i64 300, .int .i64 16, .int .i64 600, .int .i64 t.t0, .int .i64 t.t1, .int .i64 t.t2, .int .i64 t.t3, .int .i64 t.t4, .int .i64 t.t5, .int .i64 t.t6, .int .i64 t.t7] : Array Value)[i]? := (hblk.below hb2).c
      replace HB := bl_then HB hb2
      have hblk2 := Lib.hid (hblk.below hb2)
      clear hld hc hblk hb2 k1 h1
      by_cases hv0 : v < 0
      · go_wp2_with (first | ((with_reducible refine (awake_c _).mono ?_); rintro e w3 ⟨rfl, hb1⟩; replace HB := bl_then HB hb1; have hc3 := (hblk2.out.below hb1).c; clear hb1) | ((with_reducible refine (CF.out _).mono ?_); rintro e w4 ⟨rfl, hb1⟩; replace HB := bl_then HB hb1; clear hb1))
        go_ret
        exact ⟨rfl, HB⟩
      · by_cases hv1 : 1099511627776 < v
        · go_wp2_with (first | ((with_reducible refine (awake_c _).mono ?_); rintro e w3 ⟨rfl, hb1⟩; replace HB := bl_then HB hb1; have hc3 := (hblk2.out.below hb1).c; clear hb1) | ((with_reducible refine (CF.out _).mono ?_); rintro e w4 ⟨rfl, hb1⟩; replace HB := bl_then HB hb1; clear hb1))
          go_ret
          exact ⟨rfl, HB⟩
        · go_wp2_with (first | ((with_reducible refine (awake_c _).mono ?_); rintro e w3 ⟨rfl, hb1⟩; replace HB := bl_then HB hb1; have hc3 := (hblk2.out.below hb1).c; clear hb1) | ((with_reducible refine (CF.out _).mono ?_); rintro e w4 ⟨rfl, hb1⟩; replace HB := bl_then HB hb1; clear hb1))
          go_ret
          exact ⟨rfl, HB⟩
end Go.Proofs.Ytclfmhajloblgaa
