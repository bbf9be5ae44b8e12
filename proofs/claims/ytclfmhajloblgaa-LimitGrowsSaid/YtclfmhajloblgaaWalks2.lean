/- The walks of the functions of layer 22 that reckon with a setup's numbers: within how many ticks. -/
import Derived.Test.YtclfmhajloblgaaWalks
namespace Go.Proofs.Ytclfmhajloblgaa
open Go.RowKit Go.Proofs.YtclfmhajloblgaaK
set_option maxHeartbeats 1000000
set_option maxRecDepth 100000
theorem inserv_c (c : Bool) (t : Ti) (d g : Int) (w : World) (ht0 : 0 ≤ t.t4) (ht1 : t.t4 ≤ 1000000000) (hd : d ≤ 1000000000) (hg : g ≤ 1000000000) : Calls Try.prog 12 #[suV c t, .int .i64 d, .int .i64 g] w fun e w' => e = .returned (.int .i64 (mx g + t.t4 + 6 * way_ d)) ∧ Below w.heap.size w w' := by
  have wb := way_bd d hd
  obtain ⟨W, hW⟩ : ∃ W, way_ d = W := ⟨_, rfl⟩
  have HW := Lib.hid hW
  rw [hW] at wb
  obtain ⟨m, hm⟩ : ∃ m, mx g = m := ⟨_, rfl⟩
  have hb := mx_bd g
  rw [hm] at hb
  have b1 : 0 ≤ m := by omega
  have b2 : m ≤ 1000000000 := by omega
  have hm' := hm
  unfold mx at hm'
  rw [hm, hW]
  have HC : Hid (∀ w : World, Calls Try.prog 14 #[.int .i64 d] w fun e w' => e = .returned (.int .i64 W) ∧ w = w') := fun w => by rw [← hW]; exact way_c d w hd
  clear hW hm hb
  have e1 : IntKind.i64.wrap (m + t.t4) = m + t.t4 := IntWalk.i64_in _ (by omega)
  have e2 : IntKind.i64.wrap (6 * W) = 6 * W := IntWalk.i64_in _ (by omega)
  have e3 : IntKind.i64.wrap (m + t.t4 + 6 * W) = m + t.t4 + 6 * W := IntWalk.i64_in _ (by omega)
  go_enter Try.func12, Try.ntmps12
  go_wp2
  refine wp_region_up (by kernel_rfl) (by kernel_rfl) ?_
  have hld : ∀ g : Up (w.alloc (.cells #[.bool c, .int .i64 8, .int .i64 300, .int .i64 16, .int .i64 600, .int .i64 t.t0, .int .i64 t.t1, .int .i64 t.t2, .int .i64 t.t3, .int .i64 t.t4, .int .i64 t.t5, .int .i64 t.t6, .int .i64 t.t7] 25)), ∀ i, g.val.cell? ⟨w.heap.size, i, none⟩ = (#[.bool c, .int .i64 8, .int .i64 300, .int .i64 16, .int .i64 600, .int .i64 t.t0, .int .i64 t.t1, .int .i64 t.t2, .int .i64 t.t3, .int .i64 t.t4, .int .i64 t.t5, .int .i64 t.t6, .int .i64 t.t7] : Array Value)[i]? := fun g i => cell_of_row _ _ _ _ _ _ (g.blk (heap_alloc_new _ _))
  repeat (first | go_big_quiet_step (exact Up.calls_same _ (HC.out _)) | quiet_step (exact Up.calls_same _ (HC.out _)))
  refine wpQuiet_nil ?_
  rintro _ ⟨⟨w1, hb1⟩, rfl⟩
  clear hld e1 e2 e3
  go_wp2
  go_ret
  exact ⟨rfl, Below.trans (((Below.refl _ _).alloc (Nat.le_refl _) _)) (hb1.mono (by simp))⟩
end Go.Proofs.Ytclfmhajloblgaa
