/- The walk of setup.Check over the usual setups. -/
import Derived.Test.YtcllbmjmefeknaaGreatLw0
namespace Go.Proofs.YtcllbmjmefeknaaGreatK
open Go Go.RowKit
set_option linter.unusedVariables false
set_option maxHeartbeats 2000000
set_option maxRecDepth 100000
theorem within_c (n a b : Int) (w : World) (h1 : a ≤ n) (h2 : n ≤ b) : Calls Tryz.prog 70 #[.int .i64 n, .int .i64 a, .int .i64 b] w fun e w' => e = .returned (.bool true) ∧ w = w' := by
  go_enter Tryz.func70, Tryz.ntmps70
  go_wp2
  go_ret
  exact ⟨rfl, rfl⟩
theorem Check_usual (cyc : Bool) (w : World) : Calls Tryz.prog 17 #[Su.v ⟨cyc, 8, 300, 16, 600, 600, 12000, 8000, 4000, 1200, 100, 4000, 6000⟩] w fun e w' => e = .returned (.int .i64 0) ∧ Below w.heap.size w w' := by
  have HW := Lib.hid within_c
  go_enter Tryz.func17, Tryz.ntmps17
  go_wp2
  generalize hO : w.alloc _ = w1
  have HB : Below w.heap.size w w1 := by rw [← hO]; exact bl_alloc (bl_refl w) _
  have hN : Blk w1 w.heap.size #[.bool cyc, .int .i64 8, .int .i64 300, .int .i64 16, .int .i64 600, .int .i64 600, .int .i64 12000, .int .i64 8000, .int .i64 4000, .int .i64 1200, .int .i64 100, .int .i64 4000, .int .i64 6000] 24 := by rw [← hO]; exact Blk.new w _ _
  clear hO
  have hc := hN.c
  go_loopw [7] (fun i wr => ∃ k : Nat, k ≤ 8 ∧ i = .int .i64 k ∧ wr = w1) (fun i _ => 8 - (intOf i).toNat)
  case atStart => exact ⟨0, by omega, rfl, rfl⟩
  case round =>
    obtain ⟨k, hk, rfl, rfl⟩ := hrel
    by_cases hlt : k < 8
    · have hlt' : (k : Int) < 8 := by omega
      have hi : ∃ t : Int, (Instr.index 22 (.agg #[Value.int .i64 600, .int .i64 12000, .int .i64 8000, .int .i64 4000, .int .i64 1200, .int .i64 100, .int .i64 4000, .int .i64 6000]) (.int .i64 k)).run Tryz.prog wr = .ok (.int .i64 t) wr ∧ 1 ≤ t ∧ t ≤ 4294967296 := by
        rcases (by omega : k = 0 ∨ k = 1 ∨ k = 2 ∨ k = 3 ∨ k = 4 ∨ k = 5 ∨ k = 6 ∨ k = 7) with rfl | rfl | rfl | rfl | rfl | rfl | rfl | rfl
        · exact ⟨600, by kernel_rfl, by decide, by decide⟩
        · exact ⟨12000, by kernel_rfl, by decide, by decide⟩
        · exact ⟨8000, by kernel_rfl, by decide, by decide⟩
        · exact ⟨4000, by kernel_rfl, by decide, by decide⟩
        · exact ⟨1200, by kernel_rfl, by decide, by decide⟩
        · exact ⟨100, by kernel_rfl, by decide, by decide⟩
        · exact ⟨4000, by kernel_rfl, by decide, by decide⟩
        · exact ⟨6000, by kernel_rfl, by decide, by decide⟩
      obtain ⟨t, ht, t1, t2⟩ := hi
      go_wp2_with (first | ((with_reducible refine (HW.out t 1 4294967296 wr t1 t2).mono ?_); rintro e w2 ⟨rfl, rfl⟩))
      go_roundw
      case rel => exact ⟨k + 1, by omega, by go_num, trivial⟩
      case measure => simp [intOf]; omega
    · obtain rfl : k = 8 := by omega
      go_wp2_with (first
        | ((with_reducible refine (HW.out 8 1 127 _ (by decide) (by decide)).mono ?_); rintro e w2 ⟨rfl, rfl⟩)
        | ((with_reducible refine (HW.out 300 1 1048576 _ (by decide) (by decide)).mono ?_); rintro e w2 ⟨rfl, rfl⟩)
        | ((with_reducible refine (HW.out 16 1 512 _ (by decide) (by decide)).mono ?_); rintro e w2 ⟨rfl, rfl⟩)
        | ((with_reducible refine (HW.out 600 273 1048576 _ (by decide) (by decide)).mono ?_); rintro e w2 ⟨rfl, rfl⟩))
      go_ret
      exact ⟨rfl, HB⟩
end Go.Proofs.YtcllbmjmefeknaaGreatK
