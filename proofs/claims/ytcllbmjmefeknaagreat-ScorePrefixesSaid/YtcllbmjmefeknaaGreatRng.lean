/- The walks of package ring: numbers that go round. -/
import Derived.Test.YtcllbmjmefeknaaGreatProg
import Derived.Test.YtcllbmjmefeknaaGreatCore
import Derived.Laws.Bits128
namespace Go.Proofs.YtcllbmjmefeknaaGreatK
open Go Go.RowKit
set_option linter.unusedVariables false
set_option maxHeartbeats 1000000
set_option maxRecDepth 100000
theorem Gap_c (a b : Int) (w : World) (ha0 : 0 ≤ a) (ha1 : a ≤ 255) (hb0 : 0 ≤ b) (hb1 : b ≤ 255) : Calls Tryz.prog 172 #[.int .u8 a, .int .u8 b] w fun e w' => e = .returned (.int .i64 ((b - a) % 128)) ∧ w = w' := by
  have e : (b - a) % 256 % 128 = (b - a) % 128 := by omega
  have E := Lib.hid e
  clear e
  go_enter Tryz.func172, Tryz.ntmps172
  go_wp2
  go_ret
  exact ⟨by first | rfl | rw [E.out] | (congr 2; omega), rfl⟩
theorem Prev_c (a : Int) (w : World) (ha0 : 0 ≤ a) (ha1 : a ≤ 255) : Calls Tryz.prog 173 #[.int .u8 a] w fun e w' => e = .returned (.int .u8 ((a + 127) % 128)) ∧ w = w' := by
  go_enter Tryz.func173, Tryz.ntmps173
  go_wp2
  go_ret
  refine ⟨?_, rfl⟩
  show Ending.returned (.int .u8 ((a + 128 - 1) % 256 % 128)) = _
  rw [show (a + 128 - 1) % 256 % 128 = (a + 127) % 128 by omega]
theorem Next_c (a : Int) (w : World) (ha0 : 0 ≤ a) (ha1 : a ≤ 255) : Calls Tryz.prog 110 #[.int .u8 a] w fun e w' => e = .returned (.int .u8 ((a + 1) % 128)) ∧ w = w' := by
  go_enter Tryz.func110, Tryz.ntmps110
  go_wp2
  go_ret
  refine ⟨?_, rfl⟩
  show Ending.returned (.int .u8 ((a + 1) % 256 % 128)) = _
  rw [show (a + 1) % 256 % 128 = (a + 1) % 128 by omega]
theorem Within_c (n a b : Int) (w : World) (hn0 : 0 ≤ n) (hn1 : n ≤ 255) (ha0 : 0 ≤ a) (ha1 : a ≤ 255) (hb0 : 0 ≤ b) (hb1 : b ≤ 255) :
    Calls Tryz.prog 189 #[.int .u8 n, .int .u8 a, .int .u8 b] w fun e w' => e = .returned (.bool (decide ((n - a) % 128 ≤ (b - a) % 128))) ∧ w = w' := by
  have C1 := Lib.hid (Gap_c a n w ha0 ha1 hn0 hn1)
  have C2 := Lib.hid (Gap_c a b w ha0 ha1 hb0 hb1)
  go_enter Tryz.func189, Tryz.ntmps189
  go_wp2_with (first | ((with_reducible refine C1.out.mono ?_); rintro e w1 ⟨rfl, rfl⟩) | ((with_reducible refine C2.out.mono ?_); rintro e w1 ⟨rfl, rfl⟩))
  go_ret
  exact ⟨rfl, rfl⟩
theorem At_c (n : Int) (w : World) : Calls Tryz.prog 197 #[.int .i64 n] w fun e w' => e = .returned (.int .u8 (n % 128)) ∧ w = w' := by
  have hb := i64_and127 n
  have hw : (n % 128) % 256 = n % 128 := by omega
  go_enter Tryz.func197, Tryz.ntmps197
  go_wp2
  go_ret
  exact ⟨rfl, rfl⟩
end Go.Proofs.YtcllbmjmefeknaaGreatK
