/- StateAligns: a link that is started comes into line, is proved, is ready, and serves; or fails when its time is over: put together. -/
import Derived.Test.YtdffinnnjcgfcaaGreatLa1
import Derived.Test.YtdffinnnjcgfcaaGreatLa2
namespace Go.Proofs.YtdffinnnjcgfcaaGreatK
open Go Go.RowKit
set_option linter.unusedVariables false
theorem stateAligns_walk (a0 a1 : Bool) (a2 a3 : Int) (w : World) (p2 : 0 ≤ a2) (q2 : a2 ≤ 255) (p3 : 0 ≤ a3) (q3 : a3 ≤ 255) :
    Calls Tryz.prog 6 #[.bool a0, .bool a1, .int .u8 a2, .int .u8 a3] w fun e w' => e = .returned (.bool true) ∧ Below w.heap.size w w' := by
  have hm : a3 % 5 = 0 ∨ a3 % 5 = 1 ∨ a3 % 5 = 2 ∨ a3 % 5 = 3 ∨ a3 % 5 = 4 := by omega
  cases a1 <;> rcases hm with hm | hm | hm | hm | hm
  · exact al_false_0 a0 a2 a3 w p2 q2 p3 q3 hm
  · exact al_false_1 a0 a2 a3 w p2 q2 p3 q3 hm
  · exact al_false_2 a0 a2 a3 w p2 q2 p3 q3 hm
  · exact al_false_3 a0 a2 a3 w p2 q2 p3 q3 hm
  · exact al_false_4 a0 a2 a3 w p2 q2 p3 q3 hm
  · exact al_true_0 a0 a2 a3 w p2 q2 p3 q3 hm
  · exact al_true_1 a0 a2 a3 w p2 q2 p3 q3 hm
  · exact al_true_2 a0 a2 a3 w p2 q2 p3 q3 hm
  · exact al_true_3 a0 a2 a3 w p2 q2 p3 q3 hm
  · exact al_true_4 a0 a2 a3 w p2 q2 p3 q3 hm
end Go.Proofs.YtdffinnnjcgfcaaGreatK
