/- StateOutage: the facts on plain data. -/
import Derived.Test.YtdffinnnjcgfcaaGreatM
namespace Go.Proofs.YtdffinnnjcgfcaaGreatK
open Go Go.RowKit
set_option maxHeartbeats 1000000
set_option maxRecDepth 100000
/-- A message's unit. -/
abbrev sg : Un := ⟨127, 0, true, true, 2, 0, false, [97, 98, 99]⟩
/-- Its own processor is out. -/
def outA (c : Bool) : St := ((served c).order 6 []).1
theorem outA_fix (c : Bool) : ((outA c).hear sg).tick = outA c := by cases c <;> kernel_rfl
theorem outA_S (c : Bool) : (outA c).S = 5 := by cases c <;> kernel_rfl
theorem outA_told (c : Bool) : (outA c).told = [] := by cases c <;> kernel_rfl
theorem outA_nil (c : Bool) : ({ outA c with told := [] } : St) = outA c := by cases c <;> kernel_rfl
theorem outA_next (c : Bool) : (outA c).next = (outA c, ⟨127, 127, true, true, 1, 4, false, []⟩) := by cases c <;> kernel_rfl
def outB (c : Bool) : St := ((outA c).order 7 []).1
theorem outB_S (c : Bool) : (outB c).S = 4 := by cases c <;> kernel_rfl
theorem outB_told (c : Bool) : ((outB c).hear sg).told = [⟨3, 0, [97, 98, 99]⟩] := by cases c <;> kernel_rfl
/-- The other's is. -/
def outC (c : Bool) : St := (served c).hear (lk 4)
theorem outC_fix (c : Bool) : ((outC c).hear (lk 4)).tick = outC c := by cases c <;> kernel_rfl
theorem outC_order (c : Bool) : (outC c).order 9 [] = (outC c, 9) := by cases c <;> kernel_rfl
def outD (c : Bool) : St := (outC c).hear fl
theorem outD_S (c : Bool) : (outD c).S = 5 := by cases c <;> kernel_rfl
theorem outD_e (c : Bool) : ((outD c).order 9 []).2 = 0 := by cases c <;> kernel_rfl
theorem outD_S2 (c : Bool) : ((outD c).order 9 []).1.S = 4 := by cases c <;> kernel_rfl
theorem outD_told (c : Bool) : ((outD c).order 9 []).1.told = [⟨4, 0, []⟩, ⟨5, 0, []⟩] := by cases c <;> kernel_rfl
end Go.Proofs.YtdffinnnjcgfcaaGreatK
