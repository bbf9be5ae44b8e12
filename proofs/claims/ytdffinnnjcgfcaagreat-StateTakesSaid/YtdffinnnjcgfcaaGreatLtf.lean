/- StateTakes: the facts on plain data. -/
import Derived.Test.YtdffinnnjcgfcaaGreatM7
namespace Go.Proofs.YtdffinnnjcgfcaaGreatK
open Go Go.RowKit
set_option maxHeartbeats 1000000
set_option maxRecDepth 100000
def Wy.sl (l : Int) : Wy → Wy
  | .bs x => .bs { x with last := l }
  | .cy x => .cy { x with last := l }
/-- So many messages were taken. -/
def tk (c : Bool) (n : Nat) : St := { served c with w := (served c).w.sl ((n + 127) % 128 : Nat) }
abbrev sgT (f : Int) (i : Nat) : Un := ⟨127, f, true, true, 2, 0, false, [i, 1, 2]⟩
def takesB (c : Bool) (n i : Nat) : Bool :=
  decide (((tk c n).hear (sgT n i)).told = [⟨3, 0, [(i : Int), 1, 2]⟩]) && decide (({ (tk c n).hear (sgT n i) with told := [] } : St) = tk c (n + 1)) && decide ((tk c n).hear (sgT ((n + 127) % 128 : Nat) i) = tk c n)
theorem takes_all : ((List.range 60).all fun n => (List.range 60).all fun i => takesB false n i && takesB true n i) = true := by kernel_rfl
theorem takes_at (c : Bool) {n i : Nat} (hn : n < 60) (hi : i < 60) : ((tk c n).hear (sgT n i)).told = [⟨3, 0, [(i : Int), 1, 2]⟩] ∧ ({ (tk c n).hear (sgT n i) with told := [] } : St) = tk c (n + 1) ∧ (tk c n).hear (sgT ((n + 127) % 128 : Nat) i) = tk c n := by
  have h := List.all_eq_true.1 (List.all_eq_true.1 takes_all n (List.mem_range.2 hn)) i (List.mem_range.2 hi)
  simp only [Bool.and_eq_true] at h
  have hc : takesB c n i = true := by
    cases c
    · exact h.1
    · exact h.2
  unfold takesB at hc
  simp only [Bool.and_eq_true, decide_eq_true_eq] at hc
  exact ⟨hc.1.1, hc.1.2, hc.2⟩
theorem tk_zero (c : Bool) : tk c 0 = served c := by cases c <;> kernel_rfl
theorem tk_S (c : Bool) (n : Nat) : (tk c n).S = 4 := by
  unfold tk
  dsimp only
  exact served_S c
theorem tk_told (c : Bool) (n : Nat) : (tk c n).told = [] := by cases c <;> kernel_rfl
theorem tk_last (c : Bool) (n : Nat) : (tk c n).w.last = ((n + 127) % 128 : Nat) := by
  unfold tk
  dsimp only
  cases h : (served c).w <;> rfl
end Go.Proofs.YtdffinnnjcgfcaaGreatK
