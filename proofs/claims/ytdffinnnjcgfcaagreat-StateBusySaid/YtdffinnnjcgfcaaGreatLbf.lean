/- StateBusy: the facts on plain data. -/
import Derived.Test.YtdffinnnjcgfcaaGreatM7
namespace Go.Proofs.YtdffinnnjcgfcaaGreatK
open Go Go.RowKit
set_option maxHeartbeats 1000000
set_option maxRecDepth 100000
def busy0 (c : Bool) : St := ((served c).order 5 [97, 98, 99]).1.next.1
/-- The other side says each k ticks that it is busy. -/
def busyR (c : Bool) (k : Nat) : Nat → St
  | 0 => busy0 c
  | i + 1 => if i % k = 0 then ((busyR c k i).hear (lk 5)).tick else (busyR c k i).tick
/-- It answers at last. -/
def busyZ (c : Bool) (k n : Nat) : St := if n = 0 then ((busyR c k 0).hear (unB 0)).tick else ((busyR c k n).hear (unB 0)).tick
def busyB (c : Bool) (k n : Nat) : Bool :=
  let z := ((busyR c k n).hear (unB 0)).tick
  decide ((busyR c k n).S = 4) && decide (z.S = 4) && decide (z.told = if n = 0 then [] else [⟨6, 0, []⟩, ⟨7, 0, []⟩]) && decide (z.tick = z)
def busyE (c : Bool) (k : Nat) : Bool := decide ((busyR c k 30).S = 0) && decide ((busyR c k 30).told = [⟨6, 0, []⟩, ⟨2, 3, []⟩])
theorem busy_all : ((List.range 21).all fun k => k == 0 || (List.range 30).all fun n => busyB false k n && busyB true k n) = true := by kernel_rfl
theorem busy_end : ((List.range 21).all fun k => k == 0 || busyE false k && busyE true k) = true := by kernel_rfl
theorem busy_at (c : Bool) {k n : Nat} (h0 : 0 < k) (h1 : k ≤ 20) (hn : n < 30) : (busyR c k n).S = 4 ∧ (((busyR c k n).hear (unB 0)).tick).S = 4 ∧ (((busyR c k n).hear (unB 0)).tick).told = (if n = 0 then [] else [⟨6, 0, []⟩, ⟨7, 0, []⟩]) ∧ (((busyR c k n).hear (unB 0)).tick).tick = ((busyR c k n).hear (unB 0)).tick := by
  have h := List.all_eq_true.1 busy_all k (List.mem_range.2 (by omega))
  simp only [Bool.or_eq_true, beq_iff_eq, show k ≠ 0 by omega, false_or] at h
  have h := List.all_eq_true.1 h n (List.mem_range.2 hn)
  simp only [Bool.and_eq_true] at h
  have hc : busyB c k n = true := by
    cases c
    · exact h.1
    · exact h.2
  unfold busyB at hc
  simp only [Bool.and_eq_true, decide_eq_true_eq] at hc
  exact ⟨hc.1.1.1, hc.1.1.2, hc.1.2, hc.2⟩
theorem busy_last (c : Bool) {k : Nat} (h0 : 0 < k) (h1 : k ≤ 20) : (busyR c k 30).S = 0 ∧ (busyR c k 30).told = [⟨6, 0, []⟩, ⟨2, 3, []⟩] := by
  have h := List.all_eq_true.1 busy_end k (List.mem_range.2 (by omega))
  simp only [Bool.or_eq_true, beq_iff_eq, show k ≠ 0 by omega, false_or, Bool.and_eq_true] at h
  have hc : busyE c k = true := by
    cases c
    · exact h.1
    · exact h.2
  unfold busyE at hc
  simp only [Bool.and_eq_true, decide_eq_true_eq] at hc
  exact hc
end Go.Proofs.YtdffinnnjcgfcaaGreatK
