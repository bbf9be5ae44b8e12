/- StateWaits: the facts on plain data. -/
import Derived.Test.YtdffinnnjcgfcaaGreatM7
namespace Go.Proofs.YtdffinnnjcgfcaaGreatK
open Go Go.RowKit
set_option maxHeartbeats 1000000
set_option maxRecDepth 100000
/-- So many messages are handed in, and sent. -/
def sendK (c : Bool) : Nat → St
  | 0 => served c
  | i + 1 => ((sendK c i).order 5 [i, 2, 3]).1.next.1
def waitsA (c : Bool) (k : Nat) : Bool := decide (((sendK c k).ticks 25).S = 0) && decide (((sendK c k).ticks 25).told = [⟨2, 2, []⟩])
def waitsB (c : Bool) (k t : Nat) : Bool :=
  let z := (((sendK c k).ticks t).hear (unB (k - 1))).ticks 60
  decide (z.S = 4) && decide (z.h.sent.length = 0) && !decide (0 < z.c.get 7)
theorem send_all : ((List.range 6).all fun i => decide (((sendK false i).order 5 [i, 2, 3]).2 = 0) && decide (((sendK true i).order 5 [i, 2, 3]).2 = 0)) = true := by kernel_rfl
theorem waitsA_all : ((List.range 6).all fun k => k == 0 || waitsA false k && waitsA true k) = true := by kernel_rfl
theorem waitsB_all : ((List.range 6).all fun k => k == 0 || (List.range 25).all fun t => waitsB false k t && waitsB true k t) = true := by kernel_rfl
theorem send_at (c : Bool) {i : Nat} (h : i < 6) : ((sendK c i).order 5 [i, 2, 3]).2 = 0 := by
  have h := List.all_eq_true.1 send_all i (List.mem_range.2 h)
  simp only [Bool.and_eq_true, decide_eq_true_eq] at h
  cases c
  · exact h.1
  · exact h.2
theorem waitsA_at (c : Bool) {k : Nat} (h : k < 6) (h0 : k ≠ 0) : waitsA c k = true := by
  have h := List.all_eq_true.1 waitsA_all k (List.mem_range.2 h)
  simp only [Bool.or_eq_true, beq_iff_eq, h0, false_or, Bool.and_eq_true] at h
  cases c
  · exact h.1
  · exact h.2
theorem waitsB_at (c : Bool) {k t : Nat} (h : k < 6) (h0 : k ≠ 0) (ht : t < 25) : waitsB c k t = true := by
  have h := List.all_eq_true.1 waitsB_all k (List.mem_range.2 h)
  simp only [Bool.or_eq_true, beq_iff_eq, h0, false_or] at h
  have h := List.all_eq_true.1 h t (List.mem_range.2 ht)
  simp only [Bool.and_eq_true] at h
  cases c
  · exact h.1
  · exact h.2
end Go.Proofs.YtdffinnnjcgfcaaGreatK
