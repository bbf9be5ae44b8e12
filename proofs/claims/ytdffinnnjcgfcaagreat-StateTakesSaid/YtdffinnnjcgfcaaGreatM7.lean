/- A link as plain data: runs; the link of the laws of layer 17. -/
import Derived.Test.YtdffinnnjcgfcaaGreatM6
import Derived.WalkKit
namespace Go.Proofs.YtdffinnnjcgfcaaGreatK
open Go Go.RowKit
def St.ticks (x : St) : Nat → St
  | 0 => x
  | n + 1 => (x.ticks n).tick
theorem St.ok_ticks {x : St} (h : x.ok) (n : Nat) : (x.ticks n).ok := by
  induction n with
  | zero => exact h
  | succ n ih => exact St.ok_tick ih
theorem St.few_ticks {x : St} {m : Int} (h : x.few m) (n : Nat) : (x.ticks n).few (m + 8 * n) := by
  induction n with
  | zero => exact h.le (by simp)
  | succ n ih => exact (St.few_tick ih).le (by omega)
theorem St.ticks_add (x : St) (m n : Nat) : x.ticks (m + n) = (x.ticks m).ticks n := by
  induction n with
  | zero => rfl
  | succ n ih => rw [← Nat.add_assoc]; show (x.ticks (m + n)).tick = _; rw [ih]; rfl
def St.hears (x : St) (u : Un) : Nat → St
  | 0 => x
  | n + 1 => (x.hears u n).hear u
abbrev unB (b : Int) : Un := ⟨b, 127, true, true, 0, 0, false, []⟩
def quickS (cyc : Bool) : Su := ⟨cyc, 8, 300, 16, 600, 5, 40, 60, 50, 10, 6, 30, 25⟩
abbrev lk (i : Int) : Un := ⟨127, 127, true, true, 1, i, false, []⟩
abbrev fl : Un := ⟨127, 127, true, true, 0, 0, false, []⟩
def born (cyc : Bool) : St := St.new (quickS cyc)
def serv (cyc : Bool) : St := (((((born cyc).order 1 []).1.hear (lk 0)).hear (lk 1)).ticks 10).hear fl
/-- A link that serves. -/
def served (cyc : Bool) : St := { serv cyc with told := [] }
theorem serv_told (cyc : Bool) : (serv cyc).told = [⟨1, 0, []⟩] := by cases cyc <;> kernel_rfl
theorem serv_S (cyc : Bool) : (serv cyc).S = 4 := by cases cyc <;> kernel_rfl
theorem served_S (cyc : Bool) : (served cyc).S = 4 := by cases cyc <;> kernel_rfl
theorem served_eq (cyc : Bool) : served cyc = ⟨quickS cyc, 4, Ck.none, ⟨0, false, false, ⟨false, 0, 0⟩⟩, ⟨false, false, false⟩, Ho.none 16 600, Wy.of (quickS cyc), ⟨false, false, false⟩, ⟨0, 0⟩, [], 0⟩ := by cases cyc <;> kernel_rfl
theorem born_ok (cyc : Bool) : (born cyc).ok := St.ok_new (by cases cyc <;> decide) (by cases cyc <;> decide) (by cases cyc <;> decide) (by cases cyc <;> decide)
theorem born_few (cyc : Bool) : (born cyc).few 0 := by cases cyc <;> exact ⟨by decide, by decide, by decide⟩
theorem served_ok (cyc : Bool) : (served cyc).ok := by
  have h : (serv cyc).ok := St.ok_hear (St.ok_ticks (St.ok_hear (St.ok_hear (St.ok_order (born_ok cyc) _ _) _) _) _) _
  unfold served
  generalize serv cyc = y at h ⊢
  exact ⟨h.h, h.w, h.a, h.leak, h.c, h.S⟩
theorem served_few (cyc : Bool) : (served cyc).few 0 := by rw [served_eq]; exact ⟨by simp, by simp, by simp⟩
theorem Un.ok_lk {i : Int} (h0 : 0 ≤ i) (h1 : i ≤ 255) : (lk i).ok := ⟨by simp, by simp, by simp, ⟨h0, h1⟩, by simp⟩
theorem Un.ok_fl : fl.ok := ⟨by decide, by decide, by decide, by decide, by decide⟩
end Go.Proofs.YtdffinnnjcgfcaaGreatK
