/- The closed facts of a row over this translation: its head's words are read once. -/
import Derived.Test.YtdffinnnjcgfcaaGreatRows
import Derived.JoinedOf
import Derived.KernelRfl
namespace Go.Proofs.YtdffinnnjcgfcaaGreatK
open Go
set_option maxRecDepth 100000
theorem mayEnter_cut {P : Program} {rest : List (List Char)} (h : behindMainWord (wordsSigns P.initOrder.toList) = "cut".toList :: rest) (k1 : P.laysLater = false) (k2 : P.bearsReflect = false) (k3 : P.doorFits [] = true) : P.mayEnter = true := by
  have e : stripLifts liftWords ("cut".toList :: rest) = ([], "cut".toList :: rest) := by kernel_rfl
  unfold Program.mayEnter
  rw [h]
  simp only [e, k1, k2, k3]
  simp
theorem lifts_cut {P : Program} {rest : List (List Char)} (h : behindMainWord (wordsSigns P.initOrder.toList) = "cut".toList :: rest) : P.liftsFinal = false := by
  unfold Program.liftsFinal Program.headLifts
  rw [h]
  kernel_rfl
theorem make_cut {P : Program} {rest : List (List Char)} (h : behindMainWord (wordsSigns P.initOrder.toList) = "cut".toList :: rest) : P.make = some .cut := by
  unfold Program.make
  rw [h]
  kernel_rfl
def codes : List Nat := [104, 97, 114, 110, 101, 115, 115, 32, 51, 50, 50, 54, 52, 48, 54, 56, 57, 56, 98, 55, 101, 102, 100, 97, 97, 48, 55, 102, 101, 102, 102, 99, 49, 49, 102, 55, 102, 57, 98, 51, 101, 54, 50, 51, 57, 97, 102, 101, 51, 101, 52, 99, 49, 50, 56, 56, 48, 102, 99, 50, 97, 50, 48, 51, 52, 57, 97, 97, 100, 56, 97, 52, 32, 99, 117, 116, 32, 97, 116, 32, 115, 105, 103, 110, 97, 108, 109, 97, 110, 47, 115, 105, 103, 110, 97, 108, 109, 97, 110, 108, 97, 119, 49, 55, 46, 83, 116, 97, 116, 101, 87, 97, 105, 116, 115, 32, 115, 105, 103, 110, 97, 108, 109, 97, 110, 47, 115, 105, 103, 110, 97, 108, 109, 97, 110, 108, 97, 119, 49, 55, 46, 83, 116, 97, 116, 101, 66, 117, 115, 121, 32, 115, 105, 103, 110, 97, 108, 109, 97, 110, 47, 115, 105, 103, 110, 97, 108, 109, 97, 110, 108, 97, 119, 49, 55, 46, 83, 116, 97, 116, 101, 79, 117, 116, 97, 103, 101, 32, 115, 105, 103, 110, 97, 108, 109, 97, 110, 47, 115, 105, 103, 110, 97, 108, 109, 97, 110, 108, 97, 119, 49, 55, 46, 83, 116, 97, 116, 101, 65, 108, 105, 103, 110, 115, 32, 115, 105, 103, 110, 97, 108, 109, 97, 110, 47, 115, 105, 103, 110, 97, 108, 109, 97, 110, 108, 97, 119, 49, 55, 46, 83, 116, 97, 116, 101, 70, 97, 105, 108, 115, 32, 115, 105, 103, 110, 97, 108, 109, 97, 110, 47, 115, 105, 103, 110, 97, 108, 109, 97, 110, 108, 97, 119, 49, 55, 46, 83, 116, 97, 116, 101, 85, 110, 102, 105, 116, 32, 115, 105, 103, 110, 97, 108, 109, 97, 110, 47, 115, 105, 103, 110, 97, 108, 109, 97, 110, 108, 97, 119, 49, 55, 46, 83, 116, 97, 116, 101, 84, 97, 107, 101, 115, 32, 115, 105, 103, 110, 97, 108, 109, 97, 110, 47, 115, 105, 103, 110, 97, 108, 109, 97, 110, 108, 97, 119, 49, 55, 46, 83, 116, 97, 116, 101, 69, 114, 114, 111, 114, 115, 32, 115, 105, 103, 110, 97, 108, 109, 97, 110, 47, 115, 105, 103, 110, 97, 108, 109, 97, 110, 108, 97, 119, 49, 55, 46, 83, 116, 97, 116, 101, 83, 101, 110, 100, 115, 32, 115, 105, 103, 110, 97, 108, 109, 97, 110, 47, 115, 105, 103, 110, 97, 108, 109, 97, 110, 108, 97, 119, 49, 55, 46, 83, 116, 97, 116, 101, 79, 114, 100, 101, 114, 115, 32, 115, 105, 103, 110, 97, 108, 109, 97, 110, 47, 115, 105, 103, 110, 97, 108, 109, 97, 110, 108, 97, 119, 49, 55, 46, 83, 116, 97, 116, 101, 83, 116, 101, 112, 115, 32, 115, 105, 103, 110, 97, 108, 109, 97, 110, 47, 115, 105, 103, 110, 97, 108, 109, 97, 110, 108, 97, 119, 49, 55, 46, 83, 116, 97, 116, 101, 78, 105, 108, 32, 115, 105, 103, 110, 97, 108, 109, 97, 110, 47, 115, 105, 103, 110, 97, 108, 109, 97, 110, 108, 97, 119, 49, 56, 46, 70, 101, 116, 99, 104, 78, 105, 108, 32, 115, 105, 103, 110, 97, 108, 109, 97, 110, 47, 115, 105, 103, 110, 97, 108, 109, 97, 110, 108, 97, 119, 49, 56, 46, 70, 101, 116, 99, 104, 84, 101, 108, 108, 115, 32, 115, 105, 103, 110, 97, 108, 109, 97, 110, 47, 115, 105, 103, 110, 97, 108, 109, 97, 110, 108, 97, 119, 49, 56, 46, 70, 101, 116, 99, 104, 65, 103, 97, 105, 110, 32, 115, 105, 103, 110, 97, 108, 109, 97, 110, 47, 115, 105, 103, 110, 97, 108, 109, 97, 110, 108, 97, 119, 49, 56, 46, 70, 101, 116, 99, 104, 66, 111, 116, 104, 32, 115, 105, 103, 110, 97, 108, 109, 97, 110, 47, 115, 105, 103, 110, 97, 108, 109, 97, 110, 108, 97, 119, 49, 57, 46, 80, 111, 115, 116, 65, 108, 119, 97, 121, 115, 32, 115, 105, 103, 110, 97, 108, 109, 97, 110, 47, 115, 105, 103, 110, 97, 108, 109, 97, 110, 108, 97, 119, 49, 57, 46, 80, 111, 115, 116, 83, 101, 110, 100, 115, 32, 115, 105, 103, 110, 97, 108, 109, 97, 110, 47, 115, 105, 103, 110, 97, 108, 109, 97, 110, 108, 97, 119, 49, 57, 46, 80, 111, 115, 116, 72, 101, 97, 114, 115, 32, 115, 105, 103, 110, 97, 108, 109, 97, 110, 47, 115, 105, 103, 110, 97, 108, 109, 97, 110, 108, 97, 119, 49, 57, 46, 80, 111, 115, 116, 77, 101, 115, 115, 97, 103, 101, 115, 32, 115, 105, 103, 110, 97, 108, 109, 97, 110, 47, 115, 105, 103, 110, 97, 108, 109, 97, 110, 108, 97, 119, 49, 57, 46, 80, 111, 115, 116, 66, 101, 103, 105, 110, 115]
theorem head_signs : Tryz.prog.initOrder = String.ofList (codes.map Char.ofNat) := by kernel_rfl
theorem head_first : (behindMainWord (wordsSigns (codes.map Char.ofNat))).head? = some "cut".toList := by kernel_rfl
theorem head_cut : ∃ rest, behindMainWord (wordsSigns Tryz.prog.initOrder.toList) = "cut".toList :: rest := by
  have h1 : Tryz.prog.initOrder.toList = codes.map Char.ofNat := by rw [head_signs, String.toList_ofList]
  have h2 := head_first
  rw [← h1] at h2
  cases h3 : behindMainWord (wordsSigns Tryz.prog.initOrder.toList) with
  | nil => rw [h3] at h2; cases h2
  | cons a r =>
    rw [h3] at h2
    simp only [List.head?_cons, Option.some.injEq] at h2
    subst h2
    exact ⟨r, rfl⟩
theorem may_enter : Tryz.prog.mayEnter = true := by
  obtain ⟨r, h⟩ := head_cut
  exact mayEnter_cut h (by as_aux_lemma => kernel_rfl) (by as_aux_lemma => kernel_rfl) (by as_aux_lemma => kernel_rfl)
theorem lifts_final : Tryz.prog.liftsFinal = false := by
  obtain ⟨r, h⟩ := head_cut
  exact lifts_cut h
theorem the_make : Tryz.prog.make = some .cut := by
  obtain ⟨r, h⟩ := head_cut
  exact make_cut h
end Go.Proofs.YtdffinnnjcgfcaaGreatK
