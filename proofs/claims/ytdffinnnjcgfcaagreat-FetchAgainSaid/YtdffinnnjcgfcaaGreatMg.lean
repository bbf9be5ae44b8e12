/- What a link that served gives back when it is out, on plain data (layer 18's laws). -/
import Derived.Test.YtdffinnnjcgfcaaGreatMf
namespace Go.Proofs.YtdffinnnjcgfcaaGreatK
open Go Go.RowKit
set_option linter.unusedVariables false
set_option maxHeartbeats 1000000
set_option maxRecDepth 100000
section
variable {x : St} {l : List Oct} {f t : Int}
theorem Sv.len (h : Sv x l f t) : x.h.sent.length ≤ l.length := by rw [← h.all, List.length_append]; omega
/-- A unit without a message that answers so many. -/
theorem Sv.ans (h : Sv x l 0 t) (a : Nat) (ha : a < x.h.sent.length) (hs : x.h.sent.length ≤ 100) (info : Oct) :
    Sv (x.hear ⟨a, t, true, true, 0, 1, false, info⟩) (l.drop (a + 1)) (a + 1 : Nat) t := by
  have h0 := h.first
  have hn : x.h.knows (⟨a, t, true, true, 0, 1, false, info⟩ : Un).bsn = true := by
    show x.h.knows a = true
    unfold Ho.knows Ho.prev Ho.last
    rw [h0]
    simp only [Bool.and_eq_true, decide_eq_true_eq]
    omega
  have hg : (x.h.gap (⟨a, t, true, true, 0, 1, false, info⟩ : Un).bsn).toNat = a + 1 := by
    show (x.h.gap a).toNat = a + 1
    unfold Ho.gap Ho.prev
    rw [h0]
    omega
  have H := h.hear (u := ⟨a, t, true, true, 0, 1, false, info⟩) (show (0 : Int) ≠ 1 by decide) rfl rfl hn (by rw [hg]; omega) (.inr ⟨show (0 : Int) ≠ 2 by decide, rfl⟩)
  rw [hg, if_neg (show ¬ (0 : Int) = 2 by decide)] at H
  have e : (((⟨a, t, true, true, 0, 1, false, info⟩ : Un).bsn + 1) % 128 : Int) = (a + 1 : Nat) := by
    show ((a : Int) + 1) % 128 = _
    omega
  rw [e] at H
  exact H.1
theorem St.fail_all (x : St) (why : Int) : (x.fail why).S = 0 ∧ (x.fail why).h = x.h ∧ (x.fail why).w = x.w := by
  unfold St.fail
  split
  · rename_i h
    exact ⟨h, rfl, rfl⟩
  · exact ⟨rfl, rfl, rfl⟩
theorem Sv.stop (h : Sv x l f t) : (x.order 2 []).2 = 0 ∧ (x.order 2 []).1.S = 0 ∧ (x.order 2 []).1.h = x.h ∧ (x.order 2 []).1.w.last = t := by
  have e : x.order 2 [] = (x.fail 10, 0) := by
    unfold St.order
    rw [if_neg (by decide), if_pos rfl, if_neg (by rw [h.S]; decide)]
  rw [e]
  have k := St.fail_all x 10
  exact ⟨rfl, k.1, k.2.1, by show (x.fail 10).w.last = t; rw [k.2.2, h.last]⟩
/-- What is behind a number. -/
theorem Sv.rest (h : Sv x l f t) (hf : 0 ≤ f ∧ f ≤ 127) (hl : l.length ≤ 100) (k : Nat) (hk : k ≤ x.h.sent.length) : x.h.rest ((f + 127 + k) % 128) = (l.drop k, 0) := by
  have h0 := h.first
  have hL := h.len
  have hn : x.h.knows ((f + 127 + k) % 128) = true := by
    unfold Ho.knows Ho.prev Ho.last
    rw [h0]
    simp only [Bool.and_eq_true, decide_eq_true_eq]
    omega
  have hg : (x.h.gap ((f + 127 + k) % 128)).toNat = k := by
    unfold Ho.gap Ho.prev
    rw [h0]
    omega
  unfold Ho.rest
  rw [if_pos hn, hg, ← h.all, List.drop_append_of_le_length hk]
theorem Sv.rest_bad (h : Sv x l f t) (hf : 0 ≤ f ∧ f ≤ 127) (hl : l.length ≤ 100) : x.h.rest ((f + 127 + x.h.sent.length + 1) % 128) = ([], 10) := by
  have h0 := h.first
  have hL := h.len
  have hn : ¬ x.h.knows ((f + 127 + x.h.sent.length + 1) % 128) = true := by
    unfold Ho.knows Ho.prev Ho.last
    rw [h0]
    simp only [Bool.and_eq_true, decide_eq_true_eq]
    omega
  unfold Ho.rest
  rw [if_neg hn]
/-- Behind a new start nothing is left. -/
theorem St.anew (x : St) (h0 : x.S = 0) : (x.order 1 []).2 = 0 ∧ (x.order 1 []).1.S = 1 ∧ ((x.order 1 []).1.order 2 []).2 = 0 ∧ ((x.order 1 []).1.order 2 []).1.S = 0 ∧ ((x.order 1 []).1.order 2 []).1.h.rest 127 = ([], 0) := by
  have e : x.order 1 [] = (x.begin, 0) := by
    unfold St.order
    rw [if_pos rfl, if_pos h0]
  rw [e]
  have e2 : x.begin.order 2 [] = (x.begin.fail 10, 0) := by
    unfold St.order
    rw [if_neg (by decide), if_pos rfl, if_neg (by show ¬ (1 : Int) = 0; decide)]
  show _ ∧ _ ∧ (x.begin.order 2 []).2 = 0 ∧ _
  have k := St.fail_all x.begin 10
  refine ⟨rfl, rfl, by rw [e2], ?_, ?_⟩
  · show (x.begin.order 2 []).1.S = 0
    rw [e2]; exact k.1
  · show (x.begin.order 2 []).1.h.rest 127 = _
    rw [e2, show (x.begin.fail 10, (0 : Int)).1.h = x.begin.h from k.2.1]
    have : x.begin.h = x.h.clear := rfl
    rw [this]
    unfold Ho.rest
    rw [if_pos (show (Ho.clear x.h).knows 127 = true from rfl)]
    rfl
/-- Either the number may be an answer or nothing comes: what comes is short. -/
theorem Ho.rest_len (h : Ho) (n : Int) : (h.rest n).1.length ≤ h.sent.length + h.next.length := by
  unfold Ho.rest
  split
  · simp only [List.length_append, List.length_drop]; omega
  · simp
end
end Go.Proofs.YtdffinnnjcgfcaaGreatK
