/- A law's own list of messages, of which the first ones are cut off. -/
import Derived.Test.YtdffinnnjcgfcaaGreatFe1
namespace Go.Proofs.YtdffinnnjcgfcaaGreatK
open Go Go.RowKit
set_option maxHeartbeats 1000000
set_option maxRecDepth 100000
/-- What is behind the first ones of a list. -/
theorem MsgV.cut {w : World} {a : Option Addr} {n cap : Nat} {xs : List Oct} (h : MsgV w (.slice a n cap) xs) (k : Nat) (hk : k ≤ xs.length) : MsgV w (.slice (if cap = k then a else a.map (fun x => x.add k)) (n - k) (cap - k)) (xs.drop k) := by
  obtain ⟨vs, R, M⟩ := h.reads
  refine ⟨vs.drop k, ⟨by have := R.1; simp at this ⊢; omega, ?_⟩, fun j x hx => ?_⟩
  · rcases R.2 with ⟨e, h0⟩ | ⟨b, off, cap', cs, e, h1, h2, h3, h4, h5⟩
    · simp only [Value.slice.injEq] at e
      obtain ⟨rfl, rfl, rfl⟩ := e
      refine .inl ⟨by simp, by rw [List.length_drop]; omega⟩
    · simp only [Value.slice.injEq] at e
      obtain ⟨rfl, rfl, rfl⟩ := e
      by_cases hc : cap = k
      · have : xs.drop k = [] := List.drop_eq_nil_of_le (by omega)
        rw [if_pos hc, this]
        refine .inr ⟨b, off, cap - k, cs, by simp; omega, by simp, by omega, h3, by omega, fun j u hu => ?_⟩
        rw [List.drop_eq_nil_of_le (by have := R.1; omega)] at hu
        simp at hu
      · rw [if_neg hc]
        refine .inr ⟨b, off + k, cap - k, cs, by simp [Addr.add, List.length_drop], by rw [List.length_drop]; omega, by omega, h3, by omega, fun j u hu => ?_⟩
        rw [List.getElem?_drop] at hu
        rw [show off + k + j = off + (k + j) by omega]
        exact h5 _ u hu
  · rw [List.getElem?_drop] at hx ⊢
    exact M.2 _ x hx
theorem own_cut {a : Option Addr} {n cap k : Nat} : ∀ g ∈ own (.slice (if cap = k then a else a.map (fun x => x.add k)) (n - k) (cap - k)), g ∈ own (.slice a n cap) := by
  intro g hg
  by_cases hc : cap = k
  · rw [if_pos hc] at hg
    cases a with
    | none => simp [own, Value.ownBlock] at hg
    | some a => simpa [own, Value.ownBlock] using hg
  · rw [if_neg hc] at hg
    cases a with
    | none => simp [own, Value.ownBlock] at hg
    | some a =>
      simp only [own, Value.ownBlock, Option.map_some, Option.toList_some, List.mem_singleton] at hg ⊢
      rw [hg]
      unfold Addr.add
      split <;> rfl
theorem Lm.cut {w0 w : World} {b : Nat} {x : St} {n : Int} {a : Option Addr} {m cap : Nat} {l : List Oct} (h : Lm w0 w b x n (.slice a m cap) l) (k : Nat) (hk : k ≤ l.length) : Lm w0 w b x n (.slice (if cap = k then a else a.map (fun x => x.add k)) (m - k) (cap - k)) (l.drop k) := by
  obtain ⟨L, S, B, F, M, D, G⟩ := h.m
  exact ⟨h.k, h.f, L, S, B, F, M.cut k hk, fun g hg => D g (own_cut g hg), fun g hg => G g (own_cut g hg)⟩
end Go.Proofs.YtdffinnnjcgfcaaGreatK
