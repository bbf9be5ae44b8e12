/- A row's argument that is a list of octets. -/
import Derived.Test.YtdffinnnjcgfcaaGreatRob
import Derived.Test.YtdffinnnjcgfcaaGreatPh2
namespace Go.Proofs.YtdffinnnjcgfcaaGreatK
open Go Go.RowKit Go.WideShapes Go.ChangeShapes
set_option maxRecDepth 100000
section
variable {H : Type} {enc : TypeId × Value → H} {W : World}
theorem msgs_of {v : Value} {d : DataW H} {p : List MemPlace} (hv : Value.okWide Tryz.prog W .any 0 81 v) (h : DataW.Trod enc Tryz.prog W 0 (fun _ => true) true 81 v d p) : ∃ n X Y, MsgI W v n X Y := by
  obtain ⟨a0, len, cap, rfl⟩ := okWide_slice Tryz.underlying81 hv
  obtain ⟨fuel, hf⟩ := h
  rcases Go.Deep.open_slice Tryz.underlying81 hf with ⟨hcs, hx⟩ | ⟨a, n, cap', m, k, D, Pl, hcs, _, hl, hm, hmm, hx, hi⟩
  · simp only [Value.cells, List.cons.injEq, Value.slice.injEq, and_true] at hcs
    obtain ⟨rfl, rfl, rfl⟩ := hcs
    exact ⟨0, fun _ => nil0, fun _ => [], none, 0, rfl, by simp, .inl rfl⟩
  · simp only [Value.cells, List.cons.injEq, Value.slice.injEq, and_true] at hcs
    obtain ⟨rfl, rfl, rfl⟩ := hcs
    simp only [if_true] at hmm
    subst hmm
    have hc : Tryz.prog.cellsOf 27 = 1 := by kernel_rfl
    rw [hc] at hi
    have hB : ∀ i, i < len → ∃ q : Value × Oct, (BytI W [] q.1 q.2 ∧ q.2.length ≤ maxLen) ∧ W.cells? 0 (a.add (i * 1)) 1 = some [q.1] := fun i h9 => by
      obtain ⟨cs', h1, h2⟩ := hi i (by omega)
      obtain ⟨u, xs, e, b0, b1⟩ := bytI_trod h2
      exact ⟨(u, xs), ⟨b0, b1⟩, by rw [h1, e]⟩
    haveI : Inhabited (Value × Oct) := ⟨(nil0, [])⟩
    obtain ⟨Q, hQ⟩ := Go.Deep.choose_lt hB
    refine ⟨len, fun i => (Q i).1, fun i => (Q i).2, some a, _, rfl, hl, ?_⟩
    by_cases h0 : len = 0
    · exact .inl h0
    · right
      obtain ⟨b, off, spot⟩ := a
      have hc0 := (World.cells?_some (hQ 0 (by omega)).2).2.2 0 (by omega)
      have hspot : spot = none := by
        have := World.cell?_spot hc0
        simpa [Addr.add] using this
      subst hspot
      refine ⟨b, off, rfl, fun i h9 => ⟨(hQ i h9).1.1, (hQ i h9).1.2, ?_⟩⟩
      have h1 := (World.cells?_some (hQ i h9).2).2.2 0 (by omega)
      rw [Go.Deep.add_add, Go.WideShapes.add_plain] at h1
      rw [show off + i = off + (i * 1 + 0) by omega, h1]
      rfl
end
end Go.Proofs.YtdffinnnjcgfcaaGreatK
