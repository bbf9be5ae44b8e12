/- A row's arguments of whatever type, that are only read: down to what a walk wants; up by the reading that was. -/
import Derived.Test.YtdffinnnjcgfcaaGreatRow
import Derived.Carry
import Derived.Deep.Slices
import Derived.WideKeyArgs
namespace Go.Proofs.YtdffinnnjcgfcaaGreatK
open Go Go.RowKit Go.WideShapes Go.ChangeShapes
section
variable {H : Type} {enc : TypeId × Value → H} {P : Program}
/-- All arguments read behind the call as they did before. -/
theorem trodAll_stays (hl : laidOutB P = true) {W W' : World} {sp : Nat → Bool} : ∀ {ts : List TypeId} {vs : List Value} {ds : List (DataW H)} {ps : List MemPlace}, (ts.all fun t => P.readableRec t && decide (t < P.types.size)) = true →
    DataW.TrodAll enc P W 0 (fun _ => true) true ts vs ds ps → (∀ p ∈ ps, W.sameAt W' p) → (∀ p ∈ ps, sp p.block = true) → DataW.TrodAll enc P W' 0 sp true ts vs ds ps
  | [], vs, ds, ps, _, h, _, _ => by
    obtain ⟨rfl, rfl, rfl⟩ := trodAll_nil h
    exact trodAll_mk0
  | t :: ts, vs, ds, ps, hr, h, hs, hp => by
    obtain ⟨v, vs', d, ds', p, q, rfl, rfl, rfl, h1, h2⟩ := trodAll_cons h
    simp only [List.all_cons, Bool.and_eq_true, decide_eq_true_eq] at hr
    exact ⟨p, q, WideElems.Trod_stays hl hr.1.1 hr.1.2 h1 (fun x hx => hs x (by simp [hx])) (fun x hx => hp x (by simp [hx])),
      trodAll_stays hl hr.2 h2 (fun x hx => hs x (by simp [hx])) (fun x hx => hp x (by simp [hx])), rfl⟩
theorem post_any {f : Func} {s : ChangeSpec} {apart fresh handsOn again : Bool} {W W' : World} {args : Array Value} {v : Value} {ds gs : List (DataW H)} {met : List MemPlace}
    (hl : laidOutB P = true) (hr : (f.params.toList.all fun t => P.readableRec t && decide (t < P.types.size)) = true) (hno : s.vars = [])
    (hW : DataW.Whole enc P f.params.toList s.vars apart W args.toList ds gs met) (hb : Below W.heap.size W W')
    (hfn : (s.fn H (ds ++ gs)).args = ds) (hfv : (s.fn H (ds ++ gs)).vars = [])
    (hres : ∀ (b : Nat) (sp : Nat → Bool) (hd : Bool), DataW.TrodAll enc P W' b sp hd f.resultTypes.toList (v.resultList f.resultTypes.size) (s.fn H (ds ++ gs)).results [])
    (hok : ∀ (j : Nat) (t : TypeId) (r : Value), f.resultTypes[j]? = some t → (v.resultList f.resultTypes.size)[j]? = some r → Value.okWide P W' .any 0 t r) :
    s.post enc P f apart fresh handsOn again W args v W' := by
  have small : ∀ p ∈ met, p.block < W.heap.size := fun p hp => hW.lt p hp
  have hW' := hW
  obtain ⟨p, q, hA, hV, e, hfz, hnd⟩ := hW'
  rw [hno] at hV
  obtain ⟨rfl, rfl⟩ := trodVars_none hV
  rw [List.append_nil] at e
  subst e
  refine post_kept (pa := met) (pv := []) hW hb hres (fun sp hsp => ?_) (fun sp _ => ?_) (by simp) hok
  · rw [hfn]
    exact trodAll_stays hl hr hA (fun x hx => hb.same (small x hx)) hsp
  · rw [hno, hfv]
    trivial
/-- A slice, as a walk reads it: V i is the i-th element. -/
def SlV (w : World) (v : Value) (n : Nat) (V : Nat → Value) : Prop :=
  (∃ a cap, v = .slice a n cap ∧ n ≤ cap ∧ cap ≤ maxLen) ∧ ∀ i, i < n → ∃ b off cap, v = .slice (some ⟨b, off, none⟩) n cap ∧ w.cell? ⟨b, off + i, none⟩ = some (V i)
theorem SlV.below {w w' : World} {v : Value} {n : Nat} {V : Nat → Value} (h : SlV w v n V) (hb : Below w.heap.size w w') : SlV w' v n V := by
  refine ⟨h.1, fun i hi => ?_⟩
  obtain ⟨b, off, cap, e, hc⟩ := h.2 i hi
  exact ⟨b, off, cap, e, by rw [hb.cell (World.block_lt_of_cell? w _ hc)]; exact hc⟩
theorem slV_of {W : World} {t e : TypeId} {v : Value} {d : DataW H} {p : List MemPlace} (ht : P.underlying t = some (.slice e)) (hc : P.cellsOf e = 1)
    (hv : Value.okWide P W .any 0 t v) (h : DataW.Trod enc P W 0 (fun _ => true) true t v d p) :
    ∃ n V, SlV W v n V ∧ ∀ i, i < n → ∃ m z, DataW.trod enc P W 0 (fun _ => true) true m e [V i] = some z := by
  obtain ⟨a0, len, cap, rfl⟩ := okWide_slice ht hv
  obtain ⟨fuel, hf⟩ := h
  rcases Go.Deep.open_slice1 ht hc hf with ⟨hcs, hx⟩ | ⟨a, n, cap', m, k, V, D, Pl, hcs, _, hl, hm, hmm, hx, hi⟩
  · simp only [Value.cells, List.cons.injEq, Value.slice.injEq, and_true] at hcs
    obtain ⟨rfl, rfl, rfl⟩ := hcs
    exact ⟨0, fun _ => default, ⟨⟨none, 0, rfl, by simp, by simp⟩, fun i hi => by omega⟩, fun i hi => by omega⟩
  · simp only [Value.cells, List.cons.injEq, Value.slice.injEq, and_true] at hcs
    obtain ⟨rfl, rfl, rfl⟩ := hcs
    simp only [if_true] at hmm
    subst hmm
    refine ⟨len, V, ⟨⟨_, _, rfl, hl, hm⟩, fun i h9 => ?_⟩, fun i h9 => ⟨_, _, (hi i (by omega)).2⟩⟩
    have hcell := (hi i (by omega)).1
    obtain ⟨b, off, spot⟩ := a
    have hspot : spot = none := by simpa [Addr.add] using World.cell?_spot (hi 0 (by omega)).1
    subst hspot
    exact ⟨b, off, _, rfl, by rw [← Go.WideShapes.add_plain]; exact hcell⟩
/-- A slice of bools. -/
theorem bools_of {W : World} {t e : TypeId} {v : Value} {d : DataW H} {p : List MemPlace} (ht : P.underlying t = some (.slice e)) (he : P.underlying e = some .bool) (hc : P.cellsOf e = 1)
    (hv : Value.okWide P W .any 0 t v) (h : DataW.Trod enc P W 0 (fun _ => true) true t v d p) : ∃ n, ∃ B : Nat → Bool, SlV W v n (fun i => .bool (B i)) := by
  obtain ⟨n, V, hs, hz⟩ := slV_of ht hc hv h
  have hB : ∀ i, i < n → ∃ b, V i = .bool b := fun i hi => by
    obtain ⟨m, z, h1⟩ := hz i hi
    obtain ⟨b, h2, _⟩ := DataW.trod_bool he h1
    exact ⟨b, by simpa using h2⟩
  obtain ⟨B, hB⟩ := Go.Deep.choose_lt hB
  refine ⟨n, B, hs.1, fun i hi => ?_⟩
  obtain ⟨b, off, cap, e, h1⟩ := hs.2 i hi
  exact ⟨b, off, cap, e, by rw [h1, hB i hi]⟩
/-- A slice of integers. -/
theorem ints_of {W : World} {t e : TypeId} {k : IntKind} {v : Value} {d : DataW H} {p : List MemPlace} (ht : P.underlying t = some (.slice e)) (he : P.underlying e = some (.int k)) (hc : P.cellsOf e = 1)
    (hv : Value.okWide P W .any 0 t v) (h : DataW.Trod enc P W 0 (fun _ => true) true t v d p) : ∃ n, ∃ Z : Nat → Int, SlV W v n (fun i => .int k (Z i)) ∧ ∀ i, i < n → (Lit.int k (Z i)).wf = true := by
  obtain ⟨n, V, hs, hz⟩ := slV_of ht hc hv h
  have hB : ∀ i, i < n → ∃ z, V i = .int k z ∧ (Lit.int k z).wf = true := fun i hi => by
    obtain ⟨m, z, h1⟩ := hz i hi
    obtain ⟨b, h2, _, h3⟩ := DataW.trod_int he h1
    exact ⟨b, by simpa using h2, h3⟩
  obtain ⟨Z, hB⟩ := Go.Deep.choose_lt hB
  refine ⟨n, Z, ⟨hs.1, fun i hi => ?_⟩, fun i hi => (hB i hi).2⟩
  obtain ⟨b, off, cap, e, h1⟩ := hs.2 i hi
  exact ⟨b, off, cap, e, by rw [h1, (hB i hi).1]⟩
end
end Go.Proofs.YtdffinnnjcgfcaaGreatK
