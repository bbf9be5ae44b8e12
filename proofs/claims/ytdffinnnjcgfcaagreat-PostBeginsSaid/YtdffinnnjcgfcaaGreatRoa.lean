/- The last steps of a row; the closed facts of a row; arguments that are only read. -/
import Derived.Below
import Derived.ChangeSame
import Derived.ProofKit
import Derived.OpenShut
import Derived.Test.YtdffinnnjcgfcaaGreatRows
import Derived.JoinedOf
import Derived.KernelRfl
import Derived.Carry
import Derived.Deep.Slices
import Derived.WideKeyArgs
namespace Go.Proofs.YtdffinnnjcgfcaaGreatK
/-! ### The last step of a row: a call that leaves all memory that was there as it was meets the form's post. -/
section
open Go Go.RowKit Go.WideShapes Go.ChangeShapes
section
variable {H : Type} {enc : TypeId × Value → H} {P : Program}
theorem post_kept {f : Func} {s : ChangeSpec} {apart fresh handsOn again : Bool} {W W' : World} {args : Array Value} {v : Value} {ds gs : List (DataW H)} {met pa pv : List MemPlace}
    (hW : DataW.Whole enc P f.params.toList s.vars apart W args.toList ds gs met) (hb : Below W.heap.size W W')
    (hres : ∀ (b : Nat) (sp : Nat → Bool) (hd : Bool), DataW.TrodAll enc P W' b sp hd f.resultTypes.toList (v.resultList f.resultTypes.size) (s.fn H (ds ++ gs)).results [])
    (hargs : ∀ sp : Nat → Bool, (∀ p ∈ met, sp p.block = true) → DataW.TrodAll enc P W' 0 sp true f.params.toList args.toList (s.fn H (ds ++ gs)).args pa)
    (hvars : ∀ sp : Nat → Bool, (∀ p ∈ met, sp p.block = true) → DataW.TrodVars enc P W' sp s.vars (s.fn H (ds ++ gs)).vars pv)
    (hps : met = pa ++ pv)
    (hok : ∀ (j : Nat) (t : TypeId) (r : Value), f.resultTypes[j]? = some t → (v.resultList f.resultTypes.size)[j]? = some r → Value.okWide P W' .any 0 t r) :
    s.post enc P f apart fresh handsOn again W args v W' := by
  have small : ∀ p ∈ met, p.block < W.heap.size := fun p hp => hW.lt p hp
  have below : ∀ p ∈ met, (fun b => decide (b < W.heap.size)) p.block = true := fun p hp => decide_eq_true (small p hp)
  have split : ∀ p, p ∈ met → p ∈ ([] ++ pa) ++ pv := fun p hp => by rw [hps] at hp; simpa using hp
  have join : ∀ p, p ∈ ([] ++ pa) ++ pv → p ∈ met := fun p hp => by rw [hps]; simpa using hp
  refine ⟨ds, gs, met, [], pa, pv, hW, hres _ _ _, hargs _ below, hvars _ below, ?_, fun _ => ?_⟩
  · refine World.keptBut_mono (fun p hp => ⟨hp, ?_⟩) (hb.frame (· ∈ met))
    have := split p hp
    simpa using this
  · obtain ⟨_, _, _, _, _, hz, hn⟩ := hW
    refine ⟨hok, _, _, ([] ++ pa) ++ pv, ⟨[] ++ pa, pv, trodAll_append (hargs _ (fun _ _ => rfl)) (hres _ _ _), hvars _ (fun _ _ => rfl), rfl, ?_, ?_⟩, fun p hp _ => join p hp⟩
    · intro b off hp
      have hin := join _ hp
      rw [hb.frozen (small _ hin)]
      exact hz b off hin
    · intro ha
      have := hn ha
      rw [hps] at this
      simpa using this
end
end
/-! ### The closed facts of a row over this translation: its head's words are read once. -/
section
open Go
set_option maxRecDepth 100000
theorem mayEnter_cut {P : Program} {rest : List (List Char)} (h : behindMainWord (wordsSigns P.initOrder.toList) = "cut".toList :: rest) (k1 : P.laysLater = false) (k2 : P.bearsReflect = false) (k3 : P.doorFits [] = true) : P.mayEnter = true := by
  have e : stripLifts liftWords ("cut".toList :: rest) = ([], "cut".toList :: rest) := by kernel_rfl
  unfold Program.mayEnter
  rw [h]
  simp only [e, k1, k2, k3]
  simp
theorem lifts_cut {P : Program} {rest : List (List Char)} (h : behindMainWord (wordsSigns P.initOrder.toList) = "cut".toList :: rest) : P.liftsFinal = false := by
  unfold Program.liftsFinal Program.headLifts
  rw [h]
  kernel_rfl
theorem make_cut {P : Program} {rest : List (List Char)} (h : behindMainWord (wordsSigns P.initOrder.toList) = "cut".toList :: rest) : P.make = some .cut := by
  unfold Program.make
  rw [h]
  kernel_rfl
def codes : List Nat := [104, 97, 114, 110, 101, 115, 115, 32, 51, 50, 50, 54, 52, 48, 54, 56, 57, 56, 98, 55, 101, 102, 100, 97, 97, 48, 55, 102, 101, 102, 102, 99, 49, 49, 102, 55, 102, 57, 98, 51, 101, 54, 50, 51, 57, 97, 102, 101, 51, 101, 52, 99, 49, 50, 56, 56, 48, 102, 99, 50, 97, 50, 48, 51, 52, 57, 97, 97, 100, 56, 97, 52, 32, 99, 117, 116, 32, 97, 116, 32, 115, 105, 103, 110, 97, 108, 109, 97, 110, 47, 115, 105, 103, 110, 97, 108, 109, 97, 110, 108, 97, 119, 49, 55, 46, 83, 116, 97, 116, 101, 87, 97, 105, 116, 115, 32, 115, 105, 103, 110, 97, 108, 109, 97, 110, 47, 115, 105, 103, 110, 97, 108, 109, 97, 110, 108, 97, 119, 49, 55, 46, 83, 116, 97, 116, 101, 66, 117, 115, 121, 32, 115, 105, 103, 110, 97, 108, 109, 97, 110, 47, 115, 105, 103, 110, 97, 108, 109, 97, 110, 108, 97, 119, 49, 55, 46, 83, 116, 97, 116, 101, 79, 117, 116, 97, 103, 101, 32, 115, 105, 103, 110, 97, 108, 109, 97, 110, 47, 115, 105, 103, 110, 97, 108, 109, 97, 110, 108, 97, 119, 49, 55, 46, 83, 116, 97, 116, 101, 65, 108, 105, 103, 110, 115, 32, 115, 105, 103, 110, 97, 108, 109, 97, 110, 47, 115, 105, 103, 110, 97, 108, 109, 97, 110, 108, 97, 119, 49, 55, 46, 83, 116, 97, 116, 101, 70, 97, 105, 108, 115, 32, 115, 105, 103, 110, 97, 108, 109, 97, 110, 47, 115, 105, 103, 110, 97, 108, 109, 97, 110, 108, 97, 119, 49, 55, 46, 83, 116, 97, 116, 101, 85, 110, 102, 105, 116, 32, 115, 105, 103, 110, 97, 108, 109, 97, 110, 47, 115, 105, 103, 110, 97, 108, 109, 97, 110, 108, 97, 119, 49, 55, 46, 83, 116, 97, 116, 101, 84, 97, 107, 101, 115, 32, 115, 105, 103, 110, 97, 108, 109, 97, 110, 47, 115, 105, 103, 110, 97, 108, 109, 97, 110, 108, 97, 119, 49, 55, 46, 83, 116, 97, 116, 101, 69, 114, 114, 111, 114, 115, 32, 115, 105, 103, 110, 97, 108, 109, 97, 110, 47, 115, 105, 103, 110, 97, 108, 109, 97, 110, 108, 97, 119, 49, 55, 46, 83, 116, 97, 116, 101, 83, 101, 110, 100, 115, 32, 115, 105, 103, 110, 97, 108, 109, 97, 110, 47, 115, 105, 103, 110, 97, 108, 109, 97, 110, 108, 97, 119, 49, 55, 46, 83, 116, 97, 116, 101, 79, 114, 100, 101, 114, 115, 32, 115, 105, 103, 110, 97, 108, 109, 97, 110, 47, 115, 105, 103, 110, 97, 108, 109, 97, 110, 108, 97, 119, 49, 55, 46, 83, 116, 97, 116, 101, 83, 116, 101, 112, 115, 32, 115, 105, 103, 110, 97, 108, 109, 97, 110, 47, 115, 105, 103, 110, 97, 108, 109, 97, 110, 108, 97, 119, 49, 55, 46, 83, 116, 97, 116, 101, 78, 105, 108, 32, 115, 105, 103, 110, 97, 108, 109, 97, 110, 47, 115, 105, 103, 110, 97, 108, 109, 97, 110, 108, 97, 119, 49, 56, 46, 70, 101, 116, 99, 104, 78, 105, 108, 32, 115, 105, 103, 110, 97, 108, 109, 97, 110, 47, 115, 105, 103, 110, 97, 108, 109, 97, 110, 108, 97, 119, 49, 56, 46, 70, 101, 116, 99, 104, 84, 101, 108, 108, 115, 32, 115, 105, 103, 110, 97, 108, 109, 97, 110, 47, 115, 105, 103, 110, 97, 108, 109, 97, 110, 108, 97, 119, 49, 56, 46, 70, 101, 116, 99, 104, 65, 103, 97, 105, 110, 32, 115, 105, 103, 110, 97, 108, 109, 97, 110, 47, 115, 105, 103, 110, 97, 108, 109, 97, 110, 108, 97, 119, 49, 56, 46, 70, 101, 116, 99, 104, 66, 111, 116, 104, 32, 115, 105, 103, 110, 97, 108, 109, 97, 110, 47, 115, 105, 103, 110, 97, 108, 109, 97, 110, 108, 97, 119, 49, 57, 46, 80, 111, 115, 116, 65, 108, 119, 97, 121, 115, 32, 115, 105, 103, 110, 97, 108, 109, 97, 110, 47, 115, 105, 103, 110, 97, 108, 109, 97, 110, 108, 97, 119, 49, 57, 46, 80, 111, 115, 116, 83, 101, 110, 100, 115, 32, 115, 105, 103, 110, 97, 108, 109, 97, 110, 47, 115, 105, 103, 110, 97, 108, 109, 97, 110, 108, 97, 119, 49, 57, 46, 80, 111, 115, 116, 72, 101, 97, 114, 115, 32, 115, 105, 103, 110, 97, 108, 109, 97, 110, 47, 115, 105, 103, 110, 97, 108, 109, 97, 110, 108, 97, 119, 49, 57, 46, 80, 111, 115, 116, 77, 101, 115, 115, 97, 103, 101, 115, 32, 115, 105, 103, 110, 97, 108, 109, 97, 110, 47, 115, 105, 103, 110, 97, 108, 109, 97, 110, 108, 97, 119, 49, 57, 46, 80, 111, 115, 116, 66, 101, 103, 105, 110, 115]
theorem head_signs : Tryz.prog.initOrder = String.ofList (codes.map Char.ofNat) := by kernel_rfl
theorem head_first : (behindMainWord (wordsSigns (codes.map Char.ofNat))).head? = some "cut".toList := by kernel_rfl
theorem head_cut : ∃ rest, behindMainWord (wordsSigns Tryz.prog.initOrder.toList) = "cut".toList :: rest := by
  have h1 : Tryz.prog.initOrder.toList = codes.map Char.ofNat := by rw [head_signs, String.toList_ofList]
  have h2 := head_first
  rw [← h1] at h2
  cases h3 : behindMainWord (wordsSigns Tryz.prog.initOrder.toList) with
  | nil => rw [h3] at h2; cases h2
  | cons a r =>
    rw [h3] at h2
    simp only [List.head?_cons, Option.some.injEq] at h2
    subst h2
    exact ⟨r, rfl⟩
theorem may_enter : Tryz.prog.mayEnter = true := by
  obtain ⟨r, h⟩ := head_cut
  exact mayEnter_cut h (by as_aux_lemma => kernel_rfl) (by as_aux_lemma => kernel_rfl) (by as_aux_lemma => kernel_rfl)
theorem lifts_final : Tryz.prog.liftsFinal = false := by
  obtain ⟨r, h⟩ := head_cut
  exact lifts_cut h
theorem the_make : Tryz.prog.make = some .cut := by
  obtain ⟨r, h⟩ := head_cut
  exact make_cut h
end
/-! ### A row's arguments of whatever type, that are only read: down to what a walk wants; up by the reading that was. -/
section
open Go Go.RowKit Go.WideShapes Go.ChangeShapes
section
variable {H : Type} {enc : TypeId × Value → H} {P : Program}
/-- All arguments read behind the call as they did before. -/
theorem trodAll_stays (hl : laidOutB P = true) {W W' : World} {sp : Nat → Bool} : ∀ {ts : List TypeId} {vs : List Value} {ds : List (DataW H)} {ps : List MemPlace}, (ts.all fun t => P.readableRec t && decide (t < P.types.size)) = true →
    DataW.TrodAll enc P W 0 (fun _ => true) true ts vs ds ps → (∀ p ∈ ps, W.sameAt W' p) → (∀ p ∈ ps, sp p.block = true) → DataW.TrodAll enc P W' 0 sp true ts vs ds ps
  | [], vs, ds, ps, _, h, _, _ => by
    obtain ⟨rfl, rfl, rfl⟩ := trodAll_nil h
    exact trodAll_mk0
  | t :: ts, vs, ds, ps, hr, h, hs, hp => by
    obtain ⟨v, vs', d, ds', p, q, rfl, rfl, rfl, h1, h2⟩ := trodAll_cons h
    simp only [List.all_cons, Bool.and_eq_true, decide_eq_true_eq] at hr
    exact ⟨p, q, WideElems.Trod_stays hl hr.1.1 hr.1.2 h1 (fun x hx => hs x (by simp [hx])) (fun x hx => hp x (by simp [hx])),
      trodAll_stays hl hr.2 h2 (fun x hx => hs x (by simp [hx])) (fun x hx => hp x (by simp [hx])), rfl⟩
theorem post_any {f : Func} {s : ChangeSpec} {apart fresh handsOn again : Bool} {W W' : World} {args : Array Value} {v : Value} {ds gs : List (DataW H)} {met : List MemPlace}
    (hl : laidOutB P = true) (hr : (f.params.toList.all fun t => P.readableRec t && decide (t < P.types.size)) = true) (hno : s.vars = [])
    (hW : DataW.Whole enc P f.params.toList s.vars apart W args.toList ds gs met) (hb : Below W.heap.size W W')
    (hfn : (s.fn H (ds ++ gs)).args = ds) (hfv : (s.fn H (ds ++ gs)).vars = [])
    (hres : ∀ (b : Nat) (sp : Nat → Bool) (hd : Bool), DataW.TrodAll enc P W' b sp hd f.resultTypes.toList (v.resultList f.resultTypes.size) (s.fn H (ds ++ gs)).results [])
    (hok : ∀ (j : Nat) (t : TypeId) (r : Value), f.resultTypes[j]? = some t → (v.resultList f.resultTypes.size)[j]? = some r → Value.okWide P W' .any 0 t r) :
    s.post enc P f apart fresh handsOn again W args v W' := by
  have small : ∀ p ∈ met, p.block < W.heap.size := fun p hp => hW.lt p hp
  have hW' := hW
  obtain ⟨p, q, hA, hV, e, hfz, hnd⟩ := hW'
  rw [hno] at hV
  obtain ⟨rfl, rfl⟩ := trodVars_none hV
  rw [List.append_nil] at e
  subst e
  refine post_kept (pa := met) (pv := []) hW hb hres (fun sp hsp => ?_) (fun sp _ => ?_) (by simp) hok
  · rw [hfn]
    exact trodAll_stays hl hr hA (fun x hx => hb.same (small x hx)) hsp
  · rw [hno, hfv]
    trivial
/-- A slice, as a walk reads it: V i is the i-th element. -/
def SlV (w : World) (v : Value) (n : Nat) (V : Nat → Value) : Prop :=
  (∃ a cap, v = .slice a n cap ∧ n ≤ cap ∧ cap ≤ maxLen) ∧ ∀ i, i < n → ∃ b off cap, v = .slice (some ⟨b, off, none⟩) n cap ∧ w.cell? ⟨b, off + i, none⟩ = some (V i)
theorem SlV.below {w w' : World} {v : Value} {n : Nat} {V : Nat → Value} (h : SlV w v n V) (hb : Below w.heap.size w w') : SlV w' v n V := by
  refine ⟨h.1, fun i hi => ?_⟩
  obtain ⟨b, off, cap, e, hc⟩ := h.2 i hi
  exact ⟨b, off, cap, e, by rw [hb.cell (World.block_lt_of_cell? w _ hc)]; exact hc⟩
theorem slV_of {W : World} {t e : TypeId} {v : Value} {d : DataW H} {p : List MemPlace} (ht : P.underlying t = some (.slice e)) (hc : P.cellsOf e = 1)
    (hv : Value.okWide P W .any 0 t v) (h : DataW.Trod enc P W 0 (fun _ => true) true t v d p) :
    ∃ n V, SlV W v n V ∧ ∀ i, i < n → ∃ m z, DataW.trod enc P W 0 (fun _ => true) true m e [V i] = some z := by
  obtain ⟨a0, len, cap, rfl⟩ := okWide_slice ht hv
  obtain ⟨fuel, hf⟩ := h
  rcases Go.Deep.open_slice1 ht hc hf with ⟨hcs, hx⟩ | ⟨a, n, cap', m, k, V, D, Pl, hcs, _, hl, hm, hmm, hx, hi⟩
  · simp only [Value.cells, List.cons.injEq, Value.slice.injEq, and_true] at hcs
    obtain ⟨rfl, rfl, rfl⟩ := hcs
    exact ⟨0, fun _ => default, ⟨⟨none, 0, rfl, by simp, by simp⟩, fun i hi => by omega⟩, fun i hi => by omega⟩
  · simp only [Value.cells, List.cons.injEq, Value.slice.injEq, and_true] at hcs
    obtain ⟨rfl, rfl, rfl⟩ := hcs
    simp only [if_true] at hmm
    subst hmm
    refine ⟨len, V, ⟨⟨_, _, rfl, hl, hm⟩, fun i h9 => ?_⟩, fun i h9 => ⟨_, _, (hi i (by omega)).2⟩⟩
    have hcell := (hi i (by omega)).1
    obtain ⟨b, off, spot⟩ := a
    have hspot : spot = none := by simpa [Addr.add] using World.cell?_spot (hi 0 (by omega)).1
    subst hspot
    exact ⟨b, off, _, rfl, by rw [← Go.WideShapes.add_plain]; exact hcell⟩
/-- A slice of bools. -/
theorem bools_of {W : World} {t e : TypeId} {v : Value} {d : DataW H} {p : List MemPlace} (ht : P.underlying t = some (.slice e)) (he : P.underlying e = some .bool) (hc : P.cellsOf e = 1)
    (hv : Value.okWide P W .any 0 t v) (h : DataW.Trod enc P W 0 (fun _ => true) true t v d p) : ∃ n, ∃ B : Nat → Bool, SlV W v n (fun i => .bool (B i)) := by
  obtain ⟨n, V, hs, hz⟩ := slV_of ht hc hv h
  have hB : ∀ i, i < n → ∃ b, V i = .bool b := fun i hi => by
    obtain ⟨m, z, h1⟩ := hz i hi
    obtain ⟨b, h2, _⟩ := DataW.trod_bool he h1
    exact ⟨b, by simpa using h2⟩
  obtain ⟨B, hB⟩ := Go.Deep.choose_lt hB
  refine ⟨n, B, hs.1, fun i hi => ?_⟩
  obtain ⟨b, off, cap, e, h1⟩ := hs.2 i hi
  exact ⟨b, off, cap, e, by rw [h1, hB i hi]⟩
/-- A slice of integers. -/
theorem ints_of {W : World} {t e : TypeId} {k : IntKind} {v : Value} {d : DataW H} {p : List MemPlace} (ht : P.underlying t = some (.slice e)) (he : P.underlying e = some (.int k)) (hc : P.cellsOf e = 1)
    (hv : Value.okWide P W .any 0 t v) (h : DataW.Trod enc P W 0 (fun _ => true) true t v d p) : ∃ n, ∃ Z : Nat → Int, SlV W v n (fun i => .int k (Z i)) ∧ ∀ i, i < n → (Lit.int k (Z i)).wf = true := by
  obtain ⟨n, V, hs, hz⟩ := slV_of ht hc hv h
  have hB : ∀ i, i < n → ∃ z, V i = .int k z ∧ (Lit.int k z).wf = true := fun i hi => by
    obtain ⟨m, z, h1⟩ := hz i hi
    obtain ⟨b, h2, _, h3⟩ := DataW.trod_int he h1
    exact ⟨b, by simpa using h2, h3⟩
  obtain ⟨Z, hB⟩ := Go.Deep.choose_lt hB
  refine ⟨n, Z, ⟨hs.1, fun i hi => ?_⟩, fun i hi => (hB i hi).2⟩
  obtain ⟨b, off, cap, e, h1⟩ := hs.2 i hi
  exact ⟨b, off, cap, e, by rw [h1, (hB i hi).1]⟩
end
end
end Go.Proofs.YtdffinnnjcgfcaaGreatK
