/- The last steps of a row; the closed facts of a row; arguments that are only read. A row's arguments that are octets, or orders. -/
import Derived.Below
import Derived.ChangeSame
import Derived.ProofKit
import Derived.OpenShut
import Derived.Test.YtcllbmjmefeknaaGreatRows
import Derived.JoinedOf
import Derived.KernelRfl
import Derived.Carry
import Derived.Deep.Slices
import Derived.WideKeyArgs
import Derived.Test.YtcllbmjmefeknaaGreatLw0
namespace Go.Proofs.YtcllbmjmefeknaaGreatK
/-! ### The last steps of a row; the closed facts of a row; arguments that are only read. -/
section
/-! ### The last step of a row: a call that leaves all memory that was there as it was meets the form's post. -/
section
open Go Go.RowKit Go.WideShapes Go.ChangeShapes
section
variable {H : Type} {enc : TypeId × Value → H} {P : Program}
theorem post_kept {f : Func} {s : ChangeSpec} {apart fresh handsOn again : Bool} {W W' : World} {args : Array Value} {v : Value} {ds gs : List (DataW H)} {met pa pv : List MemPlace}
    (hW : DataW.Whole enc P f.params.toList s.vars apart W args.toList ds gs met) (hb : Below W.heap.size W W')
    (hres : ∀ (b : Nat) (sp : Nat → Bool) (hd : Bool), DataW.TrodAll enc P W' b sp hd f.resultTypes.toList (v.resultList f.resultTypes.size) (s.fn H (ds ++ gs)).results [])
    (hargs : ∀ sp : Nat → Bool, (∀ p ∈ met, sp p.block = true) → DataW.TrodAll enc P W' 0 sp true f.params.toList args.toList (s.fn H (ds ++ gs)).args pa)
    (hvars : ∀ sp : Nat → Bool, (∀ p ∈ met, sp p.block = true) → DataW.TrodVars enc P W' sp s.vars (s.fn H (ds ++ gs)).vars pv)
    (hps : met = pa ++ pv)
    (hok : ∀ (j : Nat) (t : TypeId) (r : Value), f.resultTypes[j]? = some t → (v.resultList f.resultTypes.size)[j]? = some r → Value.okWide P W' .any 0 t r) :
    s.post enc P f apart fresh handsOn again W args v W' := by
  have small : ∀ p ∈ met, p.block < W.heap.size := fun p hp => hW.lt p hp
  have below : ∀ p ∈ met, (fun b => decide (b < W.heap.size)) p.block = true := fun p hp => decide_eq_true (small p hp)
  have split : ∀ p, p ∈ met → p ∈ ([] ++ pa) ++ pv := fun p hp => by rw [hps] at hp; simpa using hp
  have join : ∀ p, p ∈ ([] ++ pa) ++ pv → p ∈ met := fun p hp => by rw [hps]; simpa using hp
  refine ⟨ds, gs, met, [], pa, pv, hW, hres _ _ _, hargs _ below, hvars _ below, ?_, fun _ => ?_⟩
  · refine World.keptBut_mono (fun p hp => ⟨hp, ?_⟩) (hb.frame (· ∈ met))
    have := split p hp
    simpa using this
  · obtain ⟨_, _, _, _, _, hz, hn⟩ := hW
    refine ⟨hok, _, _, ([] ++ pa) ++ pv, ⟨[] ++ pa, pv, trodAll_append (hargs _ (fun _ _ => rfl)) (hres _ _ _), hvars _ (fun _ _ => rfl), rfl, ?_, ?_⟩, fun p hp _ => join p hp⟩
    · intro b off hp
      have hin := join _ hp
      rw [hb.frozen (small _ hin)]
      exact hz b off hin
    · intro ha
      have := hn ha
      rw [hps] at this
      simpa using this
end
end
/-! ### The closed facts of a row over this translation: its head's words are read once. -/
section
open Go
set_option maxRecDepth 100000
theorem mayEnter_cut {P : Program} {rest : List (List Char)} (h : behindMainWord (wordsSigns P.initOrder.toList) = "cut".toList :: rest) (k1 : P.laysLater = false) (k2 : P.bearsReflect = false) (k3 : P.doorFits [] = true) : P.mayEnter = true := by
  have e : stripLifts liftWords ("cut".toList :: rest) = ([], "cut".toList :: rest) := by kernel_rfl
  unfold Program.mayEnter
  rw [h]
  simp only [e, k1, k2, k3]
  simp
theorem lifts_cut {P : Program} {rest : List (List Char)} (h : behindMainWord (wordsSigns P.initOrder.toList) = "cut".toList :: rest) : P.liftsFinal = false := by
  unfold Program.liftsFinal Program.headLifts
  rw [h]
  kernel_rfl
theorem make_cut {P : Program} {rest : List (List Char)} (h : behindMainWord (wordsSigns P.initOrder.toList) = "cut".toList :: rest) : P.make = some .cut := by
  unfold Program.make
  rw [h]
  kernel_rfl
def codes : List Nat := [104, 97, 114, 110, 101, 115, 115, 32, 49, 98, 56, 101, 102, 100, 98, 55, 51, 98, 53, 56, 55, 56, 57, 50, 102, 54, 100, 54, 54, 54, 57, 97, 102, 49, 102, 99, 99, 55, 101, 55, 97, 102, 100, 52, 48, 99, 100, 57, 54, 55, 101, 56, 49, 97, 49, 50, 57, 52, 99, 98, 50, 54, 50, 53, 57, 51, 97, 55, 50, 98, 54, 98, 32, 99, 117, 116, 32, 97, 116, 32, 115, 105, 103, 110, 97, 108, 109, 97, 110, 47, 115, 105, 103, 110, 97, 108, 109, 97, 110, 108, 97, 119, 50, 49, 46, 80, 97, 105, 114, 66, 111, 117, 110, 100, 115, 32, 115, 105, 103, 110, 97, 108, 109, 97, 110, 47, 115, 105, 103, 110, 97, 108, 109, 97, 110, 108, 97, 119, 50, 49, 46, 80, 97, 105, 114, 68, 111, 101, 115, 32, 115, 105, 103, 110, 97, 108, 109, 97, 110, 47, 115, 105, 103, 110, 97, 108, 109, 97, 110, 108, 97, 119, 50, 52, 46, 83, 99, 111, 114, 101, 78, 105, 108, 32, 115, 105, 103, 110, 97, 108, 109, 97, 110, 47, 115, 105, 103, 110, 97, 108, 109, 97, 110, 108, 97, 119, 50, 52, 46, 83, 99, 111, 114, 101, 80, 97, 114, 116, 115, 32, 115, 105, 103, 110, 97, 108, 109, 97, 110, 47, 115, 105, 103, 110, 97, 108, 109, 97, 110, 108, 97, 119, 50, 52, 46, 83, 99, 111, 114, 101, 80, 114, 101, 102, 105, 120, 101, 115, 32, 115, 105, 103, 110, 97, 108, 109, 97, 110, 47, 115, 105, 103, 110, 97, 108, 109, 97, 110, 108, 97, 119, 50, 52, 46, 83, 99, 111, 114, 101, 75, 101, 101, 112, 115, 32, 115, 105, 103, 110, 97, 108, 109, 97, 110, 47, 115, 105, 103, 110, 97, 108, 109, 97, 110, 108, 97, 119, 50, 51, 46, 84, 114, 117, 116, 104, 78, 105, 108, 32, 115, 105, 103, 110, 97, 108, 109, 97, 110, 47, 115, 105, 103, 110, 97, 108, 109, 97, 110, 108, 97, 119, 50, 51, 46, 84, 114, 117, 116, 104, 67, 111, 117, 110, 116, 115, 32, 115, 105, 103, 110, 97, 108, 109, 97, 110, 47, 115, 105, 103, 110, 97, 108, 109, 97, 110, 108, 97, 119, 50, 56, 46, 83, 117, 114, 118, 101, 121, 78, 105, 108, 32, 115, 105, 103, 110, 97, 108, 109, 97, 110, 47, 115, 105, 103, 110, 97, 108, 109, 97, 110, 108, 97, 119, 50, 56, 46, 83, 117, 114, 118, 101, 121, 67, 111, 117, 110, 116, 115, 32, 115, 105, 103, 110, 97, 108, 109, 97, 110, 47, 115, 105, 103, 110, 97, 108, 109, 97, 110, 108, 97, 119, 50, 53, 46, 83, 119, 97, 112, 78, 105, 108]
theorem head_signs : Tryz.prog.initOrder = String.ofList (codes.map Char.ofNat) := by kernel_rfl
theorem head_first : (behindMainWord (wordsSigns (codes.map Char.ofNat))).head? = some "cut".toList := by kernel_rfl
theorem head_cut : ∃ rest, behindMainWord (wordsSigns Tryz.prog.initOrder.toList) = "cut".toList :: rest := by
  have h1 : Tryz.prog.initOrder.toList = codes.map Char.ofNat := by rw [head_signs, String.toList_ofList]
  have h2 := head_first
  rw [← h1] at h2
  cases h3 : behindMainWord (wordsSigns Tryz.prog.initOrder.toList) with
  | nil => rw [h3] at h2; cases h2
  | cons a r =>
    rw [h3] at h2
    simp only [List.head?_cons, Option.some.injEq] at h2
    subst h2
    exact ⟨r, rfl⟩
theorem may_enter : Tryz.prog.mayEnter = true := by
  obtain ⟨r, h⟩ := head_cut
  exact mayEnter_cut h (by as_aux_lemma => kernel_rfl) (by as_aux_lemma => kernel_rfl) (by as_aux_lemma => kernel_rfl)
theorem lifts_final : Tryz.prog.liftsFinal = false := by
  obtain ⟨r, h⟩ := head_cut
  exact lifts_cut h
theorem the_make : Tryz.prog.make = some .cut := by
  obtain ⟨r, h⟩ := head_cut
  exact make_cut h
end
/-! ### A row's arguments of whatever type, that are only read: down to what a walk wants; up by the reading that was. -/
section
open Go Go.RowKit Go.WideShapes Go.ChangeShapes
section
variable {H : Type} {enc : TypeId × Value → H} {P : Program}
/-- All arguments read behind the call as they did before. -/
theorem trodAll_stays (hl : laidOutB P = true) {W W' : World} {sp : Nat → Bool} : ∀ {ts : List TypeId} {vs : List Value} {ds : List (DataW H)} {ps : List MemPlace}, (ts.all fun t => P.readableRec t && decide (t < P.types.size)) = true →
    DataW.TrodAll enc P W 0 (fun _ => true) true ts vs ds ps → (∀ p ∈ ps, W.sameAt W' p) → (∀ p ∈ ps, sp p.block = true) → DataW.TrodAll enc P W' 0 sp true ts vs ds ps
  | [], vs, ds, ps, _, h, _, _ => by
    obtain ⟨rfl, rfl, rfl⟩ := trodAll_nil h
    exact trodAll_mk0
  | t :: ts, vs, ds, ps, hr, h, hs, hp => by
    obtain ⟨v, vs', d, ds', p, q, rfl, rfl, rfl, h1, h2⟩ := trodAll_cons h
    simp only [List.all_cons, Bool.and_eq_true, decide_eq_true_eq] at hr
    exact ⟨p, q, WideElems.Trod_stays hl hr.1.1 hr.1.2 h1 (fun x hx => hs x (by simp [hx])) (fun x hx => hp x (by simp [hx])),
      trodAll_stays hl hr.2 h2 (fun x hx => hs x (by simp [hx])) (fun x hx => hp x (by simp [hx])), rfl⟩
theorem post_any {f : Func} {s : ChangeSpec} {apart fresh handsOn again : Bool} {W W' : World} {args : Array Value} {v : Value} {ds gs : List (DataW H)} {met : List MemPlace}
    (hl : laidOutB P = true) (hr : (f.params.toList.all fun t => P.readableRec t && decide (t < P.types.size)) = true) (hno : s.vars = [])
    (hW : DataW.Whole enc P f.params.toList s.vars apart W args.toList ds gs met) (hb : Below W.heap.size W W')
    (hfn : (s.fn H (ds ++ gs)).args = ds) (hfv : (s.fn H (ds ++ gs)).vars = [])
    (hres : ∀ (b : Nat) (sp : Nat → Bool) (hd : Bool), DataW.TrodAll enc P W' b sp hd f.resultTypes.toList (v.resultList f.resultTypes.size) (s.fn H (ds ++ gs)).results [])
    (hok : ∀ (j : Nat) (t : TypeId) (r : Value), f.resultTypes[j]? = some t → (v.resultList f.resultTypes.size)[j]? = some r → Value.okWide P W' .any 0 t r) :
    s.post enc P f apart fresh handsOn again W args v W' := by
  have small : ∀ p ∈ met, p.block < W.heap.size := fun p hp => hW.lt p hp
  have hW' := hW
  obtain ⟨p, q, hA, hV, e, hfz, hnd⟩ := hW'
  rw [hno] at hV
  obtain ⟨rfl, rfl⟩ := trodVars_none hV
  rw [List.append_nil] at e
  subst e
  refine post_kept (pa := met) (pv := []) hW hb hres (fun sp hsp => ?_) (fun sp _ => ?_) (by simp) hok
  · rw [hfn]
    exact trodAll_stays hl hr hA (fun x hx => hb.same (small x hx)) hsp
  · rw [hno, hfv]
    trivial
/-- A slice, as a walk reads it: V i is the i-th element. -/
def SlV (w : World) (v : Value) (n : Nat) (V : Nat → Value) : Prop :=
  (∃ a cap, v = .slice a n cap ∧ n ≤ cap ∧ cap ≤ maxLen) ∧ ∀ i, i < n → ∃ b off cap, v = .slice (some ⟨b, off, none⟩) n cap ∧ w.cell? ⟨b, off + i, none⟩ = some (V i)
theorem SlV.below {w w' : World} {v : Value} {n : Nat} {V : Nat → Value} (h : SlV w v n V) (hb : Below w.heap.size w w') : SlV w' v n V := by
  refine ⟨h.1, fun i hi => ?_⟩
  obtain ⟨b, off, cap, e, hc⟩ := h.2 i hi
  exact ⟨b, off, cap, e, by rw [hb.cell (World.block_lt_of_cell? w _ hc)]; exact hc⟩
theorem slV_of {W : World} {t e : TypeId} {v : Value} {d : DataW H} {p : List MemPlace} (ht : P.underlying t = some (.slice e)) (hc : P.cellsOf e = 1)
    (hv : Value.okWide P W .any 0 t v) (h : DataW.Trod enc P W 0 (fun _ => true) true t v d p) :
    ∃ n V, SlV W v n V ∧ ∀ i, i < n → ∃ m z, DataW.trod enc P W 0 (fun _ => true) true m e [V i] = some z := by
  obtain ⟨a0, len, cap, rfl⟩ := okWide_slice ht hv
  obtain ⟨fuel, hf⟩ := h
  rcases Go.Deep.open_slice1 ht hc hf with ⟨hcs, hx⟩ | ⟨a, n, cap', m, k, V, D, Pl, hcs, _, hl, hm, hmm, hx, hi⟩
  · simp only [Value.cells, List.cons.injEq, Value.slice.injEq, and_true] at hcs
    obtain ⟨rfl, rfl, rfl⟩ := hcs
    exact ⟨0, fun _ => default, ⟨⟨none, 0, rfl, by simp, by simp⟩, fun i hi => by omega⟩, fun i hi => by omega⟩
  · simp only [Value.cells, List.cons.injEq, Value.slice.injEq, and_true] at hcs
    obtain ⟨rfl, rfl, rfl⟩ := hcs
    simp only [if_true] at hmm
    subst hmm
    refine ⟨len, V, ⟨⟨_, _, rfl, hl, hm⟩, fun i h9 => ?_⟩, fun i h9 => ⟨_, _, (hi i (by omega)).2⟩⟩
    have hcell := (hi i (by omega)).1
    obtain ⟨b, off, spot⟩ := a
    have hspot : spot = none := by simpa [Addr.add] using World.cell?_spot (hi 0 (by omega)).1
    subst hspot
    exact ⟨b, off, _, rfl, by rw [← Go.WideShapes.add_plain]; exact hcell⟩
/-- A slice of bools. -/
theorem bools_of {W : World} {t e : TypeId} {v : Value} {d : DataW H} {p : List MemPlace} (ht : P.underlying t = some (.slice e)) (he : P.underlying e = some .bool) (hc : P.cellsOf e = 1)
    (hv : Value.okWide P W .any 0 t v) (h : DataW.Trod enc P W 0 (fun _ => true) true t v d p) : ∃ n, ∃ B : Nat → Bool, SlV W v n (fun i => .bool (B i)) := by
  obtain ⟨n, V, hs, hz⟩ := slV_of ht hc hv h
  have hB : ∀ i, i < n → ∃ b, V i = .bool b := fun i hi => by
    obtain ⟨m, z, h1⟩ := hz i hi
    obtain ⟨b, h2, _⟩ := DataW.trod_bool he h1
    exact ⟨b, by simpa using h2⟩
  obtain ⟨B, hB⟩ := Go.Deep.choose_lt hB
  refine ⟨n, B, hs.1, fun i hi => ?_⟩
  obtain ⟨b, off, cap, e, h1⟩ := hs.2 i hi
  exact ⟨b, off, cap, e, by rw [h1, hB i hi]⟩
/-- A slice of integers. -/
theorem ints_of {W : World} {t e : TypeId} {k : IntKind} {v : Value} {d : DataW H} {p : List MemPlace} (ht : P.underlying t = some (.slice e)) (he : P.underlying e = some (.int k)) (hc : P.cellsOf e = 1)
    (hv : Value.okWide P W .any 0 t v) (h : DataW.Trod enc P W 0 (fun _ => true) true t v d p) : ∃ n, ∃ Z : Nat → Int, SlV W v n (fun i => .int k (Z i)) ∧ ∀ i, i < n → (Lit.int k (Z i)).wf = true := by
  obtain ⟨n, V, hs, hz⟩ := slV_of ht hc hv h
  have hB : ∀ i, i < n → ∃ z, V i = .int k z ∧ (Lit.int k z).wf = true := fun i hi => by
    obtain ⟨m, z, h1⟩ := hz i hi
    obtain ⟨b, h2, _, h3⟩ := DataW.trod_int he h1
    exact ⟨b, by simpa using h2, h3⟩
  obtain ⟨Z, hB⟩ := Go.Deep.choose_lt hB
  refine ⟨n, Z, ⟨hs.1, fun i hi => ?_⟩, fun i hi => (hB i hi).2⟩
  obtain ⟨b, off, cap, e, h1⟩ := hs.2 i hi
  exact ⟨b, off, cap, e, by rw [h1, (hB i hi).1]⟩
end
end
end
/-! ### A row's arguments that are octets, or orders. -/
section
open Go Go.RowKit Go.WideShapes Go.ChangeShapes
set_option maxRecDepth 100000
section
variable {H : Type} {enc : TypeId × Value → H} {W : World}
theorem bytI_trod {m : Nat} {cs : List Value} {x : DataW H × List MemPlace} (h : DataW.trod enc Tryz.prog W 0 (fun _ => true) true m 25 cs = some x) : ∃ v xs, cs = [v] ∧ BytI W [] v xs ∧ xs.length ≤ maxLen := by
  rcases Go.Deep.open_slice1 Tryz.underlying25 (by kernel_rfl) h with ⟨hcs, hx⟩ | ⟨a, n, cap', m, k, V, D, Pl, hcs, _, hl, hm, hmm, hx, hi⟩
  · exact ⟨_, [], hcs, ⟨.inl ⟨rfl, rfl⟩, by simp⟩, by simp⟩
  · simp only [if_true] at hmm
    subst hmm
    have hB : ∀ i, i < n → ∃ z, V i = .int .u8 z ∧ 0 ≤ z ∧ z ≤ 255 ∧ W.cell? (a.add i) = some (V i) := fun i hi9 => by
      obtain ⟨h1, h2⟩ := hi i (by omega)
      obtain ⟨z, h3, _, h4⟩ := DataW.trod_int Tryz.underlying5 h2
      have h5 : 0 ≤ z ∧ z ≤ 255 := by simpa [Lit.wf, IntKind.min, IntKind.max, IntKind.signed, IntKind.bits] using h4
      exact ⟨z, by simpa using h3, h5.1, h5.2, h1⟩
    obtain ⟨Z, hZ⟩ := Go.Deep.choose_lt hB
    by_cases h0 : n = 0
    · subst h0
      exact ⟨_, [], hcs, ⟨.inr (.inl ⟨_, _, rfl, rfl⟩), by simp⟩, by simp⟩
    · obtain ⟨b, off, spot⟩ := a
      have hspot : spot = none := by simpa [Addr.add] using World.cell?_spot (hZ 0 (by omega)).2.2.2
      subst hspot
      refine ⟨_, (List.range n).map Z, hcs, ⟨.inr (.inr ⟨b, off, _, by simp; rfl, by simpa using hl, ?_, by simp, fun j u hu => ?_⟩), fun z hz => ?_⟩, by simp; omega⟩
      · exact World.block_lt_of_cell? W _ (hZ 0 (by omega)).2.2.2
      · have hj : j < n := by
          have := (List.getElem?_eq_some_iff.1 hu).1
          simpa using this
        have e1 : u = .int .u8 (Z j) := by
          simp only [List.map_map, List.getElem?_map, List.getElem?_range hj, Option.map_some, Option.some.injEq, Function.comp] at hu
          exact hu.symm
        rw [e1, ← (hZ j hj).1, ← Go.WideShapes.add_plain]
        exact (hZ j hj).2.2.2
      · obtain ⟨i, h1, rfl⟩ := List.mem_map.1 hz
        have := hZ i (List.mem_range.1 h1)
        exact ⟨this.2.1, this.2.2.1⟩
theorem u8_trod {m : Nat} {cs : List Value} {x : DataW H × List MemPlace} (h : DataW.trod enc Tryz.prog W 0 (fun _ => true) true m 5 cs = some x) : ∃ z, cs = [.int .u8 z] ∧ 0 ≤ z ∧ z ≤ 255 := by
  obtain ⟨z, h3, _, h4⟩ := DataW.trod_int Tryz.underlying5 h
  have h5 : 0 ≤ z ∧ z ≤ 255 := by simpa [Lit.wf, IntKind.min, IntKind.max, IntKind.signed, IntKind.bits] using h4
  exact ⟨z, h3, h5.1, h5.2⟩
theorem bool_trod {m : Nat} {cs : List Value} {x : DataW H × List MemPlace} (h : DataW.trod enc Tryz.prog W 0 (fun _ => true) true m 4 cs = some x) : ∃ z, cs = [.bool z] := by
  obtain ⟨z, h3, _⟩ := DataW.trod_bool Tryz.underlying4 h
  exact ⟨z, h3⟩
theorem get1 {xs : List (DataW H × List MemPlace)} {o : Option (DataW H × List MemPlace)} {j n : Nat} (hx : xs.length = n) (hj : j < n) (h : o = xs[j]?) : ∃ y, o = some y := ⟨xs[j]'(by omega), by rw [h]; exact List.getElem?_eq_getElem (by omega)⟩
theorem bytI_of {v : Value} {d : DataW H} {p : List MemPlace} (hv : Value.okWide Tryz.prog W .any 0 25 v) (h : DataW.Trod enc Tryz.prog W 0 (fun _ => true) true 25 v d p) : ∃ xs, BytI W [] v xs ∧ xs.length ≤ maxLen := by
  obtain ⟨a0, len, cap, rfl⟩ := okWide_slice Tryz.underlying25 hv
  obtain ⟨fuel, hf⟩ := h
  obtain ⟨v9, xs, e, h1, h2⟩ := bytI_trod hf
  simp only [Value.cells, List.cons.injEq, and_true] at e
  exact ⟨xs, e ▸ h1, h2⟩
theorem order_of {v : Value} {d : DataW H} {p : List MemPlace} (hv : Value.okWide Tryz.prog W .any 0 27 v) (h : DataW.Trod enc Tryz.prog W 0 (fun _ => true) true 27 v d p) : ∃ (k : Int) (vi : Value) (xs : Oct), v = .agg #[.int .u8 k, vi] ∧ (0 ≤ k ∧ k ≤ 255) ∧ BytI W [] vi xs ∧ xs.length ≤ maxLen := by
  obtain ⟨cs, rfl, _⟩ := okWide_struct Tryz.underlying27 hv
  obtain ⟨fuel, hf⟩ := h
  obtain ⟨xs, n, _, _, hl, hx, hg⟩ := DataW.trod_struct Tryz.underlying27 hf
  have hc : Tryz.prog.cellsOf 27 = 2 := by kernel_rfl
  have h1 : Tryz.prog.cellsOf 5 = 1 := by kernel_rfl
  have h3 : Tryz.prog.cellsOf 25 = 1 := by kernel_rfl
  rw [hc] at hl
  obtain ⟨l⟩ := cs
  simp only [Value.cells] at hl hg
  match l, hl with
  | [c0, c1], _ =>
    have g0 : DataW.trod enc Tryz.prog W 0 (fun _ => true) true n 5 (([c0, c1].drop 0).take (Tryz.prog.cellsOf 5)) = xs[0]? := hg 0 _ rfl
    have g1 : DataW.trod enc Tryz.prog W 0 (fun _ => true) true n 25 (([c0, c1].drop 1).take (Tryz.prog.cellsOf 25)) = xs[1]? := hg 1 _ rfl
    simp only [h1, h3, List.drop_zero, List.drop_succ_cons, List.take_succ_cons, List.take_zero] at g0 g1
    obtain ⟨y0, e0⟩ := get1 hx (by decide) g0
    obtain ⟨y1, e1⟩ := get1 hx (by decide) g1
    obtain ⟨z0, r0, b0⟩ := u8_trod e0
    obtain ⟨v1, x1, r1, b1, l1⟩ := bytI_trod e1
    simp only [List.cons.injEq, and_true] at r0 r1
    subst r0 r1
    exact ⟨z0, c1, x1, rfl, b0, b1, l1⟩
end
end
end Go.Proofs.YtcllbmjmefeknaaGreatK
