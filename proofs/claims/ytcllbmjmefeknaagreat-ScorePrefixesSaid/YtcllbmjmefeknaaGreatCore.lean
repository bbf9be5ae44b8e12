/- Words of the walk, over any program: worlds that have grown, regions that draw their order, blocks that are known whole. -/
import Derived.Below
import Derived.WalkKit
import Derived.Deep.QuietTactic
import Derived.BigQuiet
import Derived.StillTail
import Derived.Lib.Hide
namespace Go.Proofs.YtcllbmjmefeknaaGreatK
open Go Go.RowKit
set_option linter.unusedVariables false
/-! ### Regions that draw their order: a head that is quiet in a class of worlds, and a tail in one forced order -/
section
variable {P : Program} {ops : Array Oper} {md : Region.Mode} {C : World → Prop}
def wpAnyLQ (P : Program) (md : Region.Mode) (ops : Array Oper) (C : World → Prop) (n : Nat) (L : Array Bool → Act → Prop) : Nat → Array Bool → Act → Prop
  | 0, listed, a => L listed a
  | f + 1, listed, a =>
    Region.ready md ops listed ≠ [] ∧ ∀ i ∈ Region.ready md ops listed, i < n ∧ qOp P ops C i (wpAnyLQ P md ops C n L f (listed.setIfInBounds i true)) a
theorem wpAny_of_headQ {n g : Nat} {L : Array Bool → Act → Prop} {Q' : Exit → Act → World → Prop} (hL : ∀ listed a w, C w → L listed a → wpAny P md ops Q' g listed a w) :
    ∀ (f : Nat) (listed : Array Bool) (a : Act) (w : World), C w → wpAnyLQ P md ops C n L f listed a → wpAny P md ops Q' (f + g) listed a w
  | 0, listed, a, w, hw, h => by rw [Nat.zero_add]; exact hL _ _ _ hw h
  | f + 1, listed, a, w, hw, h => by
    rw [show f + 1 + g = (f + g) + 1 by omega]
    exact ⟨fun h0 => absurd h0 h.1, fun i hi => wpOp_of_qOp hw (fun a' w' hw' h' => wpAny_of_headQ hL f _ a' w' hw' h') (h.2 i hi).2⟩
theorem wpAnyLQ_first {n i : Nat} {oi : Oper} {v : Value} {L : Array Bool → Act → Prop} (hi : ops[i]? = some oi) (hsel : ∀ (j : Nat) (o : Oper) cs b, ops[j]? = some o → o.op ≠ .select cs b)
    (hs : Region.sinkB md ops n = true) (hc : Region.chainB md ops n = true) (hn : n < ops.size) (hin : i < n)
    (hdone : ∀ listed a, L listed a → ∀ j ∈ Region.ready md ops listed, n ≤ j) :
    ∀ (f : Nat) (listed : Array Bool) (a : Act), HeadInv md ops n listed →
      (∀ j oj, ops[j]? = some oj → j ≠ i → listed.getD j true = false → (∀ e ∈ oj.after, Region.binds md e = true → e.on ≠ i) → oi.apart ops oj = true) →
      i ∈ Region.ready md ops listed → YieldsIn P ops C oi v a →
      wpAnyLQ P md ops C n L f (listed.setIfInBounds i true) (a.put oi.dst v) → wpAnyLQ P md ops C n L (f + 1) listed a := by
  intro f
  induction f with
  | zero =>
    intro listed a inv _ hr hy H
    have hun := (mem_ready.1 hr).1
    refine ⟨fun h => (by rw [h] at hr; cases hr), fun j hj => ?_⟩
    have hjn : j < n := by
      rcases Nat.lt_or_ge j n with h | h
      · exact h
      · exact absurd hj (tail_waits hs hc hn inv _ i rfl hin hun j h)
    refine ⟨hjn, ?_⟩
    by_cases hji : j = i
    · subst hji; exact hy.qOp hi H
    · have := hdone _ _ H j (ready_mono hj hji)
      omega
  | succ f ih =>
    intro listed a inv hfree hr hy H
    have hun := (mem_ready.1 hr).1
    refine ⟨fun h => (by rw [h] at hr; cases hr), fun j hj => ?_⟩
    have hjn : j < n := by
      rcases Nat.lt_or_ge j n with h | h
      · exact h
      · exact absurd hj (tail_waits hs hc hn inv _ i rfl hin hun j h)
    refine ⟨hjn, ?_⟩
    by_cases hji : j = i
    · subst hji; exact hy.qOp hi H
    · have h1 := (H.2 j (ready_mono hj hji)).2
      obtain ⟨hjun, oj, hoj, hall⟩ := mem_ready.1 hj
      have hnot : ∀ e ∈ oj.after, Region.binds md e = true → e.on ≠ i := fun e he hb heq => by
        have h1 := hall e he hb
        rw [heq, getD_both hun] at h1
        cases h1
      have h2 := qOp_put hoj (hfree j oj hoj hji hjun hnot) (fun cs b => hsel i oi cs b hi) (fun cs b => hsel j oj cs b hoj) hy h1
      have hfree' : ∀ k ok, ops[k]? = some ok → k ≠ i → (listed.setIfInBounds j true).getD k true = false →
          (∀ e ∈ ok.after, Region.binds md e = true → e.on ≠ i) → oi.apart ops ok = true := fun k ok hk hki hun hno => by
        refine hfree k ok hk hki ?_ hno
        by_cases hjk : j = k
        · subst hjk; exact hjun
        · rw [getD_set_ne true hjk] at hun; exact hun
      refine qOp_mono (fun a' h3 => ih (listed.setIfInBounds j true) a' (inv.set hj hjn) hfree' (ready_mono hr (Ne.symm hji)) h3.1 ?_) h2
      rw [Array.setIfInBounds_comm _ _ hji]
      exact h3.2
theorem wpAnyLQ_lex {n g : Nat} {Lq : Act → Prop} (hsel : Region.noSelect ops = true) (hs : Region.sinkB md ops n = true) (hc : Region.chainB md ops n = true) (hn : n < ops.size) :
    ∀ (l : List Oper) (k : Nat) (listed : Array Bool) (a : Act), (∀ j, j < l.length → l[j]? = ops[k + j]?) → k + l.length = n → HeadInv md ops n listed →
    Region.lexHead md ops g l.length k listed = true → wpQuiet P ops C Lq l a →
    wpAnyLQ P md ops C n (fun listed' a' => Region.seqB md ops g n listed' = true ∧ Lq a') l.length listed a
  | [], k, listed, a, _, hk, _, hB, h => by
    have : k = n := by simpa using hk
    subst this
    exact ⟨by simpa [Region.lexHead] using hB, h⟩
  | o :: l, k, listed, a, hl, hk, inv, hB, h => by
    have h0 : ops[k]? = some o := by simpa using (hl 0 (by simp)).symm
    simp only [List.length_cons, Region.lexHead, Bool.and_eq_true] at hB
    obtain ⟨⟨hr, hf⟩, hB'⟩ := hB
    have hkn : k < n := by simp only [List.length_cons] at hk; omega
    have hr' : k ∈ Region.ready md ops listed := by simpa using hr
    have hst : qOp P ops C k (wpQuiet P ops C Lq l) a := by unfold qOp; simp only [h0]; exact h
    obtain ⟨v, hy, hK⟩ := yieldsIn_of_qOp h0 hst
    exact wpAnyLQ_first h0 (Region.noSelect_spec hsel) hs hc hn hkn (fun listed' a' hL => seqB_ready hL.1) l.length listed a inv (Region.free_spec h0 hf) hr' hy
      (wpAnyLQ_lex hsel hs hc hn l (k + 1) _ _ (fun j hj => by have := hl (j + 1) (by simp; omega); simpa [Nat.add_assoc, Nat.add_comm 1 j] using this) (by simp only [List.length_cons] at hk; omega) (inv.set hr' hkn) hB' hK)
/-- A region that draws: its first n operations quiet in a class of worlds, the others in one forced order from any world of the class. -/
theorem wp_region_quiet_tail {id : Nat} {Q : Exit → Act → World → Prop} {a : Act} {w : World} {l : List Oper} (n : Nat) (hm : P.follows .mixedOrders = true) (hB : Region.lexTailB .any l.toArray n = true)
    (hC : C { w with drawn := w.drawn + 1 })
    (h : wpQuiet P l.toArray C (fun a' => ∀ w', C w' → wpList P l.toArray Q (l.drop n) a' w') (l.take n) a) : (Code.region id l.toArray true).wp P Q a w := by
  simp only [Region.lexTailB, Bool.and_eq_true, decide_eq_true_eq] at hB
  obtain ⟨⟨⟨⟨hsel, hn⟩, hs⟩, hc⟩, hlex⟩ := hB
  have hn' : n < l.length := by simpa using hn
  have htl : (l.take n).length = n := by simp; omega
  have hdl : (l.drop n).length = l.toArray.size - n := by simp
  have inv0 : HeadInv .any l.toArray n (Array.replicate l.toArray.size false) :=
    ⟨by simp, fun j oj _ hl => (by rw [getD_replicate_false] at hl; cases hl), fun t _ ht => getD_in (by simpa using ht) (getD_replicate_false _ _)⟩
  have H := wpAnyLQ_lex (md := .any) (g := l.toArray.size - n) hsel hs hc hn (l.take n) 0 _ a (fun j hj => by
    have hj' : j < n := by rw [htl] at hj; exact hj
    simp [hj']) (by simpa using htl) inv0 (by rw [htl]; exact hlex) h
  refine wp_region_any hm ?_
  have := wpAny_of_headQ (Q' := Q) (g := l.toArray.size - n) (fun listed a' w' hw' hL => by
    have := wpAny_of_seq (md := .any) (Q' := Q) (l.drop n) n listed a' w' (fun j => by simp [List.getElem?_drop]) (by rw [hdl]; exact hL.1) (hL.2 w' hw')
    rwa [hdl] at this) _ _ _ _ hC H
  rw [htl, show n + (l.toArray.size - n) = l.toArray.size by omega] at this
  exact this
end
/-! ### The class: worlds that have grown, with nothing of what was there changed -/
structure Up (w0 : World) : Type where
  val : World
  ok : Below w0.heap.size w0 val
instance (w0 : World) : Nonempty (Up w0) := ⟨⟨w0, Below.refl _ _⟩⟩
theorem up_elim {w : World} {Q : World → Prop} (h : ∀ w', Below w.heap.size w w' → Q w') : ∀ w', (∃ g : Up w, w' = g.1) → Q w' := fun _ ⟨g, hg⟩ => hg ▸ h g.val g.ok
theorem Up.blk {w0 : World} (g : Up w0) {b : Nat} {o : Obj} (h : w0.heap[b]? = some o) : g.1.heap[b]? = some o :=
  (g.ok.block b (Array.getElem?_eq_some_iff.1 h).1).trans h
theorem Up.calls {P : Program} {f : FuncId} {args : Array Value} {w0 : World} (g : Up w0) {v : Value}
    (h : Calls P f args g.1 fun e w' => e = .returned v ∧ Below g.1.heap.size g.1 w') : Calls P f args g.1 fun e w' => e = .returned v ∧ ∃ g' : Up w0, w' = g'.1 :=
  h.mono fun _ w' ⟨he, hb⟩ => ⟨he, ⟨⟨w', g.ok.trans (hb.mono g.ok.size)⟩, rfl⟩⟩
theorem Up.calls_same {P : Program} {f : FuncId} {args : Array Value} {w0 : World} (g : Up w0) {v : Value}
    (h : Calls P f args g.1 fun e w' => e = .returned v ∧ g.1 = w') : Calls P f args g.1 fun e w' => e = .returned v ∧ ∃ g' : Up w0, w' = g'.1 :=
  h.mono fun _ _ ⟨he, hb⟩ => ⟨he, ⟨g, hb.symm⟩⟩
theorem wp_region_up {P : Program} {id : Nat} {Q : Exit → Act → World → Prop} {a : Act} {w : World} {l : List Oper} (hm : P.follows .mixedOrders = true) (hB : Region.lexB .any l.toArray = true)
    (h : wpQuiet P l.toArray (fun w' => ∃ g : Up w, w' = g.1) (fun a' => ∀ w', (∃ g : Up w, w' = g.1) → Q .normal a' w') l a) : (Code.region id l.toArray true).wp P Q a w :=
  wp_region_quiet (C := fun w' => ∃ g : Up w, w' = g.1) hm hB ⟨⟨_, (Below.refl _ w).drew⟩, rfl⟩ (by simpa using h)
theorem wp_region_up_tail {P : Program} {id : Nat} {Q : Exit → Act → World → Prop} {a : Act} {w : World} {l : List Oper} (n : Nat) (hm : P.follows .mixedOrders = true) (hB : Region.lexTailB .any l.toArray n = true)
    (h : wpQuiet P l.toArray (fun w' => ∃ g : Up w, w' = g.1) (fun a' => ∀ w', (∃ g : Up w, w' = g.1) → wpList P l.toArray Q (l.drop n) a' w') (l.take n) a) : (Code.region id l.toArray true).wp P Q a w :=
  wp_region_quiet_tail (C := fun w' => ∃ g : Up w, w' = g.1) n hm hB ⟨⟨_, (Below.refl _ w).drew⟩, rfl⟩ h
/-! ### What was there when a call began stays as it was -/
theorem bl_refl (w : World) : Below w.heap.size w w := Below.refl _ _
theorem bl_then {w0 w w1 : World} (h : Below w0.heap.size w0 w) (k : Below w.heap.size w w1) : Below w0.heap.size w0 w1 := h.trans (k.mono h.size)
theorem bl_alloc {w0 w : World} (h : Below w0.heap.size w0 w) (o : Obj) : Below w0.heap.size w0 (w.alloc o) := h.alloc h.size o
theorem bl_drew {w0 w : World} (h : Below w0.heap.size w0 w) : Below w0.heap.size w0 w.drew := h.drew
theorem bl_up {w0 w : World} (h : Below w0.heap.size w0 w) (g : Up w) : Below w0.heap.size w0 g.val := bl_then h g.ok
theorem bl_set {w0 w : World} (h : Below w0.heap.size w0 w) {b i : Nat} (hp : w0.heap.size ≤ b) (v : Value) : Below w0.heap.size w0 (w.setCell ⟨b, i, none⟩ v) := h.setCell hp v
/-! ### A block that is known whole -/
abbrev Blk (w : World) (b : Nat) (cs : Array Value) (t : TypeId) : Prop := w.heap[b]? = some (.cells cs t (0, 0))
section
variable {w : World} {b g : Nat} {cs : Array Value} {t : TypeId}
theorem Blk.lt (h : Blk w b cs t) : b < w.heap.size := (Array.getElem?_eq_some_iff.1 h).1
theorem Blk.c (h : Blk w b cs t) : ∀ i, w.cell? ⟨b, i, none⟩ = cs[i]? := fun i => cell_of_row w b i cs t (0, 0) h
theorem Blk.f (h : Blk w b cs t) : ∀ i, w.frozen? ⟨b, i, none⟩ = false := fun i => by simp [World.frozen?, h]
theorem Blk.set (h : Blk w b cs t) (i : Nat) (u : Value) : Blk (w.setCell ⟨b, i, none⟩ u) b (cs.setIfInBounds i u) t := by
  simp [Blk, World.setCell, Array.getElem?_modify, h]
theorem Blk.far (h : Blk w b cs t) (hne : g ≠ b) (i : Nat) (u : Value) : Blk (w.setCell ⟨g, i, none⟩ u) b cs t := by
  show (w.setCell ⟨g, i, none⟩ u).heap[b]? = _
  rw [Below.heap_setCell _ _ _ _ (show b ≠ g from fun e => hne e.symm)]; exact h
theorem Blk.alloc (h : Blk w b cs t) (o : Obj) : Blk (w.alloc o) b cs t := (Below.heap_alloc w o b h.lt).trans h
theorem Blk.drew (h : Blk w b cs t) : Blk w.drew b cs t := h
theorem Blk.new (w : World) (cs : Array Value) (t : TypeId) : Blk (w.alloc (.cells cs t)) w.heap.size cs t := heap_alloc_new w _
theorem Blk.newAt {n : Nat} (h : w.heap.size = n) (cs : Array Value) (t : TypeId) : Blk (w.alloc (.cells cs t)) n cs t := h ▸ heap_alloc_new w _
theorem Blk.below {w1 : World} (h : Blk w b cs t) (hb : Below w.heap.size w w1) : Blk w1 b cs t := (hb.block b h.lt).trans h
theorem Blk.as {cs' : Array Value} (h : Blk w b cs t) (e : cs = cs') : Blk w b cs' t := e ▸ h
theorem Blk.ne {cs' : Array Value} {t' : TypeId} (h : Blk w b cs t) (h' : Blk w g cs' t') (ht : t ≠ t') : b ≠ g := fun e => by
  subst e
  have := h.symm.trans h'
  simp at this
  exact ht this.2
end
/-! ### What a call may have changed: the blocks of a list -/
structure Chg (F : List Nat) (w w' : World) : Prop where
  os : w'.os = w.os
  tape : w'.tape = w.tape
  output : w'.output = w.output
  size : w.heap.size ≤ w'.heap.size
  blk : ∀ k, k < w.heap.size → k ∉ F → w'.heap[k]? = w.heap[k]?
theorem Chg.refl (F : List Nat) (w : World) : Chg F w w := ⟨rfl, rfl, rfl, Nat.le_refl _, fun _ _ _ => rfl⟩
theorem Chg.of_below {w w1 : World} (h : Below w.heap.size w w1) (F : List Nat) : Chg F w w1 := ⟨h.os, h.tape, h.output, h.size, fun k hk _ => h.block k hk⟩
theorem Chg.trans {F G : List Nat} {w w1 w2 : World} (h : Chg F w w1) (k : Chg G w1 w2) (hs : ∀ b ∈ G, b ∈ F ∨ w.heap.size ≤ b) : Chg F w w2 :=
  ⟨k.os.trans h.os, k.tape.trans h.tape, k.output.trans h.output, Nat.le_trans h.size k.size, fun i hi hn =>
    (k.blk i (Nat.lt_of_lt_of_le hi h.size) (fun hg => (hs i hg).elim hn (fun hle => absurd hi (Nat.not_lt.2 hle)))).trans (h.blk i hi hn)⟩
theorem Chg.then {F : List Nat} {w w1 w2 : World} (h : Chg F w w1) (k : Chg F w1 w2) : Chg F w w2 := h.trans k fun _ hb => .inl hb
theorem Chg.more {F G : List Nat} {w w1 : World} (h : Chg F w w1) (hs : ∀ b ∈ F, b ∈ G) : Chg G w w1 := ⟨h.os, h.tape, h.output, h.size, fun k hk hn => h.blk k hk (fun hf => hn (hs k hf))⟩
theorem Chg.alloc {F : List Nat} {w w1 : World} (h : Chg F w w1) (o : Obj) : Chg F w (w1.alloc o) := h.then (.of_below ((Below.refl _ w1).alloc (Nat.le_refl _) o) F)
theorem Chg.drew {F : List Nat} {w w1 : World} (h : Chg F w w1) : Chg F w w1.drew := ⟨h.os, h.tape, h.output, h.size, h.blk⟩
theorem Chg.below {F : List Nat} {w w1 w2 : World} (h : Chg F w w1) (hb : Below w1.heap.size w1 w2) : Chg F w w2 := h.then (.of_below hb F)
theorem Chg.set {F : List Nat} {w w1 : World} (h : Chg F w w1) {b i : Nat} (hb : b ∈ F ∨ w.heap.size ≤ b) (v : Value) : Chg F w (w1.setCell ⟨b, i, none⟩ v) :=
  h.trans (G := [b]) ⟨rfl, rfl, rfl, by simp [World.setCell], fun k _ hn => Below.heap_setCell _ _ _ _ (by simpa using hn)⟩ (by simpa using hb)
theorem Chg.to_below {F : List Nat} {w w1 : World} (h : Chg F w w1) {B : Nat} (hB : B ≤ w.heap.size) (hF : ∀ b ∈ F, B ≤ b) : Below B w w1 :=
  ⟨h.os, h.tape, h.output, h.size, fun k hk => h.blk k (Nat.lt_of_lt_of_le hk hB) (fun hf => absurd hk (Nat.not_lt.2 (hF k hf)))⟩
theorem Blk.chg {F : List Nat} {w w1 : World} {b : Nat} {cs : Array Value} {t : TypeId} (h : Blk w b cs t) (hc : Chg F w w1) (hb : b ∉ F) : Blk w1 b cs t := (hc.blk b h.lt hb).trans h
theorem heap_set (w : World) (g i b : Nat) (u : Value) : (w.setCell ⟨g, i, none⟩ u).heap[b]? = if g = b then (match w.heap[b]? with | some (.cells c e f) => some (.cells (c.setIfInBounds i u) e f) | o => o) else w.heap[b]? := by
  simp only [World.setCell, Array.getElem?_modify]
  by_cases h : g = b
  · subst h
    simp only [if_true]
    cases w.heap[g]? with
    | none => rfl
    | some o => cases o <;> simp
  · simp [h]
/-! ### A result that lies in a block of its own, with others behind it -/
section
variable {P : Program} {fn : Func} {p u v : Tmp} {ty t : TypeId} {tmps : Array Value} {w : World} {g : Nat} {cs : Array Value} {d : TypeDesc}
def isAgg : TypeDesc → Bool
  | .struct _ | .array _ _ => true
  | _ => false
def Laid (P : Program) (ty : TypeId) (n : Nat) : Prop := (∃ d, P.underlying ty = some d ∧ isAgg d = true) ∧ (P.info? ty).map (·.size) = some n
theorem res_c (hr : fn.results = #[.cell p ty]) {n : Nat} (hl : Laid P ty n) (hp : tmps.getD p undef = .pointer (some ⟨g, 0, none⟩)) (hg : Blk w g cs t) (hn : cs.size = n) : (results fn tmps).run P w = .ok (.agg cs) w := by
  subst hn
  obtain ⟨⟨d, hu, hd⟩, hi⟩ := hl
  have e : tmps[p]?.getD undef = .pointer (some ⟨g, 0, none⟩) := by simpa using hp
  simp [results, hr, e, asAddr, run_loadVar_row w g t ty cs (0, 0) d hg hu (by cases d <;> first | rfl | (simp [isAgg] at hd)) hi]
theorem res_ct (hr : fn.results = #[.cell p ty, .tmp u]) {n : Nat} (hl : Laid P ty n) (hp : tmps.getD p undef = .pointer (some ⟨g, 0, none⟩)) (hg : Blk w g cs t) (hn : cs.size = n) : (results fn tmps).run P w = .ok (.tuple #[.agg cs, tmps.getD u undef]) w := by
  subst hn
  obtain ⟨⟨d, hu, hd⟩, hi⟩ := hl
  have e : tmps[p]?.getD undef = .pointer (some ⟨g, 0, none⟩) := by simpa using hp
  simp [results, hr, e, asAddr, run_loadVar_row w g t ty cs (0, 0) d hg hu (by cases d <;> first | rfl | (simp [isAgg] at hd)) hi]
theorem res_ctt (hr : fn.results = #[.cell p ty, .tmp u, .tmp v]) {n : Nat} (hl : Laid P ty n) (hp : tmps.getD p undef = .pointer (some ⟨g, 0, none⟩)) (hg : Blk w g cs t) (hn : cs.size = n) : (results fn tmps).run P w = .ok (.tuple #[.agg cs, tmps.getD u undef, tmps.getD v undef]) w := by
  subst hn
  obtain ⟨⟨d, hu, hd⟩, hi⟩ := hl
  have e : tmps[p]?.getD undef = .pointer (some ⟨g, 0, none⟩) := by simpa using hp
  simp [results, hr, e, asAddr, run_loadVar_row w g t ty cs (0, 0) d hg hu (by cases d <;> first | rfl | (simp [isAgg] at hd)) hi]
end
end Go.Proofs.YtcllbmjmefeknaaGreatK
