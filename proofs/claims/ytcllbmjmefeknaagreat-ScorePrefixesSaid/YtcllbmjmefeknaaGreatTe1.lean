/- A terminal: as plain data, and in memory. A terminal as plain data: its numbers stay in bounds; what it sends may go. What goes out of a terminal is a flag, and then frame behind frame (plain data). The walk of Post.bit: the next bit that goes out. The walk of Post.hear. -/
import Derived.Test.YtcllbmjmefeknaaGreatEa1
import Derived.Test.YtcllbmjmefeknaaGreatUni
import Derived.Test.YtcllbmjmefeknaaGreatLw0
import Derived.Test.YtcllbmjmefeknaaGreatPl1
import Derived.Deep.RegionHeld3
import Derived.Deep.RegionLaw
import Derived.Test.YtcllbmjmefeknaaGreatSta1
namespace Go.Proofs.YtcllbmjmefeknaaGreatK
/-! ### A terminal: as plain data, and in memory. -/
section
open Go Go.RowKit
set_option linter.unusedVariables false
set_option maxHeartbeats 1000000
set_option maxRecDepth 100000
/-! ### As plain data -/
structure Po where
  x : St
  e : Er
  out : List Bool
  nx : Oct × Int
  gone : Int
  came : Int
  sent : List (Oct × Int)
  got : List ((Int × Oct) × Int)
  s : Su
def Po.hears (x : St) (h : Int × Oct) : St := if h.1 = 0 then (if (decU h.2).2 = 0 then x.hear (decU h.2).1 else x.count true) else x.count true
def Po.inB (p : Po) (on : Bool) : Po :=
  match (p.e.bit on).2 with
  | none => { p with came := p.came + 1, e := (p.e.bit on).1 }
  | some h => { p with came := p.came + 1, e := (p.e.bit on).1, got := p.got ++ [(h, p.came + 1)], x := Po.hears p.x h }
def Po.load (p : Po) : Po := if p.out = [] then { p with x := p.x.next.1, out := frameB (encU p.x.next.2), nx := (encU p.x.next.2, p.gone + (frameB (encU p.x.next.2)).length) } else p
def Po.shift (p : Po) : Po := { p with out := p.out.tail, gone := p.gone + 1, sent := if p.out.tail = [] ∧ p.nx.1 ≠ [] then p.sent ++ [p.nx] else p.sent }
def Po.outB (p : Po) : Po × Bool := (p.load.shift, p.load.out.headD false)
def Po.outs : Nat → Po → Po × List Bool
  | 0, p => (p, [])
  | n + 1, p => ((Po.outs n p.outB.1).1, p.outB.2 :: (Po.outs n p.outB.1).2)
def Po.first (p : Po) : Po := { p with x := p.x.tick, sent := [], got := [] }
def Po.tick (p : Po) (l : List Bool) : Po × List Bool := Po.outs 8 (l.foldl Po.inB p.first)
def Po.new (s : Su) : Po := ⟨St.new s, ⟨[], 0, false, 0⟩, flagB, ([], 0), 0, 0, [], [], s⟩
/-! ### Rows of what was sent, and what came -/
def snCells : List ((Oct × Int) × Value) → List Value
  | [] => []
  | (t, v) :: l => v :: .int .i64 t.2 :: snCells l
theorem snCells_append (a b : List ((Oct × Int) × Value)) : snCells (a ++ b) = snCells a ++ snCells b := by
  induction a with
  | nil => rfl
  | cons x a ih => obtain ⟨t, v⟩ := x; simp [snCells, ih]
theorem snCells_length (a : List ((Oct × Int) × Value)) : (snCells a).length = a.length * 2 := by
  induction a with
  | nil => rfl
  | cons x a ih => obtain ⟨t, v⟩ := x; simp [snCells, ih]; omega
theorem snCells_get (a : List ((Oct × Int) × Value)) (j : Nat) (h : j < a.length) : (snCells a)[2 * j]? = some a[j].2 ∧ (snCells a)[2 * j + 1]? = some (.int .i64 a[j].1.2) := by
  induction a generalizing j with
  | nil => simp at h
  | cons x a ih =>
    obtain ⟨t, v⟩ := x
    cases j with
    | zero => simp [snCells]
    | succ j =>
      have := ih j (by simpa using h)
      simp only [List.getElem_cons_succ]
      rw [show 2 * (j + 1) = 2 * j + 2 by omega]
      simpa [snCells] using this
def Sents (w : World) (v : Value) (l : List (Oct × Int)) : Prop :=
  ∃ ps : List ((Oct × Int) × Value), ps.map (·.1) = l ∧ Row w 150 2 v l.length (snCells ps) ∧ ∀ p ∈ ps, BytV w p.2 p.1.1
theorem Sents.nil {w : World} : Sents w nil0 [] := ⟨[], rfl, Row.nil _ _ _, by simp⟩
theorem Sents.far {w w1 : World} {v : Value} {l : List (Oct × Int)} {F : List Nat} (h : Sents w v l) (h0 : Off w 5 F) (h1 : ∀ g ∈ own v, g ∉ F) (hc : Chg F w w1) : Sents w1 v l := by
  obtain ⟨ps, e, r, q⟩ := h
  exact ⟨ps, e, r.chg hc h1, fun p hp => (q p hp).stay h0 hc⟩
theorem Sents.row {w : World} {v : Value} {l : List (Oct × Int)} (h : Sents w v l) : ∃ xs, Row w 150 2 v l.length xs := ⟨_, h.choose_spec.2.1⟩
theorem Sents.shape {w : World} {v : Value} {l : List (Oct × Int)} (h : Sents w v l) : ∃ a cap, v = .slice a l.length cap ∧ l.length ≤ cap := h.choose_spec.2.1.shape
def cmCells : List (((Int × Oct) × Int) × Value) → List Value
  | [] => []
  | (t, v) :: l => .int .u8 t.1.1 :: v :: .int .i64 t.2 :: cmCells l
theorem cmCells_append (a b : List (((Int × Oct) × Int) × Value)) : cmCells (a ++ b) = cmCells a ++ cmCells b := by
  induction a with
  | nil => rfl
  | cons x a ih => obtain ⟨t, v⟩ := x; simp [cmCells, ih]
theorem cmCells_length (a : List (((Int × Oct) × Int) × Value)) : (cmCells a).length = a.length * 3 := by
  induction a with
  | nil => rfl
  | cons x a ih => obtain ⟨t, v⟩ := x; simp [cmCells, ih]; omega
theorem cmCells_get (a : List (((Int × Oct) × Int) × Value)) (j : Nat) (h : j < a.length) : (cmCells a)[3 * j]? = some (.int .u8 a[j].1.1.1) ∧ (cmCells a)[3 * j + 1]? = some a[j].2 ∧ (cmCells a)[3 * j + 2]? = some (.int .i64 a[j].1.2) := by
  induction a generalizing j with
  | nil => simp at h
  | cons x a ih =>
    obtain ⟨t, v⟩ := x
    cases j with
    | zero => simp [cmCells]
    | succ j =>
      have := ih j (by simpa using h)
      simp only [List.getElem_cons_succ]
      rw [show 3 * (j + 1) = 3 * j + 3 by omega]
      simpa [cmCells] using this
def Cames (w : World) (v : Value) (l : List ((Int × Oct) × Int)) : Prop :=
  ∃ ps : List (((Int × Oct) × Int) × Value), ps.map (·.1) = l ∧ Row w 179 3 v l.length (cmCells ps) ∧ ∀ p ∈ ps, BytV w p.2 p.1.1.2
theorem Cames.nil {w : World} : Cames w nil0 [] := ⟨[], rfl, Row.nil _ _ _, by simp⟩
theorem Cames.far {w w1 : World} {v : Value} {l : List ((Int × Oct) × Int)} {F : List Nat} (h : Cames w v l) (h0 : Off w 5 F) (h1 : ∀ g ∈ own v, g ∉ F) (hc : Chg F w w1) : Cames w1 v l := by
  obtain ⟨ps, e, r, q⟩ := h
  exact ⟨ps, e, r.chg hc h1, fun p hp => (q p hp).stay h0 hc⟩
theorem Cames.row {w : World} {v : Value} {l : List ((Int × Oct) × Int)} (h : Cames w v l) : ∃ xs, Row w 179 3 v l.length xs := ⟨_, h.choose_spec.2.1⟩
theorem Cames.shape {w : World} {v : Value} {l : List ((Int × Oct) × Int)} (h : Cames w v l) : ∃ a cap, v = .slice a l.length cap ∧ l.length ≤ cap := h.choose_spec.2.1.shape
/-! ### In memory -/
structure PoL where
  bx : Nat
  L : Lay
  vin : Value
  vo : Value
  vn : Value
  vs : Value
  vg : Value
abbrev Po.cells (p : Po) (L : PoL) : Array Value := #[.pointer (some ⟨L.bx, 0, none⟩), L.vin, .int .i64 p.e.ones, .bool p.e.found, .int .i64 p.e.n, L.vo, L.vn, .int .i64 p.nx.2, .int .i64 p.gone, .int .i64 p.came, L.vs, L.vg,
  .bool p.s.cyc, .int .i64 p.s.n1, .int .i64 p.s.n2, .int .i64 p.s.hd, .int .i64 p.s.oc, .int .i64 p.s.t0, .int .i64 p.s.t1, .int .i64 p.s.t2, .int .i64 p.s.t3, .int .i64 p.s.t4, .int .i64 p.s.t5, .int .i64 p.s.t6, .int .i64 p.s.t7]
structure PoAt (w : World) (b : Nat) (p : Po) (L : PoL) : Prop where
  blk : Blk w b (p.cells L) 154
  lk : StAt w L.bx p.x L.L
  inn : BitV w L.vin p.e.inn
  out : BitV w L.vo p.out
  nx : BytV w L.vn p.nx.1
  nn : p.nx.1 = [] → L.vn = .slice none 0 0
  sn : Sents w L.vs p.sent
  gt : Cames w L.vg p.got
  io : ∀ k ∈ own L.vin, k ∉ own L.vo
abbrev poF (b : Nat) (L : PoL) : List Nat := [b] ++ (stF L.bx L.L ++ (own L.vin ++ (own L.vo ++ (own L.vs ++ own L.vg))))
abbrev linkT : List TypeId := [62] ++ ([234, 210] ++ ([236] ++ ([262, 260] ++ ([200, 25, 25] ++ [94]))))
abbrev postT : List TypeId := [154] ++ (linkT ++ ([4] ++ ([4] ++ ([150] ++ [179]))))
theorem mem6 {k b : Nat} {A B C D E : List Nat} : k ∈ [b] ++ (A ++ (B ++ (C ++ (D ++ E)))) ↔ k = b ∨ k ∈ A ∨ k ∈ B ∨ k ∈ C ∨ k ∈ D ∨ k ∈ E := by simp
section
variable {w w1 : World} {b : Nat} {p : Po} {L : PoL}
theorem Row.typed1 {e : TypeId} {sz n : Nat} {v : Value} {xs : List Value} (h : Row w e sz v n xs) : Typed w (own v) [e] := Typed.row h
theorem PoAt.typed (h : PoAt w b p L) : Typed w (poF b L) postT := by
  obtain ⟨x1, r1⟩ := h.sn.row
  obtain ⟨x2, r2⟩ := h.gt.row
  exact (Typed.one h.blk).app (h.lk.typed.app ((Typed.row h.inn).app ((Typed.row h.out).app ((Typed.row r1).app (Typed.row r2)))))
theorem PoAt.lt (h : PoAt w b p L) : ∀ k ∈ poF b L, k < w.heap.size := fun k hk => by
  obtain ⟨cs, t, h1, _⟩ := h.typed k hk
  exact h1.lt
theorem Typed.disj {F G : List Nat} {ts us : List TypeId} (h : Typed w F ts) (k : Typed w G us) (hd : ∀ t ∈ ts, t ∉ us) : ∀ g ∈ F, g ∉ G := fun g hg hg2 => by
  obtain ⟨cs, t, h1, h2⟩ := h g hg
  obtain ⟨cs', u, h3, h4⟩ := k g hg2
  by_cases e : t = u
  · exact hd t h2 (e ▸ h4)
  · exact h1.ne h3 e rfl
theorem Row.keep {e : TypeId} {sz n : Nat} {v : Value} {xs : List Value} {F : List Nat} (h : Row w e sz v n xs) (o : Off w e F) (hc : Chg F w w1) : Row w1 e sz v n xs := h.chg hc fun g hg => by
  obtain ⟨cs, h1⟩ := h.blk g hg
  exact o.notin h1
theorem StAt.keep {x : St} {M : Lay} {F : List Nat} {us : List TypeId} (h : StAt w b x M) (T : Typed w F us) (h0 : 5 ∉ us) (hd : ∀ t ∈ linkT, t ∉ us) (hc : Chg F w w1) : StAt w1 b x M :=
  h.far (T.off h0) (h.typed.disj T hd) hc
theorem Sents.keep {v : Value} {l : List (Oct × Int)} {F : List Nat} (h : Sents w v l) (h0 : Off w 5 F) (h1 : Off w 150 F) (hc : Chg F w w1) : Sents w1 v l := by
  obtain ⟨xs, r⟩ := h.row
  exact h.far h0 (fun g hg => by obtain ⟨cs, b1⟩ := r.blk g hg; exact h1.notin b1) hc
theorem Cames.keep {v : Value} {l : List ((Int × Oct) × Int)} {F : List Nat} (h : Cames w v l) (h0 : Off w 5 F) (h1 : Off w 179 F) (hc : Chg F w w1) : Cames w1 v l := by
  obtain ⟨xs, r⟩ := h.row
  exact h.far h0 (fun g hg => by obtain ⟨cs, b1⟩ := r.blk g hg; exact h1.notin b1) hc
/-- Nothing of it is changed. -/
theorem PoAt.far {F : List Nat} (h : PoAt w b p L) (h0 : Off w 5 F) (hn : ∀ k ∈ poF b L, k ∉ F) (hc : Chg F w w1) : PoAt w1 b p L :=
  ⟨h.blk.chg hc (hn _ (mem6.2 (.inl rfl))), h.lk.far h0 (fun k hk => hn k (mem6.2 (.inr (.inl hk)))) hc, Row.chg h.inn hc (fun k hk => hn k (mem6.2 (.inr (.inr (.inl hk))))),
    Row.chg h.out hc (fun k hk => hn k (mem6.2 (.inr (.inr (.inr (.inl hk)))))), h.nx.stay h0 hc, h.nn, h.sn.far h0 (fun k hk => hn k (mem6.2 (.inr (.inr (.inr (.inr (.inl hk))))))) hc,
    h.gt.far h0 (fun k hk => hn k (mem6.2 (.inr (.inr (.inr (.inr (.inr hk))))))) hc, h.io⟩
theorem PoAt.below (h : PoAt w b p L) (hb : Below w.heap.size w w1) : PoAt w1 b p L := h.far (F := []) (by simp [Off]) (by simp) (.of_below hb [])
/-- Its link is another one. -/
theorem PoAt.byX (h : PoAt w b p L) {x : St} {M : Lay} (hx : StAt w1 L.bx x M) (G : Chg (stF L.bx L.L) w w1) : PoAt w1 b { p with x := x } { L with L := M } := by
  have T := h.lk.typed
  exact ⟨h.blk.keep (T.off (by decide)) G, hx, Row.keep h.inn (T.off (by decide)) G, Row.keep h.out (T.off (by decide)) G, h.nx.stay (T.off (by decide)) G, h.nn, h.sn.keep (T.off (by decide)) (T.off (by decide)) G, h.gt.keep (T.off (by decide)) (T.off (by decide)) G, h.io⟩
theorem PoAt.ear (h : PoAt w b p L) : EarAt w b 154 (p.cells L) 1 L.vin p.e := ⟨h.blk, ⟨rfl, rfl, rfl, rfl⟩, h.inn, by decide⟩
/-- Its ear is another one. -/
theorem PoAt.byE (h : PoAt w b p L) {e : Er} {vin : Value} {cs : Array Value} (E : EarAt w1 b 154 cs 1 vin e) (O : Only (p.cells L) cs 1) (G : Chg (b :: own L.vin) w w1) (N : ∀ g ∈ own vin, g ∈ own L.vin ∨ w.heap.size ≤ g) : PoAt w1 b { p with e := e } { L with vin := vin } := by
  have T : Typed w (b :: own L.vin) ([154] ++ [4]) := (Typed.one h.blk).app (Typed.row h.inn)
  have hcs : cs = Po.cells { p with e := e } { L with vin := vin } := by
    refine Array.ext_getElem? fun j => ?_
    rcases (by omega : j = 1 ∨ j = 2 ∨ j = 3 ∨ j = 4 ∨ (j < 1 ∨ 1 + 4 ≤ j)) with rfl | rfl | rfl | rfl | hj
    · exact E.c.c0
    · exact E.c.c1
    · exact E.c.c2
    · exact E.c.c3
    · rw [O.rest j hj]
      rcases hj with hj | hj
      · obtain rfl : j = 0 := by omega
        rfl
      · obtain ⟨k, rfl⟩ : ∃ k, j = k + 5 := ⟨j - 5, by omega⟩
        simp [Po.cells]
  refine ⟨E.blk.as hcs, h.lk.keep T (by decide) (by decide) G, E.bits, Row.chg h.out G (fun k hk hF => ?_), h.nx.stay (T.off (by decide)) G, h.nn, h.sn.keep (T.off (by decide)) (T.off (by decide)) G, h.gt.keep (T.off (by decide)) (T.off (by decide)) G, fun k hk hk2 => ?_⟩
  · rcases List.mem_cons.1 hF with rfl | hF
    · obtain ⟨cs9, h9⟩ := Row.blk h.out _ hk
      exact h.blk.ne h9 (by decide) rfl
    · exact h.io k hF hk
  · rcases N k hk with h9 | h9
    · exact h.io k h9 hk2
    · have := Row.lt h.out k hk2
      omega
/-- Its own cells are others, what goes, what was sent, what came. -/
theorem PoAt.byP (h : PoAt w b p L) {out : List Bool} {nx : Oct × Int} {gone came : Int} {sent : List (Oct × Int)} {got : List ((Int × Oct) × Int)} {vo vn vs vg : Value} {F : List Nat}
    (B : Blk w1 b (Po.cells { p with out := out, nx := nx, gone := gone, came := came, sent := sent, got := got } { L with vo := vo, vn := vn, vs := vs, vg := vg }) 154) (G : Chg F w w1) (T : Typed w F [154, 150, 179])
    (O : BitV w1 vo out) (N : BytV w1 vn nx.1) (nn : nx.1 = [] → vn = .slice none 0 0) (S : Sents w1 vs sent) (C : Cames w1 vg got) (io : ∀ k ∈ own vo, k ∈ own L.vo ∨ w.heap.size ≤ k) :
    PoAt w1 b { p with out := out, nx := nx, gone := gone, came := came, sent := sent, got := got } { L with vo := vo, vn := vn, vs := vs, vg := vg } :=
  ⟨B, h.lk.keep T (by decide) (by decide) G, Row.keep h.inn (T.off (by decide)) G, O, N, nn, S, C, fun k hk hk2 => by
    rcases io k hk2 with h9 | h9
    · exact h.io k hk h9
    · have := Row.lt h.inn k hk
      omega⟩
end
/-- What an operation on a terminal leaves. -/
def PoTo (w w' : World) (b : Nat) (p : Po) (L : PoL) : Prop := ∃ L', PoAt w' b p L' ∧ L'.bx = L.bx ∧ Chg (poF b L) w w' ∧ ∀ k ∈ poF b L', k ∈ poF b L ∨ w.heap.size ≤ k
theorem PoTo.same {w : World} {b : Nat} {p : Po} {L : PoL} (h : PoAt w b p L) : PoTo w w b p L := ⟨L, h, rfl, Chg.refl _ _, fun _ hk => .inl hk⟩
theorem PoTo.below {w w' : World} {b : Nat} {p : Po} {L : PoL} (h : PoAt w b p L) (hb : Below w.heap.size w w') : PoTo w w' b p L := ⟨L, h.below hb, rfl, Chg.of_below hb _, fun _ hk => .inl hk⟩
theorem PoTo.then {w w1 w2 : World} {b : Nat} {p q : Po} {L : PoL} (h : PoTo w w1 b p L) (k : ∀ L1, PoAt w1 b p L1 → PoTo w1 w2 b q L1) : PoTo w w2 b q L := by
  obtain ⟨L1, h1, e1, G1, O1⟩ := h
  obtain ⟨L2, h2, e2, G2, O2⟩ := k L1 h1
  refine ⟨L2, h2, e2.trans e1, G1.trans G2 O1, fun k hk => ?_⟩
  rcases O2 k hk with h | h
  · exact O1 k h
  · exact .inr (Nat.le_trans G1.size h)
theorem poF_x {b : Nat} {L : PoL} {k : Nat} (h : k ∈ stF L.bx L.L) : k ∈ poF b L := mem6.2 (.inr (.inl h))
theorem PoTo.byX {w w1 : World} {b : Nat} {p : Po} {L : PoL} (h : PoAt w b p L) {x : St} (k : StTo w w1 L.bx x L.L) : PoTo w w1 b { p with x := x } L := by
  obtain ⟨M, S, G, O⟩ := k
  refine ⟨{ L with L := M }, h.byX S G, rfl, G.more (fun k hk => poF_x hk), fun k hk => ?_⟩
  rw [mem6] at hk ⊢
  rcases hk with hk | hk | hk
  · exact .inl (.inl hk)
  · rcases O k hk with h9 | h9
    · exact .inl (.inr (.inl h9))
    · exact .inr h9
  · exact .inl (.inr (.inr hk))
theorem PoTo.byE {w w1 : World} {b : Nat} {p : Po} {L : PoL} (h : PoAt w b p L) {e : Er} (k : EarTo w w1 b 154 (p.cells L) 1 L.vin e) : PoTo w w1 b { p with e := e } L := by
  obtain ⟨vin, cs, E, O, G, N⟩ := k
  refine ⟨{ L with vin := vin }, h.byE E O G N, rfl, G.more (fun k hk => ?_), fun k hk => ?_⟩
  · rw [mem6]
    rcases List.mem_cons.1 hk with hk | hk
    · exact .inl hk
    · exact .inr (.inr (.inl hk))
  · rw [mem6] at hk ⊢
    rcases hk with hk | hk | hk | hk
    · exact .inl (.inl hk)
    · exact .inl (.inr (.inl hk))
    · rcases N k hk with h9 | h9
      · exact .inl (.inr (.inr (.inl h9)))
      · exact .inr h9
    · exact .inl (.inr (.inr (.inr hk)))
theorem PoTo.byP {w w1 : World} {b : Nat} {p : Po} {L : PoL} (h : PoAt w b p L) {out : List Bool} {nx : Oct × Int} {gone came : Int} {sent : List (Oct × Int)} {got : List ((Int × Oct) × Int)} {vo vn vs vg : Value} {F : List Nat}
    (B : Blk w1 b (Po.cells { p with out := out, nx := nx, gone := gone, came := came, sent := sent, got := got } { L with vo := vo, vn := vn, vs := vs, vg := vg }) 154) (G : Chg F w w1) (T : Typed w F [154, 150, 179]) (hF : ∀ k ∈ F, k ∈ poF b L)
    (O : BitV w1 vo out) (N : BytV w1 vn nx.1) (nn : nx.1 = [] → vn = .slice none 0 0) (S : Sents w1 vs sent) (C : Cames w1 vg got) (io : ∀ k ∈ own vo, k ∈ own L.vo ∨ w.heap.size ≤ k) (is : ∀ k ∈ own vs, k ∈ own L.vs ∨ w.heap.size ≤ k) (ig : ∀ k ∈ own vg, k ∈ own L.vg ∨ w.heap.size ≤ k) :
    PoTo w w1 b { p with out := out, nx := nx, gone := gone, came := came, sent := sent, got := got } L := by
  refine ⟨{ L with vo := vo, vn := vn, vs := vs, vg := vg }, h.byP B G T O N nn S C io, rfl, G.more hF, fun k hk => ?_⟩
  rw [mem6] at hk ⊢
  rcases hk with hk | hk | hk | hk | hk | hk
  · exact .inl (.inl hk)
  · exact .inl (.inr (.inl hk))
  · exact .inl (.inr (.inr (.inl hk)))
  · rcases io k hk with h9 | h9
    · exact .inl (.inr (.inr (.inr (.inl h9))))
    · exact .inr h9
  · rcases is k hk with h9 | h9
    · exact .inl (.inr (.inr (.inr (.inr (.inl h9)))))
    · exact .inr h9
  · rcases ig k hk with h9 | h9
    · exact .inl (.inr (.inr (.inr (.inr (.inr h9)))))
    · exact .inr h9
end
/-! ### A terminal as plain data: its numbers stay in bounds; what it sends may go. -/
section
open Go Go.RowKit
set_option linter.unusedVariables false
/-! ### What a link sends -/
structure Un.good (u : Un) : Prop where
  bsn : 0 ≤ u.bsn ∧ u.bsn ≤ 127
  fsn : 0 ≤ u.fsn ∧ u.fsn ≤ 127
  kind : 0 ≤ u.kind ∧ u.kind ≤ 2
  status : 0 ≤ u.status ∧ u.status ≤ 7
  info : u.kind = 2 → 3 ≤ u.info.length ∧ u.info.length ≤ 273
  len : u.info.length ≤ 273
  oct : isOct u.info
/-- What a link holds are octets. -/
def Ho.oct (h : Ho) : Prop := ∀ p ∈ h.sent ++ h.next, isOct p
theorem isOct_nil : isOct [] := fun x hx => by cases hx
theorem Ho.send_good {h : Ho} (hk : h.ok) (ho : h.oct) (e : h.send.2.2.2 = 0) : (0 ≤ h.send.2.1 ∧ h.send.2.1 ≤ 127) ∧ (3 ≤ h.send.2.2.1.length ∧ h.send.2.2.1.length ≤ 273) ∧ isOct h.send.2.2.1 := by
  obtain ⟨most, oc, sent, first, next⟩ := h
  unfold Ho.send at e ⊢
  cases next with
  | nil => cases e
  | cons p r =>
    dsimp only at e ⊢
    split at e
    · cases e
    · rename_i h1
      rw [if_neg h1]
      dsimp only [Ho.last]
      exact ⟨by omega, hk.long p (by simp), ho p (by simp)⟩
theorem Ho.at_good {h : Ho} (hk : h.ok) (ho : h.oct) {i : Int} (e : (h.at i).2.2 = 0) : (0 ≤ (h.at i).1 ∧ (h.at i).1 ≤ 127) ∧ (3 ≤ (h.at i).2.1.length ∧ (h.at i).2.1.length ≤ 273) ∧ isOct (h.at i).2.1 := by
  have hl := Ho.at_lt e
  unfold Ho.at
  rw [if_pos hl]
  dsimp only
  have hlt : i.toNat < h.sent.length := by omega
  have hm : h.sent.getD i.toNat [] ∈ h.sent := by
    rw [List.getD_eq_getElem?_getD, List.getElem?_eq_getElem hlt]
    exact List.getElem_mem hlt
  exact ⟨by omega, hk.lons _ hm, ho _ (List.mem_append_left _ hm)⟩
theorem Ho.send_oct {h : Ho} (ho : h.oct) : h.send.1.oct := by
  obtain ⟨most, oc, sent, first, next⟩ := h
  unfold Ho.send
  cases next with
  | nil => exact ho
  | cons p r =>
    dsimp only
    split
    · exact ho
    · intro q hq
      exact ho q (by simpa using hq)
theorem Ho.last_range (h : Ho) : 0 ≤ h.last ∧ h.last ≤ 127 := by unfold Ho.last; omega
theorem Bs.new_good {h : Ho} {x : Bs} (hk : h.ok) (ho : h.oct) (hx : x.ok) : (Bs.new h x).2.2.good ∧ (Bs.new h x).1.oct := by
  unfold Bs.new
  split
  · rename_i e
    obtain ⟨a, b, c⟩ := Ho.send_good hk ho e
    exact ⟨⟨hx.last, a, by simp [Bs.msg], by simp [Bs.msg], fun _ => b, b.2, c⟩, Ho.send_oct ho⟩
  · exact ⟨⟨hx.last, Ho.last_range _, by simp [Bs.head], by simp [Bs.head], by simp [Bs.head], by simp [Bs.head], isOct_nil⟩, Ho.send_oct ho⟩
theorem Bs.next_good {h : Ho} {x : Bs} (hk : h.ok) (ho : h.oct) (hx : x.ok) : (Bs.next h x).2.2.good ∧ (Bs.next h x).1.oct := by
  unfold Bs.next
  split
  · split
    · rename_i e
      obtain ⟨a, b, c⟩ := Ho.at_good hk ho e
      exact ⟨⟨hx.last, a, by simp [Bs.msg], by simp [Bs.msg], fun _ => b, b.2, c⟩, ho⟩
    · exact Bs.new_good hk ho ⟨hx.last, by dsimp only; omega⟩
  · exact Bs.new_good hk ho hx
theorem Cy.next_good {h : Ho} {x : Cy} (hk : h.ok) (ho : h.oct) (hx : x.ok) : (Cy.next h x).2.2.good ∧ (Cy.next h x).1.oct := by
  have h2 := Cy.ok_push (h := h) hx
  unfold Cy.next
  split
  · rename_i e
    obtain ⟨a, b, c⟩ := Ho.send_good hk ho e.2
    exact ⟨⟨hx.last, a, by simp [Cy.msg], by simp [Cy.msg], fun _ => b, b.2, c⟩, Ho.send_oct ho⟩
  · unfold Cy.old
    split
    · rename_i e
      obtain ⟨a, b, c⟩ := Ho.at_good hk ho e
      exact ⟨⟨h2.last, a, by simp [Cy.msg], by simp [Cy.msg], fun _ => b, b.2, c⟩, ho⟩
    · exact ⟨⟨h2.last, Ho.last_range _, by simp [Cy.head], by simp [Cy.head], by simp [Cy.head], by simp [Cy.head], isOct_nil⟩, ho⟩
theorem St.fill_good {x : St} (hw : x.w.ok) : x.fill.good := by
  unfold St.fill
  cases h : x.w with
  | bs q => rw [h] at hw; exact ⟨Bs.ok.last hw, Ho.last_range _, by simp [Wy.head, Bs.head], by simp [Wy.head, Bs.head], by simp [Wy.head, Bs.head], by simp [Wy.head, Bs.head], isOct_nil⟩
  | cy q => rw [h] at hw; exact ⟨Cy.ok.last hw, Ho.last_range _, by simp [Wy.head, Cy.head], by simp [Wy.head, Cy.head], by simp [Wy.head, Cy.head], by simp [Wy.head, Cy.head], isOct_nil⟩
theorem St.stat_good {x : St} (hw : x.w.ok) {i : Int} (hi : 0 ≤ i ∧ i ≤ 7) : (x.stat i).good := by
  have h := St.fill_good hw
  exact ⟨h.bsn, h.fsn, by simp [St.stat], hi, by simp [St.stat], h.len, h.oct⟩
theorem Al.sends_range (a : Al) : 0 ≤ a.sends ∧ a.sends ≤ 7 := by unfold Al.sends; repeat' split <;> omega
/-- What a link sends may go; what it holds stays octets. -/
theorem St.next_good {x : St} (hk : x.ok) (ho : x.h.oct) : x.next.2.good ∧ x.next.1.h.oct := by
  unfold St.next
  split
  · exact ⟨St.stat_good hk.w (Al.sends_range _), ho⟩
  split
  · exact ⟨St.fill_good hk.w, ho⟩
  split
  · split
    · exact ⟨St.stat_good hk.w (by decide), ho⟩
    · have hw := hk.w
      have h1 : (x.w.next x.h).2.2.good ∧ (x.w.next x.h).1.oct := by
        cases h : x.w with
        | bs q => rw [h] at hw; exact Bs.next_good hk.h ho hw
        | cy q => rw [h] at hw; exact Cy.next_good hk.h ho hw
      refine ⟨h1.1, ?_⟩
      have e : (((x.setH (x.w.next x.h).1).setW (x.w.next x.h).2.1).wait false).h = (x.w.next x.h).1 := by
        unfold St.wait St.setW St.setH
        repeat' split
        all_goals rfl
      rw [e]
      exact h1.2
  split
  · exact ⟨St.stat_good hk.w (by decide), ho⟩
  · exact ⟨St.fill_good hk.w, ho⟩
theorem Un.good.ok {u : Un} (h : u.good) : u.ok := ⟨⟨h.bsn.1, by have := h.bsn.2; omega⟩, ⟨h.fsn.1, by have := h.fsn.2; omega⟩, ⟨h.kind.1, by have := h.kind.2; omega⟩, ⟨h.status.1, by have := h.status.2; omega⟩, by have := h.len; omega⟩
theorem Un.good.right {u : Un} (h : u.good) : rightU u = 0 := by
  have h1 := h.bsn
  have h2 := h.fsn
  have h3 := h.kind
  have h4 := h.status
  have h5 := h.info
  unfold rightU
  rw [if_neg (by omega), if_neg (fun k => by have := h5 k.1; omega), if_neg (fun k => by have := h5 k.1; omega)]
theorem bitU_range (n : Int) (on : Bool) : 0 ≤ bitU n on ∧ bitU n on ≤ 255 := by unfold bitU; split <;> omega
theorem Un.good.fits {u : Un} (h : u.good) : Fits (encU u) := by
  have hb : isOct (bodyU u) ∧ (bodyU u).length ≤ 273 := by
    unfold bodyU
    split
    · split
      · refine ⟨fun x hx => ?_, by simp⟩
        have := h.status
        simp only [List.mem_cons, List.not_mem_nil, or_false] at hx
        rcases hx with rfl | rfl <;> omega
      · refine ⟨fun x hx => ?_, by simp⟩
        have := h.status
        simp only [List.mem_cons, List.not_mem_nil, or_false] at hx
        subst hx
        omega
    · split
      · exact ⟨h.oct, h.len⟩
      · exact ⟨isOct_nil, by simp⟩
  refine ⟨fun x hx => ?_, by simp [encU], by simp [encU]; omega⟩
  rcases List.mem_append.1 hx with hx | hx
  · simp only [List.mem_cons, List.not_mem_nil, or_false] at hx
    rcases hx with rfl | rfl | rfl
    · exact bitU_range _ _
    · exact bitU_range _ _
    · unfold lenU
      split <;> omega
  · exact hb.1 x hx
/-! ### Bounds -/
structure Po.ok (p : Po) (n : Nat) : Prop where
  x : p.x.ok
  few : p.x.few n
  e : p.e.ok (n + 6)
  gone : 0 ≤ p.gone ∧ p.gone ≤ n
  came : 0 ≤ p.came ∧ p.came ≤ n
  out : p.out.length ≤ 3000
  sent : p.sent.length ≤ n
  got : p.got.length ≤ n
theorem Er.ok.le {e : Er} {m k : Nat} (h : e.ok m) (hk : m ≤ k) : e.ok k := ⟨by have := h.ones; omega, h.n, h.on, h.off⟩
theorem Po.ok.le {p : Po} {n m : Nat} (h : p.ok n) (hm : n ≤ m) : p.ok m := ⟨h.x, h.few.le (by omega), h.e.le (by omega), by have := h.gone; omega, by have := h.came; omega, h.out, by have := h.sent; omega, by have := h.got; omega⟩
theorem dec_ok (p : Oct) : (decU p).1.ok := by
  have z : Un.nil.ok := ⟨by decide, by decide, by decide, by decide, by decide⟩
  unfold decU
  refine ite_p (fun r : Un × Int => r.1.ok) (fun _ => z) (fun h1 => ite_p (fun r : Un × Int => r.1.ok) (fun _ => z) (fun h2 => ite_p (fun r : Un × Int => r.1.ok) (fun _ => z) (fun _ => ite_p (fun r : Un × Int => r.1.ok) (fun _ => ?_) (fun _ => ite_p (fun r : Un × Int => r.1.ok) (fun _ => ?_) (fun _ => ?_)))))
  · exact ⟨by dsimp only; omega, by dsimp only; omega, by dsimp only; omega, by dsimp only; omega, by simp⟩
  · exact ⟨by dsimp only; omega, by dsimp only; omega, by dsimp only; omega, by dsimp only; omega, by simp⟩
  · exact ⟨by dsimp only; omega, by dsimp only; omega, by dsimp only; omega, by dsimp only; omega, by dsimp only; rw [List.length_drop]; omega⟩
theorem Po.ok_hears {x : St} {n : Int} (hk : x.ok) (hf : x.few n) (h : Int × Oct) : (Po.hears x h).ok ∧ (Po.hears x h).few (n + 6) := by
  unfold Po.hears
  repeat' split
  · exact ⟨St.ok_hear hk _, St.few_hear hf _⟩
  · exact ⟨St.ok_count hk _, (St.few_count hf _).le (by omega)⟩
  · exact ⟨St.ok_count hk _, (St.few_count hf _).le (by omega)⟩
theorem Po.ok_inB {p : Po} {n : Nat} (h : p.ok n) (on : Bool) : (p.inB on).ok (n + 6) := by
  have he := (Er.ok_bit h.e on (by omega)).le (k := n + 6 + 6) (by omega)
  have hx := Po.ok_hears h.x h.few
  have h1 := h.gone
  have h2 := h.came
  have h3 := h.sent
  have h4 := h.got
  unfold Po.inB
  cases (p.e.bit on).2 with
  | none => exact ⟨h.x, h.few.le (by omega), he, by dsimp only; omega, by dsimp only; omega, h.out, by dsimp only; omega, by dsimp only; omega⟩
  | some d => exact ⟨(hx d).1, (hx d).2.le (by omega), he, by dsimp only; omega, by dsimp only; omega, h.out, by dsimp only; omega, by simp; omega⟩
theorem Po.ok_ins {n : Nat} : ∀ (l : List Bool) {p : Po}, p.ok n → (l.foldl Po.inB p).ok (n + 6 * l.length)
  | [], _, h => h
  | b :: l, p, h => by
    have := Po.ok_ins l (Po.ok_inB h b)
    exact this.le (by simp; omega)
theorem Po.ok_first {p : Po} {n : Nat} (h : p.ok n) : p.first.ok (n + 8) := by
  have h1 := h.gone
  have h2 := h.came
  exact ⟨St.ok_tick h.x, (St.few_tick h.few).le (by omega), h.e.le (by omega), by dsimp only [Po.first]; omega, by dsimp only [Po.first]; omega, h.out, by simp [Po.first], by simp [Po.first]⟩
theorem frameB_len {p : Oct} (h : Fits p) : 8 ≤ (frameB p).length ∧ (frameB p).length ≤ 2686 := by
  obtain ⟨s, e, _, _, hl, _⟩ := h.body
  rw [e]
  simp [flagB]
  omega
theorem Po.ok_load {p : Po} {n : Nat} (h : p.ok n) (ho : p.x.h.oct) : p.load.ok n ∧ p.load.x.h.oct ∧ p.load.out ≠ [] := by
  unfold Po.load
  split
  · obtain ⟨g, o⟩ := St.next_good h.x ho
    have hl := frameB_len g.fits
    refine ⟨⟨St.ok_next h.x, St.few_next h.few, h.e, h.gone, h.came, by dsimp only; omega, h.sent, h.got⟩, o, ?_⟩
    intro h0
    dsimp only at h0
    rw [h0] at hl
    simp at hl
  · rename_i h0
    exact ⟨h, ho, h0⟩
theorem Po.ok_shift {p : Po} {n : Nat} (h : p.ok n) : p.shift.ok (n + 1) := by
  have h1 := h.gone
  have h2 := h.came
  have h3 := h.sent
  have h4 := h.got
  refine ⟨h.x, h.few.le (by omega), h.e.le (by omega), by dsimp only [Po.shift]; omega, by dsimp only [Po.shift]; omega, ?_, ?_, by dsimp only [Po.shift]; omega⟩
  · have := h.out
    simp [Po.shift]; omega
  · simp only [Po.shift]
    split
    · simp; omega
    · omega
theorem Po.ok_outB {p : Po} {n : Nat} (h : p.ok n) (ho : p.x.h.oct) : p.outB.1.ok (n + 1) ∧ p.outB.1.x.h.oct :=
  ⟨Po.ok_shift (Po.ok_load h ho).1, (Po.ok_load h ho).2.1⟩
theorem Po.ok_outs : ∀ (k : Nat) {n : Nat} {p : Po}, p.ok n → p.x.h.oct → (Po.outs k p).1.ok (n + k) ∧ (Po.outs k p).1.x.h.oct
  | 0, _, _, h, ho => ⟨h, ho⟩
  | k + 1, n, p, h, ho => by
    obtain ⟨a, b⟩ := Po.ok_outB h ho
    obtain ⟨c, d⟩ := Po.ok_outs k a b
    exact ⟨c.le (by omega), d⟩
theorem Po.ok_tick {p : Po} {n : Nat} (h : p.ok n) (l : List Bool) (hl : l.length = 8) (ho : (l.foldl Po.inB p.first).x.h.oct) : (p.tick l).1.ok (n + 64) := by
  have h1 := Po.ok_ins l (Po.ok_first h)
  exact (Po.ok_outs 8 h1 ho).1.le (by omega)
theorem Po.ok_new {s : Su} (h1 : s.hd ≤ 512) (h2 : s.oc ≤ 1048576) (h3 : s.n1 ≤ 1000000) (h4 : s.n2 ≤ 10000000) : (Po.new s).ok 0 :=
  ⟨St.ok_new h1 h2 h3 h4, ⟨by simp [Po.new, St.new], by simp [Po.new, St.new], by simp [Po.new, St.new]⟩, Er.ok_zero _, by simp [Po.new], by simp [Po.new], by show flagB.length ≤ 3000; decide, by simp [Po.new], by simp [Po.new]⟩
end
/-! ### What goes out of a terminal is a flag, and then frame behind frame (plain data). -/
section
open Go Go.RowKit
set_option linter.unusedVariables false
abbrev erz : Er := ⟨[], 0, false, 0⟩
def sentEv (S : List (Oct × Int)) : List ((Int × Oct) × Int) := S.map fun q => ((0, q.1), q.2)
theorem sentEv_app (S T : List (Oct × Int)) : sentEv (S ++ T) = sentEv S ++ sentEv T := by simp [sentEv]
/-- These bits went out of it, these units were told as sent. -/
structure Po.str (p : Po) (t : List Bool) (S : List (Oct × Int)) : Prop where
  gone : p.gone = t.length
  ear : (erz.run 0 t).2 = sentEv S
  now : (t ++ p.out = flagB ∧ p.out ≠ [] ∧ p.nx.1 = [] ∧ S = []) ∨ (p.out = [] ∧ (erz.run 0 t).1 = er0 ∧ 8 ≤ t.length) ∨
    (∃ t0 xs, t = t0 ++ xs ∧ (erz.run 0 t0).1 = er0 ∧ 8 ≤ t0.length ∧ xs ++ p.out = frameB p.nx.1 ∧ p.out ≠ [] ∧ Fits p.nx.1 ∧ p.nx.2 = t0.length + (frameB p.nx.1).length)
theorem Po.str_new (s : Su) : (Po.new s).str [] [] := ⟨rfl, rfl, .inl ⟨rfl, by show flagB ≠ []; decide, rfl, rfl⟩⟩
theorem Po.str_load {p : Po} {t : List Bool} {S : List (Oct × Int)} (h : p.str t S) (hk : p.x.ok) (ho : p.x.h.oct) : p.load.str t S := by
  unfold Po.load
  by_cases h0 : p.out = []
  · rw [if_pos h0]
    have hf := (St.next_good hk ho).1.fits
    have hl := frameB_len hf
    refine ⟨h.gone, h.ear, .inr (.inr ⟨t, [], by simp, ?_, ?_, by simp, ?_, hf, by dsimp only; rw [h.gone]⟩)⟩
    · rcases h.now with ⟨_, h1, _⟩ | ⟨_, h1, _⟩ | ⟨_, _, _, _, _, _, h1, _⟩
      · exact absurd h0 h1
      · exact h1
      · exact absurd h0 h1
    · rcases h.now with ⟨_, h1, _⟩ | ⟨_, _, h1⟩ | ⟨_, _, _, _, _, _, h1, _⟩
      · exact absurd h0 h1
      · exact h1
      · exact absurd h0 h1
    · intro h1
      dsimp only at h1
      rw [h1] at hl
      simp at hl
  · rw [if_neg h0]
    exact h
theorem Er.run_snoc (t : List Bool) (b : Bool) : (erz.run 0 (t ++ [b])).2 = (erz.run 0 t).2 ++ ((erz.run 0 t).1.run t.length [b]).2 := by rw [Er.run_app]; simp
theorem Po.str_shift {p : Po} {t : List Bool} {S : List (Oct × Int)} (h : p.str t S) (h0 : p.out ≠ []) :
    ∃ N, p.shift.sent = p.sent ++ N ∧ p.shift.str (t ++ [p.out.headD false]) (S ++ N) := by
  obtain ⟨b, r, e⟩ : ∃ b r, p.out = b :: r := by
    cases hp : p.out with
    | nil => exact absurd hp h0
    | cons b r => exact ⟨b, r, rfl⟩
  have eh : p.out.headD false = b := by rw [e]; rfl
  have et : p.out.tail = r := by rw [e]; rfl
  rw [eh]
  have hg : p.shift.gone = ((t ++ [b]).length : Int) := by simp [Po.shift, h.gone]
  rcases h.now with ⟨h1, _, h3, h4⟩ | ⟨h1, _⟩ | ⟨t0, xs, h1, h2, h8, h3, _, h4, h5⟩
  · subst h4
    refine ⟨[], by simp [Po.shift, h3], hg, ?_, ?_⟩
    · have h6 := Er.run_start
      rw [← h1, e, show t ++ b :: r = (t ++ [b]) ++ r by simp, Er.run_app] at h6
      have h7 := (List.append_eq_nil_iff.1 (congrArg Prod.snd h6)).1
      rw [h7]; rfl
    · by_cases hr : r = []
      · refine .inr (.inl ⟨by rw [Po.shift]; dsimp only; rw [et]; exact hr, ?_, ?_⟩)
        · have h6 : t ++ [b] = flagB := by rw [← h1, e, hr]
          rw [h6, Er.run_start]
        · have h6 : t ++ [b] = flagB := by rw [← h1, e, hr]
          rw [h6]; decide
      · refine .inl ⟨?_, ?_, h3, rfl⟩
        · rw [Po.shift]; dsimp only; rw [et, ← h1, e]; simp
        · rw [Po.shift]; dsimp only; rw [et]; exact hr
  · exact absurd h1 h0
  · have hn : p.nx.1 ≠ [] := fun h9 => by have := h4.lo; rw [h9] at this; simp at this
    have hx : (erz.run 0 t).2 = (erz.run 0 t0).2 := by
      rw [h1, Er.run_app, h2, (Er.run_part h4 _ xs p.out h3 h0).1, List.append_nil]
    by_cases hr : r = []
    · refine ⟨[p.nx], by simp [Po.shift, et, hr, hn], hg, ?_, .inr (.inl ⟨by rw [Po.shift]; dsimp only; rw [et]; exact hr, ?_, ?_⟩)⟩
      · have hf : xs ++ [b] = frameB p.nx.1 := by rw [← h3, e, hr]
        rw [h1, List.append_assoc, hf, Er.run_app, h2, Er.run_frame h4, sentEv_app, ← h.ear, hx]
        congr 1
        simp [sentEv, h5]
      · have hf : xs ++ [b] = frameB p.nx.1 := by rw [← h3, e, hr]
        rw [h1, List.append_assoc, hf, Er.run_app, h2, Er.run_frame h4]
      · rw [h1]; simp; omega
    · have h3' : (xs ++ [b]) ++ r = frameB p.nx.1 := by rw [← h3, e]; simp
      refine ⟨[], by simp [Po.shift, et, hr], hg, ?_, .inr (.inr ⟨t0, xs ++ [b], by rw [h1]; simp, h2, h8, ?_, ?_, h4, h5⟩)⟩
      · rw [h1, List.append_assoc, Er.run_app, h2, (Er.run_part h4 _ (xs ++ [b]) r h3' hr).1, List.append_nil, List.append_nil, ← h.ear, hx]
      · rw [Po.shift]; dsimp only; rw [et]; exact h3'
      · rw [Po.shift]; dsimp only; rw [et]; exact hr
theorem Po.str_outs : ∀ (k : Nat) {p : Po} {t : List Bool} {S : List (Oct × Int)} {n : Nat}, p.str t S → p.ok n → p.x.h.oct → ∃ N, (Po.outs k p).1.sent = p.sent ++ N ∧ (Po.outs k p).1.str (t ++ (Po.outs k p).2) (S ++ N)
  | 0, p, t, S, n, h, _, _ => ⟨[], by simp [Po.outs], by simpa [Po.outs] using h⟩
  | k + 1, p, t, S, n, h, hk, ho => by
    obtain ⟨hk1, ho1, hne⟩ := Po.ok_load hk ho
    obtain ⟨N, e1, h1⟩ := Po.str_shift (Po.str_load h hk.x ho) hne
    obtain ⟨hk2, ho2⟩ := Po.ok_outB hk ho
    obtain ⟨M, e2, h2⟩ := Po.str_outs k (p := p.outB.1) h1 hk2 ho2
    have es : p.load.sent = p.sent := by unfold Po.load; split <;> rfl
    refine ⟨N ++ M, ?_, ?_⟩
    · show (Po.outs k p.outB.1).1.sent = _
      rw [e2, ← List.append_assoc, ← es, ← e1]
      rfl
    · show (Po.outs k p.outB.1).1.str (t ++ (p.outB.2 :: (Po.outs k p.outB.1).2)) _
      rw [← List.append_assoc]
      have : t ++ p.outB.2 :: (Po.outs k p.outB.1).2 = t ++ [p.load.out.headD false] ++ (Po.outs k p.outB.1).2 := by simp [Po.outB]
      rw [this]
      exact h2
theorem Po.str_ins {t : List Bool} {S : List (Oct × Int)} : ∀ (l : List Bool) {p : Po}, p.str t S → (l.foldl Po.inB p).str t S
  | [], _, h => h
  | b :: l, p, h => by
    refine Po.str_ins l (p := p.inB b) ?_
    unfold Po.inB
    split
    · exact ⟨h.gone, h.ear, h.now⟩
    · exact ⟨h.gone, h.ear, h.now⟩
theorem Po.sent_ins : ∀ (l : List Bool) (p : Po), (l.foldl Po.inB p).sent = p.sent
  | [], _ => rfl
  | b :: l, p => by
    rw [List.foldl_cons, Po.sent_ins l]
    unfold Po.inB
    split <;> rfl
/-- A tick of it. -/
theorem Po.str_tick {p : Po} {t : List Bool} {S : List (Oct × Int)} {n : Nat} (h : p.str t S) (hk : p.ok n) (l : List Bool) (ho : (l.foldl Po.inB p.first).x.h.oct) :
    (p.tick l).1.str (t ++ (p.tick l).2) (S ++ (p.tick l).1.sent) := by
  have h1 : p.first.str t S := ⟨h.gone, h.ear, h.now⟩
  obtain ⟨N, e, h2⟩ := Po.str_outs 8 (Po.str_ins l h1) (Po.ok_ins l (Po.ok_first hk)) ho
  rw [Po.sent_ins] at e
  have e2 : (p.tick l).1.sent = N := e
  rw [e2]
  exact h2
/-- What is heard of it, and that it isn't lost. -/
theorem Po.str.found {p : Po} {t : List Bool} {S : List (Oct × Int)} (h : p.str t S) (h8 : 8 ≤ t.length) : (erz.run 0 t).1.found = true := by
  rcases h.now with ⟨h1, h2, _⟩ | ⟨_, h1, _⟩ | ⟨t0, xs, h1, h2, _, h3, h0, h4, _⟩
  · have h3 := congrArg List.length h1
    have h4 := List.length_pos_iff.2 h2
    simp [flagB] at h3
    omega
  · rw [h1]
  · rw [h1, Er.run_app, h2]
    exact (Er.run_part h4 _ xs p.out h3 h0).2
/-- What an ear heard behind the flags is told, each with its bits. -/
theorem Er.run_ins : ∀ (l : List Bool) (p : Po), (l.foldl Po.inB p).got = p.got ++ (p.e.run p.came l).2 ∧ (l.foldl Po.inB p).e = (p.e.run p.came l).1 ∧ (l.foldl Po.inB p).came = p.came + l.length
  | [], p => by simp [Er.run]
  | b :: l, p => by
    obtain ⟨h1, h2, h3⟩ := Er.run_ins l (p.inB b)
    have e1 : (p.inB b).e = (p.e.bit b).1 := by unfold Po.inB; split <;> rfl
    have e2 : (p.inB b).came = p.came + 1 := by unfold Po.inB; split <;> rfl
    have e3 : (p.inB b).got = p.got ++ Er.put (p.came + 1) (p.e.bit b).2 := by
      unfold Po.inB
      cases (p.e.bit b).2 <;> simp [Er.put]
    rw [List.foldl_cons, h1, h2, h3, e1, e2, e3, Er.run]
    simp
    omega
end
/-! ### The walk of Post.bit: the next bit that goes out. -/
section
open Go Go.RowKit
set_option linter.unusedVariables false
set_option maxHeartbeats 20000000
set_option maxRecDepth 100000
theorem BytV.someA {w : World} {v : Value} {p : Oct} (h : BytV w v p) (h0 : p ≠ []) : ∃ bl off cap, v = .slice (some ⟨bl, off, none⟩) p.length cap := by
  have hp := List.length_pos_iff.2 h0
  rcases h.1.2 with ⟨_, h1⟩ | ⟨bl, off, cap, cs, e, _⟩
  · omega
  · exact ⟨bl, off, cap, e⟩
theorem BitV.someA {w : World} {v : Value} {p : List Bool} (h : BitV w v p) (h0 : p ≠ []) : ∃ bl off cap, v = .slice (some ⟨bl, off, none⟩) p.length cap := by
  have hp := List.length_pos_iff.2 h0
  have R : Row w 4 1 v p.length (p.map Value.bool) := h
  rcases R.2 with ⟨_, h1⟩ | ⟨bl, off, cap, cs, e, _⟩
  · omega
  · exact ⟨bl, off, cap, e⟩
theorem EncodeR_c {w : World} {u : Un} {vi : Value} (hu : u.good) (hv : BytI w [] vi u.info) :
    Calls Tryz.prog 124 #[u.v vi] w fun e w' => ∃ v, e = .returned (.tuple #[v, .int .i64 0]) ∧ AccO w w' v (encU u) :=
  (Encode_c hu.ok hv).mono fun e w' ⟨v, he, A⟩ => ⟨v, by rw [he, hu.right], by rwa [hu.right, if_pos rfl] at A⟩
theorem FrameR_c {w : World} {v : Value} {p : Oct} (hp : Fits p) (h : BytI w [] v p) :
    Calls Tryz.prog 126 #[v] w fun e w' => ∃ v', e = .returned (.tuple #[v', .int .i64 0]) ∧ Acc w w' v' (frameB p) := by
  have e0 : frameE p = 0 := by unfold frameE; rw [if_neg (by have := hp.lo; omega), if_neg (by have := hp.hi; omega)]
  exact (Frame_c h (by have := hp.hi; omega)).mono fun e w' ⟨v, he, A⟩ => ⟨v, by rw [he, e0], by rwa [e0, if_pos rfl] at A⟩
theorem PoTo.afterX {w w1 w2 : World} {b : Nat} {q : Po} {L : PoL} {M : Lay} (G : Chg (stF L.bx L.L) w w1) (O : ∀ k ∈ stF L.bx M, k ∈ stF L.bx L.L ∨ w.heap.size ≤ k) (k : PoTo w1 w2 b q { L with L := M }) : PoTo w w2 b q L := by
  obtain ⟨L2, h2, e2, G2, O2⟩ := k
  have O1 : ∀ k ∈ poF b { L with L := M }, k ∈ poF b L ∨ w.heap.size ≤ k := fun k hk => by
    rw [mem6] at hk ⊢
    rcases hk with hk | hk | hk
    · exact .inl (.inl hk)
    · rcases O k hk with h9 | h9
      · exact .inl (.inr (.inl h9))
      · exact .inr h9
    · exact .inl (.inr (.inr hk))
  refine ⟨L2, h2, e2, (G.more (fun k hk => poF_x hk)).trans G2 O1, fun k hk => ?_⟩
  rcases O2 k hk with h | h
  · exact O1 k h
  · exact .inr (Nat.le_trans G.size h)
theorem PoTo.after {w w1 w2 : World} {b : Nat} {q : Po} {L L1 : PoL} (e1 : L1.bx = L.bx) (G : Chg (poF b L) w w1) (O : ∀ k ∈ poF b L1, k ∈ poF b L ∨ w.heap.size ≤ k) (k : PoTo w1 w2 b q L1) : PoTo w w2 b q L := by
  obtain ⟨L2, h2, e2, G2, O2⟩ := k
  refine ⟨L2, h2, e2.trans e1, G.trans G2 O, fun k hk => ?_⟩
  rcases O2 k hk with h | h
  · exact O k h
  · exact .inr (Nat.le_trans G.size h)
theorem poF_b {b : Nat} {L : PoL} : ∀ k ∈ [b], k ∈ poF b L := fun k hk => by
  obtain rfl : k = b := by simpa using hk
  exact mem6.2 (.inl rfl)
theorem sent_end {w w8 W w6 : World} {b : Nat} {p : Po} {L : PoL} {ps : List ((Oct × Int) × Value)} {v6 V : Value} {r : List Bool} {g : Int} (h : PoAt w b p L) (G8 : Chg [b] w w8) (K8 : Blk w8 b (Po.cells { p with out := r, gone := g } { L with vo := V }) 154) (O : BitV w V r) (io : ∀ k ∈ own V, k ∈ own L.vo) (Bl : Below w8.heap.size w8 W)
    (ep : ps.map (·.1) = p.sent) (qp : ∀ p ∈ ps, BytV w p.2 p.1.1) (R6 : Row w6 150 2 v6 (p.sent.length + 1) (snCells ps ++ [L.vn, .int .i64 p.nx.2])) (G6 : Chg (own L.vs) W w6) (O6 : ∀ k ∈ own v6, k ∈ own L.vs ∨ W.heap.size ≤ k) :
    PoTo w (w6.setCell ⟨b, 10, none⟩ v6) b { p with out := r, gone := g, sent := p.sent ++ [p.nx] } L := by
  obtain ⟨xs, rs⟩ := h.sn.row
  have T : Typed w (b :: own L.vs) ([154] ++ [150]) := (Typed.one h.blk).app (Typed.row rs)
  have G : Chg (b :: own L.vs) w (w6.setCell ⟨b, 10, none⟩ v6) := (((G8.more (by simp)).below Bl).trans G6 (fun k hk => .inl (List.mem_cons_of_mem _ hk))).set (.inl (by simp)) _
  have T8 : Typed W (own L.vs) [150] := fun k hk => by
    obtain ⟨cs, t, h1, h2⟩ := Typed.row rs k hk
    have hb : k ∉ [b] := fun hkb => by
      obtain rfl : k = b := by simpa using hkb
      have e : t = 150 := by simpa using h2
      exact h1.ne h.blk (by rw [e]; decide) rfl
    exact ⟨cs, t, (h1.chg G8 hb).below Bl, h2⟩
  have b6 := (K8.below Bl).keep (T8.off (by decide)) G6
  refine PoTo.byP h (nx := p.nx) (came := p.came) (got := p.got) (vo := V) (vn := L.vn) (vs := v6) (vg := L.vg) ((b6.set 10 v6).as (by simp [Po.cells])) G (T.more (by simp)) (fun k hk => ?_) (Row.keep O (T.off (by decide)) G) (h.nx.stay (T.off (by decide)) G) h.nn ?_ (h.gt.keep (T.off (by decide)) (T.off (by decide)) G) (fun k hk => .inl (io k hk)) (fun k hk => ?_) (fun k hk => .inl hk)
  · rw [mem6]
    rcases List.mem_cons.1 hk with hk | hk
    · exact .inl hk
    · exact .inr (.inr (.inr (.inr (.inl hk))))
  · refine ⟨ps ++ [(p.nx, L.vn)], by simp [ep], ?_, fun q hq => ?_⟩
    · have := R6.chg (chg1 w6 b 10 v6) (fun k hk hb => by
        obtain ⟨cs, h1⟩ := R6.blk k hk
        obtain rfl : k = b := by simpa using hb
        exact b6.ne h1 (by decide) rfl)
      simpa [snCells_append, snCells] using this
    · rcases List.mem_append.1 hq with hq | hq
      · exact (qp q hq).stay (T.off (by decide)) G
      · obtain rfl : q = (p.nx, L.vn) := by simpa using hq
        exact h.nx.stay (T.off (by decide)) G
  · rcases O6 k hk with h9 | h9
    · exact .inl h9
    · exact .inr (Nat.le_trans (Nat.le_trans G8.size Bl.size) h9)
theorem BitV.shut {w : World} {bl off n c : Nat} {t : List Bool} (h : BitV w (.slice (some ⟨bl, off, none⟩) n c) t) : BitV w (.slice (some ⟨bl, off, none⟩) 0 0) [] := by
  have R : Row w 4 1 (.slice (some ⟨bl, off, none⟩) n c) t.length (t.map Value.bool) := h
  rcases R.2 with ⟨e, _⟩ | ⟨bl', off', cap', cs, e', h1, h2, h3, h4, h5⟩
  · cases e
  · simp only [Value.slice.injEq, Option.some.injEq, Addr.mk.injEq] at e'
    obtain ⟨⟨rfl, rfl, _⟩, rfl, rfl⟩ := e'
    exact ⟨by simp, .inr ⟨bl, off, 0, cs, rfl, Nat.le_refl _, by simp [maxLen], h3, by omega, fun j u hu => by simp at hu⟩⟩
theorem neq_nil (W : World) : (binOp .neq 25 (.slice none 0 0) (.slice none 0 0)).run Tryz.prog W = .ok (.bool false) W := by kernel_rfl
theorem neq_some (a : Addr) (n c : Nat) (W : World) : (binOp .neq 25 (.slice (some a) n c) (.slice none 0 0)).run Tryz.prog W = .ok (.bool true) W := by kernel_rfl
theorem shift_end {w w8 : World} {b : Nat} {p : Po} {L : PoL} {V : Value} {r : List Bool} {g : Int} (h : PoAt w b p L) (G8 : Chg [b] w w8) (K8 : Blk w8 b (Po.cells { p with out := r, gone := g } { L with vo := V }) 154) (O : BitV w V r) (io : ∀ k ∈ own V, k ∈ own L.vo) :
    PoTo w w8 b { p with out := r, gone := g } L := by
  have T := Typed.one h.blk
  exact PoTo.byP h (nx := p.nx) (came := p.came) (sent := p.sent) (got := p.got) (vo := V) (vn := L.vn) (vs := L.vs) (vg := L.vg) K8 G8 (T.more (by simp)) poF_b (Row.keep O (T.off (by decide)) G8) (h.nx.stay (T.off (by decide)) G8) h.nn (h.sn.keep (T.off (by decide)) (T.off (by decide)) G8) (h.gt.keep (T.off (by decide)) (T.off (by decide)) G8) (fun k hk => .inl (io k hk)) (fun k hk => .inl hk) (fun k hk => .inl hk)
theorem PBit_c {w : World} {b : Nat} {p : Po} {L : PoL} (h : PoAt w b p L) (hk : p.x.ok) (ho : p.x.h.oct) (hg : 0 ≤ p.gone ∧ p.gone ≤ 1000000000) (hol : p.out.length ≤ 3000) (hsl : p.sent.length ≤ 1000000) :
    Calls Tryz.prog 103 #[.pointer (some ⟨b, 0, none⟩)] w fun e w' => e = .returned (.bool p.outB.2) ∧ PoTo w w' b p.outB.1 L := by
  have hfit := (St.next_good hk ho).1.fits
  have hfl := frameB_len hfit
  have hne : p.load.out ≠ [] := by
    unfold Po.load
    split
    · intro h0
      dsimp only at h0
      rw [h0] at hfl
      simp at hfl
    · assumption
  have hlo : p.load.out.length ≤ 3000 := by
    unfold Po.load
    split
    · dsimp only; omega
    · exact hol
  have hlg : p.load.gone = p.gone := by unfold Po.load; split <;> rfl
  have hls : p.load.sent = p.sent := by unfold Po.load; split <;> rfl
  have H := Lib.hid h
  have HN := Lib.hid (SNext_c h.lk hk)
  have GD := Lib.hid (St.next_good hk ho).1
  have HFT := Lib.hid hfit
  have hc := h.blk.c
  have hf := h.blk.f
  obtain ⟨av, cv, ev, _⟩ := h.out.shape
  have e0 : p.outB = (p.load.shift, p.load.out.headD false) := rfl
  rw [e0]
  dsimp only
  obtain ⟨q, hq⟩ : ∃ q, p.load = q := ⟨_, rfl⟩
  have HQ := Lib.hid hq
  rw [hq] at hne hlo hlg hls ⊢
  clear h e0 hfit hq
  dsimp only [Po.cells] at hc
  rw [ev] at hc
  have EV := Lib.hid ev
  clear ev
  go_enter Tryz.func103, Tryz.ntmps103
  go_upto_if 11 with fail
  go_cut [] (fun wx => PoTo w wx b q L)
  case first =>
    by_cases h0 : p.out = []
    · have hl0 : p.out.length = 0 := by rw [h0]; rfl
      rw [hl0] at hc
      have el : p.load = { p with x := p.x.next.1, out := frameB (encU p.x.next.2), nx := (encU p.x.next.2, p.gone + (frameB (encU p.x.next.2)).length) } := by unfold Po.load; rw [if_pos h0]
      rw [HQ.out] at el
      have EL := Lib.hid el
      clear el hlo hne hlg hls
      obtain ⟨fr, hfr⟩ : ∃ fr, frameB (encU p.x.next.2) = fr := ⟨_, rfl⟩
      rw [hfr] at hfl EL
      have HFR := Lib.hid hfr
      clear hfr
      have fl1 : (0 : Int) ≤ fr.length ∧ (fr.length : Int) ≤ 3000 := by omega
      go_upto_region 4 with (first
        | ((with_reducible refine HN.out.mono ?_); rintro e w1 ⟨⟨vi, rfl, yv, _⟩, T1⟩; (obtain ⟨M, S1, G1, O1⟩ := T1); (have A1 := Lib.hid (H.out.byX S1 G1)); (have HG1 := Lib.hid G1); (have HO1 := Lib.hid O1); (have a1c := A1.out.blk.c); (have HE := Lib.hid (EncodeR_c GD.out yv.i0)); clear S1 G1 O1 yv)
        | ((with_reducible refine HE.out.mono ?_); rintro e w2 ⟨v2, rfl, A2⟩; (obtain ⟨a2, c2, rfl, _⟩ := A2.byt.shape); (have HA2 := Lib.hid A2); (have a2c := (A1.out.blk.below A2.bel).c); (have HF := Lib.hid (FrameR_c HFT.out A2.byt.i0)); clear A2)
        | ((with_reducible refine HF.out.mono ?_); rintro e w3 ⟨v3, rfl, A3⟩; (rw [HFR.out] at A3); (obtain ⟨a3, c3, rfl, _⟩ := A3.bits.shape); (have HA3 := Lib.hid A3); (have K3 := Lib.hid ((A1.out.blk.below HA2.out.bel).below A3.bel)); (have k3c := K3.out.c); (have k3f := K3.out.f); clear A3))
      have K5 := K3.out.set 5 (.slice a3 fr.length c3)
      refine wp_region_up_tail 13 (by kernel_rfl) (by kernel_rfl) ?_
      simp only [List.take_succ_cons, List.take_zero, List.drop_succ_cons, List.drop_zero]
      have up_K5 := fun (g : Up _) => (Blk.below K5 g.ok).c
      repeat (go_big_quiet_step (fail))
      refine wpQuiet_nil ?_
      clear up_K5
      refine up_elim (fun w6 hb_w6 => ?_)
      have K6 := Lib.hid (K5.below hb_w6)
      have k6c := K6.out.c
      have k6f := K6.out.f
      clear K5
      go_wp2
      go_meet
      case rel =>
        have T1 := Typed.one A1.out.blk
        have T3 := Typed.one K3.out
        have G3 := ((((Chg.refl [b] w3).set (b := b) (i := 5) (.inl (by simp)) (.slice a3 fr.length c3)).below hb_w6).set (b := b) (i := 6) (.inl (by simp)) (.slice a2 (encU p.x.next.2).length c2)).set (b := b) (i := 7) (.inl (by simp)) (.int .i64 (p.gone + fr.length))
        have G := ((Chg.of_below HA2.out.bel [b]).below HA3.out.bel).then G3
        rw [EL.out]
        exact PoTo.afterX HG1.out HO1.out (PoTo.byP A1.out (F := [b]) (out := fr) (nx := (encU p.x.next.2, p.gone + fr.length)) (gone := p.gone) (came := p.came) (sent := p.sent) (got := p.got) (((K6.out.set 6 _).set 7 _).as (by simp [Po.cells])) G (T1.more (by simp)) poF_b
          (Row.keep HA3.out.bits (T3.off (by decide)) G3) ((HA2.out.byt.below HA3.out.bel).stay (T3.off (by decide)) G3) (fun h9 => by have := HFT.out.lo; have h9' : encU p.x.next.2 = [] := h9; rw [h9'] at this; simp at this)
          (A1.out.sn.keep (T1.off (by decide)) (T1.off (by decide)) G) (A1.out.gt.keep (T1.off (by decide)) (T1.off (by decide)) G) (fun k hk => .inr (Nat.le_trans HA2.out.bel.size (HA3.out.own k hk))) (fun k hk => .inl hk) (fun k hk => .inl hk))
    · have el : p.load = p := by unfold Po.load; rw [if_neg h0]
      have hl0 : ((p.out.length : Int) == 0) = false := beq_eq_false_iff_ne.2 (by have := List.length_pos_iff.2 h0; omega)
      go_wp2
      go_meet
      case rel => rw [← HQ.out, el]; exact PoTo.same H.out
  case rest =>
    obtain ⟨L2, A2, e2, G2, O2⟩ := hcut
    have AF := Lib.hid (fun (w9 : World) (q9 : Po) (k : PoTo wc w9 b q9 L2) => PoTo.after e2 G2 O2 k)
    rw [← hls] at hsl
    rw [← hlg] at hg
    clear hc hf H HN GD HFT EV HQ hfl hlg hls hk ho hol G2 O2 e2
    obtain ⟨qx, qe, qout, ⟨qp, qn⟩, qgone, qcame, qsent, qgot, qs⟩ := q
    obtain ⟨bx2, M2, vin2, vo2, vn2, vs2, vg2⟩ := L2
    dsimp only at hne hlo hg hsl
    cases qout with
    | nil => exact absurd rfl hne
    | cons on r =>
      have ha := A2.out
      dsimp only at ha
      obtain ⟨bl, off, cap, rfl⟩ := BitV.someA ha (by simp)
      obtain ⟨n, hn⟩ : ∃ n, r.length = n := ⟨_, rfl⟩
      have hcap : n + 1 ≤ cap := by
        obtain ⟨a', c', e', h'⟩ := BitV.shape ha
        simp only [Value.slice.injEq] at e'
        simp only [List.length_cons] at h'
        omega
      have hcell : wc.cell? ⟨bl, off, none⟩ = some (.bool on) := by
        obtain ⟨bl', off', e', h'⟩ := BitV.at ha 0 on rfl
        simp only [Option.some.injEq, Addr.mk.injEq, and_true] at e'
        obtain ⟨rfl, rfl⟩ := e'
        simpa using h'
      obtain ⟨asn, csn, es, _⟩ := A2.sn.shape
      dsimp only at es
      subst es
      have HA := Lib.hid A2
      have HBV := Lib.hid ha
      have k2c := A2.blk.c
      have k2f := A2.blk.f
      have hnb : bl ≠ b := by
        obtain ⟨cs9, h9⟩ := Row.blk ha bl (by simp [own, Value.ownBlock])
        exact h9.ne A2.blk (by decide)
      simp only [List.length_cons] at hlo
      clear A2 ha
      rw [hn] at hlo
      simp only [List.length_cons, hn] at k2c
      have HN := Lib.hid hn
      have nn1 := neq_nil
      have nn2 := neq_some
      have HIO := Lib.hid (fun (o m c : Nat) k (hk : k ∈ own (.slice (some ⟨bl, o, none⟩) m c)) => show k ∈ own (.slice (some ⟨bl, off, none⟩) (on :: r).length cap) from by simpa [own, Value.ownBlock] using hk)
      have h1n : (1 : Int) ≤ (n : Int) + 1 := by omega
      clear hn
      by_cases hc1 : cap = 1
      · have n0 : n = 0 := by omega
        have hr : r = [] := List.length_eq_zero_iff.1 (by rw [HN.out, n0])
        subst n0
        subst hc1
        subst hr
        have HS := Lib.hid (show BitV wc (.slice (some ⟨bl, off, none⟩) 0 0) [] from HBV.out.shut)
        have G8 := Lib.hid (((Chg.refl [b] wc).set (b := b) (i := 5) (.inl (by simp)) (.slice (some ⟨bl, off, none⟩) 0 0)).set (b := b) (i := 8) (.inl (by simp)) (.int .i64 (qgone + 1)))
        have K8 := Lib.hid (((HA.out.blk.set 5 (.slice (some ⟨bl, off, none⟩) 0 0)).set 8 (.int .i64 (qgone + 1))).as (cs' := Po.cells ⟨qx, qe, [], (qp, qn), qgone + 1, qcame, qsent, qgot, qs⟩ ⟨bx2, M2, vin2, .slice (some ⟨bl, off, none⟩) 0 0, vn2, .slice asn qsent.length csn, vg2⟩) (by simp [Po.cells]))
        by_cases hp : qp = []
        · have hvn := HA.out.nn hp
          dsimp only at hvn
          subst hvn
          subst hp
          go_wp2
          go_ret
          have h9 := AF.out _ _ (shift_end HA.out G8.out K8.out HS.out (HIO.out _ _ _))
          refine ⟨rfl, ?_⟩
          simpa [Po.shift] using h9
        · obtain ⟨bp, op, cp, evn⟩ := BytV.someA HA.out.nx hp
          dsimp only at evn
          subst evn
          obtain ⟨ps, ep, rp, qps⟩ := HA.out.sn
          have HPS := Lib.hid qps
          have HEP := Lib.hid ep
          have RP := Lib.hid (Row.keep rp ((Typed.one HA.out.blk).off (by decide)) G8.out)
          clear ep rp qps
          go_upto_region 9 with fail
          generalize hw8 : (wc.setCell _ _).setCell _ _ = w8 at G8 K8 RP
          have B9 := Lib.hid (bl_drew (bl_alloc (bl_refl w8) (.cells #[.slice (some ⟨bp, op, none⟩) qp.length cp, .int .i64 qn] 150)))
          have N9 := Lib.hid (Blk.drew (Blk.new w8 #[.slice (some ⟨bp, op, none⟩) qp.length cp, .int .i64 qn] 150))
          have k8c := K8.out.drew.c
          have k8f := K8.out.drew.f
          have k9c := (K8.out.below B9.out).c
          have k9f := (K8.out.below B9.out).f
          have hb8 : b ≠ w8.heap.size := Nat.ne_of_lt K8.out.lt
          have hb8' : w8.heap.size ≠ b := fun e => hb8 e.symm
          go_region_law (first
            | (refine step_row_append _ rfl (.tmp 83) (.tmp 88) 151 rfl 150 Tryz.t150 (.agg #[.slice none 0 0, .int .i64 0]) 2 32 Tryz.underlying151 rfl rfl rfl rfl rfl (by decide) (.slice asn qsent.length csn) qsent.length (snCells ps) rfl (RP.out.below B9.out) ⟨w8.heap.size, 0, none⟩ 1 1 [.slice (some ⟨bp, op, none⟩) qp.length cp, .int .i64 qn] rfl rfl (fun j u hu => by rw [Addr.add_lit, N9.out.c, Nat.zero_add]; simpa using hu) (by simp [Value.oneCell']) (by decide) (by simp [maxLen]; omega) (by omega) ?_; intro v6 w6 R6 G6 O6; (obtain ⟨a6, c6, rfl, hcap6⟩ := R6.shape); (have HR6 := Lib.hid R6); clear R6; (have h6c := ((K8.out.below B9.out).keep ((Typed.row (RP.out.below B9.out)).off (by decide)) G6).c); (have h6f := ((K8.out.below B9.out).keep ((Typed.row (RP.out.below B9.out)).off (by decide)) G6).f)))
          all_goals
            go_wp2
            go_ret
            refine ⟨rfl, ?_⟩
            have h9 := AF.out _ _ (sent_end HA.out G8.out K8.out HS.out (HIO.out _ _ _) B9.out HEP.out HPS.out HR6.out G6 O6)
            simpa [Po.shift, hp] using h9
      · have hs := BitV.sub (i := 1) (m := n) HBV.out (by rw [List.length_cons, HN.out]; omega)
        have hs' : BitV wc (.slice (some ⟨bl, off + 1, none⟩) n (cap - 1)) r := by
          have e : ((on :: r).drop 1).take n = r := by rw [List.drop_one, List.tail_cons, List.take_of_length_le (by rw [HN.out]; exact Nat.le_refl _)]
          rw [e] at hs
          exact hs
        have HS := Lib.hid (show BitV wc (.slice (some ⟨bl, off + 1, none⟩) n (cap - 1)) r from hs')
        have G8 := Lib.hid (((Chg.refl [b] wc).set (b := b) (i := 5) (.inl (by simp)) (.slice (some ⟨bl, off + 1, none⟩) n (cap - 1))).set (b := b) (i := 8) (.inl (by simp)) (.int .i64 (qgone + 1)))
        have K8 := Lib.hid (((HA.out.blk.set 5 (.slice (some ⟨bl, off + 1, none⟩) n (cap - 1))).set 8 (.int .i64 (qgone + 1))).as (cs' := Po.cells ⟨qx, qe, r, (qp, qn), qgone + 1, qcame, qsent, qgot, qs⟩ ⟨bx2, M2, vin2, .slice (some ⟨bl, off + 1, none⟩) n (cap - 1), vn2, .slice asn qsent.length csn, vg2⟩) (by simp [Po.cells]))
        clear hs hs'
        by_cases n0 : n = 0
        · have hr : r = [] := List.length_eq_zero_iff.1 (by rw [HN.out, n0])
          subst n0
          subst hr
          by_cases hp : qp = []
          · have hvn := HA.out.nn hp
            dsimp only at hvn
            subst hvn
            subst hp
            go_wp2
            go_ret
            have h9 := AF.out _ _ (shift_end HA.out G8.out K8.out HS.out (HIO.out _ _ _))
            refine ⟨rfl, ?_⟩
            simpa [Po.shift] using h9
          · obtain ⟨bp, op, cp, evn⟩ := BytV.someA HA.out.nx hp
            dsimp only at evn
            subst evn
            obtain ⟨ps, ep, rp, qps⟩ := HA.out.sn
            have HPS := Lib.hid qps
            have HEP := Lib.hid ep
            have RP := Lib.hid (Row.keep rp ((Typed.one HA.out.blk).off (by decide)) G8.out)
            clear ep rp qps
            go_upto_region 9 with fail
            generalize hw8 : (wc.setCell _ _).setCell _ _ = w8 at G8 K8 RP
            have B9 := Lib.hid (bl_drew (bl_alloc (bl_refl w8) (.cells #[.slice (some ⟨bp, op, none⟩) qp.length cp, .int .i64 qn] 150)))
            have N9 := Lib.hid (Blk.drew (Blk.new w8 #[.slice (some ⟨bp, op, none⟩) qp.length cp, .int .i64 qn] 150))
            have k8c := K8.out.drew.c
            have k8f := K8.out.drew.f
            have k9c := (K8.out.below B9.out).c
            have k9f := (K8.out.below B9.out).f
            have hb8 : b ≠ w8.heap.size := Nat.ne_of_lt K8.out.lt
            have hb8' : w8.heap.size ≠ b := fun e => hb8 e.symm
            go_region_law (first
              | (refine step_row_append _ rfl (.tmp 83) (.tmp 88) 151 rfl 150 Tryz.t150 (.agg #[.slice none 0 0, .int .i64 0]) 2 32 Tryz.underlying151 rfl rfl rfl rfl rfl (by decide) (.slice asn qsent.length csn) qsent.length (snCells ps) rfl (RP.out.below B9.out) ⟨w8.heap.size, 0, none⟩ 1 1 [.slice (some ⟨bp, op, none⟩) qp.length cp, .int .i64 qn] rfl rfl (fun j u hu => by rw [Addr.add_lit, N9.out.c, Nat.zero_add]; simpa using hu) (by simp [Value.oneCell']) (by decide) (by simp [maxLen]; omega) (by omega) ?_; intro v6 w6 R6 G6 O6; (obtain ⟨a6, c6, rfl, hcap6⟩ := R6.shape); (have HR6 := Lib.hid R6); clear R6; (have h6c := ((K8.out.below B9.out).keep ((Typed.row (RP.out.below B9.out)).off (by decide)) G6).c); (have h6f := ((K8.out.below B9.out).keep ((Typed.row (RP.out.below B9.out)).off (by decide)) G6).f)))
            all_goals
              go_wp2
              go_ret
              refine ⟨rfl, ?_⟩
              have h9 := AF.out _ _ (sent_end HA.out G8.out K8.out HS.out (HIO.out _ _ _) B9.out HEP.out HPS.out HR6.out G6 O6)
              simpa [Po.shift, hp] using h9
        · have h0' : ((n : Int) == 0) = false := beq_eq_false_iff_ne.2 (by omega)
          have hr : ¬ r = [] := fun h9 => by have := HN.out; rw [h9] at this; simp at this; omega
          go_wp2
          go_ret
          have h9 := AF.out _ _ (shift_end HA.out G8.out K8.out HS.out (HIO.out _ _ _))
          refine ⟨rfl, ?_⟩
          simpa [Po.shift, hr] using h9
end
/-! ### The walk of Post.hear. -/
section
open Go Go.RowKit
set_option linter.unusedVariables false
set_option maxHeartbeats 20000000
set_option maxRecDepth 100000
theorem PoTo.stepB {w w1 w2 : World} {b : Nat} {q : Po} {L : PoL} (B : Below w.heap.size w w1) (k : PoTo w1 w2 b q L) : PoTo w w2 b q L := PoTo.after rfl (Chg.of_below B _) (fun _ hk => .inl hk) k
theorem PHear_c {w : World} {b : Nat} {p : Po} {L : PoL} (h : PoAt w b p L) (hk : p.x.ok) (hf : p.x.few 800000) (d : Int × Oct) {vp : Value} (hv : BytV w vp d.2) (hl : d.2.length ≤ 100000) :
    Calls Tryz.prog 102 #[.pointer (some ⟨b, 0, none⟩), .agg #[.int .u8 d.1, vp]] w fun e w' => e = .returned (.tuple #[]) ∧ PoTo w w' b { p with x := Po.hears p.x d } L := by
  obtain ⟨kd, o⟩ := d
  dsimp only at hv hl
  obtain ⟨ap, cp, rfl, _⟩ := hv.shape
  have B1 := Lib.hid (bl_alloc (bl_refl w) (.cells #[.int .u8 kd, .slice ap o.length cp] 177))
  have N1 := Lib.hid (Blk.new w #[.int .u8 kd, .slice ap o.length cp] 177)
  have H1 := Lib.hid (h.below B1.out)
  have HD := Lib.hid (Damage_c H1.out.lk hk (hf.le (by omega)))
  have HK := Lib.hid hk
  have HF := Lib.hid hf
  have HE := Lib.hid (Decode_c (hv.below B1.out).i0 hl)
  have h1c := H1.out.blk.c
  have h1f := H1.out.blk.f
  have n1c := N1.out.c
  have n1f := N1.out.f
  clear h hv
  by_cases h0 : kd = 0
  · subst h0
    generalize hU : decU o = r at HE
    obtain ⟨u, er⟩ := r
    have ok : u.ok := by have := dec_ok o; rw [hU] at this; exact this
    by_cases he : er = 0
    · subst he
      have e0 : Po.hears p.x (0, o) = p.x.hear u := by unfold Po.hears; rw [if_pos rfl, hU, if_pos rfl]
      rw [e0]
      clear e0 hU HD
      have OK := Lib.hid ok
      obtain ⟨bsn, fsn, bib, fib, kind, status, wide, info⟩ := u
      dsimp only at HE
      go_enter Tryz.func102, Tryz.ntmps102
      go_upto_region 6 with (first
        | ((with_reducible refine HE.out.mono ?_); rintro e w2 ⟨vi, rfl, y2, b2⟩; (obtain ⟨ai, ci, rfl, _⟩ := y2.shape); have Y2 := Lib.hid y2; have H2 := Lib.hid (H1.out.below b2); have B2 := Lib.hid (bl_then B1.out b2); clear y2 b2))
      have B3 := Lib.hid (bl_alloc (bl_refl w2) (.cells #[.int .u8 bsn, .int .u8 fsn, .bool bib, .bool fib, .int .u8 kind, .int .u8 status, .bool wide, .slice ai info.length ci] 188))
      have H3 := Lib.hid (H2.out.below B3.out)
      have K3 := H3.out.blk
      have N3 := Blk.new w2 #[.int .u8 bsn, .int .u8 fsn, .bool bib, .bool fib, .int .u8 kind, .int .u8 status, .bool wide, .slice ai info.length ci] 188
      refine wp_region_up_tail 5 (by kernel_rfl) (by kernel_rfl) ?_
      simp only [List.take_succ_cons, List.take_zero, List.drop_succ_cons, List.drop_zero]
      have up_K3 := fun (g : Up _) => (Blk.below K3 g.ok).c
      have up_N3 := fun (g : Up _) => (Blk.below N3 g.ok).c
      repeat (go_big_quiet_step (fail))
      refine wpQuiet_nil ?_
      clear up_K3 up_N3
      refine up_elim (fun w5 hb_w5 => ?_)
      have H5 := Lib.hid (H3.out.below hb_w5)
      have HH := Lib.hid (Hear_c H5.out.lk HK.out HF.out OK.out (((Y2.out.below B3.out).below hb_w5).i (H5.out.lk.typed.off (by decide))))
      clear K3 N3
      go_wp2_with (first
        | ((with_reducible refine HH.out.mono ?_); rintro e w6 ⟨rfl, T6⟩))
      go_end0
      exact ⟨rfl, PoTo.stepB (bl_then (bl_then B2.out B3.out) hb_w5) (PoTo.byX H5.out T6)⟩
    · have e0 : Po.hears p.x (0, o) = p.x.count true := by unfold Po.hears; rw [if_pos rfl, hU, if_neg he]
      rw [e0]
      have he' : (er != 0) = true := by simpa using he
      clear e0 hU HD
      obtain ⟨bsn, fsn, bib, fib, kind, status, wide, info⟩ := u
      dsimp only at HE
      go_enter Tryz.func102, Tryz.ntmps102
      go_upto_region 5 with (first
        | ((with_reducible refine HE.out.mono ?_); rintro e w2 ⟨vi, rfl, y2, b2⟩; (obtain ⟨ai, ci, rfl, _⟩ := y2.shape); have H2 := Lib.hid (H1.out.below b2); have B2 := Lib.hid (bl_then B1.out b2); clear y2 b2))
      have B3 := Lib.hid (bl_alloc (bl_refl w2) (.cells #[.int .u8 bsn, .int .u8 fsn, .bool bib, .bool fib, .int .u8 kind, .int .u8 status, .bool wide, .slice ai info.length ci] 188))
      have H3 := Lib.hid (H2.out.below B3.out)
      have HD3 := Lib.hid (Damage_c H3.out.lk HK.out (HF.out.le (by omega)))
      have h3c := H3.out.blk.c
      go_wp2_with (first
        | ((with_reducible refine HD3.out.mono ?_); rintro e w5 ⟨rfl, T5⟩))
      refine bodyPost_ret (results_none rfl _ _ _) rfl ?_
      exact ⟨rfl, PoTo.stepB (bl_then B2.out B3.out) (PoTo.byX H3.out T5)⟩
  · have e0 : Po.hears p.x (kd, o) = p.x.count true := by unfold Po.hears; rw [if_neg h0]
    rw [e0]
    have he' : (kd != 0) = true := by simpa using h0
    clear e0 HE
    go_enter Tryz.func102, Tryz.ntmps102
    go_wp2_with (first
      | ((with_reducible refine HD.out.mono ?_); rintro e w2 ⟨rfl, T2⟩))
    refine bodyPost_ret (results_none rfl _ _ _) rfl ?_
    exact ⟨rfl, PoTo.stepB B1.out (PoTo.byX H1.out T2)⟩
end
end Go.Proofs.YtcllbmjmefeknaaGreatK
