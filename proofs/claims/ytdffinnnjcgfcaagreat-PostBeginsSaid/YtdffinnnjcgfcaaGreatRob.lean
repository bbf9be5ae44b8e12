/- A row's arguments that are structs, or slices of structs: units, orders, acts; down to what a walk wants. -/
import Derived.Test.YtdffinnnjcgfcaaGreatRoa
import Derived.Test.YtdffinnnjcgfcaaGreatLdo
namespace Go.Proofs.YtdffinnnjcgfcaaGreatK
open Go Go.RowKit Go.WideShapes Go.ChangeShapes
set_option maxRecDepth 100000
section
variable {H : Type} {enc : TypeId × Value → H} {W : World}
theorem bytI_trod {m : Nat} {cs : List Value} {x : DataW H × List MemPlace} (h : DataW.trod enc Tryz.prog W 0 (fun _ => true) true m 27 cs = some x) : ∃ v xs, cs = [v] ∧ BytI W [] v xs ∧ xs.length ≤ maxLen := by
  rcases Go.Deep.open_slice1 Tryz.underlying27 (by kernel_rfl) h with ⟨hcs, hx⟩ | ⟨a, n, cap', m, k, V, D, Pl, hcs, _, hl, hm, hmm, hx, hi⟩
  · exact ⟨_, [], hcs, ⟨.inl ⟨rfl, rfl⟩, by simp⟩, by simp⟩
  · simp only [if_true] at hmm
    subst hmm
    have hB : ∀ i, i < n → ∃ z, V i = .int .u8 z ∧ 0 ≤ z ∧ z ≤ 255 ∧ W.cell? (a.add i) = some (V i) := fun i hi9 => by
      obtain ⟨h1, h2⟩ := hi i (by omega)
      obtain ⟨z, h3, _, h4⟩ := DataW.trod_int Tryz.underlying5 h2
      have h5 : 0 ≤ z ∧ z ≤ 255 := by simpa [Lit.wf, IntKind.min, IntKind.max, IntKind.signed, IntKind.bits] using h4
      exact ⟨z, by simpa using h3, h5.1, h5.2, h1⟩
    obtain ⟨Z, hZ⟩ := Go.Deep.choose_lt hB
    by_cases h0 : n = 0
    · subst h0
      exact ⟨_, [], hcs, ⟨.inr (.inl ⟨_, _, rfl, rfl⟩), by simp⟩, by simp⟩
    · obtain ⟨b, off, spot⟩ := a
      have hspot : spot = none := by simpa [Addr.add] using World.cell?_spot (hZ 0 (by omega)).2.2.2
      subst hspot
      refine ⟨_, (List.range n).map Z, hcs, ⟨.inr (.inr ⟨b, off, _, by simp; rfl, by simpa using hl, ?_, by simp, fun j u hu => ?_⟩), fun z hz => ?_⟩, by simp; omega⟩
      · exact World.block_lt_of_cell? W _ (hZ 0 (by omega)).2.2.2
      · have hj : j < n := by
          have := (List.getElem?_eq_some_iff.1 hu).1
          simpa using this
        have e1 : u = .int .u8 (Z j) := by
          simp only [List.map_map, List.getElem?_map, List.getElem?_range hj, Option.map_some, Option.some.injEq, Function.comp] at hu
          exact hu.symm
        rw [e1, ← (hZ j hj).1, ← Go.WideShapes.add_plain]
        exact (hZ j hj).2.2.2
      · obtain ⟨i, h1, rfl⟩ := List.mem_map.1 hz
        have := hZ i (List.mem_range.1 h1)
        exact ⟨this.2.1, this.2.2.1⟩
theorem u8_trod {m : Nat} {cs : List Value} {x : DataW H × List MemPlace} (h : DataW.trod enc Tryz.prog W 0 (fun _ => true) true m 5 cs = some x) : ∃ z, cs = [.int .u8 z] ∧ 0 ≤ z ∧ z ≤ 255 := by
  obtain ⟨z, h3, _, h4⟩ := DataW.trod_int Tryz.underlying5 h
  have h5 : 0 ≤ z ∧ z ≤ 255 := by simpa [Lit.wf, IntKind.min, IntKind.max, IntKind.signed, IntKind.bits] using h4
  exact ⟨z, h3, h5.1, h5.2⟩
theorem bool_trod {m : Nat} {cs : List Value} {x : DataW H × List MemPlace} (h : DataW.trod enc Tryz.prog W 0 (fun _ => true) true m 4 cs = some x) : ∃ z, cs = [.bool z] := by
  obtain ⟨z, h3, _⟩ := DataW.trod_bool Tryz.underlying4 h
  exact ⟨z, h3⟩
/-- A unit whose numbers are octets. -/
structure Un.wf (u : Un) : Prop where
  bsn : 0 ≤ u.bsn ∧ u.bsn ≤ 255
  fsn : 0 ≤ u.fsn ∧ u.fsn ≤ 255
  kind : 0 ≤ u.kind ∧ u.kind ≤ 255
  status : 0 ≤ u.status ∧ u.status ≤ 255
  info : u.info.length ≤ maxLen
theorem get1 {xs : List (DataW H × List MemPlace)} {o : Option (DataW H × List MemPlace)} {j n : Nat} (hx : xs.length = n) (hj : j < n) (h : o = xs[j]?) : ∃ y, o = some y := ⟨xs[j]'(by omega), by rw [h]; exact List.getElem?_eq_getElem (by omega)⟩
theorem unit_trod {m : Nat} {cs : List Value} {x : DataW H × List MemPlace} (h : DataW.trod enc Tryz.prog W 0 (fun _ => true) true m 31 cs = some x) : ∃ (u : Un) (vi : Value), cs = (u.cells vi).toList ∧ u.wf ∧ BytI W [] vi u.info := by
  obtain ⟨xs, n, _, _, hl, hx, hf⟩ := DataW.trod_struct Tryz.underlying31 h
  have hc : Tryz.prog.cellsOf 31 = 8 := by kernel_rfl
  have h1 : Tryz.prog.cellsOf 5 = 1 := by kernel_rfl
  have h2 : Tryz.prog.cellsOf 4 = 1 := by kernel_rfl
  have h3 : Tryz.prog.cellsOf 27 = 1 := by kernel_rfl
  rw [hc] at hl
  match cs, hl with
  | [c0, c1, c2, c3, c4, c5, c6, c7], _ =>
    have g0 : DataW.trod enc Tryz.prog W 0 (fun _ => true) true n 5 (([c0, c1, c2, c3, c4, c5, c6, c7].drop 0).take (Tryz.prog.cellsOf 5)) = xs[0]? := hf 0 _ rfl
    have g1 : DataW.trod enc Tryz.prog W 0 (fun _ => true) true n 5 (([c0, c1, c2, c3, c4, c5, c6, c7].drop 1).take (Tryz.prog.cellsOf 5)) = xs[1]? := hf 1 _ rfl
    have g2 : DataW.trod enc Tryz.prog W 0 (fun _ => true) true n 4 (([c0, c1, c2, c3, c4, c5, c6, c7].drop 2).take (Tryz.prog.cellsOf 4)) = xs[2]? := hf 2 _ rfl
    have g3 : DataW.trod enc Tryz.prog W 0 (fun _ => true) true n 4 (([c0, c1, c2, c3, c4, c5, c6, c7].drop 3).take (Tryz.prog.cellsOf 4)) = xs[3]? := hf 3 _ rfl
    have g4 : DataW.trod enc Tryz.prog W 0 (fun _ => true) true n 5 (([c0, c1, c2, c3, c4, c5, c6, c7].drop 4).take (Tryz.prog.cellsOf 5)) = xs[4]? := hf 4 _ rfl
    have g5 : DataW.trod enc Tryz.prog W 0 (fun _ => true) true n 5 (([c0, c1, c2, c3, c4, c5, c6, c7].drop 5).take (Tryz.prog.cellsOf 5)) = xs[5]? := hf 5 _ rfl
    have g6 : DataW.trod enc Tryz.prog W 0 (fun _ => true) true n 4 (([c0, c1, c2, c3, c4, c5, c6, c7].drop 6).take (Tryz.prog.cellsOf 4)) = xs[6]? := hf 6 _ rfl
    have g7 : DataW.trod enc Tryz.prog W 0 (fun _ => true) true n 27 (([c0, c1, c2, c3, c4, c5, c6, c7].drop 7).take (Tryz.prog.cellsOf 27)) = xs[7]? := hf 7 _ rfl
    simp only [h1, h2, h3, List.drop_zero, List.drop_succ_cons, List.take_succ_cons, List.take_zero] at g0 g1 g2 g3 g4 g5 g6 g7
    obtain ⟨y0, e0⟩ := get1 hx (by decide) g0
    obtain ⟨y1, e1⟩ := get1 hx (by decide) g1
    obtain ⟨y2, e2⟩ := get1 hx (by decide) g2
    obtain ⟨y3, e3⟩ := get1 hx (by decide) g3
    obtain ⟨y4, e4⟩ := get1 hx (by decide) g4
    obtain ⟨y5, e5⟩ := get1 hx (by decide) g5
    obtain ⟨y6, e6⟩ := get1 hx (by decide) g6
    obtain ⟨y7, e7⟩ := get1 hx (by decide) g7
    obtain ⟨z0, r0, b0⟩ := u8_trod e0
    obtain ⟨z1, r1, b1⟩ := u8_trod e1
    obtain ⟨z2, r2⟩ := bool_trod e2
    obtain ⟨z3, r3⟩ := bool_trod e3
    obtain ⟨z4, r4, b4⟩ := u8_trod e4
    obtain ⟨z5, r5, b5⟩ := u8_trod e5
    obtain ⟨z6, r6⟩ := bool_trod e6
    obtain ⟨v7, xs7, r7, b7, l7⟩ := bytI_trod e7
    simp only [List.cons.injEq, and_true] at r0 r1 r2 r3 r4 r5 r6 r7
    subst r0 r1 r2 r3 r4 r5 r6 r7
    exact ⟨⟨z0, z1, z2, z3, z4, z5, z6, xs7⟩, c7, rfl, ⟨b0, b1, b4, b5, l7⟩, b7⟩
theorem act_trod {m : Nat} {cs : List Value} {x : DataW H × List MemPlace} (h : DataW.trod enc Tryz.prog W 0 (fun _ => true) true m 71 cs = some x) : ∃ (c : Ac) (vi : Value), cs = (c.cells vi).toList ∧ (0 ≤ c.k ∧ c.k ≤ 255) ∧ (0 ≤ c.a ∧ c.a ≤ 255) ∧ c.u.wf ∧ BytI W [] vi c.u.info := by
  obtain ⟨xs, n, _, _, hl, hx, hf⟩ := DataW.trod_struct Tryz.underlying71 h
  have hc : Tryz.prog.cellsOf 71 = 10 := by kernel_rfl
  have h1 : Tryz.prog.cellsOf 5 = 1 := by kernel_rfl
  have h2 : Tryz.prog.cellsOf 31 = 8 := by kernel_rfl
  rw [hc] at hl
  match cs, hl with
  | [c0, c1, c2, c3, c4, c5, c6, c7, c8, c9], _ =>
    have g0 : DataW.trod enc Tryz.prog W 0 (fun _ => true) true n 5 (([c0, c1, c2, c3, c4, c5, c6, c7, c8, c9].drop 0).take (Tryz.prog.cellsOf 5)) = xs[0]? := hf 0 _ rfl
    have g1 : DataW.trod enc Tryz.prog W 0 (fun _ => true) true n 5 (([c0, c1, c2, c3, c4, c5, c6, c7, c8, c9].drop 1).take (Tryz.prog.cellsOf 5)) = xs[1]? := hf 1 _ rfl
    have g2 : DataW.trod enc Tryz.prog W 0 (fun _ => true) true n 31 (([c0, c1, c2, c3, c4, c5, c6, c7, c8, c9].drop 2).take (Tryz.prog.cellsOf 31)) = xs[2]? := hf 2 _ rfl
    simp only [h1, h2, List.drop_zero, List.drop_succ_cons, List.take_succ_cons, List.take_zero] at g0 g1 g2
    obtain ⟨y0, e0⟩ := get1 hx (by decide) g0
    obtain ⟨y1, e1⟩ := get1 hx (by decide) g1
    obtain ⟨y2, e2⟩ := get1 hx (by decide) g2
    obtain ⟨z0, r0, b0⟩ := u8_trod e0
    obtain ⟨z1, r1, b1⟩ := u8_trod e1
    obtain ⟨u, vi, r2, b2, i2⟩ := unit_trod e2
    simp only [List.cons.injEq, and_true] at r0 r1
    subst r0 r1
    refine ⟨⟨z0, z1, u⟩, vi, ?_, b0, b1, b2, i2⟩
    rw [r2]
/-- Acts, as a walk reads them. -/
def ActsV (w : World) (v : Value) (n : Nat) (C : Nat → Ac) (I : Nat → Value) : Prop :=
  ∃ a cap, v = .slice a n cap ∧ n ≤ cap ∧ cap ≤ maxLen ∧ (n = 0 ∨ ∃ b off, a = some ⟨b, off, none⟩ ∧ ∀ i, i < n → ((0 ≤ (C i).k ∧ (C i).k ≤ 255) ∧ (0 ≤ (C i).a ∧ (C i).a ≤ 255) ∧ (C i).u.wf ∧ BytI w [] (I i) (C i).u.info) ∧
    ∀ j u, ((C i).cells (I i))[j]? = some u → w.cell? ⟨b, off + 10 * i + j, none⟩ = some u)
theorem acts_of {v : Value} {d : DataW H} {p : List MemPlace} (hv : Value.okWide Tryz.prog W .any 0 69 v) (h : DataW.Trod enc Tryz.prog W 0 (fun _ => true) true 69 v d p) : ∃ n C I, ActsV W v n C I := by
  obtain ⟨a0, len, cap, rfl⟩ := okWide_slice Tryz.underlying69 hv
  obtain ⟨fuel, hf⟩ := h
  rcases Go.Deep.open_slice Tryz.underlying69 hf with ⟨hcs, hx⟩ | ⟨a, n, cap', m, k, D, Pl, hcs, _, hl, hm, hmm, hx, hi⟩
  · simp only [Value.cells, List.cons.injEq, Value.slice.injEq, and_true] at hcs
    obtain ⟨rfl, rfl, rfl⟩ := hcs
    exact ⟨0, fun _ => ⟨0, 0, Un.nil⟩, fun _ => nil0, none, 0, rfl, by simp, by simp, .inl rfl⟩
  · simp only [Value.cells, List.cons.injEq, Value.slice.injEq, and_true] at hcs
    obtain ⟨rfl, rfl, rfl⟩ := hcs
    simp only [if_true] at hmm
    subst hmm
    have hc : Tryz.prog.cellsOf 71 = 10 := by kernel_rfl
    rw [hc] at hi
    have hB : ∀ i, i < len → ∃ q : Ac × Value, ((0 ≤ q.1.k ∧ q.1.k ≤ 255) ∧ (0 ≤ q.1.a ∧ q.1.a ≤ 255) ∧ q.1.u.wf ∧ BytI W [] q.2 q.1.u.info) ∧ W.cells? 0 (a.add (i * 10)) 10 = some (q.1.cells q.2).toList := fun i h9 => by
      obtain ⟨cs', h1, h2⟩ := hi i (by omega)
      obtain ⟨c, vi, e, b0, b1, b2, b3⟩ := act_trod h2
      exact ⟨(c, vi), ⟨b0, b1, b2, b3⟩, by rw [h1, e]⟩
    haveI : Inhabited (Ac × Value) := ⟨(⟨0, 0, Un.nil⟩, nil0)⟩
    obtain ⟨Q, hQ⟩ := Go.Deep.choose_lt hB
    refine ⟨len, fun i => (Q i).1, fun i => (Q i).2, some a, _, rfl, hl, hm, ?_⟩
    by_cases h0 : len = 0
    · exact .inl h0
    · right
      obtain ⟨b, off, spot⟩ := a
      have hc0 := (World.cells?_some (hQ 0 (by omega)).2).2.2 0 (by omega)
      have hspot : spot = none := by
        have := World.cell?_spot hc0
        simpa [Addr.add] using this
      subst hspot
      refine ⟨b, off, rfl, fun i h9 => ⟨(hQ i h9).1, fun j u hu => ?_⟩⟩
      have hj : j < 10 := by
        have := (Array.getElem?_eq_some_iff.1 hu).1
        simpa using this
      have h1 := (World.cells?_some (hQ i h9).2).2.2 j hj
      rw [Go.Deep.add_add, Go.WideShapes.add_plain] at h1
      rw [show off + 10 * i + j = off + (i * 10 + j) by omega, h1]
      simpa using hu
end
/-- An act's cells. -/
structure ActC (w : World) (bs p : Nat) (c : Ac) (vi : Value) : Prop where
  c0 : w.cell? ⟨bs, p, none⟩ = some (.int .u8 c.k)
  c1 : w.cell? ⟨bs, p + 1, none⟩ = some (.int .u8 c.a)
  c2 : w.cell? ⟨bs, p + 2, none⟩ = some (.int .u8 c.u.bsn)
  c3 : w.cell? ⟨bs, p + 3, none⟩ = some (.int .u8 c.u.fsn)
  c4 : w.cell? ⟨bs, p + 4, none⟩ = some (.bool c.u.bib)
  c5 : w.cell? ⟨bs, p + 5, none⟩ = some (.bool c.u.fib)
  c6 : w.cell? ⟨bs, p + 6, none⟩ = some (.int .u8 c.u.kind)
  c7 : w.cell? ⟨bs, p + 7, none⟩ = some (.int .u8 c.u.status)
  c8 : w.cell? ⟨bs, p + 8, none⟩ = some (.bool c.u.wide)
  c9 : w.cell? ⟨bs, p + 9, none⟩ = some vi
  d9 : w.cell? ⟨bs, p + 2 + 7, none⟩ = some vi
theorem ActC.below {w w1 : World} {bs p : Nat} {c : Ac} {vi : Value} (h : ActC w bs p c vi) (hb : Below w.heap.size w w1) : ActC w1 bs p c vi :=
  ⟨(hb.cell (World.block_lt_of_cell? w _ h.c0)).trans h.c0, (hb.cell (World.block_lt_of_cell? w _ h.c1)).trans h.c1, (hb.cell (World.block_lt_of_cell? w _ h.c2)).trans h.c2, (hb.cell (World.block_lt_of_cell? w _ h.c3)).trans h.c3, (hb.cell (World.block_lt_of_cell? w _ h.c4)).trans h.c4, (hb.cell (World.block_lt_of_cell? w _ h.c5)).trans h.c5, (hb.cell (World.block_lt_of_cell? w _ h.c6)).trans h.c6, (hb.cell (World.block_lt_of_cell? w _ h.c7)).trans h.c7, (hb.cell (World.block_lt_of_cell? w _ h.c8)).trans h.c8, (hb.cell (World.block_lt_of_cell? w _ h.c9)).trans h.c9, (hb.cell (World.block_lt_of_cell? w _ h.d9)).trans h.d9⟩
theorem ActsV.open {w : World} {v : Value} {n : Nat} {C : Nat → Ac} {I : Nat → Value} (h : ActsV w v n C I) : ∃ a cap, v = .slice a n cap ∧ n ≤ cap ∧ n ≤ maxLen ∧ (n = 0 ∨ ∃ bs off, a = some ⟨bs, off, none⟩ ∧ ∀ k, k < n → ((0 ≤ (C k).k ∧ (C k).k ≤ 255) ∧ (0 ≤ (C k).a ∧ (C k).a ≤ 255) ∧ (C k).u.wf ∧ BytI w [] (I k) (C k).u.info) ∧ ActC w bs (off + k * 10) (C k) (I k)) := by
  obtain ⟨a, cap, rfl, h1, h2, h3⟩ := h
  refine ⟨a, cap, rfl, h1, by omega, ?_⟩
  rcases h3 with h0 | ⟨bs, off, rfl, h4⟩
  · exact .inl h0
  · refine .inr ⟨bs, off, rfl, fun k hk => ?_⟩
    obtain ⟨h5, h6⟩ := h4 k hk
    have e := fun j u (hu : ((C k).cells (I k))[j]? = some u) => h6 j u hu
    rw [show off + 10 * k = off + k * 10 by omega] at e
    exact ⟨h5, e 0 _ rfl, e 1 _ rfl, e 2 _ rfl, e 3 _ rfl, e 4 _ rfl, e 5 _ rfl, e 6 _ rfl, e 7 _ rfl, e 8 _ rfl, e 9 _ rfl, e 9 _ rfl⟩
theorem Un.wf.ok {u : Un} (h : u.wf) (hl : u.info.length ≤ 1000) : u.ok := ⟨h.bsn, h.fsn, h.kind, h.status, hl⟩
section
variable {H : Type} {enc : TypeId × Value → H} {W : World}
theorem bytI_of {v : Value} {d : DataW H} {p : List MemPlace} (hv : Value.okWide Tryz.prog W .any 0 27 v) (h : DataW.Trod enc Tryz.prog W 0 (fun _ => true) true 27 v d p) : ∃ xs, BytI W [] v xs ∧ xs.length ≤ maxLen := by
  obtain ⟨a0, len, cap, rfl⟩ := okWide_slice Tryz.underlying27 hv
  obtain ⟨fuel, hf⟩ := h
  obtain ⟨v9, xs, e, h1, h2⟩ := bytI_trod hf
  simp only [Value.cells, List.cons.injEq, and_true] at e
  exact ⟨xs, e ▸ h1, h2⟩
theorem unit_of {v : Value} {d : DataW H} {p : List MemPlace} (hv : Value.okWide Tryz.prog W .any 0 31 v) (h : DataW.Trod enc Tryz.prog W 0 (fun _ => true) true 31 v d p) : ∃ (u : Un) (vi : Value), v = u.v vi ∧ u.wf ∧ BytI W [] vi u.info := by
  obtain ⟨cs, rfl, _⟩ := okWide_struct Tryz.underlying31 hv
  obtain ⟨fuel, hf⟩ := h
  obtain ⟨u, vi, e, h1, h2⟩ := unit_trod hf
  exact ⟨u, vi, by simp only [Value.cells] at e; rw [Array.toList_inj.1 e], h1, h2⟩
theorem order_of {v : Value} {d : DataW H} {p : List MemPlace} (hv : Value.okWide Tryz.prog W .any 0 29 v) (h : DataW.Trod enc Tryz.prog W 0 (fun _ => true) true 29 v d p) : ∃ (k : Int) (vi : Value) (xs : Oct), v = .agg #[.int .u8 k, vi] ∧ (0 ≤ k ∧ k ≤ 255) ∧ BytI W [] vi xs ∧ xs.length ≤ maxLen := by
  obtain ⟨cs, rfl, _⟩ := okWide_struct Tryz.underlying29 hv
  obtain ⟨fuel, hf⟩ := h
  obtain ⟨xs, n, _, _, hl, hx, hg⟩ := DataW.trod_struct Tryz.underlying29 hf
  have hc : Tryz.prog.cellsOf 29 = 2 := by kernel_rfl
  have h1 : Tryz.prog.cellsOf 5 = 1 := by kernel_rfl
  have h3 : Tryz.prog.cellsOf 27 = 1 := by kernel_rfl
  rw [hc] at hl
  obtain ⟨l⟩ := cs
  simp only [Value.cells] at hl hg
  match l, hl with
  | [c0, c1], _ =>
    have g0 : DataW.trod enc Tryz.prog W 0 (fun _ => true) true n 5 (([c0, c1].drop 0).take (Tryz.prog.cellsOf 5)) = xs[0]? := hg 0 _ rfl
    have g1 : DataW.trod enc Tryz.prog W 0 (fun _ => true) true n 27 (([c0, c1].drop 1).take (Tryz.prog.cellsOf 27)) = xs[1]? := hg 1 _ rfl
    simp only [h1, h3, List.drop_zero, List.drop_succ_cons, List.take_succ_cons, List.take_zero] at g0 g1
    obtain ⟨y0, e0⟩ := get1 hx (by decide) g0
    obtain ⟨y1, e1⟩ := get1 hx (by decide) g1
    obtain ⟨z0, r0, b0⟩ := u8_trod e0
    obtain ⟨v1, x1, r1, b1, l1⟩ := bytI_trod e1
    simp only [List.cons.injEq, and_true] at r0 r1
    subst r0 r1
    exact ⟨z0, c1, x1, rfl, b0, b1, l1⟩
end
end Go.Proofs.YtdffinnnjcgfcaaGreatK
