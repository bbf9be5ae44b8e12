/- A row's argument that is a setup. -/
import Derived.Test.YtdffinnnjcgfcaaGreatRob
import Derived.Test.YtdffinnnjcgfcaaGreatPb1
import Derived.OpenShut
namespace Go.Proofs.YtdffinnnjcgfcaaGreatK
open Go Go.RowKit Go.WideShapes Go.ChangeShapes
set_option maxRecDepth 100000
section
variable {H : Type} {enc : TypeId × Value → H} {W : World}
theorem int_trod {m : Nat} {cs : List Value} {x : DataW H × List MemPlace} (h : DataW.trod enc Tryz.prog W 0 (fun _ => true) true m 3 cs = some x) : ∃ z, cs = [.int .i64 z] ∧ i64ok z := by
  obtain ⟨z, h3, _, h4⟩ := DataW.trod_int Tryz.underlying3 h
  exact ⟨z, h3, h4⟩
theorem times_trod {m : Nat} {cs : List Value} {x : DataW H × List MemPlace} (h : DataW.trod enc Tryz.prog W 0 (fun _ => true) true m 35 cs = some x) : ∃ t0 t1 t2 t3 t4 t5 t6 t7, cs = [.int .i64 t0, .int .i64 t1, .int .i64 t2, .int .i64 t3, .int .i64 t4, .int .i64 t5, .int .i64 t6, .int .i64 t7] ∧ i64ok t0 ∧ i64ok t1 ∧ i64ok t2 ∧ i64ok t3 ∧ i64ok t4 ∧ i64ok t5 ∧ i64ok t6 ∧ i64ok t7 := by
  obtain ⟨xs, n, _, _, hl, hx, hf⟩ := DataW.trod_array Tryz.underlying35 h
  have hc : Tryz.prog.cellsOf 35 = 8 := by kernel_rfl
  have h1 : Tryz.prog.cellsOf 3 = 1 := by kernel_rfl
  rw [hc] at hl
  rw [h1] at hf
  match cs, hl with
  | [c0, c1, c2, c3, c4, c5, c6, c7], _ =>
    have g0 := hf 0 (by decide)
    have g1 := hf 1 (by decide)
    have g2 := hf 2 (by decide)
    have g3 := hf 3 (by decide)
    have g4 := hf 4 (by decide)
    have g5 := hf 5 (by decide)
    have g6 := hf 6 (by decide)
    have g7 := hf 7 (by decide)
    simp only [Nat.mul_one, List.drop_zero, List.drop_succ_cons, List.take_succ_cons, List.take_zero] at g0 g1 g2 g3 g4 g5 g6 g7
    obtain ⟨y0, e0⟩ := get1 hx (by decide) g0
    obtain ⟨z0, r0, b0⟩ := int_trod e0
    obtain ⟨y1, e1⟩ := get1 hx (by decide) g1
    obtain ⟨z1, r1, b1⟩ := int_trod e1
    obtain ⟨y2, e2⟩ := get1 hx (by decide) g2
    obtain ⟨z2, r2, b2⟩ := int_trod e2
    obtain ⟨y3, e3⟩ := get1 hx (by decide) g3
    obtain ⟨z3, r3, b3⟩ := int_trod e3
    obtain ⟨y4, e4⟩ := get1 hx (by decide) g4
    obtain ⟨z4, r4, b4⟩ := int_trod e4
    obtain ⟨y5, e5⟩ := get1 hx (by decide) g5
    obtain ⟨z5, r5, b5⟩ := int_trod e5
    obtain ⟨y6, e6⟩ := get1 hx (by decide) g6
    obtain ⟨z6, r6, b6⟩ := int_trod e6
    obtain ⟨y7, e7⟩ := get1 hx (by decide) g7
    obtain ⟨z7, r7, b7⟩ := int_trod e7
    simp only [List.cons.injEq, and_true] at r0 r1 r2 r3 r4 r5 r6 r7
    subst r0 r1 r2 r3 r4 r5 r6 r7
    exact ⟨z0, z1, z2, z3, z4, z5, z6, z7, rfl, b0, b1, b2, b3, b4, b5, b6, b7⟩
theorem setup_trod {m : Nat} {cs : List Value} {x : DataW H × List MemPlace} (h : DataW.trod enc Tryz.prog W 0 (fun _ => true) true m 37 cs = some x) : ∃ s : Su, s.wf ∧ cs = s.v.cells.toList := by
  obtain ⟨xs, n, _, _, hl, hx, hf⟩ := DataW.trod_struct Tryz.underlying37 h
  have hc : Tryz.prog.cellsOf 37 = 13 := by kernel_rfl
  have h1 : Tryz.prog.cellsOf 3 = 1 := by kernel_rfl
  have h2 : Tryz.prog.cellsOf 4 = 1 := by kernel_rfl
  have h3 : Tryz.prog.cellsOf 35 = 8 := by kernel_rfl
  rw [hc] at hl
  match cs, hl with
  | [c0, c1, c2, c3, c4, c5, c6, c7, c8, c9, c10, c11, c12], _ =>
    have g0 : DataW.trod enc Tryz.prog W 0 (fun _ => true) true n 4 (([c0, c1, c2, c3, c4, c5, c6, c7, c8, c9, c10, c11, c12].drop 0).take (Tryz.prog.cellsOf 4)) = xs[0]? := hf 0 _ rfl
    have g1 : DataW.trod enc Tryz.prog W 0 (fun _ => true) true n 3 (([c0, c1, c2, c3, c4, c5, c6, c7, c8, c9, c10, c11, c12].drop 1).take (Tryz.prog.cellsOf 3)) = xs[1]? := hf 1 _ rfl
    have g2 : DataW.trod enc Tryz.prog W 0 (fun _ => true) true n 3 (([c0, c1, c2, c3, c4, c5, c6, c7, c8, c9, c10, c11, c12].drop 2).take (Tryz.prog.cellsOf 3)) = xs[2]? := hf 2 _ rfl
    have g3 : DataW.trod enc Tryz.prog W 0 (fun _ => true) true n 3 (([c0, c1, c2, c3, c4, c5, c6, c7, c8, c9, c10, c11, c12].drop 3).take (Tryz.prog.cellsOf 3)) = xs[3]? := hf 3 _ rfl
    have g4 : DataW.trod enc Tryz.prog W 0 (fun _ => true) true n 3 (([c0, c1, c2, c3, c4, c5, c6, c7, c8, c9, c10, c11, c12].drop 4).take (Tryz.prog.cellsOf 3)) = xs[4]? := hf 4 _ rfl
    have g5 : DataW.trod enc Tryz.prog W 0 (fun _ => true) true n 35 (([c0, c1, c2, c3, c4, c5, c6, c7, c8, c9, c10, c11, c12].drop 5).take (Tryz.prog.cellsOf 35)) = xs[5]? := hf 5 _ rfl
    simp only [h1, h2, h3, List.drop_zero, List.drop_succ_cons, List.take_succ_cons, List.take_zero] at g0 g1 g2 g3 g4 g5
    obtain ⟨y0, e0⟩ := get1 hx (by decide) g0
    obtain ⟨y1, e1⟩ := get1 hx (by decide) g1
    obtain ⟨y2, e2⟩ := get1 hx (by decide) g2
    obtain ⟨y3, e3⟩ := get1 hx (by decide) g3
    obtain ⟨y4, e4⟩ := get1 hx (by decide) g4
    obtain ⟨y5, e5⟩ := get1 hx (by decide) g5
    obtain ⟨z0, r0⟩ := bool_trod e0
    obtain ⟨z1, r1, b1⟩ := int_trod e1
    obtain ⟨z2, r2, b2⟩ := int_trod e2
    obtain ⟨z3, r3, b3⟩ := int_trod e3
    obtain ⟨z4, r4, b4⟩ := int_trod e4
    obtain ⟨t0, t1, t2, t3, t4, t5, t6, t7, r5, d0, d1, d2, d3, d4, d5, d6, d7⟩ := times_trod e5
    simp only [List.cons.injEq, and_true] at r0 r1 r2 r3 r4 r5
    obtain ⟨rfl, rfl, rfl, rfl, rfl, rfl, rfl, rfl⟩ := r5
    subst r0 r1 r2 r3 r4
    exact ⟨⟨z0, z1, z2, z3, z4, t0, t1, t2, t3, t4, t5, t6, t7⟩, ⟨b1, b2, b3, b4, d0, d1, d2, d3, d4, d5, d6, d7⟩, rfl⟩
theorem setup_of {v : Value} {d : DataW H} {p : List MemPlace} (hv : Value.okWide Tryz.prog W .any 0 37 v) (h : DataW.Trod enc Tryz.prog W 0 (fun _ => true) true 37 v d p) : ∃ s : Su, v = s.v ∧ s.wf := by
  obtain ⟨cs, rfl, _⟩ := okWide_struct Tryz.underlying37 hv
  obtain ⟨fuel, hf⟩ := h
  obtain ⟨s, hw, e⟩ := setup_trod hf
  exact ⟨s, by simp only [Value.cells] at e; rw [Array.toList_inj.1 e], hw⟩
end
end Go.Proofs.YtdffinnnjcgfcaaGreatK
