/- A row's argument that is a setup. A row's argument that is a part of a script. -/
import Derived.Test.YtcllbmjmefeknaaGreatRoa
import Derived.Test.YtcllbmjmefeknaaGreatPb0
import Derived.OpenShut
namespace Go.Proofs.YtcllbmjmefeknaaGreatK
/-! ### A row's argument that is a setup. -/
section
open Go Go.RowKit Go.WideShapes Go.ChangeShapes
set_option maxRecDepth 100000
section
variable {H : Type} {enc : TypeId × Value → H} {W : World}
theorem int_trod {m : Nat} {cs : List Value} {x : DataW H × List MemPlace} (h : DataW.trod enc Tryz.prog W 0 (fun _ => true) true m 3 cs = some x) : ∃ z, cs = [.int .i64 z] ∧ i64ok z := by
  obtain ⟨z, h3, _, h4⟩ := DataW.trod_int Tryz.underlying3 h
  exact ⟨z, h3, h4⟩
theorem times_trod {m : Nat} {cs : List Value} {x : DataW H × List MemPlace} (h : DataW.trod enc Tryz.prog W 0 (fun _ => true) true m 22 cs = some x) : ∃ t0 t1 t2 t3 t4 t5 t6 t7, cs = [.int .i64 t0, .int .i64 t1, .int .i64 t2, .int .i64 t3, .int .i64 t4, .int .i64 t5, .int .i64 t6, .int .i64 t7] ∧ i64ok t0 ∧ i64ok t1 ∧ i64ok t2 ∧ i64ok t3 ∧ i64ok t4 ∧ i64ok t5 ∧ i64ok t6 ∧ i64ok t7 := by
  obtain ⟨xs, n, _, _, hl, hx, hf⟩ := DataW.trod_array Tryz.underlying22 h
  have hc : Tryz.prog.cellsOf 22 = 8 := by kernel_rfl
  have h1 : Tryz.prog.cellsOf 3 = 1 := by kernel_rfl
  rw [hc] at hl
  rw [h1] at hf
  match cs, hl with
  | [c0, c1, c2, c3, c4, c5, c6, c7], _ =>
    have g0 := hf 0 (by decide)
    have g1 := hf 1 (by decide)
    have g2 := hf 2 (by decide)
    have g3 := hf 3 (by decide)
    have g4 := hf 4 (by decide)
    have g5 := hf 5 (by decide)
    have g6 := hf 6 (by decide)
    have g7 := hf 7 (by decide)
    simp only [Nat.mul_one, List.drop_zero, List.drop_succ_cons, List.take_succ_cons, List.take_zero] at g0 g1 g2 g3 g4 g5 g6 g7
    obtain ⟨y0, e0⟩ := get1 hx (by decide) g0
    obtain ⟨z0, r0, b0⟩ := int_trod e0
    obtain ⟨y1, e1⟩ := get1 hx (by decide) g1
    obtain ⟨z1, r1, b1⟩ := int_trod e1
    obtain ⟨y2, e2⟩ := get1 hx (by decide) g2
    obtain ⟨z2, r2, b2⟩ := int_trod e2
    obtain ⟨y3, e3⟩ := get1 hx (by decide) g3
    obtain ⟨z3, r3, b3⟩ := int_trod e3
    obtain ⟨y4, e4⟩ := get1 hx (by decide) g4
    obtain ⟨z4, r4, b4⟩ := int_trod e4
    obtain ⟨y5, e5⟩ := get1 hx (by decide) g5
    obtain ⟨z5, r5, b5⟩ := int_trod e5
    obtain ⟨y6, e6⟩ := get1 hx (by decide) g6
    obtain ⟨z6, r6, b6⟩ := int_trod e6
    obtain ⟨y7, e7⟩ := get1 hx (by decide) g7
    obtain ⟨z7, r7, b7⟩ := int_trod e7
    simp only [List.cons.injEq, and_true] at r0 r1 r2 r3 r4 r5 r6 r7
    subst r0 r1 r2 r3 r4 r5 r6 r7
    exact ⟨z0, z1, z2, z3, z4, z5, z6, z7, rfl, b0, b1, b2, b3, b4, b5, b6, b7⟩
theorem setup_trod {m : Nat} {cs : List Value} {x : DataW H × List MemPlace} (h : DataW.trod enc Tryz.prog W 0 (fun _ => true) true m 24 cs = some x) : ∃ s : Su, s.wf ∧ cs = s.v.cells.toList := by
  obtain ⟨xs, n, _, _, hl, hx, hf⟩ := DataW.trod_struct Tryz.underlying24 h
  have hc : Tryz.prog.cellsOf 24 = 13 := by kernel_rfl
  have h1 : Tryz.prog.cellsOf 3 = 1 := by kernel_rfl
  have h2 : Tryz.prog.cellsOf 4 = 1 := by kernel_rfl
  have h3 : Tryz.prog.cellsOf 22 = 8 := by kernel_rfl
  rw [hc] at hl
  match cs, hl with
  | [c0, c1, c2, c3, c4, c5, c6, c7, c8, c9, c10, c11, c12], _ =>
    have g0 : DataW.trod enc Tryz.prog W 0 (fun _ => true) true n 4 (([c0, c1, c2, c3, c4, c5, c6, c7, c8, c9, c10, c11, c12].drop 0).take (Tryz.prog.cellsOf 4)) = xs[0]? := hf 0 _ rfl
    have g1 : DataW.trod enc Tryz.prog W 0 (fun _ => true) true n 3 (([c0, c1, c2, c3, c4, c5, c6, c7, c8, c9, c10, c11, c12].drop 1).take (Tryz.prog.cellsOf 3)) = xs[1]? := hf 1 _ rfl
    have g2 : DataW.trod enc Tryz.prog W 0 (fun _ => true) true n 3 (([c0, c1, c2, c3, c4, c5, c6, c7, c8, c9, c10, c11, c12].drop 2).take (Tryz.prog.cellsOf 3)) = xs[2]? := hf 2 _ rfl
    have g3 : DataW.trod enc Tryz.prog W 0 (fun _ => true) true n 3 (([c0, c1, c2, c3, c4, c5, c6, c7, c8, c9, c10, c11, c12].drop 3).take (Tryz.prog.cellsOf 3)) = xs[3]? := hf 3 _ rfl
    have g4 : DataW.trod enc Tryz.prog W 0 (fun _ => true) true n 3 (([c0, c1, c2, c3, c4, c5, c6, c7, c8, c9, c10, c11, c12].drop 4).take (Tryz.prog.cellsOf 3)) = xs[4]? := hf 4 _ rfl
    have g5 : DataW.trod enc Tryz.prog W 0 (fun _ => true) true n 22 (([c0, c1, c2, c3, c4, c5, c6, c7, c8, c9, c10, c11, c12].drop 5).take (Tryz.prog.cellsOf 22)) = xs[5]? := hf 5 _ rfl
    simp only [h1, h2, h3, List.drop_zero, List.drop_succ_cons, List.take_succ_cons, List.take_zero] at g0 g1 g2 g3 g4 g5
    obtain ⟨y0, e0⟩ := get1 hx (by decide) g0
    obtain ⟨y1, e1⟩ := get1 hx (by decide) g1
    obtain ⟨y2, e2⟩ := get1 hx (by decide) g2
    obtain ⟨y3, e3⟩ := get1 hx (by decide) g3
    obtain ⟨y4, e4⟩ := get1 hx (by decide) g4
    obtain ⟨y5, e5⟩ := get1 hx (by decide) g5
    obtain ⟨z0, r0⟩ := bool_trod e0
    obtain ⟨z1, r1, b1⟩ := int_trod e1
    obtain ⟨z2, r2, b2⟩ := int_trod e2
    obtain ⟨z3, r3, b3⟩ := int_trod e3
    obtain ⟨z4, r4, b4⟩ := int_trod e4
    obtain ⟨t0, t1, t2, t3, t4, t5, t6, t7, r5, d0, d1, d2, d3, d4, d5, d6, d7⟩ := times_trod e5
    simp only [List.cons.injEq, and_true] at r0 r1 r2 r3 r4 r5
    obtain ⟨rfl, rfl, rfl, rfl, rfl, rfl, rfl, rfl⟩ := r5
    subst r0 r1 r2 r3 r4
    exact ⟨⟨z0, z1, z2, z3, z4, t0, t1, t2, t3, t4, t5, t6, t7⟩, ⟨b1, b2, b3, b4, d0, d1, d2, d3, d4, d5, d6, d7⟩, rfl⟩
theorem setup_of {v : Value} {d : DataW H} {p : List MemPlace} (hv : Value.okWide Tryz.prog W .any 0 24 v) (h : DataW.Trod enc Tryz.prog W 0 (fun _ => true) true 24 v d p) : ∃ s : Su, v = s.v ∧ s.wf := by
  obtain ⟨cs, rfl, _⟩ := okWide_struct Tryz.underlying24 hv
  obtain ⟨fuel, hf⟩ := h
  obtain ⟨s, hw, e⟩ := setup_trod hf
  exact ⟨s, by simp only [Value.cells] at e; rw [Array.toList_inj.1 e], hw⟩
end
end
/-! ### A row's argument that is a part of a script. -/
section
open Go Go.RowKit Go.WideShapes Go.ChangeShapes
set_option maxRecDepth 100000
section
variable {H : Type} {enc : TypeId × Value → H} {W : World}
theorem order_trod {m : Nat} {cs : List Value} {x : DataW H × List MemPlace} (h : DataW.trod enc Tryz.prog W 0 (fun _ => true) true m 27 cs = some x) (hl : cs.length = 2) : ∃ (k : Int) (vi : Value) (xs : Oct), cs = [.int .u8 k, vi] ∧ (0 ≤ k ∧ k ≤ 255) ∧ BytI W [] vi xs ∧ xs.length ≤ maxLen := by
  obtain ⟨xs, n, _, _, _, hx, hg⟩ := DataW.trod_struct Tryz.underlying27 h
  have h1 : Tryz.prog.cellsOf 5 = 1 := by kernel_rfl
  have h3 : Tryz.prog.cellsOf 25 = 1 := by kernel_rfl
  match cs, hl with
  | [c0, c1], _ =>
    have g0 : DataW.trod enc Tryz.prog W 0 (fun _ => true) true n 5 (([c0, c1].drop 0).take (Tryz.prog.cellsOf 5)) = xs[0]? := hg 0 _ rfl
    have g1 : DataW.trod enc Tryz.prog W 0 (fun _ => true) true n 25 (([c0, c1].drop 1).take (Tryz.prog.cellsOf 25)) = xs[1]? := hg 1 _ rfl
    simp only [h1, h3, List.drop_zero, List.drop_succ_cons, List.take_succ_cons, List.take_zero] at g0 g1
    obtain ⟨y0, e0⟩ := get1 hx (by decide) g0
    obtain ⟨y1, e1⟩ := get1 hx (by decide) g1
    obtain ⟨z0, r0, b0⟩ := u8_trod e0
    obtain ⟨v1, x1, r1, b1, l1⟩ := bytI_trod e1
    simp only [List.cons.injEq, and_true] at r0 r1
    subst r0 r1
    exact ⟨z0, c1, x1, rfl, b0, b1, l1⟩
theorem step_of {v : Value} {d : DataW H} {p : List MemPlace} (hv : Value.okWide Tryz.prog W .any 0 29 v) (h : DataW.Trod enc Tryz.prog W 0 (fun _ => true) true 29 v d p) :
    ∃ (k s n : Int) (vm : Value) (ms : Oct) (ok : Int) (vo : Value) (o : Oct), v = .agg #[.int .u8 k, .int .i64 s, .int .i64 n, vm, .int .u8 ok, vo] ∧ (0 ≤ k ∧ k ≤ 255) ∧ i64ok s ∧ i64ok n ∧ BytI W [] vm ms ∧ ms.length ≤ maxLen ∧ (0 ≤ ok ∧ ok ≤ 255) ∧ BytI W [] vo o ∧ o.length ≤ maxLen := by
  obtain ⟨cs, rfl, _⟩ := okWide_struct Tryz.underlying29 hv
  obtain ⟨fuel, hf⟩ := h
  obtain ⟨xs, n, _, _, hl, hx, hg⟩ := DataW.trod_struct Tryz.underlying29 hf
  have hc : Tryz.prog.cellsOf 29 = 6 := by kernel_rfl
  have h1 : Tryz.prog.cellsOf 5 = 1 := by kernel_rfl
  have h2 : Tryz.prog.cellsOf 3 = 1 := by kernel_rfl
  have h3 : Tryz.prog.cellsOf 25 = 1 := by kernel_rfl
  have h4 : Tryz.prog.cellsOf 27 = 2 := by kernel_rfl
  rw [hc] at hl
  obtain ⟨l⟩ := cs
  simp only [Value.cells] at hl hg
  match l, hl with
  | [c0, c1, c2, c3, c4, c5], _ =>
    have g0 : DataW.trod enc Tryz.prog W 0 (fun _ => true) true n 5 (([c0, c1, c2, c3, c4, c5].drop 0).take (Tryz.prog.cellsOf 5)) = xs[0]? := hg 0 _ rfl
    have g1 : DataW.trod enc Tryz.prog W 0 (fun _ => true) true n 3 (([c0, c1, c2, c3, c4, c5].drop 1).take (Tryz.prog.cellsOf 3)) = xs[1]? := hg 1 _ rfl
    have g2 : DataW.trod enc Tryz.prog W 0 (fun _ => true) true n 3 (([c0, c1, c2, c3, c4, c5].drop 2).take (Tryz.prog.cellsOf 3)) = xs[2]? := hg 2 _ rfl
    have g3 : DataW.trod enc Tryz.prog W 0 (fun _ => true) true n 25 (([c0, c1, c2, c3, c4, c5].drop 3).take (Tryz.prog.cellsOf 25)) = xs[3]? := hg 3 _ rfl
    have g4 : DataW.trod enc Tryz.prog W 0 (fun _ => true) true n 27 (([c0, c1, c2, c3, c4, c5].drop 4).take (Tryz.prog.cellsOf 27)) = xs[4]? := hg 4 _ rfl
    simp only [h1, h2, h3, h4, List.drop_zero, List.drop_succ_cons, List.take_succ_cons, List.take_zero] at g0 g1 g2 g3 g4
    obtain ⟨y0, e0⟩ := get1 hx (by decide) g0
    obtain ⟨y1, e1⟩ := get1 hx (by decide) g1
    obtain ⟨y2, e2⟩ := get1 hx (by decide) g2
    obtain ⟨y3, e3⟩ := get1 hx (by decide) g3
    obtain ⟨y4, e4⟩ := get1 hx (by decide) g4
    obtain ⟨z0, r0, b0⟩ := u8_trod e0
    obtain ⟨z1, r1, b1⟩ := int_trod e1
    obtain ⟨z2, r2, b2⟩ := int_trod e2
    obtain ⟨v3, x3, r3, b3, l3⟩ := bytI_trod e3
    obtain ⟨z4, v5, x5, r4, b4, b5, l5⟩ := order_trod e4 rfl
    simp only [List.cons.injEq, and_true] at r0 r1 r2 r3 r4
    obtain ⟨r4, r5⟩ := r4
    subst r0 r1 r2 r3 r4 r5
    exact ⟨z0, z1, z2, c3, x3, z4, c5, x5, rfl, b0, b1, b2, b3, l3, b4, b5, l5⟩
end
end
end Go.Proofs.YtcllbmjmefeknaaGreatK
