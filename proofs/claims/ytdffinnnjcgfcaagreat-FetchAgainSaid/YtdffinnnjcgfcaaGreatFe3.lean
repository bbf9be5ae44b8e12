/- The walks of fetch.BSNT, and of the reference's SameAll where both lists are one. -/
import Derived.Test.YtdffinnnjcgfcaaGreatFe1
import Derived.Test.YtdffinnnjcgfcaaGreatLf0
namespace Go.Proofs.YtdffinnnjcgfcaaGreatK
open Go Go.RowKit
set_option linter.unusedVariables false
set_option maxHeartbeats 2000000
set_option maxRecDepth 100000
theorem BSNT_c {w0 w : World} {b : Nat} {x : St} {n : Int} (h : Lk w0 w b x n) (h0 : x.S = 0) :
    Calls Tryz.prog 49 #[.pointer (some ⟨b, 0, none⟩)] w fun e w' => e = .returned (.tuple #[.int .u8 x.w.last, .int .i64 0]) ∧ w = w' := by
  have cS := h.S
  rw [h0] at cS
  obtain ⟨bw, bh, vs, vn, c17, hwy, hho⟩ := h.hold
  have hmB := mB_Taken
  have hmC := mC_Taken
  obtain ⟨y9, hy9⟩ : ∃ y9, x.w = y9 := ⟨_, rfl⟩
  rw [hy9] at c17 hwy ⊢
  have HW := Lib.hid hwy
  clear hwy hy9 hho h
  cases y9 with
  | bs q =>
    simp only [Wy.v] at c17
    go_enter Tryz.func49, Tryz.ntmps49
    go_wp2_with (first | ((with_reducible refine (BTaken_c HW.out).mono ?_); rintro e w9 ⟨rfl, rfl⟩))
    go_ret2
    exact ⟨rfl, rfl⟩
  | cy q =>
    simp only [Wy.v] at c17
    go_enter Tryz.func49, Tryz.ntmps49
    go_wp2_with (first | ((with_reducible refine (CTaken_c HW.out).mono ?_); rintro e w9 ⟨rfl, rfl⟩))
    go_ret2
    exact ⟨rfl, rfl⟩
theorem BSNT_on {w0 w : World} {b : Nat} {x : St} {n : Int} (h : Lk w0 w b x n) (h0 : x.S ≠ 0) :
    Calls Tryz.prog 49 #[.pointer (some ⟨b, 0, none⟩)] w fun e w' => e = .returned (.tuple #[.int .u8 0, .int .i64 9]) ∧ w = w' := by
  have cS := h.S
  generalize x.S = S at cS h0
  have k0 : (S == 0) = false := beq_eq_false_iff_ne.2 h0
  have k1 : (S != 0) = true := by simp [h0]
  clear h
  go_enter Tryz.func49, Tryz.ntmps49
  go_wp2
  go_ret2
  exact ⟨rfl, rfl⟩
theorem BSNT_nil (w : World) : Calls Tryz.prog 49 #[.pointer none] w fun e w' => e = .returned (.tuple #[.int .u8 0, .int .i64 2]) ∧ w = w' := by
  go_enter Tryz.func49, Tryz.ntmps49
  go_wp2
  go_ret2
  exact ⟨rfl, rfl⟩
theorem Messages_nil (k : Int) (w : World) : Calls Tryz.prog 50 #[.pointer none, .int .u8 k] w fun e w' => e = .returned (.tuple #[nil0, .int .i64 2]) ∧ w = w' := by
  go_enter Tryz.func50, Tryz.ntmps50
  go_wp2
  go_ret2
  exact ⟨rfl, rfl⟩
theorem Messages_on {w0 w : World} {b : Nat} {x : St} {n : Int} (h : Lk w0 w b x n) (h0 : x.S ≠ 0) (k : Int) :
    Calls Tryz.prog 50 #[.pointer (some ⟨b, 0, none⟩), .int .u8 k] w fun e w' => e = .returned (.tuple #[nil0, .int .i64 9]) ∧ w = w' := by
  have cS := h.S
  generalize x.S = S at cS h0
  have k0 : (S == 0) = false := beq_eq_false_iff_ne.2 h0
  have k1 : (S != 0) = true := by simp [h0]
  clear h
  go_enter Tryz.func50, Tryz.ntmps50
  go_wp2
  go_ret2
  exact ⟨rfl, rfl⟩
theorem MsgV.open {w : World} {v : Value} {xs : List Oct} (h : MsgV w v xs) : ∃ a cap, v = .slice a xs.length cap ∧ xs.length ≤ cap ∧ (xs.length = 0 ∨ ∃ bl off, a = some ⟨bl, off, none⟩ ∧ ∀ (j : Nat) (x : Oct), xs[j]? = some x → ∃ u, w.cell? ⟨bl, off + j, none⟩ = some u ∧ BytV w u x) := by
  obtain ⟨vs, R, M⟩ := h.reads
  obtain ⟨a, cap, e, hc⟩ := R.shape
  refine ⟨a, cap, e, hc, ?_⟩
  rcases R.2 with ⟨_, h0⟩ | ⟨bl, off, cap', cs, e', h1, h2, h3, h4, h5⟩
  · exact .inl h0
  · rw [e] at e'
    simp only [Value.slice.injEq, true_and] at e'
    refine .inr ⟨bl, off, e'.1, fun j x hx => ?_⟩
    obtain ⟨u, g1, g2⟩ := M.2 j x hx
    exact ⟨u, by rw [h3.c]; exact h5 j u g1, g2⟩
theorem SameAll_c {w : World} {v1 v2 : Value} {xs : List Oct} (h1 : MsgV w v1 xs) (h2 : MsgV w v2 xs) (hl : xs.length ≤ 100000) :
    Calls Tryz.prog 53 #[v1, v2] w fun e w' => e = .returned (.bool true) ∧ Below w.heap.size w w' := by
  obtain ⟨a1, c1, rfl, _, o1⟩ := h1.open
  obtain ⟨a2, c2, rfl, _, o2⟩ := h2.open
  have O1 := Lib.hid o1
  have O2 := Lib.hid o2
  obtain ⟨ln, hln⟩ : ∃ ln, xs.length = ln := ⟨_, rfl⟩
  rw [hln] at hl ⊢
  have HLN := Lib.hid hln
  clear h1 h2 o1 o2 hln
  go_enter Tryz.func53, Tryz.ntmps53
  go_wp2
  go_loopw [5] (fun i wr => ∃ k : Nat, k ≤ ln ∧ i = .int .i64 k ∧ Below w.heap.size w wr) (fun i _ => ln - (intOf i).toNat)
  case atStart => exact ⟨0, by omega, rfl, bl_refl w⟩
  case round =>
    obtain ⟨k, hk, rfl, B⟩ := hrel
    have HB := Lib.hid B
    clear B
    by_cases hlt : k < ln
    · have hlt' : (k : Int) < ln := by omega
      have hlx : k < xs.length := by rw [HLN.out]; exact hlt
      have hx : xs[k]? = some xs[k] := List.getElem?_eq_getElem hlx
      rcases O1.out with z1 | ⟨b1, f1, rfl, m1⟩
      · exact absurd z1 (by omega)
      rcases O2.out with z2 | ⟨b2, f2, rfl, m2⟩
      · exact absurd z2 (by omega)
      obtain ⟨u1, g1, y1⟩ := m1 k _ hx
      obtain ⟨u2, g2, y2⟩ := m2 k _ hx
      generalize xs[k] = p at y1 y2
      have Y1 := Lib.hid (Byt.below y1 HB.out)
      have Y2 := Lib.hid (Byt.below y2 HB.out)
      have up_1 := fun g : Up wr => below_cell g.ok (below_cell HB.out g1)
      have up_2 := fun g : Up wr => below_cell g.ok (below_cell HB.out g2)
      obtain ⟨q1, d1, rfl, _⟩ := Y1.out.1.shape
      obtain ⟨q2, d2, rfl, _⟩ := Y2.out.1.shape
      have up_c1 := fun g : Up wr => conv_back (Byt.below Y1.out g.ok)
      have up_c2 := fun g : Up wr => conv_back (Byt.below Y2.out g.ok)
      obtain ⟨str, hstr⟩ : ∃ str, strOfNums p = str := ⟨_, rfl⟩
      rw [hstr] at up_c1 up_c2
      clear hstr m1 m2 y1 y2 g1 g2 hx
      go_upto_region 6 with fail
      refine wp_region_up (by kernel_rfl) (by kernel_rfl) ?_
      repeat (go_big_quiet_step (fail))
      refine wpQuiet_nil ?_
      clear up_1 up_2 up_c1 up_c2
      refine up_elim (fun w6 hb6 => ?_)
      go_wp2
      go_roundw
      case rel => exact ⟨k + 1, by omega, by go_num, bl_then HB.out hb6⟩
      case measure => simp [intOf]; omega
    · obtain rfl : k = ln := by omega
      go_wp2
      go_ret
      exact ⟨rfl, HB.out⟩
end Go.Proofs.YtdffinnnjcgfcaaGreatK
