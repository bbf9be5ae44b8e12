/- The walks of package state, continued: out, status. -/
import Derived.Test.YtcllbmjmefeknaaGreatSt6
namespace Go.Proofs.YtcllbmjmefeknaaGreatK
open Go Go.RowKit
set_option linter.unusedVariables false
set_option maxHeartbeats 1000000
set_option maxRecDepth 100000
theorem Out_c {w : World} {b : Nat} {x : St} {L : Lay} (h : StAt w b x L) (hf : x.few 1000000) (i : Int) :
    Calls Tryz.prog 117 #[.pointer (some ⟨b, 0, none⟩), .int .i64 i] w fun e w' => e = .returned (.tuple #[]) ∧ StTo w w' b (x.out i) L := by
  obtain ⟨s, S, c, a, j, o, wy, oa, leak, told, fails⟩ := x
  have H := Lib.hid h
  have HF := Lib.hid hf
  have hc := h.st.c
  clear h
  by_cases h0 : S = 0
  · subst h0
    rw [show St.out ⟨s, 0, c, a, j, o, wy, oa, leak, told, fails⟩ i = ⟨s, 0, c, a, j, o, wy, oa, leak, told, fails⟩ from by simp [St.out]]
    clear hf
    go_enter Tryz.func117, Tryz.ntmps117
    go_wp2
    go_end0
    exact ⟨rfl, StTo.same H.out⟩
  by_cases h1 : S = 1
  · subst h1
    obtain ⟨⟨a', c', dn', y⟩, hr⟩ : ∃ r, a.out c i = r := ⟨_, rfl⟩
    have cu := AOut_c H.out.al H.out.ck i
    rw [hr] at cu
    have CU := Lib.hid cu
    have hf1 : St.few ⟨s, 1, c', a', j, o, wy, oa, leak, told, fails⟩ 1000000 := hf
    have HF1 := Lib.hid hf1
    clear cu h0 hf hf1
    by_cases hy : y = 0
    · subst hy
      cases dn'
      · rw [show St.out ⟨s, 1, c, a, j, o, wy, oa, leak, told, fails⟩ i = ⟨s, 1, c', a', j, o, wy, oa, leak, told, fails⟩ from by simp [St.out, hr, St.setA]]
        clear hr
        go_enter Tryz.func117, Tryz.ntmps117
        go_wp2_with (first
          | ((with_reducible refine CU.out.mono ?_); rintro e w1 ⟨rfl, A1, C1, G1⟩; (have S1 := Lib.hid (show StAt w1 b ⟨s, 1, c', a', j, o, wy, oa, leak, told, fails⟩ L from H.out.byA (r := (a', c')) A1 C1 G1)); (have HG1 := Lib.hid G1); clear A1 C1 G1))
        go_end0
        exact ⟨rfl, StTo.stepA HG1.out (StTo.same S1.out)⟩
      · rw [show St.out ⟨s, 1, c, a, j, o, wy, oa, leak, told, fails⟩ i = St.aligned ⟨s, 1, c', a', j, o, wy, oa, leak, told, fails⟩ from by simp [St.out, hr, St.setA]]
        clear hr
        go_enter Tryz.func117, Tryz.ntmps117
        go_wp2_with (first
          | ((with_reducible refine CU.out.mono ?_); rintro e w1 ⟨rfl, A1, C1, G1⟩; (have S1 := Lib.hid (show StAt w1 b ⟨s, 1, c', a', j, o, wy, oa, leak, told, fails⟩ L from H.out.byA (r := (a', c')) A1 C1 G1)); (have HG1 := Lib.hid G1); clear A1 C1 G1)
          | ((with_reducible refine (Aligned_c S1.out).mono ?_); rintro e w2 ⟨rfl, T2⟩))
        go_end0
        exact ⟨rfl, StTo.stepA HG1.out T2⟩
    · rw [show St.out ⟨s, 1, c, a, j, o, wy, oa, leak, told, fails⟩ i = St.fail ⟨s, 1, c', a', j, o, wy, oa, leak, told, fails⟩ y from by simp [St.out, hr, hy, St.setA]]
      clear hr
      go_enter Tryz.func117, Tryz.ntmps117
      go_wp2_with (first
        | ((with_reducible refine CU.out.mono ?_); rintro e w1 ⟨rfl, A1, C1, G1⟩; (have S1 := Lib.hid (show StAt w1 b ⟨s, 1, c', a', j, o, wy, oa, leak, told, fails⟩ L from H.out.byA (r := (a', c')) A1 C1 G1)); (have HG1 := Lib.hid G1); clear A1 C1 G1)
        | ((with_reducible refine (Fail_c S1.out HF1.out y).mono ?_); rintro e w2 ⟨rfl, T2⟩))
      go_end0
      exact ⟨rfl, StTo.stepA HG1.out T2⟩
  have k0 : (S == 0) = false := beq_eq_false_iff_ne.2 h0
  have k1 : (S == 1) = false := beq_eq_false_iff_ne.2 h1
  obtain ⟨⟨j', c', y⟩, hr⟩ : ∃ r, j.out s c i = r := ⟨_, rfl⟩
  have cu := JOut_c H.out.jm H.out.ck i
  rw [hr] at cu
  have CU := Lib.hid cu
  have hf1 : St.few ⟨s, S, c', a, j', o, wy, oa, leak, told, fails⟩ 1000000 := hf
  have HF1 := Lib.hid hf1
  clear cu hf hf1
  by_cases i1 : i = 1
  · subst i1
    by_cases h2 : S = 2
    · subst h2
      rw [show St.out ⟨s, 2, c, a, j, o, wy, oa, leak, told, fails⟩ 1 = St.fail ⟨s, 2, c, a, j, o, wy, oa, leak, told, fails⟩ 6 from by simp [St.out]]
      clear hr
      go_enter Tryz.func117, Tryz.ntmps117
      go_wp2_with (first | ((with_reducible refine (Fail_c H.out HF.out 6).mono ?_); rintro e w2 ⟨rfl, T2⟩))
      go_end0
      exact ⟨rfl, T2⟩
    by_cases h3 : S = 3
    · subst h3
      rw [show St.out ⟨s, 3, c, a, j, o, wy, oa, leak, told, fails⟩ 1 = St.fail ⟨s, 3, c, a, j, o, wy, oa, leak, told, fails⟩ 6 from by simp [St.out]]
      clear hr
      go_enter Tryz.func117, Tryz.ntmps117
      go_wp2_with (first | ((with_reducible refine (Fail_c H.out HF.out 6).mono ?_); rintro e w2 ⟨rfl, T2⟩))
      go_end0
      exact ⟨rfl, T2⟩
    have k2 : (S == 2) = false := beq_eq_false_iff_ne.2 h2
    have k3 : (S == 3) = false := beq_eq_false_iff_ne.2 h3
    by_cases hy : y = 0
    · subst hy
      rw [show St.out ⟨s, S, c, a, j, o, wy, oa, leak, told, fails⟩ 1 = ⟨s, S, c', a, j', o, wy, oa, leak, told, fails⟩ from by simp [St.out, hr, St.setJ, h0, h1, h2, h3]]
      clear hr
      go_enter Tryz.func117, Tryz.ntmps117
      go_wp2_with (first
        | ((with_reducible refine CU.out.mono ?_); rintro e w1 ⟨rfl, J1, C1, G1⟩; (have S1 := Lib.hid (show StAt w1 b ⟨s, S, c', a, j', o, wy, oa, leak, told, fails⟩ L from H.out.byJ (r := (j', c')) J1 C1 G1)); (have HG1 := Lib.hid G1); clear J1 C1 G1))
      go_end0
      exact ⟨rfl, StTo.stepJ HG1.out (StTo.same S1.out)⟩
    · rw [show St.out ⟨s, S, c, a, j, o, wy, oa, leak, told, fails⟩ 1 = St.fail ⟨s, S, c', a, j', o, wy, oa, leak, told, fails⟩ y from by simp [St.out, hr, hy, St.setJ, h0, h1, h2, h3]]
      clear hr
      go_enter Tryz.func117, Tryz.ntmps117
      go_wp2_with (first
        | ((with_reducible refine CU.out.mono ?_); rintro e w1 ⟨rfl, J1, C1, G1⟩; (have S1 := Lib.hid (show StAt w1 b ⟨s, S, c', a, j', o, wy, oa, leak, told, fails⟩ L from H.out.byJ (r := (j', c')) J1 C1 G1)); (have HG1 := Lib.hid G1); clear J1 C1 G1)
        | ((with_reducible refine (Fail_c S1.out HF1.out y).mono ?_); rintro e w2 ⟨rfl, T2⟩))
      go_end0
      exact ⟨rfl, StTo.stepJ HG1.out T2⟩
  have k01 : (i == 1) = false := beq_eq_false_iff_ne.2 i1
  by_cases i7 : i = 7
  · subst i7
    by_cases h4 : S = 4
    · subst h4
      rw [show St.out ⟨s, 4, c, a, j, o, wy, oa, leak, told, fails⟩ 7 = St.fail ⟨s, 4, c, a, j, o, wy, oa, leak, told, fails⟩ 2 from by simp [St.out]]
      clear hr
      go_enter Tryz.func117, Tryz.ntmps117
      go_wp2_with (first | ((with_reducible refine (Fail_c H.out HF.out 2).mono ?_); rintro e w2 ⟨rfl, T2⟩))
      go_end0
      exact ⟨rfl, T2⟩
    have k4 : (S == 4) = false := beq_eq_false_iff_ne.2 h4
    by_cases hy : y = 0
    · subst hy
      rw [show St.out ⟨s, S, c, a, j, o, wy, oa, leak, told, fails⟩ 7 = ⟨s, S, c', a, j', o, wy, oa, leak, told, fails⟩ from by simp [St.out, hr, St.setJ, h0, h1, h4]]
      clear hr
      go_enter Tryz.func117, Tryz.ntmps117
      go_wp2_with (first
        | ((with_reducible refine CU.out.mono ?_); rintro e w1 ⟨rfl, J1, C1, G1⟩; (have S1 := Lib.hid (show StAt w1 b ⟨s, S, c', a, j', o, wy, oa, leak, told, fails⟩ L from H.out.byJ (r := (j', c')) J1 C1 G1)); (have HG1 := Lib.hid G1); clear J1 C1 G1))
      go_end0
      exact ⟨rfl, StTo.stepJ HG1.out (StTo.same S1.out)⟩
    · rw [show St.out ⟨s, S, c, a, j, o, wy, oa, leak, told, fails⟩ 7 = St.fail ⟨s, S, c', a, j', o, wy, oa, leak, told, fails⟩ y from by simp [St.out, hr, hy, St.setJ, h0, h1, h4]]
      clear hr
      go_enter Tryz.func117, Tryz.ntmps117
      go_wp2_with (first
        | ((with_reducible refine CU.out.mono ?_); rintro e w1 ⟨rfl, J1, C1, G1⟩; (have S1 := Lib.hid (show StAt w1 b ⟨s, S, c', a, j', o, wy, oa, leak, told, fails⟩ L from H.out.byJ (r := (j', c')) J1 C1 G1)); (have HG1 := Lib.hid G1); clear J1 C1 G1)
        | ((with_reducible refine (Fail_c S1.out HF1.out y).mono ?_); rintro e w2 ⟨rfl, T2⟩))
      go_end0
      exact ⟨rfl, StTo.stepJ HG1.out T2⟩
  have k07 : (i == 7) = false := beq_eq_false_iff_ne.2 i7
  by_cases hy : y = 0
  · subst hy
    rw [show St.out ⟨s, S, c, a, j, o, wy, oa, leak, told, fails⟩ i = ⟨s, S, c', a, j', o, wy, oa, leak, told, fails⟩ from by simp [St.out, hr, St.setJ, h0, h1, i1, i7]]
    clear hr
    go_enter Tryz.func117, Tryz.ntmps117
    go_wp2_with (first
      | ((with_reducible refine CU.out.mono ?_); rintro e w1 ⟨rfl, J1, C1, G1⟩; (have S1 := Lib.hid (show StAt w1 b ⟨s, S, c', a, j', o, wy, oa, leak, told, fails⟩ L from H.out.byJ (r := (j', c')) J1 C1 G1)); (have HG1 := Lib.hid G1); clear J1 C1 G1))
    go_end0
    exact ⟨rfl, StTo.stepJ HG1.out (StTo.same S1.out)⟩
  · rw [show St.out ⟨s, S, c, a, j, o, wy, oa, leak, told, fails⟩ i = St.fail ⟨s, S, c', a, j', o, wy, oa, leak, told, fails⟩ y from by simp [St.out, hr, hy, St.setJ, h0, h1, i1, i7]]
    clear hr
    go_enter Tryz.func117, Tryz.ntmps117
    go_wp2_with (first
      | ((with_reducible refine CU.out.mono ?_); rintro e w1 ⟨rfl, J1, C1, G1⟩; (have S1 := Lib.hid (show StAt w1 b ⟨s, S, c', a, j', o, wy, oa, leak, told, fails⟩ L from H.out.byJ (r := (j', c')) J1 C1 G1)); (have HG1 := Lib.hid G1); clear J1 C1 G1)
      | ((with_reducible refine (Fail_c S1.out HF1.out y).mono ?_); rintro e w2 ⟨rfl, T2⟩))
    go_end0
    exact ⟨rfl, StTo.stepJ HG1.out T2⟩
end Go.Proofs.YtcllbmjmefeknaaGreatK
