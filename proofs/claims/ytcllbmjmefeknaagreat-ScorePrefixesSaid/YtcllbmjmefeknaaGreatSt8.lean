/- The walks of package state, continued: status. -/
import Derived.Test.YtcllbmjmefeknaaGreatSt7
namespace Go.Proofs.YtcllbmjmefeknaaGreatK
open Go Go.RowKit
set_option linter.unusedVariables false
set_option maxHeartbeats 1000000
set_option maxRecDepth 100000
theorem Status_c {w : World} {b : Nat} {x : St} {L : Lay} (h : StAt w b x L) (hk : x.ok) (hf : x.few 1000000) (i : Int) :
    Calls Tryz.prog 147 #[.pointer (some ⟨b, 0, none⟩), .int .u8 i] w fun e w' => e = .returned (.tuple #[]) ∧ StTo w w' b (x.status i) L := by
  obtain ⟨s, S, c, a, j, o, wy, oa, leak, told, fails⟩ := x
  have ha := hk.a.st
  dsimp only at ha
  have H := Lib.hid h
  have HF := Lib.hid hf
  by_cases h1 : S = 1
  · subst h1
    have hc := h.st.c
    clear h
    obtain ⟨⟨a', c', y⟩, hr⟩ : ∃ r, a.heard s c i = r := ⟨_, rfl⟩
    have cu := AHeard_c H.out.al H.out.ck i ha.1 ha.2
    rw [hr] at cu
    have CU := Lib.hid cu
    have hf1 : St.few ⟨s, 1, c', a', j, o, wy, oa, leak, told, fails⟩ 1000000 := hf
    have HF1 := Lib.hid hf1
    clear cu hf hf1 hk ha
    by_cases hy : y = 0
    · subst hy
      rw [show St.status ⟨s, 1, c, a, j, o, wy, oa, leak, told, fails⟩ i = ⟨s, 1, c', a', j, o, wy, oa, leak, told, fails⟩ from by simp [St.status, hr, St.setA]]
      clear hr
      go_enter Tryz.func147, Tryz.ntmps147
      go_wp2_with (first
        | ((with_reducible refine CU.out.mono ?_); rintro e w1 ⟨rfl, A1, C1, G1⟩; (have S1 := Lib.hid (show StAt w1 b ⟨s, 1, c', a', j, o, wy, oa, leak, told, fails⟩ L from H.out.byA (r := (a', c')) A1 C1 G1)); (have HG1 := Lib.hid G1); clear A1 C1 G1))
      go_end0
      exact ⟨rfl, StTo.stepA HG1.out (StTo.same S1.out)⟩
    · rw [show St.status ⟨s, 1, c, a, j, o, wy, oa, leak, told, fails⟩ i = St.fail ⟨s, 1, c', a', j, o, wy, oa, leak, told, fails⟩ y from by simp [St.status, hr, hy, St.setA]]
      clear hr
      go_enter Tryz.func147, Tryz.ntmps147
      go_wp2_with (first
        | ((with_reducible refine CU.out.mono ?_); rintro e w1 ⟨rfl, A1, C1, G1⟩; (have S1 := Lib.hid (show StAt w1 b ⟨s, 1, c', a', j, o, wy, oa, leak, told, fails⟩ L from H.out.byA (r := (a', c')) A1 C1 G1)); (have HG1 := Lib.hid G1); clear A1 C1 G1)
        | ((with_reducible refine (Fail_c S1.out HF1.out y).mono ?_); rintro e w2 ⟨rfl, T2⟩))
      go_end0
      exact ⟨rfl, StTo.stepA HG1.out T2⟩
  have k1 : (S == 1) = false := beq_eq_false_iff_ne.2 h1
  clear hf hk ha
  by_cases i3 : i = 3
  · subst i3
    rw [show St.status ⟨s, S, c, a, j, o, wy, oa, leak, told, fails⟩ 3 = St.fail ⟨s, S, c, a, j, o, wy, oa, leak, told, fails⟩ 8 from by simp [St.status, h1]]
    have hc := h.st.c
    clear h
    go_enter Tryz.func147, Tryz.ntmps147
    go_wp2_with (first | ((with_reducible refine (Fail_c H.out HF.out 8).mono ?_); rintro e w2 ⟨rfl, T2⟩))
    go_end0
    exact ⟨rfl, T2⟩
  have k3 : (i == 3) = false := beq_eq_false_iff_ne.2 i3
  by_cases i0 : i = 0
  · subst i0
    rw [show St.status ⟨s, S, c, a, j, o, wy, oa, leak, told, fails⟩ 0 = St.fail ⟨s, S, c, a, j, o, wy, oa, leak, told, fails⟩ 9 from by simp [St.status, h1]]
    have hc := h.st.c
    clear h
    go_enter Tryz.func147, Tryz.ntmps147
    go_wp2_with (first | ((with_reducible refine (Fail_c H.out HF.out 9).mono ?_); rintro e w2 ⟨rfl, T2⟩))
    go_end0
    exact ⟨rfl, T2⟩
  have k0 : (i == 0) = false := beq_eq_false_iff_ne.2 i0
  by_cases i1 : i = 1
  · subst i1
    by_cases g4 : 4 ≤ S
    · rw [show St.status ⟨s, S, c, a, j, o, wy, oa, leak, told, fails⟩ 1 = St.fail ⟨s, S, c, a, j, o, wy, oa, leak, told, fails⟩ 9 from by simp [St.status, h1, g4]]
      have hc := h.st.c
      clear h
      go_enter Tryz.func147, Tryz.ntmps147
      go_wp2_with (first | ((with_reducible refine (Fail_c H.out HF.out 9).mono ?_); rintro e w2 ⟨rfl, T2⟩))
      go_end0
      exact ⟨rfl, T2⟩
    · have g4' : S < 4 := by omega
      rw [show St.status ⟨s, S, c, a, j, o, wy, oa, leak, told, fails⟩ 1 = ⟨s, S, c, a, j, o, wy, oa, leak, told, fails⟩ from by simp [St.status, h1, g4]]
      have hc := h.st.c
      clear h
      go_enter Tryz.func147, Tryz.ntmps147
      go_wp2
      go_end0
      exact ⟨rfl, StTo.same H.out⟩
  have k1' : (i == 1) = false := beq_eq_false_iff_ne.2 i1
  by_cases i2 : i = 2
  · subst i2
    by_cases g4 : 4 ≤ S
    · rw [show St.status ⟨s, S, c, a, j, o, wy, oa, leak, told, fails⟩ 2 = St.fail ⟨s, S, c, a, j, o, wy, oa, leak, told, fails⟩ 9 from by simp [St.status, h1, g4]]
      have hc := h.st.c
      clear h
      go_enter Tryz.func147, Tryz.ntmps147
      go_wp2_with (first | ((with_reducible refine (Fail_c H.out HF.out 9).mono ?_); rintro e w2 ⟨rfl, T2⟩))
      go_end0
      exact ⟨rfl, T2⟩
    · have g4' : S < 4 := by omega
      rw [show St.status ⟨s, S, c, a, j, o, wy, oa, leak, told, fails⟩ 2 = ⟨s, S, c, a, j, o, wy, oa, leak, told, fails⟩ from by simp [St.status, h1, g4]]
      have hc := h.st.c
      clear h
      go_enter Tryz.func147, Tryz.ntmps147
      go_wp2
      go_end0
      exact ⟨rfl, StTo.same H.out⟩
  have k2' : (i == 2) = false := beq_eq_false_iff_ne.2 i2
  by_cases i4 : i = 4
  · subst i4
    rw [show St.status ⟨s, S, c, a, j, o, wy, oa, leak, told, fails⟩ 4 = St.remote ⟨s, S, c, a, j, o, wy, oa, leak, told, fails⟩ true from by simp [St.status, h1]]
    by_cases g4 : 4 ≤ S
    · have hc := h.st.c
      clear h
      go_enter Tryz.func147, Tryz.ntmps147
      go_wp2_with (first | ((with_reducible refine (SRemote_c H.out HF.out true).mono ?_); rintro e w2 ⟨rfl, T2⟩))
      go_end0
      exact ⟨rfl, T2⟩
    · have g4' : S < 4 := by omega
      have hc := h.st.c
      clear h
      go_enter Tryz.func147, Tryz.ntmps147
      go_wp2_with (first | ((with_reducible refine (SRemote_c H.out HF.out true).mono ?_); rintro e w2 ⟨rfl, T2⟩))
      go_end0
      exact ⟨rfl, T2⟩
  have k4 : (i == 4) = false := beq_eq_false_iff_ne.2 i4
  by_cases i5 : i = 5
  · subst i5
    by_cases s4 : S = 4
    · subst s4
      obtain ⟨wt, hwt⟩ : ∃ wt, decide (0 < o.sent.length) = wt := ⟨_, rfl⟩
      obtain ⟨⟨j', c', nw⟩, hr⟩ : ∃ r, j.heard s c wt = r := ⟨_, rfl⟩
      have cu := fun (w' : World) (hb : Below w.heap.size w w') => JHeard_c (H.out.jm.below hb) (H.out.ck.below hb) wt
      simp only [hr] at cu
      have CU := Lib.hid cu
      have ht : told.length ≤ 2000000 := by have := HF.out.1; dsimp only at this; omega
      have hmB := mB_Hold
      have hmC := mC_Hold
      have HN := Lib.hid (fun g : Up w => HSent_c (H.out.ho.below g.ok))
      clear cu
      cases nw
      · rw [show St.status ⟨s, 4, c, a, j, o, wy, oa, leak, told, fails⟩ 5 = ⟨s, 4, c', a, j', o, wy, oa, leak, told, fails⟩ from by simp [St.status, hwt, hr, St.setJ]]
        clear hr
        cases wt
        · have hs : o.sent.length = 0 := by simpa using hwt
          rw [hs] at HN
          cases wy
          · rename_i y
            have hc := h.st.c
            have K1 := h.st
            simp only [St.cells, Wy.v] at hc
            clear h
            have HH := Lib.hid (fun g : Up w => BHold_c (H.out.wy.below g.ok))
            go_enter Tryz.func147, Tryz.ntmps147
            go_wp2
            refine wp_region_up_tail 11 (by kernel_rfl) (by kernel_rfl) ?_
            simp only [List.take_succ_cons, List.take_zero, List.drop_succ_cons, List.drop_zero]
            have up_K1 := fun (g : Up _) => (Blk.below K1 g.ok).c
            repeat (go_big_quiet_step (first | (with_reducible exact Up.calls_same _ (HH.out _)) | (with_reducible exact Up.calls_same _ (HN.out _))))
            refine wpQuiet_nil ?_
            clear up_K1
            refine up_elim (fun w2 hb_w2 => ?_)
            go_wp2_with (first
              | ((with_reducible refine (CU.out _ hb_w2).mono ?_); rintro e w3 ⟨rfl, J3, C3, G3⟩; (have S3 := Lib.hid (show StAt w3 b ⟨s, 4, c', a, j', o, .bs y, oa, leak, told, fails⟩ L from (H.out.below hb_w2).byJ (r := (j', c')) J3 C3 G3)); (have HG3 := Lib.hid G3); clear J3 C3 G3))
            go_end0
            exact ⟨rfl, StTo.stepB hb_w2 (StTo.stepJ HG3.out (StTo.same S3.out))⟩
          · rename_i y
            have hc := h.st.c
            have K1 := h.st
            simp only [St.cells, Wy.v] at hc
            clear h
            have HH := Lib.hid (fun g : Up w => CHold_c (H.out.wy.below g.ok))
            go_enter Tryz.func147, Tryz.ntmps147
            go_wp2
            refine wp_region_up_tail 11 (by kernel_rfl) (by kernel_rfl) ?_
            simp only [List.take_succ_cons, List.take_zero, List.drop_succ_cons, List.drop_zero]
            have up_K1 := fun (g : Up _) => (Blk.below K1 g.ok).c
            repeat (go_big_quiet_step (first | (with_reducible exact Up.calls_same _ (HH.out _)) | (with_reducible exact Up.calls_same _ (HN.out _))))
            refine wpQuiet_nil ?_
            clear up_K1
            refine up_elim (fun w2 hb_w2 => ?_)
            go_wp2_with (first
              | ((with_reducible refine (CU.out _ hb_w2).mono ?_); rintro e w3 ⟨rfl, J3, C3, G3⟩; (have S3 := Lib.hid (show StAt w3 b ⟨s, 4, c', a, j', o, .cy y, oa, leak, told, fails⟩ L from (H.out.below hb_w2).byJ (r := (j', c')) J3 C3 G3)); (have HG3 := Lib.hid G3); clear J3 C3 G3))
            go_end0
            exact ⟨rfl, StTo.stepB hb_w2 (StTo.stepJ HG3.out (StTo.same S3.out))⟩
        · have hs : (0 : Int) < (o.sent.length : Int) := by have := of_decide_eq_true hwt; omega
          cases wy
          · rename_i y
            have hc := h.st.c
            have K1 := h.st
            simp only [St.cells, Wy.v] at hc
            clear h
            have HH := Lib.hid (fun g : Up w => BHold_c (H.out.wy.below g.ok))
            go_enter Tryz.func147, Tryz.ntmps147
            go_wp2
            refine wp_region_up_tail 11 (by kernel_rfl) (by kernel_rfl) ?_
            simp only [List.take_succ_cons, List.take_zero, List.drop_succ_cons, List.drop_zero]
            have up_K1 := fun (g : Up _) => (Blk.below K1 g.ok).c
            repeat (go_big_quiet_step (first | (with_reducible exact Up.calls_same _ (HH.out _)) | (with_reducible exact Up.calls_same _ (HN.out _))))
            refine wpQuiet_nil ?_
            clear up_K1
            refine up_elim (fun w2 hb_w2 => ?_)
            go_wp2_with (first
              | ((with_reducible refine (CU.out _ hb_w2).mono ?_); rintro e w3 ⟨rfl, J3, C3, G3⟩; (have S3 := Lib.hid (show StAt w3 b ⟨s, 4, c', a, j', o, .bs y, oa, leak, told, fails⟩ L from (H.out.below hb_w2).byJ (r := (j', c')) J3 C3 G3)); (have HG3 := Lib.hid G3); clear J3 C3 G3))
            go_end0
            exact ⟨rfl, StTo.stepB hb_w2 (StTo.stepJ HG3.out (StTo.same S3.out))⟩
          · rename_i y
            have hc := h.st.c
            have K1 := h.st
            simp only [St.cells, Wy.v] at hc
            clear h
            have HH := Lib.hid (fun g : Up w => CHold_c (H.out.wy.below g.ok))
            go_enter Tryz.func147, Tryz.ntmps147
            go_wp2
            refine wp_region_up_tail 11 (by kernel_rfl) (by kernel_rfl) ?_
            simp only [List.take_succ_cons, List.take_zero, List.drop_succ_cons, List.drop_zero]
            have up_K1 := fun (g : Up _) => (Blk.below K1 g.ok).c
            repeat (go_big_quiet_step (first | (with_reducible exact Up.calls_same _ (HH.out _)) | (with_reducible exact Up.calls_same _ (HN.out _))))
            refine wpQuiet_nil ?_
            clear up_K1
            refine up_elim (fun w2 hb_w2 => ?_)
            go_wp2_with (first
              | ((with_reducible refine (CU.out _ hb_w2).mono ?_); rintro e w3 ⟨rfl, J3, C3, G3⟩; (have S3 := Lib.hid (show StAt w3 b ⟨s, 4, c', a, j', o, .cy y, oa, leak, told, fails⟩ L from (H.out.below hb_w2).byJ (r := (j', c')) J3 C3 G3)); (have HG3 := Lib.hid G3); clear J3 C3 G3))
            go_end0
            exact ⟨rfl, StTo.stepB hb_w2 (StTo.stepJ HG3.out (StTo.same S3.out))⟩
      · rw [show St.status ⟨s, 4, c, a, j, o, wy, oa, leak, told, fails⟩ 5 = St.tell ⟨s, 4, c', a, j', o, wy, oa, leak, told, fails⟩ ⟨6, 0, []⟩ from by simp [St.status, hwt, hr, St.setJ]]
        clear hr
        cases wt
        · have hs : o.sent.length = 0 := by simpa using hwt
          rw [hs] at HN
          cases wy
          · rename_i y
            have hc := h.st.c
            have K1 := h.st
            simp only [St.cells, Wy.v] at hc
            clear h
            have HH := Lib.hid (fun g : Up w => BHold_c (H.out.wy.below g.ok))
            go_enter Tryz.func147, Tryz.ntmps147
            go_wp2
            refine wp_region_up_tail 11 (by kernel_rfl) (by kernel_rfl) ?_
            simp only [List.take_succ_cons, List.take_zero, List.drop_succ_cons, List.drop_zero]
            have up_K1 := fun (g : Up _) => (Blk.below K1 g.ok).c
            repeat (go_big_quiet_step (first | (with_reducible exact Up.calls_same _ (HH.out _)) | (with_reducible exact Up.calls_same _ (HN.out _))))
            refine wpQuiet_nil ?_
            clear up_K1
            refine up_elim (fun w2 hb_w2 => ?_)
            go_wp2_with (first
              | ((with_reducible refine (CU.out _ hb_w2).mono ?_); rintro e w3 ⟨rfl, J3, C3, G3⟩; (have S3 := Lib.hid (show StAt w3 b ⟨s, 4, c', a, j', o, .bs y, oa, leak, told, fails⟩ L from (H.out.below hb_w2).byJ (r := (j', c')) J3 C3 G3)); (have HG3 := Lib.hid G3); clear J3 C3 G3)
              | ((with_reducible refine (Tell_c S3.out ⟨6, 0, []⟩ nil0 byt_nil ht).mono ?_); rintro e w4 ⟨rfl, T4⟩))
            go_end0
            exact ⟨rfl, StTo.stepB hb_w2 (StTo.stepJ HG3.out T4)⟩
          · rename_i y
            have hc := h.st.c
            have K1 := h.st
            simp only [St.cells, Wy.v] at hc
            clear h
            have HH := Lib.hid (fun g : Up w => CHold_c (H.out.wy.below g.ok))
            go_enter Tryz.func147, Tryz.ntmps147
            go_wp2
            refine wp_region_up_tail 11 (by kernel_rfl) (by kernel_rfl) ?_
            simp only [List.take_succ_cons, List.take_zero, List.drop_succ_cons, List.drop_zero]
            have up_K1 := fun (g : Up _) => (Blk.below K1 g.ok).c
            repeat (go_big_quiet_step (first | (with_reducible exact Up.calls_same _ (HH.out _)) | (with_reducible exact Up.calls_same _ (HN.out _))))
            refine wpQuiet_nil ?_
            clear up_K1
            refine up_elim (fun w2 hb_w2 => ?_)
            go_wp2_with (first
              | ((with_reducible refine (CU.out _ hb_w2).mono ?_); rintro e w3 ⟨rfl, J3, C3, G3⟩; (have S3 := Lib.hid (show StAt w3 b ⟨s, 4, c', a, j', o, .cy y, oa, leak, told, fails⟩ L from (H.out.below hb_w2).byJ (r := (j', c')) J3 C3 G3)); (have HG3 := Lib.hid G3); clear J3 C3 G3)
              | ((with_reducible refine (Tell_c S3.out ⟨6, 0, []⟩ nil0 byt_nil ht).mono ?_); rintro e w4 ⟨rfl, T4⟩))
            go_end0
            exact ⟨rfl, StTo.stepB hb_w2 (StTo.stepJ HG3.out T4)⟩
        · have hs : (0 : Int) < (o.sent.length : Int) := by have := of_decide_eq_true hwt; omega
          cases wy
          · rename_i y
            have hc := h.st.c
            have K1 := h.st
            simp only [St.cells, Wy.v] at hc
            clear h
            have HH := Lib.hid (fun g : Up w => BHold_c (H.out.wy.below g.ok))
            go_enter Tryz.func147, Tryz.ntmps147
            go_wp2
            refine wp_region_up_tail 11 (by kernel_rfl) (by kernel_rfl) ?_
            simp only [List.take_succ_cons, List.take_zero, List.drop_succ_cons, List.drop_zero]
            have up_K1 := fun (g : Up _) => (Blk.below K1 g.ok).c
            repeat (go_big_quiet_step (first | (with_reducible exact Up.calls_same _ (HH.out _)) | (with_reducible exact Up.calls_same _ (HN.out _))))
            refine wpQuiet_nil ?_
            clear up_K1
            refine up_elim (fun w2 hb_w2 => ?_)
            go_wp2_with (first
              | ((with_reducible refine (CU.out _ hb_w2).mono ?_); rintro e w3 ⟨rfl, J3, C3, G3⟩; (have S3 := Lib.hid (show StAt w3 b ⟨s, 4, c', a, j', o, .bs y, oa, leak, told, fails⟩ L from (H.out.below hb_w2).byJ (r := (j', c')) J3 C3 G3)); (have HG3 := Lib.hid G3); clear J3 C3 G3)
              | ((with_reducible refine (Tell_c S3.out ⟨6, 0, []⟩ nil0 byt_nil ht).mono ?_); rintro e w4 ⟨rfl, T4⟩))
            go_end0
            exact ⟨rfl, StTo.stepB hb_w2 (StTo.stepJ HG3.out T4)⟩
          · rename_i y
            have hc := h.st.c
            have K1 := h.st
            simp only [St.cells, Wy.v] at hc
            clear h
            have HH := Lib.hid (fun g : Up w => CHold_c (H.out.wy.below g.ok))
            go_enter Tryz.func147, Tryz.ntmps147
            go_wp2
            refine wp_region_up_tail 11 (by kernel_rfl) (by kernel_rfl) ?_
            simp only [List.take_succ_cons, List.take_zero, List.drop_succ_cons, List.drop_zero]
            have up_K1 := fun (g : Up _) => (Blk.below K1 g.ok).c
            repeat (go_big_quiet_step (first | (with_reducible exact Up.calls_same _ (HH.out _)) | (with_reducible exact Up.calls_same _ (HN.out _))))
            refine wpQuiet_nil ?_
            clear up_K1
            refine up_elim (fun w2 hb_w2 => ?_)
            go_wp2_with (first
              | ((with_reducible refine (CU.out _ hb_w2).mono ?_); rintro e w3 ⟨rfl, J3, C3, G3⟩; (have S3 := Lib.hid (show StAt w3 b ⟨s, 4, c', a, j', o, .cy y, oa, leak, told, fails⟩ L from (H.out.below hb_w2).byJ (r := (j', c')) J3 C3 G3)); (have HG3 := Lib.hid G3); clear J3 C3 G3)
              | ((with_reducible refine (Tell_c S3.out ⟨6, 0, []⟩ nil0 byt_nil ht).mono ?_); rintro e w4 ⟨rfl, T4⟩))
            go_end0
            exact ⟨rfl, StTo.stepB hb_w2 (StTo.stepJ HG3.out T4)⟩
    have k4s : (S == 4) = false := beq_eq_false_iff_ne.2 s4
    by_cases g4 : 4 ≤ S
    · rw [show St.status ⟨s, S, c, a, j, o, wy, oa, leak, told, fails⟩ 5 = ⟨s, S, c, a, j, o, wy, oa, leak, told, fails⟩ from by simp [St.status, h1, s4, g4]]
      have hc := h.st.c
      clear h
      go_enter Tryz.func147, Tryz.ntmps147
      go_wp2
      go_end0
      exact ⟨rfl, StTo.same H.out⟩
    · have g4' : S < 4 := by omega
      rw [show St.status ⟨s, S, c, a, j, o, wy, oa, leak, told, fails⟩ 5 = ⟨s, S, c, a, j, o, wy, oa, leak, told, fails⟩ from by simp [St.status, h1, s4, g4]]
      have hc := h.st.c
      clear h
      go_enter Tryz.func147, Tryz.ntmps147
      go_wp2
      go_end0
      exact ⟨rfl, StTo.same H.out⟩
  have k5 : (i == 5) = false := beq_eq_false_iff_ne.2 i5
  by_cases g4 : 4 ≤ S
  · rw [show St.status ⟨s, S, c, a, j, o, wy, oa, leak, told, fails⟩ i = ⟨s, S, c, a, j, o, wy, oa, leak, told, fails⟩ from by simp [St.status, h1, i0, i1, i2, i3, i4, i5]]
    have hc := h.st.c
    clear h
    go_enter Tryz.func147, Tryz.ntmps147
    go_wp2
    go_end0
    exact ⟨rfl, StTo.same H.out⟩
  · have g4' : S < 4 := by omega
    rw [show St.status ⟨s, S, c, a, j, o, wy, oa, leak, told, fails⟩ i = ⟨s, S, c, a, j, o, wy, oa, leak, told, fails⟩ from by simp [St.status, h1, i0, i1, i2, i3, i4, i5]]
    have hc := h.st.c
    clear h
    go_enter Tryz.func147, Tryz.ntmps147
    go_wp2
    go_end0
    exact ⟨rfl, StTo.same H.out⟩
end Go.Proofs.YtcllbmjmefeknaaGreatK
