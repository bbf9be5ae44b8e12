/- The walks of package state, continued: Fail, begin, halt, wait. -/
import Derived.Test.YtcllbmjmefeknaaGreatSt1
namespace Go.Proofs.YtcllbmjmefeknaaGreatK
open Go Go.RowKit
set_option linter.unusedVariables false
set_option maxHeartbeats 1000000
set_option maxRecDepth 100000
theorem Fail_c {w : World} {b : Nat} {x : St} {L : Lay} (h : StAt w b x L) (hf : x.few 1000000) (why : Int) :
    Calls Tryz.prog 128 #[.pointer (some ⟨b, 0, none⟩), .int .u8 why] w fun e w' => e = .returned (.tuple #[]) ∧ StTo w w' b (x.fail why) L := by
  obtain ⟨s, S, c, a, j, o, wy, oa, leak, told, fails⟩ := x
  obtain ⟨f1, f2, f3⟩ := hf
  dsimp only at f1 f2 f3
  have H := Lib.hid h
  have hc := h.st.c
  have hcf := h.st.f
  clear h
  by_cases h0 : S = 0
  · subst h0
    have e : St.fail ⟨s, 0, c, a, j, o, wy, oa, leak, told, fails⟩ why = ⟨s, 0, c, a, j, o, wy, oa, leak, told, fails⟩ := by simp [St.fail]
    rw [e]
    clear e
    go_enter Tryz.func128, Tryz.ntmps128
    go_wp2
    refine bodyPost_ret (results_none rfl _ _ _) rfl ?_
    exact ⟨rfl, StTo.same H.out⟩
  · have k0 : (S == 0) = false := by simp [h0]
    have e : St.fail ⟨s, S, c, a, j, o, wy, oa, leak, told, fails⟩ why = St.tell ⟨s, 0, Ck.none, (a.end c).1, ⟨false, false, false⟩, o, wy, ⟨oa.own, false, false⟩, ⟨0, 0⟩, told, fails + 1⟩ ⟨2, why, []⟩ := by simp [St.fail, h0, St.tell]
    rw [e]
    clear e h0
    go_enter Tryz.func128, Tryz.ntmps128
    go_wp2_with (first
      | ((with_reducible refine (AEnd_c H.out.al H.out.ck).mono ?_); rintro e w1 ⟨rfl, A1, C1, G1⟩; (have S1 := Lib.hid (show StAt w1 b ⟨s, S, (a.end c).2, (a.end c).1, j, o, wy, oa, leak, told, fails⟩ L from H.out.byA (r := a.end c) A1 C1 G1)); (have s1c := S1.out.st.c); (have HG1 := Lib.hid G1); clear A1 C1 G1)
      | ((with_reducible refine (JClear_c S1.out.jm S1.out.ck).mono ?_); rintro e w2 ⟨rfl, J2, C2, G2⟩; (have S2 := Lib.hid (show StAt w2 b ⟨s, S, ((a.end c).2).stop [5, 6], (a.end c).1, ⟨false, false, false⟩, o, wy, oa, leak, told, fails⟩ L from S1.out.byJ (r := (⟨false, false, false⟩, ((a.end c).2).stop [5, 6])) J2 C2 G2)); (have s2c := S2.out.st.c); (have HG2 := Lib.hid G2); clear J2 C2 G2)
      | ((with_reducible refine (Clear_c S2.out.ck).mono ?_); rintro e w3 ⟨rfl, C3, G3⟩; (have S3 := Lib.hid (show StAt w3 b ⟨s, S, Ck.none, (a.end c).1, ⟨false, false, false⟩, o, wy, oa, leak, told, fails⟩ L from S2.out.byC C3 G3)); (have s3c := S3.out.st.c); (have s3f := S3.out.st.f); (have HG3 := Lib.hid G3); (have G4 := Lib.hid (((((((chg1 w3 b 0 (.int .u8 0)).then (chg1 _ b 21 (.int .i64 0))).then (chg1 _ b 22 (.int .i64 0))).then (chg1 _ b 18 (.bool oa.own))).then (chg1 _ b 19 (.bool false))).then (chg1 _ b 20 (.bool false))).then (chg1 _ b 24 (.int .i64 (fails + 1))))); (have S4 := Lib.hid (S3.out.own (S := 0) (fails := fails + 1) (o := ⟨oa.own, false, false⟩) (leak := ⟨0, 0⟩) ((((((((S3.out.st.set 0 (.int .u8 0)).set 21 (.int .i64 0)).set 22 (.int .i64 0)).set 18 (.bool oa.own)).set 19 (.bool false)).set 20 (.bool false)).set 24 (.int .i64 (fails + 1))).as (by simp)) G4.out)); clear C3 G3)
      | ((with_reducible refine (Tell_c S4.out ⟨2, why, []⟩ nil0 byt_nil (by simp only; omega)).mono ?_); rintro e w5 ⟨rfl, T5⟩))
    go_end0
    exact ⟨rfl, StTo.stepA HG1.out (StTo.stepJ HG2.out (StTo.stepC HG3.out (StTo.stepS G4.out T5)))⟩
theorem Halt_c {w : World} {b : Nat} {x : St} {L : Lay} (h : StAt w b x L) :
    Calls Tryz.prog 167 #[.pointer (some ⟨b, 0, none⟩)] w fun e w' => e = .returned (.tuple #[]) ∧ StTo w w' b x.halt L := by
  obtain ⟨s, S, c, a, j, o, wy, oa, leak, told, fails⟩ := x
  have G0 := Lib.hid (chg1 w b 0 (.int .u8 5))
  have S0 := Lib.hid (h.own (S := 5) (fails := fails) (o := oa) (leak := leak) ((h.st.set 0 (.int .u8 5)).as (by simp)) G0.out)
  have hc := h.st.c
  have hcf := h.st.f
  clear h
  go_enter Tryz.func167, Tryz.ntmps167
  go_wp2_with (first
    | ((with_reducible refine (JClear_c S0.out.jm S0.out.ck).mono ?_); rintro e w2 ⟨rfl, J2, C2, G2⟩; (have S2 := Lib.hid (show StAt w2 b ⟨s, 5, c.stop [5, 6], a, ⟨false, false, false⟩, o, wy, oa, leak, told, fails⟩ L from S0.out.byJ (r := (⟨false, false, false⟩, c.stop [5, 6])) J2 C2 G2)); (have s2c := S2.out.st.c); (have HG2 := Lib.hid G2); clear J2 C2 G2; (have B3 := Lib.hid (bl_alloc (bl_refl w2) (.cells #[.int .i64 7] 3))); (have S3 := Lib.hid (S2.out.below B3.out)); (have HS := Lib.hid (Stop_c (l := [7]) (n := 1) (cap := 1) S3.out.ck (Blk.newAt (n := w2.heap.size) rfl #[.int .i64 7] 3) (by simp) (by simp) rfl)))
    | ((with_reducible refine HS.out.mono ?_); rintro e w4 ⟨rfl, C4, G4⟩))
  go_end0
  exact ⟨rfl, StTo.stepS G0.out (StTo.stepJ HG2.out (StTo.stepB B3.out (StTo.stepC G4 (StTo.same (S3.out.byC C4 G4)))))⟩
theorem Wait_c {w : World} {b : Nat} {x : St} {L : Lay} (h : StAt w b x L) (anew : Bool) :
    Calls Tryz.prog 155 #[.pointer (some ⟨b, 0, none⟩), .bool anew] w fun e w' => e = .returned (.tuple #[]) ∧ StTo w w' b (x.wait anew) L := by
  obtain ⟨s, S, c, a, j, o, wy, oa, leak, told, fails⟩ := x
  obtain ⟨bc, ba, bj, bw, bh, vs, vn, vt⟩ := L
  have H := Lib.hid h
  have hmB := mB_Hold
  have hmC := mC_Hold
  by_cases hs : o.sent.length = 0
  · have e : St.wait ⟨s, S, c, a, j, o, wy, oa, leak, told, fails⟩ anew = ⟨s, S, c.stop [7], a, j, o, wy, oa, leak, told, fails⟩ := by simp [St.wait, hs]
    rw [e]
    clear e
    cases wy
    all_goals
      have hc := h.st.c
      simp only [St.cells, Wy.v] at hc
      clear h
      have B3 := Lib.hid (bl_alloc (bl_refl w) (.cells #[.int .i64 7] 3))
      have S3 := Lib.hid (H.out.below B3.out)
      have HS := Lib.hid (Stop_c (l := [7]) (n := 1) (cap := 1) S3.out.ck (Blk.newAt (n := w.heap.size) rfl #[.int .i64 7] 3) (by simp) (by simp) rfl)
      have HN := Lib.hid (hs ▸ HSent_c H.out.ho)
      go_enter Tryz.func155, Tryz.ntmps155
      go_wp2_with (first
        | ((with_reducible refine (BHold_c H.out.wy).mono ?_); rintro e w1 ⟨rfl, rfl⟩)
        | ((with_reducible refine (CHold_c H.out.wy).mono ?_); rintro e w1 ⟨rfl, rfl⟩)
        | ((with_reducible refine HN.out.mono ?_); rintro e w2 ⟨rfl, rfl⟩)
        | ((with_reducible refine HS.out.mono ?_); rintro e w4 ⟨rfl, C4, G4⟩))
      go_end0
      exact ⟨rfl, StTo.stepB B3.out (StTo.stepC G4 (StTo.same (S3.out.byC C4 G4)))⟩
  · have hn : ¬ (o.sent.length : Int) = 0 := by omega
    have k0 : ((o.sent.length : Int) == 0) = false := beq_eq_false_iff_ne.2 hn
    have HN := Lib.hid (HSent_c H.out.ho)
    cases anew
    · by_cases hg : 0 < c.get 7
      · have e : St.wait ⟨s, S, c, a, j, o, wy, oa, leak, told, fails⟩ false = ⟨s, S, c, a, j, o, wy, oa, leak, told, fails⟩ := by simp [St.wait, hs, hg]
        rw [e]
        have ho := On_c H.out.ck 7 (by decide) (by decide)
        rw [decide_eq_true hg] at ho
        have HO := Lib.hid ho
        clear e ho hg hs hn
        cases wy
        all_goals
          have hc := h.st.c
          simp only [St.cells, Wy.v] at hc
          clear h
          go_enter Tryz.func155, Tryz.ntmps155
          go_wp2_with (first
        | ((with_reducible refine (BHold_c H.out.wy).mono ?_); rintro e w1 ⟨rfl, rfl⟩)
        | ((with_reducible refine (CHold_c H.out.wy).mono ?_); rintro e w1 ⟨rfl, rfl⟩)
        | ((with_reducible refine HN.out.mono ?_); rintro e w2 ⟨rfl, rfl⟩)
        | ((with_reducible refine HO.out.mono ?_); rintro e w3 ⟨rfl, rfl⟩))
          go_end0
          exact ⟨rfl, StTo.same H.out⟩
      · have e : St.wait ⟨s, S, c, a, j, o, wy, oa, leak, told, fails⟩ false = ⟨s, S, c.start 7 s.t7, a, j, o, wy, oa, leak, told, fails⟩ := by simp [St.wait, hs, hg]
        rw [e]
        have ho := On_c H.out.ck 7 (by decide) (by decide)
        rw [decide_eq_false hg] at ho
        have HO := Lib.hid ho
        clear e ho hg hs hn
        cases wy
        all_goals
          have hc := h.st.c
          have S1 := h.st
          simp only [St.cells, Wy.v] at hc
          clear h
          go_enter Tryz.func155, Tryz.ntmps155
          go_wp2_with (first
            | ((with_reducible refine (BHold_c H.out.wy).mono ?_); rintro e w1 ⟨rfl, rfl⟩)
            | ((with_reducible refine (CHold_c H.out.wy).mono ?_); rintro e w1 ⟨rfl, rfl⟩)
            | ((with_reducible refine HN.out.mono ?_); rintro e w2 ⟨rfl, rfl⟩)
            | ((with_reducible refine HO.out.mono ?_); rintro e w3 ⟨rfl, rfl⟩))
          refine wp_region_up_tail 10 (by kernel_rfl) (by kernel_rfl) ?_
          simp only [List.take_succ_cons, List.take_zero, List.drop_succ_cons, List.drop_zero]
          have up_S1 := fun (g : Up _) => (Blk.below S1 g.ok).c
          repeat (go_big_quiet_step (fail))
          refine wpQuiet_nil ?_
          clear up_S1
          refine up_elim (fun w5 hb_w5 => ?_)
          go_wp2_with (first | ((with_reducible refine (Start_c (H.out.ck.below hb_w5) 7 _ (by omega) (by omega)).mono ?_); rintro e w6 ⟨⟨y, rfl⟩, C6, G6⟩))
          go_end0
          exact ⟨rfl, StTo.stepB hb_w5 (StTo.stepC G6 (StTo.same ((H.out.below hb_w5).byC C6 G6)))⟩
    · have e : St.wait ⟨s, S, c, a, j, o, wy, oa, leak, told, fails⟩ true = ⟨s, S, c.start 7 s.t7, a, j, o, wy, oa, leak, told, fails⟩ := by simp [St.wait, hs]
      rw [e]
      clear e hs hn
      cases wy
      all_goals
        have hc := h.st.c
        have S1 := h.st
        simp only [St.cells, Wy.v] at hc
        clear h
        go_enter Tryz.func155, Tryz.ntmps155
        go_wp2_with (first
          | ((with_reducible refine (BHold_c H.out.wy).mono ?_); rintro e w1 ⟨rfl, rfl⟩)
          | ((with_reducible refine (CHold_c H.out.wy).mono ?_); rintro e w1 ⟨rfl, rfl⟩)
          | ((with_reducible refine HN.out.mono ?_); rintro e w2 ⟨rfl, rfl⟩)
          | ((with_reducible refine HO.out.mono ?_); rintro e w3 ⟨rfl, rfl⟩))
        refine wp_region_up_tail 10 (by kernel_rfl) (by kernel_rfl) ?_
        simp only [List.take_succ_cons, List.take_zero, List.drop_succ_cons, List.drop_zero]
        have up_S1 := fun (g : Up _) => (Blk.below S1 g.ok).c
        repeat (go_big_quiet_step (fail))
        refine wpQuiet_nil ?_
        clear up_S1
        refine up_elim (fun w5 hb_w5 => ?_)
        go_wp2_with (first | ((with_reducible refine (Start_c (H.out.ck.below hb_w5) 7 _ (by omega) (by omega)).mono ?_); rintro e w6 ⟨⟨y, rfl⟩, C6, G6⟩))
        go_end0
        exact ⟨rfl, StTo.stepB hb_w5 (StTo.stepC G6 (StTo.same ((H.out.below hb_w5).byC C6 G6)))⟩
end Go.Proofs.YtcllbmjmefeknaaGreatK
