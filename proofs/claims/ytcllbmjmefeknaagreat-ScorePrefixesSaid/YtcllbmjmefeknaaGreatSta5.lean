/- The walks of package state, the last: Next whole, Order. -/
import Derived.Test.YtcllbmjmefeknaaGreatSta4
import Derived.Test.YtcllbmjmefeknaaGreatSt4
namespace Go.Proofs.YtcllbmjmefeknaaGreatK
open Go Go.RowKit
set_option linter.unusedVariables false
set_option maxHeartbeats 4000000
set_option maxRecDepth 100000
theorem SNext_c {w : World} {b : Nat} {x : St} {L : Lay} (h : StAt w b x L) (hk : x.ok) :
    Calls Tryz.prog 125 #[.pointer (some ⟨b, 0, none⟩)] w fun e w' => Goes w w' b (x.next).1 L e (x.next).2 := by
  unfold St.next
  by_cases h0 : x.S = 0 ∨ x.S = 1
  · rw [if_pos h0]
    exact Next0_c h hk.h h0
  rw [if_neg h0]
  by_cases h2 : x.S = 2
  · rw [if_pos h2]
    exact Next2_c h hk.h h2
  rw [if_neg h2]
  by_cases h4 : x.S = 4
  · rw [if_pos h4]
    by_cases hd : x.j.due = true
    · rw [if_pos hd]
      exact NextD_c h hk.h h4 hd
    · rw [if_neg hd]
      exact NextW_c h hk h4 (by simpa using hd)
  · rw [if_neg h4]
    by_cases ho : x.o.own = true
    · rw [if_pos ho]
      exact NextS_c h hk.h (fun e => h0 (.inl e)) (fun e => h0 (.inr e)) h2 h4 ho
    · rw [if_neg ho]
      exact NextF_c h hk.h (fun e => h0 (.inl e)) (fun e => h0 (.inr e)) h2 h4 (by simpa using ho)
theorem Order_c {w : World} {b : Nat} {F : List Nat} {x : St} {L : Lay} {vp : Value} {p : Oct} (h : StAt w b x L) (hk : x.ok) (hf : x.few 900000) (k : Int) (hv : BytI w F vp p) (hlp : p.length ≤ 100000) :
    Calls Tryz.prog 105 #[.pointer (some ⟨b, 0, none⟩), .agg #[.int .u8 k, vp]] w fun e w' => e = .returned (.int .i64 (x.order k p).2) ∧ StTo w w' b (x.order k p).1 L := by
  obtain ⟨ap, cp, rfl, _⟩ := hv.shape
  obtain ⟨sv, hsv⟩ : ∃ q, x.serves = q := ⟨_, rfl⟩
  have HSV := Lib.hid hsv
  have BW := Lib.hid (bl_alloc (bl_refl w) (.cells #[.int .u8 k, .slice ap p.length cp] 27))
  have H1 := Lib.hid (h.below BW.out)
  have HN := Lib.hid (Blk.new w #[.int .u8 k, .slice ap p.length cp] 27)
  have HV := Lib.hid (hv.below BW.out)
  have HK := Lib.hid hk
  have HF := Lib.hid (hf.le (m := 1000000) (by omega))
  obtain ⟨s, S, c, a, j, o, wy, ⟨own, their, wait⟩, leak, told, fails⟩ := x
  clear h hk hf hv
  go_enter Tryz.func105, Tryz.ntmps105
  go_upto_region 3 with fail
  generalize hW1 : w.alloc (.cells #[.int .u8 k, .slice ap p.length cp] 27) = W1 at *
  go_cut [5] (fun t wx => t = .bool sv ∧ wx = W1)
  case first =>
    have h1c := H1.out.st.c
    by_cases h4 : S = 4
    · subst h4
      have e1 : sv = true := by rw [← hsv]; simp [St.serves]
      subst e1
      go_wp2
      go_meet
      case rel => exact ⟨rfl, rfl⟩
    have k4 : (S == 4) = false := beq_eq_false_iff_ne.2 h4
    by_cases h5 : S = 5
    · subst h5
      have e1 : sv = true := by rw [← hsv]; simp [St.serves]
      subst e1
      go_wp2
      go_meet
      case rel => exact ⟨rfl, rfl⟩
    have k5 : (S == 5) = false := beq_eq_false_iff_ne.2 h5
    have e1 : sv = false := by rw [← hsv]; simp [St.serves, h4, h5]
    subst e1
    go_wp2
    go_meet
    case rel => exact ⟨rfl, rfl⟩
  case rest =>
    obtain ⟨rfl, rfl⟩ := hcut
    rename World => w1
    clear hsv
    have hsv : St.serves ⟨s, S, c, a, j, o, wy, ⟨own, their, wait⟩, leak, told, fails⟩ = sv := HSV.out
    have h1c := H1.out.st.c
    have n1c := HN.out.c
    by_cases q1 : k = 1
    · subst q1
      by_cases h0 : S = 0
      · subst h0
        go_wp2_with (first | ((with_reducible refine (Begin_c H1.out).mono ?_); rintro e w2 ⟨rfl, T2⟩))
        go_ret
        rw [show St.order ⟨s, 0, c, a, j, o, wy, ⟨own, their, wait⟩, leak, told, fails⟩ 1 p = (St.begin ⟨s, 0, c, a, j, o, wy, ⟨own, their, wait⟩, leak, told, fails⟩, 0) from by simp [St.order]]
        exact ⟨rfl, StTo.stepB BW.out T2⟩
      · have k0 : (S == 0) = false := beq_eq_false_iff_ne.2 h0
        go_wp2
        go_ret
        rw [show St.order ⟨s, S, c, a, j, o, wy, ⟨own, their, wait⟩, leak, told, fails⟩ 1 p = (⟨s, S, c, a, j, o, wy, ⟨own, their, wait⟩, leak, told, fails⟩, 9) from by simp [St.order, h0]]
        exact ⟨rfl, StTo.stepB BW.out (StTo.same H1.out)⟩
    have e1 : (k == 1) = false := beq_eq_false_iff_ne.2 q1
    by_cases q2 : k = 2
    · subst q2
      by_cases h0 : S = 0
      · subst h0
        go_wp2
        go_ret
        rw [show St.order ⟨s, 0, c, a, j, o, wy, ⟨own, their, wait⟩, leak, told, fails⟩ 2 p = (⟨s, 0, c, a, j, o, wy, ⟨own, their, wait⟩, leak, told, fails⟩, 9) from by simp [St.order]]
        exact ⟨rfl, StTo.stepB BW.out (StTo.same H1.out)⟩
      · have k0 : (S == 0) = false := beq_eq_false_iff_ne.2 h0
        go_wp2_with (first | ((with_reducible refine (Fail_c H1.out HF.out 10).mono ?_); rintro e w2 ⟨rfl, T2⟩))
        go_ret
        rw [show St.order ⟨s, S, c, a, j, o, wy, ⟨own, their, wait⟩, leak, told, fails⟩ 2 p = (St.fail ⟨s, S, c, a, j, o, wy, ⟨own, their, wait⟩, leak, told, fails⟩ 10, 0) from by simp [St.order, h0]]
        exact ⟨rfl, StTo.stepB BW.out T2⟩
    have e2 : (k == 2) = false := beq_eq_false_iff_ne.2 q2
    by_cases q3 : k = 3
    · subst q3
      have K1 := H1.out.st
      have M1 := HN.out
      go_wp2
      clear h1c n1c
      refine wp_region_up_tail 7 (by kernel_rfl) (by kernel_rfl) ?_
      simp only [List.take_succ_cons, List.take_zero, List.drop_succ_cons, List.drop_zero]
      have up_K1 := fun (g : Up _) => (Blk.below K1 g.ok).c
      have up_M1 := fun (g : Up _) => (Blk.below M1 g.ok).c
      repeat (go_big_quiet_step (fail))
      refine wpQuiet_nil ?_
      clear up_K1 up_M1
      refine up_elim (fun w2 hb_w2 => ?_)
      go_wp2_with (first | ((with_reducible refine (AHurry_c (H1.out.al.below hb_w2) (H1.out.ck.below hb_w2) true).mono ?_); rintro e w3 ⟨rfl, A3, C3, G3⟩))
      go_ret
      rw [show St.order ⟨s, S, c, a, j, o, wy, ⟨own, their, wait⟩, leak, told, fails⟩ 3 p = (St.setA ⟨s, S, c, a, j, o, wy, ⟨own, their, wait⟩, leak, told, fails⟩ (a.hurries s c true), 0) from by simp [St.order]]
      exact ⟨rfl, StTo.stepB BW.out (StTo.stepB hb_w2 (StTo.stepA G3 (StTo.same ((H1.out.below hb_w2).byA (r := a.hurries s c true) A3 C3 G3))))⟩
    have e3 : (k == 3) = false := beq_eq_false_iff_ne.2 q3
    by_cases q4 : k = 4
    · subst q4
      have K1 := H1.out.st
      have M1 := HN.out
      go_wp2
      clear h1c n1c
      refine wp_region_up_tail 7 (by kernel_rfl) (by kernel_rfl) ?_
      simp only [List.take_succ_cons, List.take_zero, List.drop_succ_cons, List.drop_zero]
      have up_K1 := fun (g : Up _) => (Blk.below K1 g.ok).c
      have up_M1 := fun (g : Up _) => (Blk.below M1 g.ok).c
      repeat (go_big_quiet_step (fail))
      refine wpQuiet_nil ?_
      clear up_K1 up_M1
      refine up_elim (fun w2 hb_w2 => ?_)
      go_wp2_with (first | ((with_reducible refine (AHurry_c (H1.out.al.below hb_w2) (H1.out.ck.below hb_w2) false).mono ?_); rintro e w3 ⟨rfl, A3, C3, G3⟩))
      go_ret
      rw [show St.order ⟨s, S, c, a, j, o, wy, ⟨own, their, wait⟩, leak, told, fails⟩ 4 p = (St.setA ⟨s, S, c, a, j, o, wy, ⟨own, their, wait⟩, leak, told, fails⟩ (a.hurries s c false), 0) from by simp [St.order]]
      exact ⟨rfl, StTo.stepB BW.out (StTo.stepB hb_w2 (StTo.stepA G3 (StTo.same ((H1.out.below hb_w2).byA (r := a.hurries s c false) A3 C3 G3))))⟩
    have e4 : (k == 4) = false := beq_eq_false_iff_ne.2 q4
    by_cases q5 : k = 5
    · subst q5
      cases sv
      · go_wp2
        go_ret
        rw [show St.order ⟨s, S, c, a, j, o, wy, ⟨own, their, wait⟩, leak, told, fails⟩ 5 p = (⟨s, S, c, a, j, o, wy, ⟨own, their, wait⟩, leak, told, fails⟩, 12) from by simp [St.order, hsv]]
        exact ⟨rfl, StTo.stepB BW.out (StTo.same H1.out)⟩
      · cases wy with
        | bs q =>
          have hm := mB_Hold
          have K1 := H1.out.st
          have M1 := HN.out
          have HH := Lib.hid (fun g : Up w1 => BHold_c (H1.out.wy.below g.ok))
          simp only [St.cells, Wy.v] at h1c
          go_wp2
          refine wp_region_up_tail 7 (by kernel_rfl) (by kernel_rfl) ?_
          simp only [List.take_succ_cons, List.take_zero, List.drop_succ_cons, List.drop_zero]
          have up_K1 := fun (g : Up _) => (Blk.below K1 g.ok).c
          have up_M1 := fun (g : Up _) => (Blk.below M1 g.ok).c
          repeat (go_big_quiet_step (with_reducible exact Up.calls_same _ (HH.out _)))
          refine wpQuiet_nil ?_
          clear up_K1 up_M1
          refine up_elim (fun w2 hb_w2 => ?_)
          go_wp2_with (first | ((with_reducible refine (Put_c (H1.out.ho.below hb_w2) HK.out.h (HV.out.below hb_w2) hlp).mono ?_); rintro e w3 ⟨rfl, vn3, A3, G3, O3⟩))
          go_ret
          rw [show St.order ⟨s, S, c, a, j, o, .bs q, ⟨own, their, wait⟩, leak, told, fails⟩ 5 p = (St.setH ⟨s, S, c, a, j, o, .bs q, ⟨own, their, wait⟩, leak, told, fails⟩ (o.put p).1, (o.put p).2) from by simp [St.order, hsv]]
          exact ⟨rfl, StTo.stepB BW.out (StTo.stepB hb_w2 (StTo.stepH (vs := L.vs) (vn := vn3) G3 (fun k hk => List.mem_cons_of_mem _ hk) (fun k hk => (List.mem_append.1 hk).elim (fun h => .inl (List.mem_append_left _ h)) (fun h => (O3 k h).imp (fun h => List.mem_append_right _ h) id)) (StTo.same ((H1.out.below hb_w2).byH A3 G3 (H1.out.below hb_w2).ho.typed))))⟩
        | cy q =>
          have hm := mC_Hold
          have K1 := H1.out.st
          have M1 := HN.out
          have HH := Lib.hid (fun g : Up w1 => CHold_c (H1.out.wy.below g.ok))
          simp only [St.cells, Wy.v] at h1c
          go_wp2
          refine wp_region_up_tail 7 (by kernel_rfl) (by kernel_rfl) ?_
          simp only [List.take_succ_cons, List.take_zero, List.drop_succ_cons, List.drop_zero]
          have up_K1 := fun (g : Up _) => (Blk.below K1 g.ok).c
          have up_M1 := fun (g : Up _) => (Blk.below M1 g.ok).c
          repeat (go_big_quiet_step (with_reducible exact Up.calls_same _ (HH.out _)))
          refine wpQuiet_nil ?_
          clear up_K1 up_M1
          refine up_elim (fun w2 hb_w2 => ?_)
          go_wp2_with (first | ((with_reducible refine (Put_c (H1.out.ho.below hb_w2) HK.out.h (HV.out.below hb_w2) hlp).mono ?_); rintro e w3 ⟨rfl, vn3, A3, G3, O3⟩))
          go_ret
          rw [show St.order ⟨s, S, c, a, j, o, .cy q, ⟨own, their, wait⟩, leak, told, fails⟩ 5 p = (St.setH ⟨s, S, c, a, j, o, .cy q, ⟨own, their, wait⟩, leak, told, fails⟩ (o.put p).1, (o.put p).2) from by simp [St.order, hsv]]
          exact ⟨rfl, StTo.stepB BW.out (StTo.stepB hb_w2 (StTo.stepH (vs := L.vs) (vn := vn3) G3 (fun k hk => List.mem_cons_of_mem _ hk) (fun k hk => (List.mem_append.1 hk).elim (fun h => .inl (List.mem_append_left _ h)) (fun h => (O3 k h).imp (fun h => List.mem_append_right _ h) id)) (StTo.same ((H1.out.below hb_w2).byH A3 G3 (H1.out.below hb_w2).ho.typed))))⟩
    have e5 : (k == 5) = false := beq_eq_false_iff_ne.2 q5
    by_cases q6 : k = 6
    · subst q6
      go_wp2_with (first | ((with_reducible refine (Here_c H1.out true).mono ?_); rintro e w2 ⟨rfl, T2⟩))
      go_ret
      rw [show St.order ⟨s, S, c, a, j, o, wy, ⟨own, their, wait⟩, leak, told, fails⟩ 6 p = (St.here ⟨s, S, c, a, j, o, wy, ⟨own, their, wait⟩, leak, told, fails⟩ true, 0) from by simp [St.order]]
      exact ⟨rfl, StTo.stepB BW.out T2⟩
    have e6 : (k == 6) = false := beq_eq_false_iff_ne.2 q6
    by_cases q7 : k = 7
    · subst q7
      go_wp2_with (first | ((with_reducible refine (Here_c H1.out false).mono ?_); rintro e w2 ⟨rfl, T2⟩))
      go_ret
      rw [show St.order ⟨s, S, c, a, j, o, wy, ⟨own, their, wait⟩, leak, told, fails⟩ 7 p = (St.here ⟨s, S, c, a, j, o, wy, ⟨own, their, wait⟩, leak, told, fails⟩ false, 0) from by simp [St.order]]
      exact ⟨rfl, StTo.stepB BW.out T2⟩
    have e7 : (k == 7) = false := beq_eq_false_iff_ne.2 q7
    by_cases q8 : k = 8
    · subst q8
      cases wy with
      | bs q =>
        have hm := mB_Hold
        simp only [St.cells, Wy.v] at h1c
        go_wp2_with (first
          | ((with_reducible refine (BHold_c H1.out.wy).mono ?_); rintro e w2 ⟨rfl, rfl⟩)
          | ((with_reducible refine (HFlush_c H1.out.ho).mono ?_); rintro e w3 ⟨rfl, A3, G3⟩))
        go_ret
        rw [show St.order ⟨s, S, c, a, j, o, .bs q, ⟨own, their, wait⟩, leak, told, fails⟩ 8 p = (St.setH ⟨s, S, c, a, j, o, .bs q, ⟨own, their, wait⟩, leak, told, fails⟩ o.flush, 0) from by simp [St.order]]
        exact ⟨rfl, StTo.stepB BW.out (StTo.stepH (vs := L.vs) (vn := nil0) G3 (fun k hk => by simp at hk ⊢; simp [hk]) (fun k hk => by simp [Go.Proofs.YtcllbmjmefeknaaGreatK.own, Value.ownBlock] at hk ⊢; exact .inl (.inl hk)) (StTo.same (H1.out.byH A3 G3 ((Typed.one H1.out.ho.blk).more (by simp)))))⟩
      | cy q =>
        have hm := mC_Hold
        simp only [St.cells, Wy.v] at h1c
        go_wp2_with (first
          | ((with_reducible refine (CHold_c H1.out.wy).mono ?_); rintro e w2 ⟨rfl, rfl⟩)
          | ((with_reducible refine (HFlush_c H1.out.ho).mono ?_); rintro e w3 ⟨rfl, A3, G3⟩))
        go_ret
        rw [show St.order ⟨s, S, c, a, j, o, .cy q, ⟨own, their, wait⟩, leak, told, fails⟩ 8 p = (St.setH ⟨s, S, c, a, j, o, .cy q, ⟨own, their, wait⟩, leak, told, fails⟩ o.flush, 0) from by simp [St.order]]
        exact ⟨rfl, StTo.stepB BW.out (StTo.stepH (vs := L.vs) (vn := nil0) G3 (fun k hk => by simp at hk ⊢; simp [hk]) (fun k hk => by simp [Go.Proofs.YtcllbmjmefeknaaGreatK.own, Value.ownBlock] at hk ⊢; exact .inl (.inl hk)) (StTo.same (H1.out.byH A3 G3 ((Typed.one H1.out.ho.blk).more (by simp)))))⟩
    have e8 : (k == 8) = false := beq_eq_false_iff_ne.2 q8
    by_cases q9 : k = 9
    · subst q9
      cases own
      · cases their
        · have HC := Lib.hid (show ∀ w : World, Calls Tryz.prog 133 #[.agg #[.bool false, .bool false, .bool wait]] w fun e w' => e = .returned (.tuple #[.agg #[.bool false, .bool false, .bool false], .bool true]) ∧ Below w.heap.size w w' from fun w => Continue_c ⟨false, false, wait⟩ w)
          go_wp2_with (first
            | ((with_reducible refine (HC.out _).mono ?_); rintro e w2 ⟨rfl, hb2⟩; (have HB2 := Lib.hid hb2); (have S2 := Lib.hid (H1.out.below hb2)); (have s2c := S2.out.st.c); (have s2f := S2.out.st.f); (have G3 := Lib.hid (((chg1 w2 b 18 (.bool false)).then (chg1 _ b 19 (.bool false))).then (chg1 _ b 20 (.bool false)))); (have S3 := Lib.hid (S2.out.own (S := S) (fails := fails) (o := ⟨false, false, false⟩) (leak := leak) ((((S2.out.st.set 18 (.bool false)).set 19 (.bool false)).set 20 (.bool false)).as (by simp)) G3.out)); clear hb2)
            | ((with_reducible refine (Resume_c S3.out).mono ?_); rintro e w4 ⟨rfl, T4⟩))
          go_ret
          rw [show St.order ⟨s, S, c, a, j, o, wy, ⟨false, false, wait⟩, leak, told, fails⟩ 9 p = (St.resume ⟨s, S, c, a, j, o, wy, ⟨false, false, false⟩, leak, told, fails⟩, 0) from by simp [St.order, Oa.goes, Oa.continue, St.setO]]
          exact ⟨rfl, StTo.stepB BW.out (StTo.stepB HB2.out (StTo.stepS G3.out T4))⟩
        · have HC := Lib.hid (show ∀ w : World, Calls Tryz.prog 133 #[.agg #[.bool false, .bool true, .bool wait]] w fun e w' => e = .returned (.tuple #[.agg #[.bool false, .bool true, .bool wait], .bool false]) ∧ Below w.heap.size w w' from fun w => Continue_c ⟨false, true, wait⟩ w)
          go_wp2_with (first
            | ((with_reducible refine (HC.out _).mono ?_); rintro e w2 ⟨rfl, hb2⟩; (have HB2 := Lib.hid hb2); (have S2 := Lib.hid (H1.out.below hb2)); (have s2c := S2.out.st.c); (have s2f := S2.out.st.f); (have G3 := Lib.hid (((chg1 w2 b 18 (.bool false)).then (chg1 _ b 19 (.bool true))).then (chg1 _ b 20 (.bool wait)))); (have S3 := Lib.hid (S2.out.own (S := S) (fails := fails) (o := ⟨false, true, wait⟩) (leak := leak) ((((S2.out.st.set 18 (.bool false)).set 19 (.bool true)).set 20 (.bool wait)).as (by simp)) G3.out)); clear hb2))
          go_ret
          rw [show St.order ⟨s, S, c, a, j, o, wy, ⟨false, true, wait⟩, leak, told, fails⟩ 9 p = (⟨s, S, c, a, j, o, wy, ⟨false, true, wait⟩, leak, told, fails⟩, 9) from by simp [St.order, Oa.goes]]
          exact ⟨rfl, StTo.stepB BW.out (StTo.stepB HB2.out (StTo.stepS G3.out (StTo.same S3.out)))⟩
      · cases their
        · have HC := Lib.hid (show ∀ w : World, Calls Tryz.prog 133 #[.agg #[.bool true, .bool false, .bool wait]] w fun e w' => e = .returned (.tuple #[.agg #[.bool true, .bool false, .bool wait], .bool false]) ∧ Below w.heap.size w w' from fun w => Continue_c ⟨true, false, wait⟩ w)
          go_wp2_with (first
            | ((with_reducible refine (HC.out _).mono ?_); rintro e w2 ⟨rfl, hb2⟩; (have HB2 := Lib.hid hb2); (have S2 := Lib.hid (H1.out.below hb2)); (have s2c := S2.out.st.c); (have s2f := S2.out.st.f); (have G3 := Lib.hid (((chg1 w2 b 18 (.bool true)).then (chg1 _ b 19 (.bool false))).then (chg1 _ b 20 (.bool wait)))); (have S3 := Lib.hid (S2.out.own (S := S) (fails := fails) (o := ⟨true, false, wait⟩) (leak := leak) ((((S2.out.st.set 18 (.bool true)).set 19 (.bool false)).set 20 (.bool wait)).as (by simp)) G3.out)); clear hb2))
          go_ret
          rw [show St.order ⟨s, S, c, a, j, o, wy, ⟨true, false, wait⟩, leak, told, fails⟩ 9 p = (⟨s, S, c, a, j, o, wy, ⟨true, false, wait⟩, leak, told, fails⟩, 9) from by simp [St.order, Oa.goes]]
          exact ⟨rfl, StTo.stepB BW.out (StTo.stepB HB2.out (StTo.stepS G3.out (StTo.same S3.out)))⟩
        · have HC := Lib.hid (show ∀ w : World, Calls Tryz.prog 133 #[.agg #[.bool true, .bool true, .bool wait]] w fun e w' => e = .returned (.tuple #[.agg #[.bool true, .bool true, .bool wait], .bool false]) ∧ Below w.heap.size w w' from fun w => Continue_c ⟨true, true, wait⟩ w)
          go_wp2_with (first
            | ((with_reducible refine (HC.out _).mono ?_); rintro e w2 ⟨rfl, hb2⟩; (have HB2 := Lib.hid hb2); (have S2 := Lib.hid (H1.out.below hb2)); (have s2c := S2.out.st.c); (have s2f := S2.out.st.f); (have G3 := Lib.hid (((chg1 w2 b 18 (.bool true)).then (chg1 _ b 19 (.bool true))).then (chg1 _ b 20 (.bool wait)))); (have S3 := Lib.hid (S2.out.own (S := S) (fails := fails) (o := ⟨true, true, wait⟩) (leak := leak) ((((S2.out.st.set 18 (.bool true)).set 19 (.bool true)).set 20 (.bool wait)).as (by simp)) G3.out)); clear hb2))
          go_ret
          rw [show St.order ⟨s, S, c, a, j, o, wy, ⟨true, true, wait⟩, leak, told, fails⟩ 9 p = (⟨s, S, c, a, j, o, wy, ⟨true, true, wait⟩, leak, told, fails⟩, 9) from by simp [St.order, Oa.goes]]
          exact ⟨rfl, StTo.stepB BW.out (StTo.stepB HB2.out (StTo.stepS G3.out (StTo.same S3.out)))⟩
    have e9 : (k == 9) = false := beq_eq_false_iff_ne.2 q9
    by_cases q10 : k = 10
    · subst q10
      cases sv
      · go_wp2
        go_ret
        rw [show St.order ⟨s, S, c, a, j, o, wy, ⟨own, their, wait⟩, leak, told, fails⟩ 10 p = (⟨s, S, c, a, j, o, wy, ⟨own, their, wait⟩, leak, told, fails⟩, 9) from by simp [St.order, hsv]]
        exact ⟨rfl, StTo.stepB BW.out (StTo.same H1.out)⟩
      · go_wp2_with (first | ((with_reducible refine (JBegin_c H1.out.jm H1.out.ck).mono ?_); rintro e w3 ⟨rfl, J3, C3, G3⟩))
        go_ret
        rw [show St.order ⟨s, S, c, a, j, o, wy, ⟨own, their, wait⟩, leak, told, fails⟩ 10 p = (St.setJ ⟨s, S, c, a, j, o, wy, ⟨own, their, wait⟩, leak, told, fails⟩ (j.begin s c), 0) from by simp [St.order, hsv]]
        exact ⟨rfl, StTo.stepB BW.out (StTo.stepJ G3 (StTo.same (H1.out.byJ (r := j.begin s c) J3 C3 G3)))⟩
    have e10 : (k == 10) = false := beq_eq_false_iff_ne.2 q10
    by_cases q11 : k = 11
    · subst q11
      cases sv
      · go_wp2
        go_ret
        rw [show St.order ⟨s, S, c, a, j, o, wy, ⟨own, their, wait⟩, leak, told, fails⟩ 11 p = (⟨s, S, c, a, j, o, wy, ⟨own, their, wait⟩, leak, told, fails⟩, 9) from by simp [St.order, hsv]]
        exact ⟨rfl, StTo.stepB BW.out (StTo.same H1.out)⟩
      · go_wp2_with (first | ((with_reducible refine (JEnd_c H1.out.jm H1.out.ck).mono ?_); rintro e w3 ⟨rfl, J3, C3, G3⟩))
        go_ret
        rw [show St.order ⟨s, S, c, a, j, o, wy, ⟨own, their, wait⟩, leak, told, fails⟩ 11 p = (St.setJ ⟨s, S, c, a, j, o, wy, ⟨own, their, wait⟩, leak, told, fails⟩ (j.end c), 0) from by simp [St.order, hsv]]
        exact ⟨rfl, StTo.stepB BW.out (StTo.stepJ G3 (StTo.same (H1.out.byJ (r := j.end c) J3 C3 G3)))⟩
    have e11 : (k == 11) = false := beq_eq_false_iff_ne.2 q11
    go_wp2
    go_ret
    rw [show St.order ⟨s, S, c, a, j, o, wy, ⟨own, their, wait⟩, leak, told, fails⟩ k p = (⟨s, S, c, a, j, o, wy, ⟨own, their, wait⟩, leak, told, fails⟩, 1) from by simp [St.order, q1, q2, q3, q4, q5, q6, q7, q8, q9, q10, q11]]
    exact ⟨rfl, StTo.stepB BW.out (StTo.same H1.out)⟩
end Go.Proofs.YtcllbmjmefeknaaGreatK
