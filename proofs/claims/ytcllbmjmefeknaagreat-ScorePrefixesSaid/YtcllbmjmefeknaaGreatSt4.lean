/- The walks of package state, continued: local. -/
import Derived.Test.YtcllbmjmefeknaaGreatSt3
namespace Go.Proofs.YtcllbmjmefeknaaGreatK
open Go Go.RowKit
set_option linter.unusedVariables false
set_option maxHeartbeats 1000000
set_option maxRecDepth 100000
theorem Here_c {w : World} {b : Nat} {x : St} {L : Lay} (h : StAt w b x L) (out : Bool) :
    Calls Tryz.prog 131 #[.pointer (some ⟨b, 0, none⟩), .bool out] w fun e w' => e = .returned (.tuple #[]) ∧ StTo w w' b (x.here out) L := by
  obtain ⟨s, S, c, a, j, o, wy, oa, leak, told, fails⟩ := x
  obtain ⟨own, their, wait⟩ := oa
  have B1 := Lib.hid (bl_alloc (bl_refl w) (.cells #[.bool own, .bool their, .bool wait] 57))
  have S1 := Lib.hid (h.below B1.out)
  have HL := Lib.hid (show ∀ w : World, Calls Tryz.prog 166 #[.agg #[.bool own, .bool their, .bool wait], .bool out] w fun e w' => e = .returned (.agg #[.bool out, .bool their, .bool wait]) ∧ Below w.heap.size w w' from fun w => Local_c ⟨own, their, wait⟩ out w)
  have N1 := Lib.hid (Blk.new w #[.bool own, .bool their, .bool wait] 57)
  have hc := h.st.c
  have s1c := S1.out.st.c
  clear h
  by_cases ho : own = out
  · subst ho
    have e : St.here ⟨s, S, c, a, j, o, wy, ⟨own, their, wait⟩, leak, told, fails⟩ own = ⟨s, S, c, a, j, o, wy, ⟨own, their, wait⟩, leak, told, fails⟩ := by simp [St.here]
    rw [e]
    clear e
    go_enter Tryz.func131, Tryz.ntmps131
    go_upto_region 2 with (first
      | ((with_reducible refine (HL.out _).mono ?_); rintro e w2 ⟨rfl, hb2⟩; (have S2 := Lib.hid (S1.out.below hb2)); (have s2c := S2.out.st.c); (have s2f := S2.out.st.f); (have HB2 := Lib.hid (bl_then B1.out hb2)); (have N2 := Lib.hid (N1.out.below hb2)); (have G3 := Lib.hid (((chg1 w2 b 18 (.bool own)).then (chg1 _ b 19 (.bool their))).then (chg1 _ b 20 (.bool wait)))); (have S3 := Lib.hid (S2.out.own (S := S) (fails := fails) (o := ⟨own, their, wait⟩) (leak := leak) ((((S2.out.st.set 18 (.bool own)).set 19 (.bool their)).set 20 (.bool wait)).as (by simp)) G3.out)); (have N3 := Lib.hid (N2.out.keep ((Typed.one S2.out.st).off (by decide)) G3.out))))
    have K3 := S3.out.st
    have M3 := N3.out
    refine wp_region_up (by kernel_rfl) (by kernel_rfl) ?_
    have up_K3 := fun (g : Up _) => (Blk.below K3 g.ok).c
    have up_M3 := fun (g : Up _) => (Blk.below M3 g.ok).c
    repeat (go_big_quiet_step (fail))
    refine wpQuiet_nil ?_
    clear up_K3 up_M3
    refine up_elim (fun w4 hb_w4 => ?_)
    go_wp2
    refine bodyPost_ret (results_none rfl _ _ _) rfl ?_
    exact ⟨rfl, StTo.stepB HB2.out (StTo.stepS G3.out (StTo.below S3.out hb_w4))⟩
  · have e : St.here ⟨s, S, c, a, j, o, wy, ⟨own, their, wait⟩, leak, told, fails⟩ out = St.turn ⟨s, S, c, a, j, o, wy, ⟨out, their, wait⟩, leak, told, fails⟩ out := by simp [St.here, ho, St.setO, Oa.local]
    rw [e]
    clear e
    have hcases : (own = false ∧ out = true) ∨ (own = true ∧ out = false) := by cases own <;> cases out <;> simp at ho ⊢
    clear ho
    rcases hcases with ⟨rfl, rfl⟩ | ⟨rfl, rfl⟩
    · by_cases h4 : S = 4
      · subst h4
        rw [show St.turn ⟨s, 4, c, a, j, o, wy, ⟨true, their, wait⟩, leak, told, fails⟩ true = St.halt ⟨s, 4, c, a, j, o, wy, ⟨true, their, wait⟩, leak, told, fails⟩ from by simp [St.turn]]
        go_enter Tryz.func131, Tryz.ntmps131
        go_upto_region 2 with (first
          | ((with_reducible refine (HL.out _).mono ?_); rintro e w2 ⟨rfl, hb2⟩; (have S2 := Lib.hid (S1.out.below hb2)); (have s2c := S2.out.st.c); (have s2f := S2.out.st.f); (have HB2 := Lib.hid (bl_then B1.out hb2)); (have N2 := Lib.hid (N1.out.below hb2)); (have G3 := Lib.hid (((chg1 w2 b 18 (.bool true)).then (chg1 _ b 19 (.bool their))).then (chg1 _ b 20 (.bool wait)))); (have S3 := Lib.hid (S2.out.own (S := 4) (fails := fails) (o := ⟨true, their, wait⟩) (leak := leak) ((((S2.out.st.set 18 (.bool true)).set 19 (.bool their)).set 20 (.bool wait)).as (by simp)) G3.out)); (have N3 := Lib.hid (N2.out.keep ((Typed.one S2.out.st).off (by decide)) G3.out))))
        have K3 := S3.out.st
        have M3 := N3.out
        refine wp_region_up (by kernel_rfl) (by kernel_rfl) ?_
        have up_K3 := fun (g : Up _) => (Blk.below K3 g.ok).c
        have up_M3 := fun (g : Up _) => (Blk.below M3 g.ok).c
        repeat (go_big_quiet_step (fail))
        refine wpQuiet_nil ?_
        clear up_K3 up_M3
        refine up_elim (fun w4 hb_w4 => ?_)
        have S4 := Lib.hid (S3.out.below hb_w4)
        have s4c := S4.out.st.c
        have s4f := S4.out.st.f
        go_wp2_with (first | ((with_reducible refine (Halt_c S4.out).mono ?_); rintro e w5 ⟨rfl, T5⟩))
        go_end0
        exact ⟨rfl, StTo.stepB HB2.out (StTo.stepS G3.out (StTo.stepB hb_w4 T5))⟩
      by_cases h5 : S = 5
      · subst h5
        rw [show St.turn ⟨s, 5, c, a, j, o, wy, ⟨true, their, wait⟩, leak, told, fails⟩ true = St.resume ⟨s, 5, c, a, j, o, wy, ⟨true, their, wait⟩, leak, told, fails⟩ from by simp [St.turn]]
        go_enter Tryz.func131, Tryz.ntmps131
        go_upto_region 2 with (first
          | ((with_reducible refine (HL.out _).mono ?_); rintro e w2 ⟨rfl, hb2⟩; (have S2 := Lib.hid (S1.out.below hb2)); (have s2c := S2.out.st.c); (have s2f := S2.out.st.f); (have HB2 := Lib.hid (bl_then B1.out hb2)); (have N2 := Lib.hid (N1.out.below hb2)); (have G3 := Lib.hid (((chg1 w2 b 18 (.bool true)).then (chg1 _ b 19 (.bool their))).then (chg1 _ b 20 (.bool wait)))); (have S3 := Lib.hid (S2.out.own (S := 5) (fails := fails) (o := ⟨true, their, wait⟩) (leak := leak) ((((S2.out.st.set 18 (.bool true)).set 19 (.bool their)).set 20 (.bool wait)).as (by simp)) G3.out)); (have N3 := Lib.hid (N2.out.keep ((Typed.one S2.out.st).off (by decide)) G3.out))))
        have K3 := S3.out.st
        have M3 := N3.out
        refine wp_region_up (by kernel_rfl) (by kernel_rfl) ?_
        have up_K3 := fun (g : Up _) => (Blk.below K3 g.ok).c
        have up_M3 := fun (g : Up _) => (Blk.below M3 g.ok).c
        repeat (go_big_quiet_step (fail))
        refine wpQuiet_nil ?_
        clear up_K3 up_M3
        refine up_elim (fun w4 hb_w4 => ?_)
        have S4 := Lib.hid (S3.out.below hb_w4)
        have s4c := S4.out.st.c
        have s4f := S4.out.st.f
        go_wp2_with (first | ((with_reducible refine (Resume_c S4.out).mono ?_); rintro e w5 ⟨rfl, T5⟩))
        go_end0
        exact ⟨rfl, StTo.stepB HB2.out (StTo.stepS G3.out (StTo.stepB hb_w4 T5))⟩
      by_cases h2 : S = 2
      · subst h2
        rw [show St.turn ⟨s, 2, c, a, j, o, wy, ⟨true, their, wait⟩, leak, told, fails⟩ true = ⟨s, 3, c, a, j, o, wy, ⟨true, their, wait⟩, leak, told, fails⟩ from by simp [St.turn]]
        go_enter Tryz.func131, Tryz.ntmps131
        go_upto_region 2 with (first
          | ((with_reducible refine (HL.out _).mono ?_); rintro e w2 ⟨rfl, hb2⟩; (have S2 := Lib.hid (S1.out.below hb2)); (have s2c := S2.out.st.c); (have s2f := S2.out.st.f); (have HB2 := Lib.hid (bl_then B1.out hb2)); (have N2 := Lib.hid (N1.out.below hb2)); (have G3 := Lib.hid (((chg1 w2 b 18 (.bool true)).then (chg1 _ b 19 (.bool their))).then (chg1 _ b 20 (.bool wait)))); (have S3 := Lib.hid (S2.out.own (S := 2) (fails := fails) (o := ⟨true, their, wait⟩) (leak := leak) ((((S2.out.st.set 18 (.bool true)).set 19 (.bool their)).set 20 (.bool wait)).as (by simp)) G3.out)); (have N3 := Lib.hid (N2.out.keep ((Typed.one S2.out.st).off (by decide)) G3.out))))
        have K3 := S3.out.st
        have M3 := N3.out
        refine wp_region_up (by kernel_rfl) (by kernel_rfl) ?_
        have up_K3 := fun (g : Up _) => (Blk.below K3 g.ok).c
        have up_M3 := fun (g : Up _) => (Blk.below M3 g.ok).c
        repeat (go_big_quiet_step (fail))
        refine wpQuiet_nil ?_
        clear up_K3 up_M3
        refine up_elim (fun w4 hb_w4 => ?_)
        have S4 := Lib.hid (S3.out.below hb_w4)
        have s4c := S4.out.st.c
        have s4f := S4.out.st.f
        go_wp2
        go_end0
        exact ⟨rfl, StTo.stepB HB2.out (StTo.stepS G3.out (StTo.stepB hb_w4 (StTo.stepS (chg1 w4 b 0 (.int .u8 3)) (StTo.same (S4.out.own (S := 3) (fails := fails) (o := ⟨true, their, wait⟩) (leak := leak) ((S4.out.st.set 0 (.int .u8 3)).as (by simp)) (chg1 w4 b 0 (.int .u8 3)))))))⟩
      by_cases h3 : S = 3
      · subst h3
        rw [show St.turn ⟨s, 3, c, a, j, o, wy, ⟨true, their, wait⟩, leak, told, fails⟩ true = ⟨s, 3, c, a, j, o, wy, ⟨true, their, wait⟩, leak, told, fails⟩ from by simp [St.turn]]
        go_enter Tryz.func131, Tryz.ntmps131
        go_upto_region 2 with (first
          | ((with_reducible refine (HL.out _).mono ?_); rintro e w2 ⟨rfl, hb2⟩; (have S2 := Lib.hid (S1.out.below hb2)); (have s2c := S2.out.st.c); (have s2f := S2.out.st.f); (have HB2 := Lib.hid (bl_then B1.out hb2)); (have N2 := Lib.hid (N1.out.below hb2)); (have G3 := Lib.hid (((chg1 w2 b 18 (.bool true)).then (chg1 _ b 19 (.bool their))).then (chg1 _ b 20 (.bool wait)))); (have S3 := Lib.hid (S2.out.own (S := 3) (fails := fails) (o := ⟨true, their, wait⟩) (leak := leak) ((((S2.out.st.set 18 (.bool true)).set 19 (.bool their)).set 20 (.bool wait)).as (by simp)) G3.out)); (have N3 := Lib.hid (N2.out.keep ((Typed.one S2.out.st).off (by decide)) G3.out))))
        have K3 := S3.out.st
        have M3 := N3.out
        refine wp_region_up (by kernel_rfl) (by kernel_rfl) ?_
        have up_K3 := fun (g : Up _) => (Blk.below K3 g.ok).c
        have up_M3 := fun (g : Up _) => (Blk.below M3 g.ok).c
        repeat (go_big_quiet_step (fail))
        refine wpQuiet_nil ?_
        clear up_K3 up_M3
        refine up_elim (fun w4 hb_w4 => ?_)
        have S4 := Lib.hid (S3.out.below hb_w4)
        have s4c := S4.out.st.c
        have s4f := S4.out.st.f
        go_wp2
        go_end0
        exact ⟨rfl, StTo.stepB HB2.out (StTo.stepS G3.out (StTo.below S3.out hb_w4))⟩
      · have k2 : (S == 2) = false := beq_eq_false_iff_ne.2 h2
        have k3 : (S == 3) = false := beq_eq_false_iff_ne.2 h3
        have k4 : (S == 4) = false := beq_eq_false_iff_ne.2 h4
        have k5 : (S == 5) = false := beq_eq_false_iff_ne.2 h5
        rw [show St.turn ⟨s, S, c, a, j, o, wy, ⟨true, their, wait⟩, leak, told, fails⟩ true = ⟨s, S, c, a, j, o, wy, ⟨true, their, wait⟩, leak, told, fails⟩ from by simp [St.turn, h2, h3, h4, h5]]
        go_enter Tryz.func131, Tryz.ntmps131
        go_upto_region 2 with (first
          | ((with_reducible refine (HL.out _).mono ?_); rintro e w2 ⟨rfl, hb2⟩; (have S2 := Lib.hid (S1.out.below hb2)); (have s2c := S2.out.st.c); (have s2f := S2.out.st.f); (have HB2 := Lib.hid (bl_then B1.out hb2)); (have N2 := Lib.hid (N1.out.below hb2)); (have G3 := Lib.hid (((chg1 w2 b 18 (.bool true)).then (chg1 _ b 19 (.bool their))).then (chg1 _ b 20 (.bool wait)))); (have S3 := Lib.hid (S2.out.own (S := S) (fails := fails) (o := ⟨true, their, wait⟩) (leak := leak) ((((S2.out.st.set 18 (.bool true)).set 19 (.bool their)).set 20 (.bool wait)).as (by simp)) G3.out)); (have N3 := Lib.hid (N2.out.keep ((Typed.one S2.out.st).off (by decide)) G3.out))))
        have K3 := S3.out.st
        have M3 := N3.out
        refine wp_region_up (by kernel_rfl) (by kernel_rfl) ?_
        have up_K3 := fun (g : Up _) => (Blk.below K3 g.ok).c
        have up_M3 := fun (g : Up _) => (Blk.below M3 g.ok).c
        repeat (go_big_quiet_step (fail))
        refine wpQuiet_nil ?_
        clear up_K3 up_M3
        refine up_elim (fun w4 hb_w4 => ?_)
        have S4 := Lib.hid (S3.out.below hb_w4)
        have s4c := S4.out.st.c
        have s4f := S4.out.st.f
        go_wp2
        go_end0
        exact ⟨rfl, StTo.stepB HB2.out (StTo.stepS G3.out (StTo.below S3.out hb_w4))⟩
    · by_cases h4 : S = 4
      · subst h4
        rw [show St.turn ⟨s, 4, c, a, j, o, wy, ⟨false, their, wait⟩, leak, told, fails⟩ false = ⟨s, 4, c, a, j, o, wy, ⟨false, their, wait⟩, leak, told, fails⟩ from by simp [St.turn]]
        go_enter Tryz.func131, Tryz.ntmps131
        go_upto_region 2 with (first
          | ((with_reducible refine (HL.out _).mono ?_); rintro e w2 ⟨rfl, hb2⟩; (have S2 := Lib.hid (S1.out.below hb2)); (have s2c := S2.out.st.c); (have s2f := S2.out.st.f); (have HB2 := Lib.hid (bl_then B1.out hb2)); (have N2 := Lib.hid (N1.out.below hb2)); (have G3 := Lib.hid (((chg1 w2 b 18 (.bool false)).then (chg1 _ b 19 (.bool their))).then (chg1 _ b 20 (.bool wait)))); (have S3 := Lib.hid (S2.out.own (S := 4) (fails := fails) (o := ⟨false, their, wait⟩) (leak := leak) ((((S2.out.st.set 18 (.bool false)).set 19 (.bool their)).set 20 (.bool wait)).as (by simp)) G3.out)); (have N3 := Lib.hid (N2.out.keep ((Typed.one S2.out.st).off (by decide)) G3.out))))
        have K3 := S3.out.st
        have M3 := N3.out
        refine wp_region_up (by kernel_rfl) (by kernel_rfl) ?_
        have up_K3 := fun (g : Up _) => (Blk.below K3 g.ok).c
        have up_M3 := fun (g : Up _) => (Blk.below M3 g.ok).c
        repeat (go_big_quiet_step (fail))
        refine wpQuiet_nil ?_
        clear up_K3 up_M3
        refine up_elim (fun w4 hb_w4 => ?_)
        have S4 := Lib.hid (S3.out.below hb_w4)
        have s4c := S4.out.st.c
        have s4f := S4.out.st.f
        go_wp2
        go_end0
        exact ⟨rfl, StTo.stepB HB2.out (StTo.stepS G3.out (StTo.below S3.out hb_w4))⟩
      by_cases h5 : S = 5
      · subst h5
        rw [show St.turn ⟨s, 5, c, a, j, o, wy, ⟨false, their, wait⟩, leak, told, fails⟩ false = St.resume ⟨s, 5, c, a, j, o, wy, ⟨false, their, wait⟩, leak, told, fails⟩ from by simp [St.turn]]
        go_enter Tryz.func131, Tryz.ntmps131
        go_upto_region 2 with (first
          | ((with_reducible refine (HL.out _).mono ?_); rintro e w2 ⟨rfl, hb2⟩; (have S2 := Lib.hid (S1.out.below hb2)); (have s2c := S2.out.st.c); (have s2f := S2.out.st.f); (have HB2 := Lib.hid (bl_then B1.out hb2)); (have N2 := Lib.hid (N1.out.below hb2)); (have G3 := Lib.hid (((chg1 w2 b 18 (.bool false)).then (chg1 _ b 19 (.bool their))).then (chg1 _ b 20 (.bool wait)))); (have S3 := Lib.hid (S2.out.own (S := 5) (fails := fails) (o := ⟨false, their, wait⟩) (leak := leak) ((((S2.out.st.set 18 (.bool false)).set 19 (.bool their)).set 20 (.bool wait)).as (by simp)) G3.out)); (have N3 := Lib.hid (N2.out.keep ((Typed.one S2.out.st).off (by decide)) G3.out))))
        have K3 := S3.out.st
        have M3 := N3.out
        refine wp_region_up (by kernel_rfl) (by kernel_rfl) ?_
        have up_K3 := fun (g : Up _) => (Blk.below K3 g.ok).c
        have up_M3 := fun (g : Up _) => (Blk.below M3 g.ok).c
        repeat (go_big_quiet_step (fail))
        refine wpQuiet_nil ?_
        clear up_K3 up_M3
        refine up_elim (fun w4 hb_w4 => ?_)
        have S4 := Lib.hid (S3.out.below hb_w4)
        have s4c := S4.out.st.c
        have s4f := S4.out.st.f
        go_wp2_with (first | ((with_reducible refine (Resume_c S4.out).mono ?_); rintro e w5 ⟨rfl, T5⟩))
        go_end0
        exact ⟨rfl, StTo.stepB HB2.out (StTo.stepS G3.out (StTo.stepB hb_w4 T5))⟩
      by_cases h2 : S = 2
      · subst h2
        rw [show St.turn ⟨s, 2, c, a, j, o, wy, ⟨false, their, wait⟩, leak, told, fails⟩ false = ⟨s, 2, c, a, j, o, wy, ⟨false, their, wait⟩, leak, told, fails⟩ from by simp [St.turn]]
        go_enter Tryz.func131, Tryz.ntmps131
        go_upto_region 2 with (first
          | ((with_reducible refine (HL.out _).mono ?_); rintro e w2 ⟨rfl, hb2⟩; (have S2 := Lib.hid (S1.out.below hb2)); (have s2c := S2.out.st.c); (have s2f := S2.out.st.f); (have HB2 := Lib.hid (bl_then B1.out hb2)); (have N2 := Lib.hid (N1.out.below hb2)); (have G3 := Lib.hid (((chg1 w2 b 18 (.bool false)).then (chg1 _ b 19 (.bool their))).then (chg1 _ b 20 (.bool wait)))); (have S3 := Lib.hid (S2.out.own (S := 2) (fails := fails) (o := ⟨false, their, wait⟩) (leak := leak) ((((S2.out.st.set 18 (.bool false)).set 19 (.bool their)).set 20 (.bool wait)).as (by simp)) G3.out)); (have N3 := Lib.hid (N2.out.keep ((Typed.one S2.out.st).off (by decide)) G3.out))))
        have K3 := S3.out.st
        have M3 := N3.out
        refine wp_region_up (by kernel_rfl) (by kernel_rfl) ?_
        have up_K3 := fun (g : Up _) => (Blk.below K3 g.ok).c
        have up_M3 := fun (g : Up _) => (Blk.below M3 g.ok).c
        repeat (go_big_quiet_step (fail))
        refine wpQuiet_nil ?_
        clear up_K3 up_M3
        refine up_elim (fun w4 hb_w4 => ?_)
        have S4 := Lib.hid (S3.out.below hb_w4)
        have s4c := S4.out.st.c
        have s4f := S4.out.st.f
        go_wp2
        go_end0
        exact ⟨rfl, StTo.stepB HB2.out (StTo.stepS G3.out (StTo.below S3.out hb_w4))⟩
      by_cases h3 : S = 3
      · subst h3
        rw [show St.turn ⟨s, 3, c, a, j, o, wy, ⟨false, their, wait⟩, leak, told, fails⟩ false = ⟨s, 2, c, a, j, o, wy, ⟨false, their, wait⟩, leak, told, fails⟩ from by simp [St.turn]]
        go_enter Tryz.func131, Tryz.ntmps131
        go_upto_region 2 with (first
          | ((with_reducible refine (HL.out _).mono ?_); rintro e w2 ⟨rfl, hb2⟩; (have S2 := Lib.hid (S1.out.below hb2)); (have s2c := S2.out.st.c); (have s2f := S2.out.st.f); (have HB2 := Lib.hid (bl_then B1.out hb2)); (have N2 := Lib.hid (N1.out.below hb2)); (have G3 := Lib.hid (((chg1 w2 b 18 (.bool false)).then (chg1 _ b 19 (.bool their))).then (chg1 _ b 20 (.bool wait)))); (have S3 := Lib.hid (S2.out.own (S := 3) (fails := fails) (o := ⟨false, their, wait⟩) (leak := leak) ((((S2.out.st.set 18 (.bool false)).set 19 (.bool their)).set 20 (.bool wait)).as (by simp)) G3.out)); (have N3 := Lib.hid (N2.out.keep ((Typed.one S2.out.st).off (by decide)) G3.out))))
        have K3 := S3.out.st
        have M3 := N3.out
        refine wp_region_up (by kernel_rfl) (by kernel_rfl) ?_
        have up_K3 := fun (g : Up _) => (Blk.below K3 g.ok).c
        have up_M3 := fun (g : Up _) => (Blk.below M3 g.ok).c
        repeat (go_big_quiet_step (fail))
        refine wpQuiet_nil ?_
        clear up_K3 up_M3
        refine up_elim (fun w4 hb_w4 => ?_)
        have S4 := Lib.hid (S3.out.below hb_w4)
        have s4c := S4.out.st.c
        have s4f := S4.out.st.f
        go_wp2
        go_end0
        exact ⟨rfl, StTo.stepB HB2.out (StTo.stepS G3.out (StTo.stepB hb_w4 (StTo.stepS (chg1 w4 b 0 (.int .u8 2)) (StTo.same (S4.out.own (S := 2) (fails := fails) (o := ⟨false, their, wait⟩) (leak := leak) ((S4.out.st.set 0 (.int .u8 2)).as (by simp)) (chg1 w4 b 0 (.int .u8 2)))))))⟩
      · have k2 : (S == 2) = false := beq_eq_false_iff_ne.2 h2
        have k3 : (S == 3) = false := beq_eq_false_iff_ne.2 h3
        have k4 : (S == 4) = false := beq_eq_false_iff_ne.2 h4
        have k5 : (S == 5) = false := beq_eq_false_iff_ne.2 h5
        rw [show St.turn ⟨s, S, c, a, j, o, wy, ⟨false, their, wait⟩, leak, told, fails⟩ false = ⟨s, S, c, a, j, o, wy, ⟨false, their, wait⟩, leak, told, fails⟩ from by simp [St.turn, h2, h3, h4, h5]]
        go_enter Tryz.func131, Tryz.ntmps131
        go_upto_region 2 with (first
          | ((with_reducible refine (HL.out _).mono ?_); rintro e w2 ⟨rfl, hb2⟩; (have S2 := Lib.hid (S1.out.below hb2)); (have s2c := S2.out.st.c); (have s2f := S2.out.st.f); (have HB2 := Lib.hid (bl_then B1.out hb2)); (have N2 := Lib.hid (N1.out.below hb2)); (have G3 := Lib.hid (((chg1 w2 b 18 (.bool false)).then (chg1 _ b 19 (.bool their))).then (chg1 _ b 20 (.bool wait)))); (have S3 := Lib.hid (S2.out.own (S := S) (fails := fails) (o := ⟨false, their, wait⟩) (leak := leak) ((((S2.out.st.set 18 (.bool false)).set 19 (.bool their)).set 20 (.bool wait)).as (by simp)) G3.out)); (have N3 := Lib.hid (N2.out.keep ((Typed.one S2.out.st).off (by decide)) G3.out))))
        have K3 := S3.out.st
        have M3 := N3.out
        refine wp_region_up (by kernel_rfl) (by kernel_rfl) ?_
        have up_K3 := fun (g : Up _) => (Blk.below K3 g.ok).c
        have up_M3 := fun (g : Up _) => (Blk.below M3 g.ok).c
        repeat (go_big_quiet_step (fail))
        refine wpQuiet_nil ?_
        clear up_K3 up_M3
        refine up_elim (fun w4 hb_w4 => ?_)
        have S4 := Lib.hid (S3.out.below hb_w4)
        have s4c := S4.out.st.c
        have s4f := S4.out.st.f
        go_wp2
        go_end0
        exact ⟨rfl, StTo.stepB HB2.out (StTo.stepS G3.out (StTo.below S3.out hb_w4))⟩
end Go.Proofs.YtcllbmjmefeknaaGreatK
