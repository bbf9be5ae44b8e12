/- The walks of package state, continued: serve, aligned, count, Damage. -/
import Derived.Test.YtcllbmjmefeknaaGreatSt3
namespace Go.Proofs.YtcllbmjmefeknaaGreatK
open Go Go.RowKit
set_option linter.unusedVariables false
set_option maxHeartbeats 1000000
set_option maxRecDepth 100000
theorem Serve_c {w : World} {b : Nat} {x : St} {L : Lay} (h : StAt w b x L) (hf : x.few 1000000) :
    Calls Tryz.prog 183 #[.pointer (some ⟨b, 0, none⟩)] w fun e w' => e = .returned (.tuple #[]) ∧ StTo w w' b x.serve L := by
  obtain ⟨s, S, c, a, j, o, wy, oa, leak, told, fails⟩ := x
  obtain ⟨f1, f2, f3⟩ := hf
  dsimp only at f1 f2 f3
  have B1 := Lib.hid (bl_alloc (bl_refl w) (.cells #[.int .i64 1] 3))
  have S1 := Lib.hid (h.below B1.out)
  have HS := Lib.hid (Stop_c (l := [1]) (n := 1) (cap := 1) S1.out.ck (Blk.newAt (n := w.heap.size) rfl #[.int .i64 1] 3) (by simp) (by simp) rfl)
  obtain ⟨i, hi⟩ : ∃ i, oa.is = i := ⟨_, rfl⟩
  have HI := Lib.hid (fun w => hi ▸ Is_c oa w)
  have hc := h.st.c
  clear h
  cases i
  · have e : St.serve ⟨s, S, c, a, j, o, wy, oa, leak, told, fails⟩ = ⟨s, 4, c.stop [1], a, j, o, wy, oa, leak, told ++ [⟨1, 0, []⟩], fails⟩ := by simp [St.serve, St.served, hi]
    rw [e]
    clear e hi
    go_enter Tryz.func183, Tryz.ntmps183
    go_wp2_with (first
      | ((with_reducible refine HS.out.mono ?_); rintro e w2 ⟨rfl, C2, G2⟩; (have HG2 := Lib.hid G2); (have S2 := Lib.hid (show StAt w2 b ⟨s, S, c.stop [1], a, j, o, wy, oa, leak, told, fails⟩ L from S1.out.byC C2 G2)); (have s2c := S2.out.st.c); (have s2f := S2.out.st.f); (have G3 := Lib.hid (chg1 w2 b 0 (.int .u8 4))); (have S3 := Lib.hid (S2.out.own (S := 4) (fails := fails) (o := oa) (leak := leak) ((S2.out.st.set 0 (.int .u8 4)).as (by simp)) G3.out)); clear C2 G2)
      | ((with_reducible refine (Tell_c S3.out ⟨1, 0, []⟩ nil0 byt_nil (by simp only; omega)).mono ?_); rintro e w4 ⟨rfl, L4, S4', G4, O4⟩; (have S4 := Lib.hid (show StAt w4 b ⟨s, 4, c.stop [1], a, j, o, wy, oa, leak, told ++ [⟨1, 0, []⟩], fails⟩ L4 from S4')); (have s4c := S4.out.st.c); (have HG4 := Lib.hid G4); (have HO4 := Lib.hid O4); clear S4' G4 O4)
      | ((with_reducible refine (HI.out _).mono ?_); rintro e w5 ⟨rfl, hb5⟩))
    go_end0
    exact ⟨rfl, StTo.stepB B1.out (StTo.stepC HG2.out (StTo.stepS G3.out (StTo.then HG4.out HO4.out (StTo.below S4.out hb5))))⟩
  · have e : St.serve ⟨s, S, c, a, j, o, wy, oa, leak, told, fails⟩ = St.halt ⟨s, 4, c.stop [1], a, j, o, wy, oa, leak, told ++ [⟨1, 0, []⟩], fails⟩ := by simp [St.serve, St.served, hi]
    rw [e]
    clear e hi
    go_enter Tryz.func183, Tryz.ntmps183
    go_wp2_with (first
      | ((with_reducible refine HS.out.mono ?_); rintro e w2 ⟨rfl, C2, G2⟩; (have HG2 := Lib.hid G2); (have S2 := Lib.hid (show StAt w2 b ⟨s, S, c.stop [1], a, j, o, wy, oa, leak, told, fails⟩ L from S1.out.byC C2 G2)); (have s2c := S2.out.st.c); (have s2f := S2.out.st.f); (have G3 := Lib.hid (chg1 w2 b 0 (.int .u8 4))); (have S3 := Lib.hid (S2.out.own (S := 4) (fails := fails) (o := oa) (leak := leak) ((S2.out.st.set 0 (.int .u8 4)).as (by simp)) G3.out)); clear C2 G2)
      | ((with_reducible refine (Tell_c S3.out ⟨1, 0, []⟩ nil0 byt_nil (by simp only; omega)).mono ?_); rintro e w4 ⟨rfl, L4, S4', G4, O4⟩; (have S4 := Lib.hid (show StAt w4 b ⟨s, 4, c.stop [1], a, j, o, wy, oa, leak, told ++ [⟨1, 0, []⟩], fails⟩ L4 from S4')); (have s4c := S4.out.st.c); (have HG4 := Lib.hid G4); (have HO4 := Lib.hid O4); clear S4' G4 O4)
      | ((with_reducible refine (HI.out _).mono ?_); rintro e w5 ⟨rfl, hb5⟩; (have HB5 := Lib.hid hb5); (have S5 := Lib.hid (S4.out.below hb5)); (have s5c := S5.out.st.c); clear hb5)
      | ((with_reducible refine (Halt_c S5.out).mono ?_); rintro e w6 ⟨rfl, T6⟩))
    go_end0
    exact ⟨rfl, StTo.stepB B1.out (StTo.stepC HG2.out (StTo.stepS G3.out (StTo.then HG4.out HO4.out (StTo.stepB HB5.out T6))))⟩
theorem Aligned_c {w : World} {b : Nat} {x : St} {L : Lay} (h : StAt w b x L) :
    Calls Tryz.prog 143 #[.pointer (some ⟨b, 0, none⟩)] w fun e w' => e = .returned (.tuple #[]) ∧ StTo w w' b x.aligned L := by
  obtain ⟨s, S, c, a, j, o, wy, ⟨own, their, wait⟩, leak, told, fails⟩ := x
  have H := Lib.hid h
  have hc := h.st.c
  have hcf := h.st.f
  clear h
  cases own
  · have e : St.aligned ⟨s, S, c, a, j, o, wy, ⟨false, their, wait⟩, leak, told, fails⟩ = ⟨s, 2, c.start 1 s.t1, a, j, o, wy, ⟨false, their, wait⟩, leak, told, fails⟩ := by simp [St.aligned]
    rw [e]
    clear e
    have G1 := Lib.hid (chg1 w b 0 (.int .u8 2))
    have S1 := Lib.hid (H.out.own (S := 2) (fails := fails) (o := ⟨false, their, wait⟩) (leak := leak) ((H.out.st.set 0 (.int .u8 2)).as (by simp)) G1.out)
    have K1 := S1.out.st
    go_enter Tryz.func143, Tryz.ntmps143
    go_wp2
    refine wp_region_up_tail 10 (by kernel_rfl) (by kernel_rfl) ?_
    simp only [List.take_succ_cons, List.take_zero, List.drop_succ_cons, List.drop_zero]
    have up_K1 := fun (g : Up _) => (Blk.below K1 g.ok).c
    repeat (go_big_quiet_step (fail))
    refine wpQuiet_nil ?_
    clear up_K1
    refine up_elim (fun w2 hb_w2 => ?_)
    go_wp2_with (first | ((with_reducible refine (Start_c (S1.out.ck.below hb_w2) 1 _ (by omega) (by omega)).mono ?_); rintro e w3 ⟨⟨y, rfl⟩, C3, G3⟩))
    go_end0
    exact ⟨rfl, StTo.stepS G1.out (StTo.stepB hb_w2 (StTo.stepC G3 (StTo.same ((S1.out.below hb_w2).byC C3 G3))))⟩
  · have e : St.aligned ⟨s, S, c, a, j, o, wy, ⟨true, their, wait⟩, leak, told, fails⟩ = ⟨s, 3, c.start 1 s.t1, a, j, o, wy, ⟨true, their, wait⟩, leak, told, fails⟩ := by simp [St.aligned]
    rw [e]
    clear e
    have G1 := Lib.hid ((chg1 w b 0 (.int .u8 2)).then (chg1 _ b 0 (.int .u8 3)))
    have S1 := Lib.hid (H.out.own (S := 3) (fails := fails) (o := ⟨true, their, wait⟩) (leak := leak) (((H.out.st.set 0 (.int .u8 2)).set 0 (.int .u8 3)).as (by simp)) G1.out)
    have K1 := S1.out.st
    go_enter Tryz.func143, Tryz.ntmps143
    go_wp2
    refine wp_region_up_tail 10 (by kernel_rfl) (by kernel_rfl) ?_
    simp only [List.take_succ_cons, List.take_zero, List.drop_succ_cons, List.drop_zero]
    have up_K1 := fun (g : Up _) => (Blk.below K1 g.ok).c
    repeat (go_big_quiet_step (fail))
    refine wpQuiet_nil ?_
    clear up_K1
    refine up_elim (fun w2 hb_w2 => ?_)
    go_wp2_with (first | ((with_reducible refine (Start_c (S1.out.ck.below hb_w2) 1 _ (by omega) (by omega)).mono ?_); rintro e w3 ⟨⟨y, rfl⟩, C3, G3⟩))
    go_end0
    exact ⟨rfl, StTo.stepS G1.out (StTo.stepB hb_w2 (StTo.stepC G3 (StTo.same ((S1.out.below hb_w2).byC C3 G3))))⟩
theorem Count_c {w : World} {b : Nat} {x : St} {L : Lay} (h : StAt w b x L) (hk : x.ok) (hf : x.few 1000000) (wrong : Bool) :
    Calls Tryz.prog 146 #[.pointer (some ⟨b, 0, none⟩), .bool wrong] w fun e w' => e = .returned (.tuple #[]) ∧ StTo w w' b (x.count wrong) L := by
  obtain ⟨s, S, c, a, j, o, wy, oa, leak, told, fails⟩ := x
  have hp : a.p.ok := hk.a.p
  have hl : leak.ok := hk.leak
  have H := Lib.hid h
  have hc := h.st.c
  clear h hk
  by_cases h0 : S = 0
  · subst h0
    rw [show St.count ⟨s, 0, c, a, j, o, wy, oa, leak, told, fails⟩ wrong = ⟨s, 0, c, a, j, o, wy, oa, leak, told, fails⟩ from by simp [St.count]]
    clear hf
    go_enter Tryz.func146, Tryz.ntmps146
    go_wp2
    go_end0
    exact ⟨rfl, StTo.same H.out⟩
  by_cases h1 : S = 1
  · subst h1
    obtain ⟨⟨a', c', y⟩, hr⟩ : ∃ r, a.unit s c wrong = r := ⟨_, rfl⟩
    have cu := AUnit_c H.out.al H.out.ck wrong hp
    rw [hr] at cu
    have CU := Lib.hid cu
    clear cu h0
    by_cases hy : y = 0
    · subst hy
      rw [show St.count ⟨s, 1, c, a, j, o, wy, oa, leak, told, fails⟩ wrong = ⟨s, 1, c', a', j, o, wy, oa, leak, told, fails⟩ from by simp [St.count, hr, St.setA]]
      clear hr hf
      go_enter Tryz.func146, Tryz.ntmps146
      go_wp2_with (first
        | ((with_reducible refine CU.out.mono ?_); rintro e w1 ⟨rfl, A1, C1, G1⟩; (have S1 := Lib.hid (show StAt w1 b ⟨s, 1, c', a', j, o, wy, oa, leak, told, fails⟩ L from H.out.byA (r := (a', c')) A1 C1 G1)); (have HG1 := Lib.hid G1); clear A1 C1 G1))
      go_end0
      exact ⟨rfl, StTo.stepA HG1.out (StTo.same S1.out)⟩
    · rw [show St.count ⟨s, 1, c, a, j, o, wy, oa, leak, told, fails⟩ wrong = St.fail ⟨s, 1, c', a', j, o, wy, oa, leak, told, fails⟩ y from by simp [St.count, hr, hy, St.setA]]
      have hf1 : St.few ⟨s, 1, c', a', j, o, wy, oa, leak, told, fails⟩ 1000000 := hf
      have HF1 := Lib.hid hf1
      clear hr hf hf1
      go_enter Tryz.func146, Tryz.ntmps146
      go_wp2_with (first
        | ((with_reducible refine CU.out.mono ?_); rintro e w1 ⟨rfl, A1, C1, G1⟩; (have S1 := Lib.hid (show StAt w1 b ⟨s, 1, c', a', j, o, wy, oa, leak, told, fails⟩ L from H.out.byA (r := (a', c')) A1 C1 G1)); (have HG1 := Lib.hid G1); clear A1 C1 G1)
        | ((with_reducible refine (Fail_c S1.out HF1.out y).mono ?_); rintro e w2 ⟨rfl, T2⟩))
      go_end0
      exact ⟨rfl, StTo.stepA HG1.out T2⟩
  · obtain ⟨⟨n', seen'⟩, hr⟩ : ∃ r, leak.unit wrong = r := ⟨_, rfl⟩
    obtain ⟨bad, hbad⟩ : ∃ bad, leak.bad wrong = bad := ⟨_, rfl⟩
    have cu := LeakUnit_c leak wrong w hl
    rw [hr, hbad] at cu
    have CU := Lib.hid cu
    clear cu
    have k0 : (S == 0) = false := beq_eq_false_iff_ne.2 h0
    have k1 : (S == 1) = false := beq_eq_false_iff_ne.2 h1
    have hf1 : St.few ⟨s, S, c, a, j, o, wy, oa, ⟨n', seen'⟩, told, fails⟩ 1000000 := hf
    have HF1 := Lib.hid hf1
    clear hf hf1
    cases bad
    · rw [show St.count ⟨s, S, c, a, j, o, wy, oa, leak, told, fails⟩ wrong = ⟨s, S, c, a, j, o, wy, oa, ⟨n', seen'⟩, told, fails⟩ from by simp [St.count, hr, hbad, h0, h1, St.setL]]
      clear hr hbad h0 h1
      go_enter Tryz.func146, Tryz.ntmps146
      go_wp2_with (first
        | ((with_reducible refine CU.out.mono ?_); rintro e w1 ⟨rfl, hb1⟩; (have HB1 := Lib.hid (bl_alloc hb1 (.cells #[.int .i64 n', .int .i64 seen'] 59))); (have S1 := Lib.hid (H.out.below HB1.out)); (have s1c := S1.out.st.c); (have s1f := S1.out.st.f); (have n1c := (Blk.new w1 #[.int .i64 n', .int .i64 seen'] 59).c); (have G2 := Lib.hid ((chg1 (w1.alloc (.cells #[.int .i64 n', .int .i64 seen'] 59)) b 21 (.int .i64 n')).then (chg1 _ b 22 (.int .i64 seen')))); (have S2 := Lib.hid (S1.out.own (S := S) (fails := fails) (o := oa) (leak := ⟨n', seen'⟩) (((S1.out.st.set 21 (.int .i64 n')).set 22 (.int .i64 seen')).as (by simp)) G2.out))))
      go_end0
      exact ⟨rfl, StTo.stepB HB1.out (StTo.stepS G2.out (StTo.same S2.out))⟩
    · rw [show St.count ⟨s, S, c, a, j, o, wy, oa, leak, told, fails⟩ wrong = St.fail ⟨s, S, c, a, j, o, wy, oa, ⟨n', seen'⟩, told, fails⟩ 1 from by simp [St.count, hr, hbad, h0, h1, St.setL]]
      clear hr hbad h0 h1
      go_enter Tryz.func146, Tryz.ntmps146
      go_wp2_with (first
        | ((with_reducible refine CU.out.mono ?_); rintro e w1 ⟨rfl, hb1⟩; (have HB1 := Lib.hid (bl_alloc hb1 (.cells #[.int .i64 n', .int .i64 seen'] 59))); (have S1 := Lib.hid (H.out.below HB1.out)); (have s1c := S1.out.st.c); (have s1f := S1.out.st.f); (have n1c := (Blk.new w1 #[.int .i64 n', .int .i64 seen'] 59).c); (have G2 := Lib.hid ((chg1 (w1.alloc (.cells #[.int .i64 n', .int .i64 seen'] 59)) b 21 (.int .i64 n')).then (chg1 _ b 22 (.int .i64 seen')))); (have S2 := Lib.hid (S1.out.own (S := S) (fails := fails) (o := oa) (leak := ⟨n', seen'⟩) (((S1.out.st.set 21 (.int .i64 n')).set 22 (.int .i64 seen')).as (by simp)) G2.out)))
        | ((with_reducible refine (Fail_c S2.out HF1.out 1).mono ?_); rintro e w3 ⟨rfl, T3⟩))
      go_end0
      exact ⟨rfl, StTo.stepB HB1.out (StTo.stepS G2.out T3)⟩
theorem Damage_c {w : World} {b : Nat} {x : St} {L : Lay} (h : StAt w b x L) (hk : x.ok) (hf : x.few 1000000) :
    Calls Tryz.prog 122 #[.pointer (some ⟨b, 0, none⟩)] w fun e w' => e = .returned (.tuple #[]) ∧ StTo w w' b (x.count true) L := by
  have HC := Lib.hid (Count_c h hk hf true)
  clear h hk hf
  go_enter Tryz.func122, Tryz.ntmps122
  go_wp2_with (first | ((with_reducible refine HC.out.mono ?_); rintro e w1 ⟨rfl, T1⟩))
  go_end0
  exact ⟨rfl, T1⟩
end Go.Proofs.YtcllbmjmefeknaaGreatK
