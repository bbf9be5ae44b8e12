/- The walks of package state, continued: remote. -/
import Derived.Test.YtcllbmjmefeknaaGreatSt5
namespace Go.Proofs.YtcllbmjmefeknaaGreatK
open Go Go.RowKit
set_option linter.unusedVariables false
set_option maxHeartbeats 1000000
set_option maxRecDepth 100000
/-- What a link that is awake does as the other side's processor is out, or back. -/
def St.news (y : St) (out : Bool) : St :=
  if y.o.their = out then y.setO (y.o.remote out)
  else if out = true then (if y.S = 4 then ((y.setO (y.o.remote out)).tell ⟨4, 0, []⟩).halt else (y.setO (y.o.remote out)).tell ⟨4, 0, []⟩)
  else ((y.setO (y.o.remote out)).tell ⟨5, 0, []⟩).resume
theorem St.remote_news (x : St) (out : Bool) : x.remote out = x.woken.news out := rfl
theorem RemoteV_c (o : Oa) (out : Bool) (w : World) : Calls Tryz.prog 195 #[o.v, .bool out] w fun e w' => e = .returned (.tuple #[(o.remote out).v, .bool (o.news out)]) ∧ Below w.heap.size w w' := Remote_c o out w
theorem SRemote_c {w : World} {b : Nat} {x : St} {L : Lay} (h : StAt w b x L) (hf : x.few 1000000) (out : Bool) :
    Calls Tryz.prog 181 #[.pointer (some ⟨b, 0, none⟩), .bool out] w fun e w' => e = .returned (.tuple #[]) ∧ StTo w w' b (x.remote out) L := by
  rw [St.remote_news]
  have hf2 := St.few_woken hf
  obtain ⟨y, hy⟩ : ∃ y, x.woken = y := ⟨_, rfl⟩
  rw [hy] at hf2 ⊢
  have HF2 := Lib.hid hf2
  obtain ⟨s', S', c', a', j', o', wy', ⟨own', their', wait'⟩, leak', told', fails'⟩ := y
  have ht : told'.length ≤ 2000000 := by have := hf2.1; dsimp only at this; omega
  clear hf2
  have HR := Lib.hid (show ∀ w : World, Calls Tryz.prog 195 #[.agg #[.bool own', .bool their', .bool wait'], .bool out] w fun e w' => e = .returned (.tuple #[.agg #[.bool own', .bool out, .bool (wait' || out)], .bool (their' != out)]) ∧ Below w.heap.size w w' from fun w => Go.Proofs.YtcllbmjmefeknaaGreatK.RemoteV_c ⟨own', their', wait'⟩ out w)
  obtain ⟨s, S, c, a, j, o, wy, oa, leak, told, fails⟩ := x
  have H := Lib.hid h
  have HF := Lib.hid hf
  have hc := h.st.c
  clear h hf
  by_cases h2 : S = 2
  · subst h2
    have HY := Lib.hid (show St.serve ⟨s, 2, c, a, j, o, wy, oa, leak, told, fails⟩ = (⟨s', S', c', a', j', o', wy', ⟨own', their', wait'⟩, leak', told', fails'⟩ : St) from by rw [← hy]; simp [St.woken])
    clear hy
    cases out <;> cases their'
    · rw [show St.news ⟨s', S', c', a', j', o', wy', ⟨own', false, wait'⟩, leak', told', fails'⟩ false = ⟨s', S', c', a', j', o', wy', ⟨own', false, wait'⟩, leak', told', fails'⟩ from by simp [St.news, St.setO, Oa.remote]]
      have hr := HR.out
      simp only [Bool.or_false] at hr
      have HR := Lib.hid hr
      clear hr
      go_enter Tryz.func181, Tryz.ntmps181
      go_wp2_with (first
        | ((with_reducible refine (Serve_c H.out HF.out).mono ?_); rintro e w1 ⟨rfl, L1, S1', G1, O1⟩; (have S1 := Lib.hid (show StAt w1 b ⟨s', S', c', a', j', o', wy', ⟨own', false, wait'⟩, leak', told', fails'⟩ L1 from HY.out ▸ S1')); (have s1c := S1.out.st.c); (have HG1 := Lib.hid G1); (have HO1 := Lib.hid O1); clear S1' G1 O1)
        | ((with_reducible refine (HR.out _).mono ?_); rintro e w2 ⟨rfl, hb2⟩; (have HB2 := Lib.hid (bl_alloc hb2 (.cells #[.bool own', .bool false, .bool wait'] 57))); (have S2 := Lib.hid (S1.out.below HB2.out)); (have s2c := S2.out.st.c); (have s2f := S2.out.st.f); (have N2 := Lib.hid (Blk.new w2 #[.bool own', .bool false, .bool wait'] 57)); (have n2c := N2.out.c); (have G3 := Lib.hid (((chg1 (w2.alloc (.cells #[.bool own', .bool false, .bool wait'] 57)) b 18 (.bool own')).then (chg1 _ b 19 (.bool false))).then (chg1 _ b 20 (.bool wait')))); (have S3 := Lib.hid (S2.out.own (S := S') (fails := fails') (o := ⟨own', false, wait'⟩) (leak := leak') ((((S2.out.st.set 18 (.bool own')).set 19 (.bool false)).set 20 (.bool wait')).as (by simp)) G3.out))))
      refine bodyPost_ret (results_none rfl _ _ _) rfl ?_
      exact ⟨rfl, StTo.then HG1.out HO1.out (StTo.stepB HB2.out (StTo.stepS G3.out (StTo.same S3.out)))⟩
    · rw [show St.news ⟨s', S', c', a', j', o', wy', ⟨own', true, wait'⟩, leak', told', fails'⟩ false = St.resume ⟨s', S', c', a', j', o', wy', ⟨own', false, wait'⟩, leak', told' ++ [⟨5, 0, []⟩], fails'⟩ from by simp [St.news, St.setO, St.tell, Oa.remote]]
      have hr := HR.out
      simp only [Bool.or_false] at hr
      have HR := Lib.hid hr
      clear hr
      go_enter Tryz.func181, Tryz.ntmps181
      go_wp2_with (first
        | ((with_reducible refine (Serve_c H.out HF.out).mono ?_); rintro e w1 ⟨rfl, L1, S1', G1, O1⟩; (have S1 := Lib.hid (show StAt w1 b ⟨s', S', c', a', j', o', wy', ⟨own', true, wait'⟩, leak', told', fails'⟩ L1 from HY.out ▸ S1')); (have s1c := S1.out.st.c); (have HG1 := Lib.hid G1); (have HO1 := Lib.hid O1); clear S1' G1 O1)
        | ((with_reducible refine (HR.out _).mono ?_); rintro e w2 ⟨rfl, hb2⟩; (have HB2 := Lib.hid (bl_alloc hb2 (.cells #[.bool own', .bool false, .bool wait'] 57))); (have S2 := Lib.hid (S1.out.below HB2.out)); (have s2c := S2.out.st.c); (have s2f := S2.out.st.f); (have N2 := Lib.hid (Blk.new w2 #[.bool own', .bool false, .bool wait'] 57)); (have n2c := N2.out.c); (have G3 := Lib.hid (((chg1 (w2.alloc (.cells #[.bool own', .bool false, .bool wait'] 57)) b 18 (.bool own')).then (chg1 _ b 19 (.bool false))).then (chg1 _ b 20 (.bool wait')))); (have S3 := Lib.hid (S2.out.own (S := S') (fails := fails') (o := ⟨own', false, wait'⟩) (leak := leak') ((((S2.out.st.set 18 (.bool own')).set 19 (.bool false)).set 20 (.bool wait')).as (by simp)) G3.out)))
        | ((with_reducible refine (Tell_c S3.out ⟨5, 0, []⟩ nil0 byt_nil ht).mono ?_); rintro e w4 ⟨rfl, L4, S4', G4, O4⟩; (have S4 := Lib.hid (show StAt w4 b ⟨s', S', c', a', j', o', wy', ⟨own', false, wait'⟩, leak', told' ++ [⟨5, 0, []⟩], fails'⟩ L4 from S4')); (have s4c := S4.out.st.c); (have HG4 := Lib.hid G4); (have HO4 := Lib.hid O4); clear S4' G4 O4)
        | ((with_reducible refine (Resume_c S4.out).mono ?_); rintro e w5 ⟨rfl, T5⟩))
      go_end0
      exact ⟨rfl, StTo.then HG1.out HO1.out (StTo.stepB HB2.out (StTo.stepS G3.out (StTo.then HG4.out HO4.out T5)))⟩
    · by_cases h4' : S' = 4
      · subst h4'
        rw [show St.news ⟨s', 4, c', a', j', o', wy', ⟨own', false, wait'⟩, leak', told', fails'⟩ true = St.halt ⟨s', 4, c', a', j', o', wy', ⟨own', true, true⟩, leak', told' ++ [⟨4, 0, []⟩], fails'⟩ from by simp [St.news, St.setO, St.tell, Oa.remote]]
        have hr := HR.out
        simp only [Bool.or_true] at hr
        have HR := Lib.hid hr
        clear hr
        go_enter Tryz.func181, Tryz.ntmps181
        go_wp2_with (first
          | ((with_reducible refine (Serve_c H.out HF.out).mono ?_); rintro e w1 ⟨rfl, L1, S1', G1, O1⟩; (have S1 := Lib.hid (show StAt w1 b ⟨s', 4, c', a', j', o', wy', ⟨own', false, wait'⟩, leak', told', fails'⟩ L1 from HY.out ▸ S1')); (have s1c := S1.out.st.c); (have HG1 := Lib.hid G1); (have HO1 := Lib.hid O1); clear S1' G1 O1)
          | ((with_reducible refine (HR.out _).mono ?_); rintro e w2 ⟨rfl, hb2⟩; (have HB2 := Lib.hid (bl_alloc hb2 (.cells #[.bool own', .bool true, .bool true] 57))); (have S2 := Lib.hid (S1.out.below HB2.out)); (have s2c := S2.out.st.c); (have s2f := S2.out.st.f); (have N2 := Lib.hid (Blk.new w2 #[.bool own', .bool true, .bool true] 57)); (have n2c := N2.out.c); (have G3 := Lib.hid (((chg1 (w2.alloc (.cells #[.bool own', .bool true, .bool true] 57)) b 18 (.bool own')).then (chg1 _ b 19 (.bool true))).then (chg1 _ b 20 (.bool true)))); (have S3 := Lib.hid (S2.out.own (S := 4) (fails := fails') (o := ⟨own', true, true⟩) (leak := leak') ((((S2.out.st.set 18 (.bool own')).set 19 (.bool true)).set 20 (.bool true)).as (by simp)) G3.out)))
          | ((with_reducible refine (Tell_c S3.out ⟨4, 0, []⟩ nil0 byt_nil ht).mono ?_); rintro e w4 ⟨rfl, L4, S4', G4, O4⟩; (have S4 := Lib.hid (show StAt w4 b ⟨s', 4, c', a', j', o', wy', ⟨own', true, true⟩, leak', told' ++ [⟨4, 0, []⟩], fails'⟩ L4 from S4')); (have s4c := S4.out.st.c); (have HG4 := Lib.hid G4); (have HO4 := Lib.hid O4); clear S4' G4 O4)
          | ((with_reducible refine (Halt_c S4.out).mono ?_); rintro e w5 ⟨rfl, T5⟩))
        refine bodyPost_ret (results_none rfl _ _ _) rfl ?_
        exact ⟨rfl, StTo.then HG1.out HO1.out (StTo.stepB HB2.out (StTo.stepS G3.out (StTo.then HG4.out HO4.out T5)))⟩
      · rw [show St.news ⟨s', S', c', a', j', o', wy', ⟨own', false, wait'⟩, leak', told', fails'⟩ true = ⟨s', S', c', a', j', o', wy', ⟨own', true, true⟩, leak', told' ++ [⟨4, 0, []⟩], fails'⟩ from by simp [St.news, St.setO, St.tell, Oa.remote, h4']]
        have k4' : (S' == 4) = false := beq_eq_false_iff_ne.2 h4'
        have hr := HR.out
        simp only [Bool.or_true] at hr
        have HR := Lib.hid hr
        clear hr
        go_enter Tryz.func181, Tryz.ntmps181
        go_wp2_with (first
          | ((with_reducible refine (Serve_c H.out HF.out).mono ?_); rintro e w1 ⟨rfl, L1, S1', G1, O1⟩; (have S1 := Lib.hid (show StAt w1 b ⟨s', S', c', a', j', o', wy', ⟨own', false, wait'⟩, leak', told', fails'⟩ L1 from HY.out ▸ S1')); (have s1c := S1.out.st.c); (have HG1 := Lib.hid G1); (have HO1 := Lib.hid O1); clear S1' G1 O1)
          | ((with_reducible refine (HR.out _).mono ?_); rintro e w2 ⟨rfl, hb2⟩; (have HB2 := Lib.hid (bl_alloc hb2 (.cells #[.bool own', .bool true, .bool true] 57))); (have S2 := Lib.hid (S1.out.below HB2.out)); (have s2c := S2.out.st.c); (have s2f := S2.out.st.f); (have N2 := Lib.hid (Blk.new w2 #[.bool own', .bool true, .bool true] 57)); (have n2c := N2.out.c); (have G3 := Lib.hid (((chg1 (w2.alloc (.cells #[.bool own', .bool true, .bool true] 57)) b 18 (.bool own')).then (chg1 _ b 19 (.bool true))).then (chg1 _ b 20 (.bool true)))); (have S3 := Lib.hid (S2.out.own (S := S') (fails := fails') (o := ⟨own', true, true⟩) (leak := leak') ((((S2.out.st.set 18 (.bool own')).set 19 (.bool true)).set 20 (.bool true)).as (by simp)) G3.out)))
          | ((with_reducible refine (Tell_c S3.out ⟨4, 0, []⟩ nil0 byt_nil ht).mono ?_); rintro e w4 ⟨rfl, L4, S4', G4, O4⟩; (have S4 := Lib.hid (show StAt w4 b ⟨s', S', c', a', j', o', wy', ⟨own', true, true⟩, leak', told' ++ [⟨4, 0, []⟩], fails'⟩ L4 from S4')); (have s4c := S4.out.st.c); (have HG4 := Lib.hid G4); (have HO4 := Lib.hid O4); clear S4' G4 O4))
        refine bodyPost_ret (results_none rfl _ _ _) rfl ?_
        exact ⟨rfl, StTo.then HG1.out HO1.out (StTo.stepB HB2.out (StTo.stepS G3.out (StTo.then HG4.out HO4.out (StTo.same S4.out))))⟩
    · rw [show St.news ⟨s', S', c', a', j', o', wy', ⟨own', true, wait'⟩, leak', told', fails'⟩ true = ⟨s', S', c', a', j', o', wy', ⟨own', true, true⟩, leak', told', fails'⟩ from by simp [St.news, St.setO, Oa.remote]]
      have hr := HR.out
      simp only [Bool.or_true] at hr
      have HR := Lib.hid hr
      clear hr
      go_enter Tryz.func181, Tryz.ntmps181
      go_wp2_with (first
        | ((with_reducible refine (Serve_c H.out HF.out).mono ?_); rintro e w1 ⟨rfl, L1, S1', G1, O1⟩; (have S1 := Lib.hid (show StAt w1 b ⟨s', S', c', a', j', o', wy', ⟨own', true, wait'⟩, leak', told', fails'⟩ L1 from HY.out ▸ S1')); (have s1c := S1.out.st.c); (have HG1 := Lib.hid G1); (have HO1 := Lib.hid O1); clear S1' G1 O1)
        | ((with_reducible refine (HR.out _).mono ?_); rintro e w2 ⟨rfl, hb2⟩; (have HB2 := Lib.hid (bl_alloc hb2 (.cells #[.bool own', .bool true, .bool true] 57))); (have S2 := Lib.hid (S1.out.below HB2.out)); (have s2c := S2.out.st.c); (have s2f := S2.out.st.f); (have N2 := Lib.hid (Blk.new w2 #[.bool own', .bool true, .bool true] 57)); (have n2c := N2.out.c); (have G3 := Lib.hid (((chg1 (w2.alloc (.cells #[.bool own', .bool true, .bool true] 57)) b 18 (.bool own')).then (chg1 _ b 19 (.bool true))).then (chg1 _ b 20 (.bool true)))); (have S3 := Lib.hid (S2.out.own (S := S') (fails := fails') (o := ⟨own', true, true⟩) (leak := leak') ((((S2.out.st.set 18 (.bool own')).set 19 (.bool true)).set 20 (.bool true)).as (by simp)) G3.out))))
      refine bodyPost_ret (results_none rfl _ _ _) rfl ?_
      exact ⟨rfl, StTo.then HG1.out HO1.out (StTo.stepB HB2.out (StTo.stepS G3.out (StTo.same S3.out)))⟩
  by_cases h3 : S = 3
  · subst h3
    have HY := Lib.hid (show St.serve ⟨s, 3, c, a, j, o, wy, oa, leak, told, fails⟩ = (⟨s', S', c', a', j', o', wy', ⟨own', their', wait'⟩, leak', told', fails'⟩ : St) from by rw [← hy]; simp [St.woken])
    clear hy
    cases out <;> cases their'
    · rw [show St.news ⟨s', S', c', a', j', o', wy', ⟨own', false, wait'⟩, leak', told', fails'⟩ false = ⟨s', S', c', a', j', o', wy', ⟨own', false, wait'⟩, leak', told', fails'⟩ from by simp [St.news, St.setO, Oa.remote]]
      have hr := HR.out
      simp only [Bool.or_false] at hr
      have HR := Lib.hid hr
      clear hr
      go_enter Tryz.func181, Tryz.ntmps181
      go_wp2_with (first
        | ((with_reducible refine (Serve_c H.out HF.out).mono ?_); rintro e w1 ⟨rfl, L1, S1', G1, O1⟩; (have S1 := Lib.hid (show StAt w1 b ⟨s', S', c', a', j', o', wy', ⟨own', false, wait'⟩, leak', told', fails'⟩ L1 from HY.out ▸ S1')); (have s1c := S1.out.st.c); (have HG1 := Lib.hid G1); (have HO1 := Lib.hid O1); clear S1' G1 O1)
        | ((with_reducible refine (HR.out _).mono ?_); rintro e w2 ⟨rfl, hb2⟩; (have HB2 := Lib.hid (bl_alloc hb2 (.cells #[.bool own', .bool false, .bool wait'] 57))); (have S2 := Lib.hid (S1.out.below HB2.out)); (have s2c := S2.out.st.c); (have s2f := S2.out.st.f); (have N2 := Lib.hid (Blk.new w2 #[.bool own', .bool false, .bool wait'] 57)); (have n2c := N2.out.c); (have G3 := Lib.hid (((chg1 (w2.alloc (.cells #[.bool own', .bool false, .bool wait'] 57)) b 18 (.bool own')).then (chg1 _ b 19 (.bool false))).then (chg1 _ b 20 (.bool wait')))); (have S3 := Lib.hid (S2.out.own (S := S') (fails := fails') (o := ⟨own', false, wait'⟩) (leak := leak') ((((S2.out.st.set 18 (.bool own')).set 19 (.bool false)).set 20 (.bool wait')).as (by simp)) G3.out))))
      refine bodyPost_ret (results_none rfl _ _ _) rfl ?_
      exact ⟨rfl, StTo.then HG1.out HO1.out (StTo.stepB HB2.out (StTo.stepS G3.out (StTo.same S3.out)))⟩
    · rw [show St.news ⟨s', S', c', a', j', o', wy', ⟨own', true, wait'⟩, leak', told', fails'⟩ false = St.resume ⟨s', S', c', a', j', o', wy', ⟨own', false, wait'⟩, leak', told' ++ [⟨5, 0, []⟩], fails'⟩ from by simp [St.news, St.setO, St.tell, Oa.remote]]
      have hr := HR.out
      simp only [Bool.or_false] at hr
      have HR := Lib.hid hr
      clear hr
      go_enter Tryz.func181, Tryz.ntmps181
      go_wp2_with (first
        | ((with_reducible refine (Serve_c H.out HF.out).mono ?_); rintro e w1 ⟨rfl, L1, S1', G1, O1⟩; (have S1 := Lib.hid (show StAt w1 b ⟨s', S', c', a', j', o', wy', ⟨own', true, wait'⟩, leak', told', fails'⟩ L1 from HY.out ▸ S1')); (have s1c := S1.out.st.c); (have HG1 := Lib.hid G1); (have HO1 := Lib.hid O1); clear S1' G1 O1)
        | ((with_reducible refine (HR.out _).mono ?_); rintro e w2 ⟨rfl, hb2⟩; (have HB2 := Lib.hid (bl_alloc hb2 (.cells #[.bool own', .bool false, .bool wait'] 57))); (have S2 := Lib.hid (S1.out.below HB2.out)); (have s2c := S2.out.st.c); (have s2f := S2.out.st.f); (have N2 := Lib.hid (Blk.new w2 #[.bool own', .bool false, .bool wait'] 57)); (have n2c := N2.out.c); (have G3 := Lib.hid (((chg1 (w2.alloc (.cells #[.bool own', .bool false, .bool wait'] 57)) b 18 (.bool own')).then (chg1 _ b 19 (.bool false))).then (chg1 _ b 20 (.bool wait')))); (have S3 := Lib.hid (S2.out.own (S := S') (fails := fails') (o := ⟨own', false, wait'⟩) (leak := leak') ((((S2.out.st.set 18 (.bool own')).set 19 (.bool false)).set 20 (.bool wait')).as (by simp)) G3.out)))
        | ((with_reducible refine (Tell_c S3.out ⟨5, 0, []⟩ nil0 byt_nil ht).mono ?_); rintro e w4 ⟨rfl, L4, S4', G4, O4⟩; (have S4 := Lib.hid (show StAt w4 b ⟨s', S', c', a', j', o', wy', ⟨own', false, wait'⟩, leak', told' ++ [⟨5, 0, []⟩], fails'⟩ L4 from S4')); (have s4c := S4.out.st.c); (have HG4 := Lib.hid G4); (have HO4 := Lib.hid O4); clear S4' G4 O4)
        | ((with_reducible refine (Resume_c S4.out).mono ?_); rintro e w5 ⟨rfl, T5⟩))
      go_end0
      exact ⟨rfl, StTo.then HG1.out HO1.out (StTo.stepB HB2.out (StTo.stepS G3.out (StTo.then HG4.out HO4.out T5)))⟩
    · by_cases h4' : S' = 4
      · subst h4'
        rw [show St.news ⟨s', 4, c', a', j', o', wy', ⟨own', false, wait'⟩, leak', told', fails'⟩ true = St.halt ⟨s', 4, c', a', j', o', wy', ⟨own', true, true⟩, leak', told' ++ [⟨4, 0, []⟩], fails'⟩ from by simp [St.news, St.setO, St.tell, Oa.remote]]
        have hr := HR.out
        simp only [Bool.or_true] at hr
        have HR := Lib.hid hr
        clear hr
        go_enter Tryz.func181, Tryz.ntmps181
        go_wp2_with (first
          | ((with_reducible refine (Serve_c H.out HF.out).mono ?_); rintro e w1 ⟨rfl, L1, S1', G1, O1⟩; (have S1 := Lib.hid (show StAt w1 b ⟨s', 4, c', a', j', o', wy', ⟨own', false, wait'⟩, leak', told', fails'⟩ L1 from HY.out ▸ S1')); (have s1c := S1.out.st.c); (have HG1 := Lib.hid G1); (have HO1 := Lib.hid O1); clear S1' G1 O1)
          | ((with_reducible refine (HR.out _).mono ?_); rintro e w2 ⟨rfl, hb2⟩; (have HB2 := Lib.hid (bl_alloc hb2 (.cells #[.bool own', .bool true, .bool true] 57))); (have S2 := Lib.hid (S1.out.below HB2.out)); (have s2c := S2.out.st.c); (have s2f := S2.out.st.f); (have N2 := Lib.hid (Blk.new w2 #[.bool own', .bool true, .bool true] 57)); (have n2c := N2.out.c); (have G3 := Lib.hid (((chg1 (w2.alloc (.cells #[.bool own', .bool true, .bool true] 57)) b 18 (.bool own')).then (chg1 _ b 19 (.bool true))).then (chg1 _ b 20 (.bool true)))); (have S3 := Lib.hid (S2.out.own (S := 4) (fails := fails') (o := ⟨own', true, true⟩) (leak := leak') ((((S2.out.st.set 18 (.bool own')).set 19 (.bool true)).set 20 (.bool true)).as (by simp)) G3.out)))
          | ((with_reducible refine (Tell_c S3.out ⟨4, 0, []⟩ nil0 byt_nil ht).mono ?_); rintro e w4 ⟨rfl, L4, S4', G4, O4⟩; (have S4 := Lib.hid (show StAt w4 b ⟨s', 4, c', a', j', o', wy', ⟨own', true, true⟩, leak', told' ++ [⟨4, 0, []⟩], fails'⟩ L4 from S4')); (have s4c := S4.out.st.c); (have HG4 := Lib.hid G4); (have HO4 := Lib.hid O4); clear S4' G4 O4)
          | ((with_reducible refine (Halt_c S4.out).mono ?_); rintro e w5 ⟨rfl, T5⟩))
        refine bodyPost_ret (results_none rfl _ _ _) rfl ?_
        exact ⟨rfl, StTo.then HG1.out HO1.out (StTo.stepB HB2.out (StTo.stepS G3.out (StTo.then HG4.out HO4.out T5)))⟩
      · rw [show St.news ⟨s', S', c', a', j', o', wy', ⟨own', false, wait'⟩, leak', told', fails'⟩ true = ⟨s', S', c', a', j', o', wy', ⟨own', true, true⟩, leak', told' ++ [⟨4, 0, []⟩], fails'⟩ from by simp [St.news, St.setO, St.tell, Oa.remote, h4']]
        have k4' : (S' == 4) = false := beq_eq_false_iff_ne.2 h4'
        have hr := HR.out
        simp only [Bool.or_true] at hr
        have HR := Lib.hid hr
        clear hr
        go_enter Tryz.func181, Tryz.ntmps181
        go_wp2_with (first
          | ((with_reducible refine (Serve_c H.out HF.out).mono ?_); rintro e w1 ⟨rfl, L1, S1', G1, O1⟩; (have S1 := Lib.hid (show StAt w1 b ⟨s', S', c', a', j', o', wy', ⟨own', false, wait'⟩, leak', told', fails'⟩ L1 from HY.out ▸ S1')); (have s1c := S1.out.st.c); (have HG1 := Lib.hid G1); (have HO1 := Lib.hid O1); clear S1' G1 O1)
          | ((with_reducible refine (HR.out _).mono ?_); rintro e w2 ⟨rfl, hb2⟩; (have HB2 := Lib.hid (bl_alloc hb2 (.cells #[.bool own', .bool true, .bool true] 57))); (have S2 := Lib.hid (S1.out.below HB2.out)); (have s2c := S2.out.st.c); (have s2f := S2.out.st.f); (have N2 := Lib.hid (Blk.new w2 #[.bool own', .bool true, .bool true] 57)); (have n2c := N2.out.c); (have G3 := Lib.hid (((chg1 (w2.alloc (.cells #[.bool own', .bool true, .bool true] 57)) b 18 (.bool own')).then (chg1 _ b 19 (.bool true))).then (chg1 _ b 20 (.bool true)))); (have S3 := Lib.hid (S2.out.own (S := S') (fails := fails') (o := ⟨own', true, true⟩) (leak := leak') ((((S2.out.st.set 18 (.bool own')).set 19 (.bool true)).set 20 (.bool true)).as (by simp)) G3.out)))
          | ((with_reducible refine (Tell_c S3.out ⟨4, 0, []⟩ nil0 byt_nil ht).mono ?_); rintro e w4 ⟨rfl, L4, S4', G4, O4⟩; (have S4 := Lib.hid (show StAt w4 b ⟨s', S', c', a', j', o', wy', ⟨own', true, true⟩, leak', told' ++ [⟨4, 0, []⟩], fails'⟩ L4 from S4')); (have s4c := S4.out.st.c); (have HG4 := Lib.hid G4); (have HO4 := Lib.hid O4); clear S4' G4 O4))
        refine bodyPost_ret (results_none rfl _ _ _) rfl ?_
        exact ⟨rfl, StTo.then HG1.out HO1.out (StTo.stepB HB2.out (StTo.stepS G3.out (StTo.then HG4.out HO4.out (StTo.same S4.out))))⟩
    · rw [show St.news ⟨s', S', c', a', j', o', wy', ⟨own', true, wait'⟩, leak', told', fails'⟩ true = ⟨s', S', c', a', j', o', wy', ⟨own', true, true⟩, leak', told', fails'⟩ from by simp [St.news, St.setO, Oa.remote]]
      have hr := HR.out
      simp only [Bool.or_true] at hr
      have HR := Lib.hid hr
      clear hr
      go_enter Tryz.func181, Tryz.ntmps181
      go_wp2_with (first
        | ((with_reducible refine (Serve_c H.out HF.out).mono ?_); rintro e w1 ⟨rfl, L1, S1', G1, O1⟩; (have S1 := Lib.hid (show StAt w1 b ⟨s', S', c', a', j', o', wy', ⟨own', true, wait'⟩, leak', told', fails'⟩ L1 from HY.out ▸ S1')); (have s1c := S1.out.st.c); (have HG1 := Lib.hid G1); (have HO1 := Lib.hid O1); clear S1' G1 O1)
        | ((with_reducible refine (HR.out _).mono ?_); rintro e w2 ⟨rfl, hb2⟩; (have HB2 := Lib.hid (bl_alloc hb2 (.cells #[.bool own', .bool true, .bool true] 57))); (have S2 := Lib.hid (S1.out.below HB2.out)); (have s2c := S2.out.st.c); (have s2f := S2.out.st.f); (have N2 := Lib.hid (Blk.new w2 #[.bool own', .bool true, .bool true] 57)); (have n2c := N2.out.c); (have G3 := Lib.hid (((chg1 (w2.alloc (.cells #[.bool own', .bool true, .bool true] 57)) b 18 (.bool own')).then (chg1 _ b 19 (.bool true))).then (chg1 _ b 20 (.bool true)))); (have S3 := Lib.hid (S2.out.own (S := S') (fails := fails') (o := ⟨own', true, true⟩) (leak := leak') ((((S2.out.st.set 18 (.bool own')).set 19 (.bool true)).set 20 (.bool true)).as (by simp)) G3.out))))
      refine bodyPost_ret (results_none rfl _ _ _) rfl ?_
      exact ⟨rfl, StTo.then HG1.out HO1.out (StTo.stepB HB2.out (StTo.stepS G3.out (StTo.same S3.out)))⟩
  have k2 : (S == 2) = false := beq_eq_false_iff_ne.2 h2
  have k3 : (S == 3) = false := beq_eq_false_iff_ne.2 h3
  have ey : (⟨s', S', c', a', j', o', wy', ⟨own', their', wait'⟩, leak', told', fails'⟩ : St) = ⟨s, S, c, a, j, o, wy, oa, leak, told, fails⟩ := by rw [← hy]; simp [St.woken, h2, h3]
  injection ey with e1 e2 e3 e4 e5 e6 e7 e8 e9 e10 e11
  subst e1 e2 e3 e4 e5 e6 e7 e8 e9 e10 e11
  clear hy
  cases out <;> cases their'
  · rw [show St.news ⟨s', S', c', a', j', o', wy', ⟨own', false, wait'⟩, leak', told', fails'⟩ false = ⟨s', S', c', a', j', o', wy', ⟨own', false, wait'⟩, leak', told', fails'⟩ from by simp [St.news, St.setO, Oa.remote]]
    have S1 := Lib.hid (show StAt w b ⟨s', S', c', a', j', o', wy', ⟨own', false, wait'⟩, leak', told', fails'⟩ L from H.out)
    have HG1 := Lib.hid (Chg.refl (stF b L) w)
    have HO1 := Lib.hid (show ∀ k ∈ stF b L, k ∈ stF b L ∨ w.heap.size ≤ k from fun k hk => .inl hk)
    have hr := HR.out
    simp only [Bool.or_false] at hr
    have HR := Lib.hid hr
    clear hr
    go_enter Tryz.func181, Tryz.ntmps181
    go_wp2_with (first
      | ((with_reducible refine (HR.out _).mono ?_); rintro e w2 ⟨rfl, hb2⟩; (have HB2 := Lib.hid (bl_alloc hb2 (.cells #[.bool own', .bool false, .bool wait'] 57))); (have S2 := Lib.hid (S1.out.below HB2.out)); (have s2c := S2.out.st.c); (have s2f := S2.out.st.f); (have N2 := Lib.hid (Blk.new w2 #[.bool own', .bool false, .bool wait'] 57)); (have n2c := N2.out.c); (have G3 := Lib.hid (((chg1 (w2.alloc (.cells #[.bool own', .bool false, .bool wait'] 57)) b 18 (.bool own')).then (chg1 _ b 19 (.bool false))).then (chg1 _ b 20 (.bool wait')))); (have S3 := Lib.hid (S2.out.own (S := S') (fails := fails') (o := ⟨own', false, wait'⟩) (leak := leak') ((((S2.out.st.set 18 (.bool own')).set 19 (.bool false)).set 20 (.bool wait')).as (by simp)) G3.out))))
    refine bodyPost_ret (results_none rfl _ _ _) rfl ?_
    exact ⟨rfl, StTo.then HG1.out HO1.out (StTo.stepB HB2.out (StTo.stepS G3.out (StTo.same S3.out)))⟩
  · rw [show St.news ⟨s', S', c', a', j', o', wy', ⟨own', true, wait'⟩, leak', told', fails'⟩ false = St.resume ⟨s', S', c', a', j', o', wy', ⟨own', false, wait'⟩, leak', told' ++ [⟨5, 0, []⟩], fails'⟩ from by simp [St.news, St.setO, St.tell, Oa.remote]]
    have S1 := Lib.hid (show StAt w b ⟨s', S', c', a', j', o', wy', ⟨own', true, wait'⟩, leak', told', fails'⟩ L from H.out)
    have HG1 := Lib.hid (Chg.refl (stF b L) w)
    have HO1 := Lib.hid (show ∀ k ∈ stF b L, k ∈ stF b L ∨ w.heap.size ≤ k from fun k hk => .inl hk)
    have hr := HR.out
    simp only [Bool.or_false] at hr
    have HR := Lib.hid hr
    clear hr
    go_enter Tryz.func181, Tryz.ntmps181
    go_wp2_with (first
      | ((with_reducible refine (HR.out _).mono ?_); rintro e w2 ⟨rfl, hb2⟩; (have HB2 := Lib.hid (bl_alloc hb2 (.cells #[.bool own', .bool false, .bool wait'] 57))); (have S2 := Lib.hid (S1.out.below HB2.out)); (have s2c := S2.out.st.c); (have s2f := S2.out.st.f); (have N2 := Lib.hid (Blk.new w2 #[.bool own', .bool false, .bool wait'] 57)); (have n2c := N2.out.c); (have G3 := Lib.hid (((chg1 (w2.alloc (.cells #[.bool own', .bool false, .bool wait'] 57)) b 18 (.bool own')).then (chg1 _ b 19 (.bool false))).then (chg1 _ b 20 (.bool wait')))); (have S3 := Lib.hid (S2.out.own (S := S') (fails := fails') (o := ⟨own', false, wait'⟩) (leak := leak') ((((S2.out.st.set 18 (.bool own')).set 19 (.bool false)).set 20 (.bool wait')).as (by simp)) G3.out)))
      | ((with_reducible refine (Tell_c S3.out ⟨5, 0, []⟩ nil0 byt_nil ht).mono ?_); rintro e w4 ⟨rfl, L4, S4', G4, O4⟩; (have S4 := Lib.hid (show StAt w4 b ⟨s', S', c', a', j', o', wy', ⟨own', false, wait'⟩, leak', told' ++ [⟨5, 0, []⟩], fails'⟩ L4 from S4')); (have s4c := S4.out.st.c); (have HG4 := Lib.hid G4); (have HO4 := Lib.hid O4); clear S4' G4 O4)
      | ((with_reducible refine (Resume_c S4.out).mono ?_); rintro e w5 ⟨rfl, T5⟩))
    go_end0
    exact ⟨rfl, StTo.then HG1.out HO1.out (StTo.stepB HB2.out (StTo.stepS G3.out (StTo.then HG4.out HO4.out T5)))⟩
  · by_cases h4' : S' = 4
    · subst h4'
      rw [show St.news ⟨s', 4, c', a', j', o', wy', ⟨own', false, wait'⟩, leak', told', fails'⟩ true = St.halt ⟨s', 4, c', a', j', o', wy', ⟨own', true, true⟩, leak', told' ++ [⟨4, 0, []⟩], fails'⟩ from by simp [St.news, St.setO, St.tell, Oa.remote]]
      have S1 := Lib.hid (show StAt w b ⟨s', 4, c', a', j', o', wy', ⟨own', false, wait'⟩, leak', told', fails'⟩ L from H.out)
      have HG1 := Lib.hid (Chg.refl (stF b L) w)
      have HO1 := Lib.hid (show ∀ k ∈ stF b L, k ∈ stF b L ∨ w.heap.size ≤ k from fun k hk => .inl hk)
      have hr := HR.out
      simp only [Bool.or_true] at hr
      have HR := Lib.hid hr
      clear hr
      go_enter Tryz.func181, Tryz.ntmps181
      go_wp2_with (first
        | ((with_reducible refine (HR.out _).mono ?_); rintro e w2 ⟨rfl, hb2⟩; (have HB2 := Lib.hid (bl_alloc hb2 (.cells #[.bool own', .bool true, .bool true] 57))); (have S2 := Lib.hid (S1.out.below HB2.out)); (have s2c := S2.out.st.c); (have s2f := S2.out.st.f); (have N2 := Lib.hid (Blk.new w2 #[.bool own', .bool true, .bool true] 57)); (have n2c := N2.out.c); (have G3 := Lib.hid (((chg1 (w2.alloc (.cells #[.bool own', .bool true, .bool true] 57)) b 18 (.bool own')).then (chg1 _ b 19 (.bool true))).then (chg1 _ b 20 (.bool true)))); (have S3 := Lib.hid (S2.out.own (S := 4) (fails := fails') (o := ⟨own', true, true⟩) (leak := leak') ((((S2.out.st.set 18 (.bool own')).set 19 (.bool true)).set 20 (.bool true)).as (by simp)) G3.out)))
        | ((with_reducible refine (Tell_c S3.out ⟨4, 0, []⟩ nil0 byt_nil ht).mono ?_); rintro e w4 ⟨rfl, L4, S4', G4, O4⟩; (have S4 := Lib.hid (show StAt w4 b ⟨s', 4, c', a', j', o', wy', ⟨own', true, true⟩, leak', told' ++ [⟨4, 0, []⟩], fails'⟩ L4 from S4')); (have s4c := S4.out.st.c); (have HG4 := Lib.hid G4); (have HO4 := Lib.hid O4); clear S4' G4 O4)
        | ((with_reducible refine (Halt_c S4.out).mono ?_); rintro e w5 ⟨rfl, T5⟩))
      refine bodyPost_ret (results_none rfl _ _ _) rfl ?_
      exact ⟨rfl, StTo.then HG1.out HO1.out (StTo.stepB HB2.out (StTo.stepS G3.out (StTo.then HG4.out HO4.out T5)))⟩
    · rw [show St.news ⟨s', S', c', a', j', o', wy', ⟨own', false, wait'⟩, leak', told', fails'⟩ true = ⟨s', S', c', a', j', o', wy', ⟨own', true, true⟩, leak', told' ++ [⟨4, 0, []⟩], fails'⟩ from by simp [St.news, St.setO, St.tell, Oa.remote, h4']]
      have k4' : (S' == 4) = false := beq_eq_false_iff_ne.2 h4'
      have S1 := Lib.hid (show StAt w b ⟨s', S', c', a', j', o', wy', ⟨own', false, wait'⟩, leak', told', fails'⟩ L from H.out)
      have HG1 := Lib.hid (Chg.refl (stF b L) w)
      have HO1 := Lib.hid (show ∀ k ∈ stF b L, k ∈ stF b L ∨ w.heap.size ≤ k from fun k hk => .inl hk)
      have hr := HR.out
      simp only [Bool.or_true] at hr
      have HR := Lib.hid hr
      clear hr
      go_enter Tryz.func181, Tryz.ntmps181
      go_wp2_with (first
        | ((with_reducible refine (HR.out _).mono ?_); rintro e w2 ⟨rfl, hb2⟩; (have HB2 := Lib.hid (bl_alloc hb2 (.cells #[.bool own', .bool true, .bool true] 57))); (have S2 := Lib.hid (S1.out.below HB2.out)); (have s2c := S2.out.st.c); (have s2f := S2.out.st.f); (have N2 := Lib.hid (Blk.new w2 #[.bool own', .bool true, .bool true] 57)); (have n2c := N2.out.c); (have G3 := Lib.hid (((chg1 (w2.alloc (.cells #[.bool own', .bool true, .bool true] 57)) b 18 (.bool own')).then (chg1 _ b 19 (.bool true))).then (chg1 _ b 20 (.bool true)))); (have S3 := Lib.hid (S2.out.own (S := S') (fails := fails') (o := ⟨own', true, true⟩) (leak := leak') ((((S2.out.st.set 18 (.bool own')).set 19 (.bool true)).set 20 (.bool true)).as (by simp)) G3.out)))
        | ((with_reducible refine (Tell_c S3.out ⟨4, 0, []⟩ nil0 byt_nil ht).mono ?_); rintro e w4 ⟨rfl, L4, S4', G4, O4⟩; (have S4 := Lib.hid (show StAt w4 b ⟨s', S', c', a', j', o', wy', ⟨own', true, true⟩, leak', told' ++ [⟨4, 0, []⟩], fails'⟩ L4 from S4')); (have s4c := S4.out.st.c); (have HG4 := Lib.hid G4); (have HO4 := Lib.hid O4); clear S4' G4 O4))
      refine bodyPost_ret (results_none rfl _ _ _) rfl ?_
      exact ⟨rfl, StTo.then HG1.out HO1.out (StTo.stepB HB2.out (StTo.stepS G3.out (StTo.then HG4.out HO4.out (StTo.same S4.out))))⟩
  · rw [show St.news ⟨s', S', c', a', j', o', wy', ⟨own', true, wait'⟩, leak', told', fails'⟩ true = ⟨s', S', c', a', j', o', wy', ⟨own', true, true⟩, leak', told', fails'⟩ from by simp [St.news, St.setO, Oa.remote]]
    have S1 := Lib.hid (show StAt w b ⟨s', S', c', a', j', o', wy', ⟨own', true, wait'⟩, leak', told', fails'⟩ L from H.out)
    have HG1 := Lib.hid (Chg.refl (stF b L) w)
    have HO1 := Lib.hid (show ∀ k ∈ stF b L, k ∈ stF b L ∨ w.heap.size ≤ k from fun k hk => .inl hk)
    have hr := HR.out
    simp only [Bool.or_true] at hr
    have HR := Lib.hid hr
    clear hr
    go_enter Tryz.func181, Tryz.ntmps181
    go_wp2_with (first
      | ((with_reducible refine (HR.out _).mono ?_); rintro e w2 ⟨rfl, hb2⟩; (have HB2 := Lib.hid (bl_alloc hb2 (.cells #[.bool own', .bool true, .bool true] 57))); (have S2 := Lib.hid (S1.out.below HB2.out)); (have s2c := S2.out.st.c); (have s2f := S2.out.st.f); (have N2 := Lib.hid (Blk.new w2 #[.bool own', .bool true, .bool true] 57)); (have n2c := N2.out.c); (have G3 := Lib.hid (((chg1 (w2.alloc (.cells #[.bool own', .bool true, .bool true] 57)) b 18 (.bool own')).then (chg1 _ b 19 (.bool true))).then (chg1 _ b 20 (.bool true)))); (have S3 := Lib.hid (S2.out.own (S := S') (fails := fails') (o := ⟨own', true, true⟩) (leak := leak') ((((S2.out.st.set 18 (.bool own')).set 19 (.bool true)).set 20 (.bool true)).as (by simp)) G3.out))))
    refine bodyPost_ret (results_none rfl _ _ _) rfl ?_
    exact ⟨rfl, StTo.then HG1.out HO1.out (StTo.stepB HB2.out (StTo.stepS G3.out (StTo.same S3.out)))⟩
end Go.Proofs.YtcllbmjmefeknaaGreatK
