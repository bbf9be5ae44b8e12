/- The walks of package state, continued: begin, resume, local. -/
import Derived.Test.YtcllbmjmefeknaaGreatSt2
namespace Go.Proofs.YtcllbmjmefeknaaGreatK
open Go Go.RowKit
set_option linter.unusedVariables false
set_option maxHeartbeats 1000000
set_option maxRecDepth 100000
theorem Resume_c {w : World} {b : Nat} {x : St} {L : Lay} (h : StAt w b x L) :
    Calls Tryz.prog 134 #[.pointer (some ⟨b, 0, none⟩)] w fun e w' => e = .returned (.tuple #[]) ∧ StTo w w' b x.resume L := by
  obtain ⟨s, S, c, a, j, o, wy, oa, leak, told, fails⟩ := x
  have H := Lib.hid h
  have hc := h.st.c
  clear h
  by_cases h5 : S = 5
  · subst h5
    obtain ⟨i, hi⟩ : ∃ i, oa.is = i := ⟨_, rfl⟩
    have HI := Lib.hid (hi ▸ Is_c oa w)
    cases i
    · have e : St.resume ⟨s, 5, c, a, j, o, wy, oa, leak, told, fails⟩ = St.wait ⟨s, 4, c, a, j, o, wy, oa, leak, told, fails⟩ false := by simp [St.resume, hi]
      rw [e]
      clear e hi
      go_enter Tryz.func134, Tryz.ntmps134
      go_wp2_with (first
        | ((with_reducible refine HI.out.mono ?_); rintro e w1 ⟨rfl, hb1⟩; (have HB1 := Lib.hid hb1); (have S1 := Lib.hid (H.out.below hb1)); (have s1c := S1.out.st.c); (have s1f := S1.out.st.f); (have G2 := Lib.hid (chg1 w1 b 0 (.int .u8 4))); (have S2 := Lib.hid (S1.out.own (S := 4) (fails := fails) (o := oa) (leak := leak) ((S1.out.st.set 0 (.int .u8 4)).as (by simp)) G2.out)); clear hb1)
        | ((with_reducible refine (Wait_c S2.out false).mono ?_); rintro e w3 ⟨rfl, T3⟩))
      go_end0
      exact ⟨rfl, StTo.stepB HB1.out (StTo.stepS G2.out T3)⟩
    · have e : St.resume ⟨s, 5, c, a, j, o, wy, oa, leak, told, fails⟩ = ⟨s, 5, c, a, j, o, wy, oa, leak, told, fails⟩ := by simp [St.resume, hi]
      rw [e]
      clear e hi
      go_enter Tryz.func134, Tryz.ntmps134
      go_wp2_with (first | ((with_reducible refine HI.out.mono ?_); rintro e w1 ⟨rfl, hb1⟩))
      refine bodyPost_ret (results_none rfl _ _ _) rfl ?_
      exact ⟨rfl, StTo.below H.out hb1⟩
  · have e : St.resume ⟨s, S, c, a, j, o, wy, oa, leak, told, fails⟩ = ⟨s, S, c, a, j, o, wy, oa, leak, told, fails⟩ := by simp [St.resume, h5]
    rw [e]
    have k5 : (S == 5) = false := beq_eq_false_iff_ne.2 h5
    clear e
    go_enter Tryz.func134, Tryz.ntmps134
    go_wp2
    refine bodyPost_ret (results_none rfl _ _ _) rfl ?_
    exact ⟨rfl, StTo.same H.out⟩
theorem Begin_c {w : World} {b : Nat} {x : St} {L : Lay} (h : StAt w b x L) :
    Calls Tryz.prog 127 #[.pointer (some ⟨b, 0, none⟩)] w fun e w' => e = .returned (.tuple #[]) ∧ StTo w w' b x.begin L := by
  obtain ⟨s, S, c, a, j, o, wy, oa, leak, told, fails⟩ := x
  obtain ⟨bc, ba, bj, bw, bh, vs, vn, vt⟩ := L
  have H := Lib.hid h
  have hmB := mB_Reset
  have hmC := mC_Reset
  obtain ⟨wz, hwz⟩ : ∃ wz : Wy, wy.reset = wz := ⟨_, rfl⟩
  have e : St.begin ⟨s, S, c, a, j, o, wy, oa, leak, told, fails⟩ = ⟨s, 1, (a.begin s c).2, (a.begin s c).1, j, o.clear, wz, ⟨oa.own, false, false⟩, ⟨0, 0⟩, told, fails⟩ := by simp [St.begin, hwz]
  rw [e]
  clear e
  have fin : Hid (∀ (w2 : World) (F : List Nat), StAt w2 b ⟨s, S, c, a, j, o.clear, wz, oa, leak, told, fails⟩ ⟨bc, ba, bj, bw, bh, nil0, nil0, vt⟩ → Chg F w w2 → (∀ k ∈ F, k ∈ bw :: hoF bh vs vn) →
      ∃ w3, StAt w3 b ⟨s, 1, c, a, j, o.clear, wz, ⟨oa.own, false, false⟩, ⟨0, 0⟩, told, fails⟩ ⟨bc, ba, bj, bw, bh, nil0, nil0, vt⟩ ∧
        w3 = ((((((w2.setCell ⟨b, 0, none⟩ (.int .u8 1)).setCell ⟨b, 21, none⟩ (.int .i64 0)).setCell ⟨b, 22, none⟩ (.int .i64 0)).setCell ⟨b, 18, none⟩ (.bool oa.own)).setCell ⟨b, 19, none⟩ (.bool false)).setCell ⟨b, 20, none⟩ (.bool false)) ∧
        ∀ w4 y, StTo w3 w4 b y ⟨bc, ba, bj, bw, bh, nil0, nil0, vt⟩ → StTo w w4 b y ⟨bc, ba, bj, bw, bh, vs, vn, vt⟩) := by
    intro w2 F S2 G hF
    have G3 : Chg [b] w2 _ := (((((chg1 w2 b 0 (.int .u8 1)).then (chg1 _ b 21 (.int .i64 0))).then (chg1 _ b 22 (.int .i64 0))).then (chg1 _ b 18 (.bool oa.own))).then (chg1 _ b 19 (.bool false))).then (chg1 _ b 20 (.bool false))
    refine ⟨_, S2.own (S := 1) (fails := fails) (o := ⟨oa.own, false, false⟩) (leak := ⟨0, 0⟩) (((((((S2.st.set 0 (.int .u8 1)).set 21 (.int .i64 0)).set 22 (.int .i64 0)).set 18 (.bool oa.own)).set 19 (.bool false)).set 20 (.bool false)).as (by simp)) G3, rfl, fun w4 y T => ?_⟩
    exact StTo.stepH G hF (by simp [Go.Proofs.YtcllbmjmefeknaaGreatK.own, Value.ownBlock]) (StTo.stepS G3 T)
  cases wy
  all_goals
    have hc := h.st.c
    have hcf := h.st.f
    simp only [St.cells, Wy.v] at hc
    subst hwz
    clear h
    go_enter Tryz.func127, Tryz.ntmps127
    go_wp2_with (first
      | ((with_reducible refine (BReset_c H.out.wy H.out.ho).mono ?_); rintro e w2 ⟨rfl, A2, Y2, G2⟩; (have S2 := Lib.hid (show StAt w2 b ⟨s, S, c, a, j, o.clear, .bs Bs.zero, oa, leak, told, fails⟩ ⟨bc, ba, bj, bw, bh, nil0, nil0, vt⟩ from H.out.byHW (y := .bs Bs.zero) A2 Y2 rfl G2 (fun k hk => by simp at hk ⊢; rcases hk with h | h <;> simp [h]))); (have s2c := S2.out.st.c); (have s2f := S2.out.st.f); simp only [St.cells, Wy.v] at s2c; (obtain ⟨w3, S3, e3, F3⟩ := fin.out w2 _ S2.out G2 (fun k hk => by simp at hk ⊢; rcases hk with h | h <;> simp [h])); subst e3; (have HS3 := Lib.hid S3); (have HF3 := Lib.hid F3); clear S3 F3 A2 Y2 G2)
      | ((with_reducible refine (CReset_c H.out.wy H.out.ho).mono ?_); rintro e w2 ⟨rfl, A2, Y2, G2⟩; (have S2 := Lib.hid (show StAt w2 b ⟨s, S, c, a, j, o.clear, .cy (Cy.reset _), oa, leak, told, fails⟩ ⟨bc, ba, bj, bw, bh, nil0, nil0, vt⟩ from H.out.byHW (y := .cy (Cy.reset _)) A2 Y2 rfl G2 (fun k hk => by simp at hk ⊢; rcases hk with h | h <;> simp [h]))); (have s2c := S2.out.st.c); (have s2f := S2.out.st.f); simp only [St.cells, Wy.v] at s2c; (obtain ⟨w3, S3, e3, F3⟩ := fin.out w2 _ S2.out G2 (fun k hk => by simp at hk ⊢; rcases hk with h | h <;> simp [h])); subst e3; (have HS3 := Lib.hid S3); (have HF3 := Lib.hid F3); clear S3 F3 A2 Y2 G2)
      | ((with_reducible refine (ABegin_c HS3.out.al HS3.out.ck).mono ?_); rintro e w4 ⟨rfl, A4, C4, G4⟩))
    go_end0
    exact ⟨rfl, HF3.out _ _ (StTo.stepA G4 (StTo.same (HS3.out.byA (r := a.begin s c) A4 C4 G4)))⟩
end Go.Proofs.YtcllbmjmefeknaaGreatK
