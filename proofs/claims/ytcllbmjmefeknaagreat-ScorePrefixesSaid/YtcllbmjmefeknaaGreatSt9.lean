/- The walks of package state, continued: ordinary. -/
import Derived.Test.YtcllbmjmefeknaaGreatSt8
namespace Go.Proofs.YtcllbmjmefeknaaGreatK
open Go Go.RowKit
set_option linter.unusedVariables false
set_option maxHeartbeats 4000000
set_option maxRecDepth 100000
theorem StTo.unit {w wx : World} {b : Nat} {y : St} {L : Lay} {u : Un} {vi : Value} {x : St} (h : StAt w b x L) (hv : BytI w (stF b L) vi u.info) (T : StTo (w.alloc (.cells (u.cells vi) 188)) wx b y L) :
    ∃ L2, Blk wx w.heap.size (u.cells vi) 188 ∧ BytI wx (stF b L2) vi u.info ∧ StAt wx b y L2 ∧ Chg (stF b L) (w.alloc (.cells (u.cells vi) 188)) wx ∧ ∀ k ∈ stF b L2, k ∈ stF b L ∨ (w.alloc (.cells (u.cells vi) 188)).heap.size ≤ k := by
  obtain ⟨L2, S2, G2, O2⟩ := T
  have H1 := h.below (bl_alloc (bl_refl w) (.cells (u.cells vi) 188))
  have hv2 := (hv.below (bl_alloc (bl_refl w) (.cells (u.cells vi) 188))).mono (G := stF b L2) O2
  refine ⟨L2, (Blk.new w (u.cells vi) 188).keep (H1.typed.off (by decide)) G2, ?_, S2, G2, O2⟩
  exact ((hv.below (bl_alloc (bl_refl w) (.cells (u.cells vi) 188))).chg G2 (fun _ hk => hk)).mono2 hv2
theorem StAt.answers {wd w5 : World} {b : Nat} {x : St} {L : Lay} {wz : Wy} {o : Ho} (h : StAt wd b x L) (A : Ans wd w5 L.bw L.bh wz.ty (wz.cells L.bh) o L.vs L.vn) (e : x.w.ty = wz.ty) : StTo wd w5 b ((x.setH o).setW wz) L := by
  obtain ⟨⟨vs', H5, O5⟩, B5, G5⟩ := A
  exact StTo.stepH (vs := vs') (vn := L.vn) G5 (fun k hk => hk) (fun k hk => .inl (by
    rcases List.mem_append.1 hk with hk | hk
    · exact List.mem_append_left _ (O5 k hk)
    · exact List.mem_append_right _ hk)) (StTo.same (h.byHW H5 B5 e G5 (fun k hk => hk)))
theorem Ordinary_c {w : World} {b : Nat} {x : St} {L : Lay} {u : Un} {vi : Value} (h : StAt w b x L) (hk : x.ok) (hf : x.few 900000) (hu : u.ok) (hv : BytI w (stF b L) vi u.info) :
    Calls Tryz.prog 148 #[.pointer (some ⟨b, 0, none⟩), u.v vi] w fun e w' => e = .returned (.tuple #[]) ∧ StTo w w' b (x.ordinary u) L := by
  obtain ⟨ai, ci, rfl, _⟩ := hv.shape
  obtain ⟨y, hy⟩ : ∃ y, (if x.woken.o.their then x.woken.remote false else x.woken) = y := ⟨_, rfl⟩
  rw [show x.ordinary u = y.answers u from by rw [← hy]; rfl]
  have hf1 : x.woken.few 900001 := St.few_woken hf
  have ky : y.ok := by
    rw [← hy]
    split
    · exact St.ok_remote (St.ok_woken hk) _
    · exact St.ok_woken hk
  have fy : y.few 900003 := by
    rw [← hy]
    split
    · exact St.few_remote hf1 _
    · exact hf1.le (by omega)
  obtain ⟨v, hv1⟩ : ∃ v, x.woken = v := ⟨_, rfl⟩
  obtain ⟨sv, hsv⟩ : ∃ q, decide (x.S = 2 ∨ x.S = 3) = q := ⟨_, rfl⟩
  rw [hv1] at hy hf1
  obtain ⟨r, hr⟩ : ∃ r, y.w.answer y.h u = r := ⟨_, rfl⟩
  obtain ⟨o', wz, k, e⟩ := r
  have HUV := Lib.hid (fun (wx : World) (z : St) (T : StTo (w.alloc (.cells (u.cells (.slice ai u.info.length ci)) 188)) wx b z L) => StTo.unit (u := u) h hv T)
  have HUO := Lib.hid hu
  have HV1 := Lib.hid hv1
  have HY := Lib.hid hy
  have HR := Lib.hid hr
  have KY := Lib.hid ky
  have FY := Lib.hid fy
  have F1 := Lib.hid hf1
  have F0 := Lib.hid (hf.le (m := 1000000) (by omega))
  have KX := Lib.hid hk
  have H := Lib.hid h
  have H1 := Lib.hid (h.below (bl_alloc (bl_refl w) (.cells (u.cells (.slice ai u.info.length ci)) 188)))
  have BW := Lib.hid (bl_alloc (bl_refl w) (.cells (u.cells (.slice ai u.info.length ci)) 188))
  have HSV := Lib.hid hsv
  obtain ⟨s, S, c, a, j, o, wy, oa, leak, told, fails⟩ := x
  dsimp only at hsv
  clear h hv hu hk hf hf1 ky fy hy hv1 hr
  go_enter Tryz.func148, Tryz.ntmps148
  go_upto_region 1 with fail
  generalize hW1 : w.alloc (.cells (u.cells (.slice ai u.info.length ci)) 188) = W1 at *
  have h1c := H1.out.st.c
  go_cut [19] (fun t wx => t = .bool sv ∧ wx = W1)
  case first =>
    by_cases h2 : S = 2
    · subst h2
      have e1 : sv = true := by rw [← hsv]; simp
      subst e1
      go_wp2
      go_meet
      case rel => exact ⟨rfl, rfl⟩
    by_cases h3 : S = 3
    · subst h3
      have e1 : sv = true := by rw [← hsv]; simp
      subst e1
      go_wp2
      go_meet
      case rel => exact ⟨rfl, rfl⟩
    have k2 : (S == 2) = false := beq_eq_false_iff_ne.2 h2
    have k3 : (S == 3) = false := beq_eq_false_iff_ne.2 h3
    have e1 : sv = false := by rw [← hsv]; simp [h2, h3]
    subst e1
    go_wp2
    go_meet
    case rel => exact ⟨rfl, rfl⟩
  case rest =>
    obtain ⟨rfl, rfl⟩ := hcut
    rename World => w1
    go_upto_if 19 with fail
    go_cut [] (fun wx => StTo w1 wx b v L)
    case first =>
      cases sv
      · have ev : St.woken ⟨s, S, c, a, j, o, wy, oa, leak, told, fails⟩ = ⟨s, S, c, a, j, o, wy, oa, leak, told, fails⟩ := by
          have := of_decide_eq_false HSV.out
          unfold St.woken
          rw [if_neg this]
        have ev' := HV1.out.symm.trans ev
        subst ev'
        go_wp2
        go_meet
        case rel => exact StTo.same H1.out
      · have ev : St.woken ⟨s, S, c, a, j, o, wy, oa, leak, told, fails⟩ = St.serve ⟨s, S, c, a, j, o, wy, oa, leak, told, fails⟩ := by
          have := of_decide_eq_true HSV.out
          unfold St.woken
          rw [if_pos this]
        have ev' := HV1.out.symm.trans ev
        subst ev'
        go_wp2_with (first | ((with_reducible refine (Serve_c H1.out F0.out).mono ?_); rintro e w2 ⟨rfl, T2⟩))
        go_meet
        case rel => exact T2
    case rest =>
      rename World => wa
      clear h1c hsv
      obtain ⟨L2, S2, G2, O2⟩ := hcut
      have HS2 := Lib.hid S2
      have HG2 := Lib.hid G2
      have HO2 := Lib.hid O2
      have s2c := S2.st.c
      clear S2 G2 O2
      obtain ⟨s, S, c, a, j, o, wy, ⟨own, their, wait⟩, leak, told, fails⟩ := v
      go_upto_if 26 with fail
      go_cut [] (fun wx => StTo w1 wx b y L)
      case first =>
        cases their
        · have ey : y = ⟨s, S, c, a, j, o, wy, ⟨own, false, wait⟩, leak, told, fails⟩ := HY.out.symm.trans (by simp)
          subst ey
          go_wp2
          go_meet
          case rel => exact StTo.then HG2.out HO2.out (StTo.same HS2.out)
        · have ey : y = St.remote ⟨s, S, c, a, j, o, wy, ⟨own, true, wait⟩, leak, told, fails⟩ false := HY.out.symm.trans (by simp)
          subst ey
          go_wp2_with (first | ((with_reducible refine (SRemote_c HS2.out (F1.out.le (by omega)) false).mono ?_); rintro e w2 ⟨rfl, T2⟩))
          go_meet
          case rel => exact StTo.then HG2.out HO2.out T2
      case rest =>
        rename World => wb
        clear s2c HS2 HG2 HO2 HY HV1 F1 HSV
        obtain ⟨L3, N3, V3, S3, G3, O3⟩ := HUV.out _ _ hcut
        clear hcut
        have HS3 := Lib.hid S3
        have HG3 := Lib.hid G3
        have HO3 := Lib.hid O3
        have HV3 := Lib.hid V3
        have HN3 := Lib.hid N3
        clear S3 G3 O3 V3 N3
        obtain ⟨s, S, c, a, j, o, wy, oa, leak, told, fails⟩ := y
        go_upto_region 5 with fail
        go_cut [4, 5] (fun k' e' wx => k' = .int .i64 k ∧ e' = .int .i64 e ∧ StTo w1 wx b ⟨s, S, c, a, j, o', wz, oa, leak, told, fails⟩ L)
        case first =>
          cases wy with
          | bs q =>
            have hr : Wy.answer o u (.bs q) = (o', wz, k, e) := HR.out
            simp only [Wy.answer, Prod.mk.injEq] at hr
            obtain ⟨r1, r2, r3, r4⟩ := hr
            subst r1 r2 r3 r4
            have hm := mB_Answer
            have kq := Lib.hid (show q.ok from KY.out.w)
            have S3d := HS3.out.below (bl_drew (bl_refl _))
            have s3d := S3d.st.c
            have n3d := HN3.out.drew.c
            simp only [St.cells, Wy.v] at s3d
            have HD3 := Lib.hid S3d
            clear S3d
            go_region_law (go_simp; (with_reducible refine (BAnswer_c HD3.out.wy kq.out HD3.out.ho KY.out.h HUO.out (HV3.out.below (bl_drew (bl_refl _)))).mono ?_); rintro e w5 ⟨rfl, A5⟩; have HA5 := Lib.hid A5; clear A5)
            all_goals
              go_wp2
              go_meet
              case rel => exact ⟨rfl, rfl, StTo.then HG3.out HO3.out (StTo.stepB (bl_drew (bl_refl _)) (HD3.out.answers (wz := .bs _) HA5.out rfl))⟩
          | cy q =>
            have hr : Wy.answer o u (.cy q) = (o', wz, k, e) := HR.out
            simp only [Wy.answer, Prod.mk.injEq] at hr
            obtain ⟨r1, r2, r3, r4⟩ := hr
            subst r1 r2 r3 r4
            have hm := mC_Answer
            have kq := Lib.hid (show q.ok from KY.out.w)
            have S3d := HS3.out.below (bl_drew (bl_refl _))
            have s3d := S3d.st.c
            have n3d := HN3.out.drew.c
            simp only [St.cells, Wy.v] at s3d
            have HD3 := Lib.hid S3d
            clear S3d
            go_region_law (go_simp; (with_reducible refine (CAnswer_c HD3.out.wy kq.out HD3.out.ho KY.out.h HUO.out (HV3.out.below (bl_drew (bl_refl _)))).mono ?_); rintro e w5 ⟨rfl, A5⟩; have HA5 := Lib.hid A5; clear A5)
            all_goals
              go_wp2
              go_meet
              case rel => exact ⟨rfl, rfl, StTo.then HG3.out HO3.out (StTo.stepB (bl_drew (bl_refl _)) (HD3.out.answers (wz := .cy _) HA5.out rfl))⟩
        case rest =>
          rename World => wd
          obtain ⟨rfl, rfl, T5⟩ := hcut
          obtain ⟨L5, S5, G5, O5⟩ := T5
          have HS5 := Lib.hid S5
          have HG5 := Lib.hid G5
          have HO5 := Lib.hid O5
          have s5c := S5.st.c
          clear S5 G5 O5 HS3 HG3 HO3 HN3 HV3
          have hr : Wy.answer o u wy = (o', wz, k, e) := HR.out
          have fz : St.few ⟨s, S, c, a, j, o', wz, oa, leak, told, fails⟩ 900003 := FY.out
          by_cases he : e = 0
          · subst he
            have ea : St.answers ⟨s, S, c, a, j, o, wy, oa, leak, told, fails⟩ u = ((St.freed ⟨s, S, c, a, j, o', wz, oa, leak, told, fails⟩ k).jammed k).takes u := by simp [St.answers, hr, St.setH, St.setW]
            have kz : St.ok ⟨s, S, c, a, j, o', wz, oa, leak, told, fails⟩ := by have := St.ok_answered KY.out u; simpa [St.setH, St.setW, hr] using this
            obtain ⟨fr, hfr⟩ : ∃ q, decide (0 < k ∧ S = 4) = q := ⟨_, rfl⟩
            obtain ⟨z, hz⟩ : ∃ z, St.freed ⟨s, S, c, a, j, o', wz, oa, leak, told, fails⟩ k = z := ⟨_, rfl⟩
            have kz1 := hz ▸ St.ok_freed kz k
            have fz1 := hz ▸ St.few_freed fz k
            rw [hz] at ea
            have EA := Lib.hid ea
            have KZ1 := Lib.hid kz1
            have FZ1 := Lib.hid fz1
            have HZ := Lib.hid hz
            have HFR := Lib.hid hfr
            clear hr ea kz kz1 fz1 fz hz
            go_upto_region 8 with fail
            go_cut [50] (fun t wx => t = .bool fr ∧ wx = wd)
            case first =>
              by_cases k1 : 0 < k
              · by_cases s4 : S = 4
                · subst s4
                  have e1 : fr = true := by rw [← hfr]; simp [k1]
                  subst e1
                  go_wp2
                  go_meet
                  case rel => exact ⟨rfl, rfl⟩
                · have k4 : (S == 4) = false := beq_eq_false_iff_ne.2 s4
                  have e1 : fr = false := by rw [← hfr]; simp [s4]
                  subst e1
                  go_wp2
                  go_meet
                  case rel => exact ⟨rfl, rfl⟩
              · have k1' : k ≤ 0 := by omega
                have e1 : fr = false := by rw [← hfr]; simp [k1]
                subst e1
                go_wp2
                go_meet
                case rel => exact ⟨rfl, rfl⟩
            case rest =>
              obtain ⟨rfl, rfl⟩ := hcut
              rename World => wd
              clear hfr
              go_upto_if 50 with fail
              go_cut [] (fun wx => StTo w1 wx b z L)
              case first =>
                cases fr
                · have ez : z = ⟨s, S, c, a, j, o', wz, oa, leak, told, fails⟩ := HZ.out.symm.trans (by unfold St.freed; rw [if_neg (of_decide_eq_false HFR.out)])
                  subst ez
                  go_wp2
                  go_meet
                  case rel => exact StTo.then HG5.out HO5.out (StTo.same HS5.out)
                · have ez : z = St.wait ⟨s, S, c, a, j, o', wz, oa, leak, told, fails⟩ true := HZ.out.symm.trans (by unfold St.freed; rw [if_pos (of_decide_eq_true HFR.out)])
                  subst ez
                  go_wp2_with (first | ((with_reducible refine (Wait_c HS5.out true).mono ?_); rintro e w2 ⟨rfl, T2⟩))
                  go_meet
                  case rel => exact StTo.then HG5.out HO5.out T2
              case rest =>
                rename World => we
                obtain ⟨L6, S6, G6, O6⟩ := hcut
                have HS6 := Lib.hid S6
                have HG6 := Lib.hid G6
                have HO6 := Lib.hid O6
                clear S6 G6 O6 HS5 HG5 HO5 HZ HFR s5c
                obtain ⟨s, S, c, a, ⟨jown, their, due⟩, o, wy, oa, leak, told, fails⟩ := z
                obtain ⟨jm, hjm⟩ : ∃ q, decide (their = true ∧ (0 < k ∨ o.sent.length = 0)) = q := ⟨_, rfl⟩
                obtain ⟨z2, hz2⟩ : ∃ z2, St.jammed ⟨s, S, c, a, ⟨jown, their, due⟩, o, wy, oa, leak, told, fails⟩ k = z2 := ⟨_, rfl⟩
                have ea2 := EA.out
                rw [hz2] at ea2
                have EA2 := Lib.hid ea2
                have KZ2 := Lib.hid (hz2 ▸ St.ok_jammed KZ1.out k)
                have FZ2 := Lib.hid (hz2 ▸ St.few_jammed FZ1.out k)
                have HJM := Lib.hid hjm
                have HZ2 := Lib.hid hz2
                clear ea2 hz2 EA
                go_upto_region 10 with fail
                go_cut [79] (fun t wx => t = .bool jm ∧ StTo w1 wx b (if jm = true then ⟨s, S, c.stop [6], a, ⟨jown, false, due⟩, o, wy, oa, leak, told, fails⟩ else ⟨s, S, c, a, ⟨jown, their, due⟩, o, wy, oa, leak, told, fails⟩) L)
                case first =>
                  cases their
                  · have e1 : jm = false := by rw [← hjm]; simp
                    subst e1
                    have hc := HS6.out.st.c
                    have jc := HS6.out.jm.c
                    go_wp2
                    go_meet
                    case rel => exact ⟨rfl, StTo.then HG6.out HO6.out (StTo.same HS6.out)⟩
                  · have CJ := Lib.hid (show Calls Tryz.prog 184 #[.pointer (some ⟨L6.bj, 0, none⟩)] we fun e w' => e = .returned (.bool true) ∧ JmAt w' L6.bj s L6.bc ⟨jown, false, due⟩ ∧ CkAt w' L6.bc (c.stop [6]) ∧ Chg [L6.bj, L6.bc] we w' from JAnswer_c HS6.out.jm HS6.out.ck)
                    have hmB := mB_Hold
                    have hmC := mC_Hold
                    by_cases k1 : 0 < k
                    · have e1 : jm = true := by rw [← hjm]; simp [k1]
                      subst e1
                      have hc := HS6.out.st.c
                      have jc := HS6.out.jm.c
                      go_wp2_with (first | ((with_reducible refine CJ.out.mono ?_); rintro e w7 ⟨rfl, J7, C7, G7⟩))
                      go_meet
                      case rel => exact ⟨rfl, StTo.then HG6.out HO6.out (StTo.stepJ G7 (StTo.same (HS6.out.byJ (r := (⟨jown, false, due⟩, c.stop [6])) J7 C7 G7)))⟩
                    · have k1' : k ≤ 0 := by omega
                      have HN := Lib.hid (HSent_c HS6.out.ho)
                      by_cases hs : o.sent.length = 0
                      · have e1 : jm = true := by rw [← hjm]; simp [hs]
                        subst e1
                        have hn := HN.out
                        dsimp only at hn
                        rw [hs] at hn
                        have HN := Lib.hid hn
                        clear hn hjm
                        cases wy
                        all_goals
                          have hc := HS6.out.st.c
                          have jc := HS6.out.jm.c
                          simp only [St.cells, Wy.v] at hc
                          go_wp2_with (first
                            | ((with_reducible refine (BHold_c HS6.out.wy).mono ?_); rintro e w6 ⟨rfl, rfl⟩)
                            | ((with_reducible refine (CHold_c HS6.out.wy).mono ?_); rintro e w6 ⟨rfl, rfl⟩)
                            | ((with_reducible refine HN.out.mono ?_); rintro e w6 ⟨rfl, rfl⟩)
                            | ((with_reducible refine CJ.out.mono ?_); rintro e w7 ⟨rfl, J7, C7, G7⟩))
                          go_meet
                          case rel => exact ⟨rfl, StTo.then HG6.out HO6.out (StTo.stepJ G7 (StTo.same (HS6.out.byJ (r := (⟨jown, false, due⟩, c.stop [6])) J7 C7 G7)))⟩
                      · have k0 : ((o.sent.length : Int) == 0) = false := beq_eq_false_iff_ne.2 (by omega)
                        have e1 : jm = false := by rw [← hjm]; simp [hs]; omega
                        subst e1
                        clear hjm
                        cases wy
                        all_goals
                          have hc := HS6.out.st.c
                          have jc := HS6.out.jm.c
                          simp only [St.cells, Wy.v] at hc
                          go_wp2_with (first
                            | ((with_reducible refine (BHold_c HS6.out.wy).mono ?_); rintro e w6 ⟨rfl, rfl⟩)
                            | ((with_reducible refine (CHold_c HS6.out.wy).mono ?_); rintro e w6 ⟨rfl, rfl⟩)
                            | ((with_reducible refine HN.out.mono ?_); rintro e w6 ⟨rfl, rfl⟩))
                          go_meet
                          case rel => exact ⟨rfl, StTo.then HG6.out HO6.out (StTo.same HS6.out)⟩
                case rest =>
                  obtain ⟨rfl, T7⟩ := hcut
                  rename World => wf
                  clear hjm HS6 HG6 HO6
                  go_upto_if 79 with fail
                  go_cut [] (fun wx => StTo w1 wx b z2 L)
                  case first =>
                    cases jm
                    · have ez : z2 = ⟨s, S, c, a, ⟨jown, their, due⟩, o, wy, oa, leak, told, fails⟩ := HZ2.out.symm.trans (by unfold St.jammed; rw [if_neg (of_decide_eq_false HJM.out)])
                      subst ez
                      go_wp2
                      go_meet
                      case rel => exact T7
                    · obtain ⟨L7, S7, G7, O7⟩ := T7
                      have ez : z2 = St.tell ⟨s, S, c.stop [6], a, ⟨jown, false, due⟩, o, wy, oa, leak, told, fails⟩ ⟨7, 0, []⟩ := HZ2.out.symm.trans (by unfold St.jammed; rw [if_pos (of_decide_eq_true HJM.out)]; rfl)
                      subst ez
                      have HS7 := Lib.hid (show StAt wf b ⟨s, S, c.stop [6], a, ⟨jown, false, due⟩, o, wy, oa, leak, told, fails⟩ L7 from S7)
                      have ht : told.length ≤ 2000000 := by have := FZ1.out.1; dsimp only at this; omega
                      go_wp2_with (first | ((with_reducible refine (Tell_c HS7.out ⟨7, 0, []⟩ nil0 byt_nil ht).mono ?_); rintro e w8 ⟨rfl, T8⟩))
                      go_meet
                      case rel => exact StTo.then G7 O7 T8
                  case rest =>
                    rename World => wg
                    clear T7 HZ2 HJM KZ1 FZ1
                    obtain ⟨L8, N8, V8, S8, G8, O8⟩ := HUV.out _ _ hcut
                    clear hcut
                    have HN8 := Lib.hid N8
                    have HV8 := Lib.hid V8
                    have HS8 := Lib.hid S8
                    have HG8 := Lib.hid G8
                    have HO8 := Lib.hid O8
                    clear S8 G8 O8 N8 V8
                    obtain ⟨s, S, c, a, ⟨jown, their, due⟩, o, wy, ⟨own, oth, wt⟩, leak, told, fails⟩ := z2
                    have hc := HS8.out.st.c
                    have jc := HS8.out.jm.c
                    cases own
                    · cases jown
                      · go_upto_region 13 with fail
                        obtain ⟨⟨wz, p, got, e⟩, ht⟩ : ∃ r, wy.take u = r := ⟨_, rfl⟩
                        have HT := Lib.hid ht
                        clear ht
                        go_cut [6, 7, 5] (fun p' g' e' wx => ∃ ap cp, p' = .slice ap p.length cp ∧ g' = .bool got ∧ e' = .int .i64 e ∧ BytV wx (.slice ap p.length cp) p ∧ StTo w1 wx b ⟨s, S, c, a, ⟨false, their, due⟩, o, wz, ⟨false, oth, wt⟩, leak, told, fails⟩ L)
                        case first =>
                          cases wy with
                          | bs q =>
                            have ht : Wy.take u (.bs q) = (wz, p, got, e) := HT.out
                            simp only [Wy.take, Prod.mk.injEq] at ht
                            obtain ⟨r1, r2, r3, r4⟩ := ht
                            subst r1 r2 r3 r4
                            have hm := mB_Take
                            have kq := Lib.hid (show q.ok from KZ2.out.w)
                            have S8d := HS8.out.below (bl_drew (bl_refl _))
                            have s8d := S8d.st.c
                            have n8d := HN8.out.drew.c
                            simp only [St.cells, Wy.v] at s8d
                            have HD8 := Lib.hid S8d
                            clear S8d hc
                            go_region_law (go_simp; (with_reducible refine (BTake_c HD8.out.wy kq.out HUO.out ((HV8.out.below (bl_drew (bl_refl _))).mono (fun k hk => .inl (by simp only [List.mem_singleton] at hk; subst hk; simp)))).mono ?_); rintro e w9 ⟨v9, rfl, B9, O9, Y9, G9⟩; obtain ⟨a9, c9, rfl, _⟩ := B9.1.shape; have HB9 := Lib.hid B9; have HY9 := Lib.hid Y9; have HG9 := Lib.hid G9; clear B9 Y9 G9 O9)
                            all_goals
                              go_wp2
                              go_meet
                              case rel => exact ⟨_, _, rfl, rfl, rfl, HB9.out, StTo.then HG8.out HO8.out (StTo.stepB (bl_drew (bl_refl _)) (StTo.stepW HG9.out (StTo.same (HD8.out.byW (y := .bs _) HY9.out rfl HG9.out))))⟩
                          | cy q =>
                            have ht : Wy.take u (.cy q) = (wz, p, got, e) := HT.out
                            simp only [Wy.take, Prod.mk.injEq] at ht
                            obtain ⟨r1, r2, r3, r4⟩ := ht
                            subst r1 r2 r3 r4
                            have hm := mC_Take
                            have kq := Lib.hid (show q.ok from KZ2.out.w)
                            have S8d := HS8.out.below (bl_drew (bl_refl _))
                            have s8d := S8d.st.c
                            have n8d := HN8.out.drew.c
                            simp only [St.cells, Wy.v] at s8d
                            have HD8 := Lib.hid S8d
                            clear S8d hc
                            go_region_law (go_simp; (with_reducible refine (CTake_c HD8.out.wy kq.out HUO.out ((HV8.out.below (bl_drew (bl_refl _))).mono (fun k hk => .inl (by simp only [List.mem_singleton] at hk; subst hk; simp)))).mono ?_); rintro e w9 ⟨v9, rfl, B9, O9, Y9, G9⟩; obtain ⟨a9, c9, rfl, _⟩ := B9.1.shape; have HB9 := Lib.hid B9; have HY9 := Lib.hid Y9; have HG9 := Lib.hid G9; clear B9 Y9 G9 O9)
                            all_goals
                              go_wp2
                              go_meet
                              case rel => exact ⟨_, _, rfl, rfl, rfl, HB9.out, StTo.then HG8.out HO8.out (StTo.stepB (bl_drew (bl_refl _)) (StTo.stepW HG9.out (StTo.same (HD8.out.byW (y := .cy _) HY9.out rfl HG9.out))))⟩
                        case rest =>
                          rename World => wh
                          obtain ⟨ap, cp, rfl, rfl, rfl, B9, L9, S9, G9, O9⟩ := hcut
                          have HS9 := Lib.hid S9
                          have HG9 := Lib.hid G9
                          have HO9 := Lib.hid O9
                          have HB9 := Lib.hid B9
                          clear S9 G9 O9 B9 hc jc
                          have hc := HS9.out.st.c
                          have fz : St.few ⟨s, S, c, a, ⟨false, their, due⟩, o, wz, ⟨false, oth, wt⟩, leak, told, fails⟩ 900004 := FZ2.out
                          have HF9 := Lib.hid (fz.le (m := 1000000) (by omega))
                          have ht' : told.length ≤ 2000000 := by have := fz.1; dsimp only at this; omega
                          have ht : Wy.take u wy = (wz, p, got, e) := HT.out
                          clear fz
                          by_cases he : e = 0
                          · subst he
                            cases got
                            · have et : St.takes ⟨s, S, c, a, ⟨false, their, due⟩, o, wy, ⟨false, oth, wt⟩, leak, told, fails⟩ u = ⟨s, S, c, a, ⟨false, their, due⟩, o, wz, ⟨false, oth, wt⟩, leak, told, fails⟩ := by simp [St.takes, ht, St.setW]
                              have ET := Lib.hid et
                              clear et ht
                              go_wp2
                              go_end0
                              rw [EA2.out, ET.out]
                              exact ⟨rfl, StTo.stepB BW.out (StTo.then HG9.out HO9.out (StTo.same HS9.out))⟩
                            · have et : St.takes ⟨s, S, c, a, ⟨false, their, due⟩, o, wy, ⟨false, oth, wt⟩, leak, told, fails⟩ u = St.tell ⟨s, S, c, a, ⟨false, their, due⟩, o, wz, ⟨false, oth, wt⟩, leak, told, fails⟩ ⟨3, 0, p⟩ := by simp [St.takes, ht, St.setW]
                              have ET := Lib.hid et
                              clear et ht
                              go_wp2_with (first | ((with_reducible refine (Tell_c HS9.out ⟨3, 0, p⟩ (.slice ap p.length cp) HB9.out ht').mono ?_); rintro e w10 ⟨rfl, T10⟩))
                              go_end0
                              rw [EA2.out, ET.out]
                              exact ⟨rfl, StTo.stepB BW.out (StTo.then HG9.out HO9.out T10)⟩
                          · have et : St.takes ⟨s, S, c, a, ⟨false, their, due⟩, o, wy, ⟨false, oth, wt⟩, leak, told, fails⟩ u = St.fail ⟨s, S, c, a, ⟨false, their, due⟩, o, wz, ⟨false, oth, wt⟩, leak, told, fails⟩ 4 := by simp [St.takes, ht, he, St.setW]
                            have ET := Lib.hid et
                            clear et ht
                            go_wp2_with (first | ((with_reducible refine (Fail_c HS9.out HF9.out 4).mono ?_); rintro e w10 ⟨rfl, T10⟩))
                            refine bodyPost_ret (results_none rfl _ _ _) rfl ?_
                            rw [EA2.out, ET.out]
                            exact ⟨rfl, StTo.stepB BW.out (StTo.then HG9.out HO9.out T10)⟩
                      · go_wp2
                        refine bodyPost_ret (results_none rfl _ _ _) rfl ?_
                        rw [EA2.out, show St.takes ⟨s, S, c, a, ⟨true, their, due⟩, o, wy, ⟨false, oth, wt⟩, leak, told, fails⟩ u = ⟨s, S, c, a, ⟨true, their, due⟩, o, wy, ⟨false, oth, wt⟩, leak, told, fails⟩ from by simp [St.takes]]
                        exact ⟨rfl, StTo.stepB BW.out (StTo.then HG8.out HO8.out (StTo.same HS8.out))⟩
                    · go_wp2
                      refine bodyPost_ret (results_none rfl _ _ _) rfl ?_
                      rw [EA2.out, show St.takes ⟨s, S, c, a, ⟨jown, their, due⟩, o, wy, ⟨true, oth, wt⟩, leak, told, fails⟩ u = ⟨s, S, c, a, ⟨jown, their, due⟩, o, wy, ⟨true, oth, wt⟩, leak, told, fails⟩ from by simp [St.takes]]
                      exact ⟨rfl, StTo.stepB BW.out (StTo.then HG8.out HO8.out (StTo.same HS8.out))⟩
          · have fz' := Lib.hid (fz.le (m := 1000000) (by omega))
            clear fz
            go_wp2_with (first | ((with_reducible refine (Fail_c HS5.out fz'.out 4).mono ?_); rintro e w6 ⟨rfl, T6⟩))
            refine bodyPost_ret (results_none rfl _ _ _) rfl ?_
            rw [show St.answers ⟨s, S, c, a, j, o, wy, oa, leak, told, fails⟩ u = St.fail ⟨s, S, c, a, j, o', wz, oa, leak, told, fails⟩ 4 from by simp [St.answers, hr, he, St.setH, St.setW]]
            exact ⟨rfl, StTo.stepB BW.out (StTo.then HG5.out HO5.out T6)⟩
end Go.Proofs.YtcllbmjmefeknaaGreatK
