/- The walks of package cyclic, the last: Next. -/
import Derived.Test.YtdffinnnjcgfcaaGreatCyd
namespace Go.Proofs.YtdffinnnjcgfcaaGreatK
open Go Go.RowKit
set_option linter.unusedVariables false
set_option maxHeartbeats 1000000
set_option maxRecDepth 100000
theorem CNext_c {w : World} {b bh : Nat} {x : Cy} {h : Ho} {vs vn : Value} (hb : CyAt w b bh x) (hx : x.ok) (hh : HoAt w bh h vs vn) (ho : h.ok) :
    Calls Tryz.prog 185 #[.pointer (some ⟨b, 0, none⟩)] w fun e w' => Sends w w' b bh 204 ((Cy.next h x).2.1.cells bh) (Cy.next h x).1 vs vn e (Cy.next h x).2.2 := by
  have hbn := hh.notin hb (by decide) (by decide)
  have HB := Lib.hid (hb.alloc (.cells Un.zeros 31))
  have h1c := (hb.alloc (.cells Un.zeros 31)).c
  have h1f := (hb.alloc (.cells Un.zeros 31)).f
  have N1 := Lib.hid (Blk.new w Un.zeros 31)
  have HA := Lib.hid (hh.below (bl_alloc (bl_refl w) (.cells Un.zeros 31)))
  have HX := Lib.hid hx
  have BW := Lib.hid (bl_alloc (bl_refl w) (.cells Un.zeros 31))
  have DN := Lib.hid (HNext_c HA.out)
  have DF := Lib.hid (CFits_c HB.out hx HA.out ho)
  clear hb hh
  have l1 := ho.all
  obtain ⟨x1, hx1⟩ : ∃ x1, x.push h = x1 := ⟨_, rfl⟩
  have f1 : x1.at_ = x.at_ ∧ x1.last = x.last ∧ x1.n1 = x.n1 ∧ x1.n2 = x.n2 := by rw [← hx1]; unfold Cy.push; split <;> exact ⟨rfl, rfl, rfl, rfl⟩
  have ox1 : x1.ok := ⟨by rw [f1.2.2.1]; exact hx.n1, by rw [f1.2.2.2]; exact hx.n2, by rw [f1.2.1]; exact hx.last, by rw [f1.1]; exact hx.at_⟩
  have en : Cy.next h x = if x1.force = false ∧ h.send.2.2.2 = 0 then (h.send.1, x1, x1.msg h.send.2.1 h.send.2.2.1) else x1.old h := by
    unfold Cy.next
    rw [hx1]
    have : x.msg h.send.2.1 h.send.2.2.1 = x1.msg h.send.2.1 h.send.2.2.1 := by simp [Cy.msg, f1.2.1]
    rw [this]
  have HX1 := Lib.hid hx1
  have OX1 := Lib.hid ox1
  rw [en]
  clear hx1 ox1 en
  obtain ⟨mu, hmu⟩ : ∃ mu, Cy.must h x = mu := ⟨_, rfl⟩
  by_cases hA : x1.force = false ∧ h.send.2.2.2 = 0
  · rw [if_pos hA]
    have hs := hA.2
    have hf := hA.1
    clear hA
    go_enter Tryz.func185, Tryz.ntmps185
    go_upto_region 3 with fail
    generalize hw1 : w.alloc (.cells Un.zeros 31) = w1 at *
    go_cut [22] (fun t wx => t = .bool mu ∧ Below w1.heap.size w1 wx)
    case first =>
      by_cases hn : 0 < h.next.length
      · have hn' : (0 : Int) < h.next.length := by omega
        have em : mu = !Cy.fits h x := by rw [← hmu]; simp [Cy.must, hn]
        have EM := Lib.hid em
        clear em hmu
        go_wp2_with (first | ((with_reducible refine DN.out.mono ?_); rintro e w2 ⟨rfl, rfl⟩) | ((with_reducible refine DF.out.mono ?_); rintro e w3 ⟨rfl, hb3⟩))
        go_meet
        case rel => exact ⟨by rw [EM.out], hb3⟩
      · have hn' : (h.next.length : Int) = 0 := by omega
        have em : mu = false := by rw [← hmu]; simp [Cy.must, hn]
        have EM := Lib.hid em
        clear em hmu
        go_wp2_with (first | ((with_reducible refine DN.out.mono ?_); rintro e w2 ⟨rfl, rfl⟩) | ((with_reducible refine DF.out.mono ?_); rintro e w3 ⟨rfl, hb3⟩))
        go_meet
        case rel => exact ⟨by rw [EM.out], bl_refl _⟩
    case rest =>
      obtain ⟨rfl, B2⟩ := hcut
      have HB2 := Lib.hid B2
      have K2 := Lib.hid (HB.out.below B2)
      have k2c := K2.out.c
      have k2f := K2.out.f
      clear B2 h1c h1f
      rename World => wa
      go_upto_if 22 with fail
      go_cut [] (fun wx => CyAt wx b bh x1 ∧ Chg [b] wa wx)
      case first =>
        cases mu
        · have ep : x1 = x := by rw [← HX1.out]; simp [Cy.push, hmu]
          go_wp2
          go_meet
          case rel => exact ⟨K2.out.as (by rw [ep]), Chg.refl _ _⟩
        · have ep : x1 = { x with force := true } := by rw [← HX1.out]; simp [Cy.push, hmu]
          go_wp2
          go_meet
          case rel => exact ⟨(K2.out.set 5 _).as (by rw [ep]; simp), chg1 _ _ _ _⟩
      case rest =>
        obtain ⟨K3, G3⟩ := hcut
        rename World => wb
        have HA3 := Lib.hid ((HA.out.below HB2.out).other K2.out (by decide) (by decide) (by decide) G3)
        have N3 := Lib.hid ((N1.out.below HB2.out).chg G3 (by simpa using (K2.out.ne (N1.out.below HB2.out) (by decide)).symm))
        have HK3 := Lib.hid K3
        have C3 := Lib.hid ((Chg.of_below HB2.out [b]).then G3)
        have k3c := K3.c
        have k3f := K3.f
        clear k2c k2f K3 G3
        have hs' := hs
        go_wp2_with (first
          | ((with_reducible refine (Send_c HA3.out ho).mono ?_); rintro e w2 ⟨v2, rfl, B2, F2, vs2, vn2, A2, G2, O2⟩; (obtain ⟨a2, c2, rfl, _⟩ := B2.1.shape); (have hb2 := Lib.hid (HK3.out.chg G2 (HA3.out.notin HK3.out (by decide) (by decide)))); (have hn2 := Lib.hid (N3.out.chg G2 (HA3.out.notin N3.out (by decide) (by decide)))); (have hp2 := Lib.hid B2); (have HA2 := Lib.hid A2); (have HG2 := Lib.hid (G2.more (G := b :: hoF bh vs vn) (fun k hk => List.mem_cons_of_mem _ hk))); (have HF2 := Lib.hid F2); (have HO2 := Lib.hid O2); clear B2 A2 G2 F2 O2)
          | ((with_reducible refine (CMsg_c hb2.out _ _ _ hp2.out).mono ?_); rintro e w3 ⟨rfl, hb3⟩; (have hn3 := Lib.hid (hn2.out.below hb3)); (have n3c := (hn2.out.below hb3).c); (have n3f := (hn2.out.below hb3).f)))
        have hsz : w1.heap.size ≤ wb.heap.size := C3.out.size
        exact bodyPost_ret (res_c rfl Un.laid rfl (hn3.out.all8 _ _ _ _ _ _ _ _) rfl) rfl (sends_end BW.out (Nat.le_refl _) ((C3.out.more (G := b :: hoF bh vs vn) (by simp)).then HG2.out) HA2.out hb2.out hp2.out (fun k hk => Nat.le_trans hsz (HF2.out k hk)) (fun k hk => (HO2.out k hk).imp id (fun h => Nat.le_trans hsz h)) hb3 hn3.out hbn (by decide) (by decide) (by decide) (by decide) _ _ _ _ _ _ _ _)
  · rw [if_neg hA]
    have es : h.send.2.2.2 ≠ 0 → h.send.1 = h := by
      intro h9
      unfold Ho.send at h9 ⊢
      split at h9
      · rfl
      · split at h9
        · rename_i h10; rw [if_pos h10]
        · exact absurd rfl h9
    have HES := Lib.hid es
    have HNA := Lib.hid hA
    clear es hA
    obtain ⟨r, hr⟩ : ∃ r, x1.old h = r := ⟨_, rfl⟩
    rw [hr]
    have HR := Lib.hid hr
    clear hr
    go_enter Tryz.func185, Tryz.ntmps185
    go_upto_region 3 with fail
    generalize hw1 : w.alloc (.cells Un.zeros 31) = w1 at *
    go_cut [22] (fun t wx => t = .bool mu ∧ Below w1.heap.size w1 wx)
    case first =>
      by_cases hn : 0 < h.next.length
      · have hn' : (0 : Int) < h.next.length := by omega
        have em : mu = !Cy.fits h x := by rw [← hmu]; simp [Cy.must, hn]
        have EM := Lib.hid em
        clear em hmu
        go_wp2_with (first | ((with_reducible refine DN.out.mono ?_); rintro e w2 ⟨rfl, rfl⟩) | ((with_reducible refine DF.out.mono ?_); rintro e w3 ⟨rfl, hb3⟩))
        go_meet
        case rel => exact ⟨by rw [EM.out], hb3⟩
      · have hn' : (h.next.length : Int) = 0 := by omega
        have em : mu = false := by rw [← hmu]; simp [Cy.must, hn]
        have EM := Lib.hid em
        clear em hmu
        go_wp2_with (first | ((with_reducible refine DN.out.mono ?_); rintro e w2 ⟨rfl, rfl⟩) | ((with_reducible refine DF.out.mono ?_); rintro e w3 ⟨rfl, hb3⟩))
        go_meet
        case rel => exact ⟨by rw [EM.out], bl_refl _⟩
    case rest =>
      obtain ⟨rfl, B2⟩ := hcut
      have HB2 := Lib.hid B2
      have K2 := Lib.hid (HB.out.below B2)
      have k2c := K2.out.c
      have k2f := K2.out.f
      clear B2 h1c h1f
      rename World => wa
      go_upto_if 22 with fail
      go_cut [] (fun wx => CyAt wx b bh x1 ∧ Chg [b] wa wx)
      case first =>
        cases mu
        · have ep : x1 = x := by rw [← HX1.out]; simp [Cy.push, hmu]
          go_wp2
          go_meet
          case rel => exact ⟨K2.out.as (by rw [ep]), Chg.refl _ _⟩
        · have ep : x1 = { x with force := true } := by rw [← HX1.out]; simp [Cy.push, hmu]
          go_wp2
          go_meet
          case rel => exact ⟨(K2.out.set 5 _).as (by rw [ep]; simp), chg1 _ _ _ _⟩
      case rest =>
        obtain ⟨K3, G3⟩ := hcut
        rename World => wb
        have HA3 := Lib.hid ((HA.out.below HB2.out).other K2.out (by decide) (by decide) (by decide) G3)
        have N3 := Lib.hid ((N1.out.below HB2.out).chg G3 (by simpa using (K2.out.ne (N1.out.below HB2.out) (by decide)).symm))
        have HK3 := Lib.hid K3
        have C3 := Lib.hid ((Chg.of_below HB2.out [b]).then G3)
        have k3c := K3.c
        have k3f := K3.f
        clear k2c k2f K3 G3
        go_upto_if 30 with fail
        go_cut [] (fun wx => CyAt wx b bh x1 ∧ Blk wx w.heap.size Un.zeros 31 ∧ (∃ vs' vn', HoAt wx bh h vs' vn' ∧ ∀ g ∈ own vs' ++ own vn', g ∈ own vs ++ own vn ∨ w1.heap.size ≤ g) ∧ Chg (b :: hoF bh vs vn) w1 wx)
        case first =>
          have hsz : w1.heap.size ≤ wb.heap.size := C3.out.size
          by_cases hf : x1.force = false
          · have hs : ¬ h.send.2.2.2 = 0 := fun h9 => HNA.out ⟨hf, h9⟩
            have HS := Lib.hid (HES.out hs)
            simp only [hf, Bool.not_false]
            go_wp2_with (first
              | ((with_reducible refine (Send_c HA3.out ho).mono ?_); rintro e w2 ⟨v2, rfl, B2, F2, vs2, vn2, A2, G2, O2⟩; (obtain ⟨a2, c2, rfl, _⟩ := B2.1.shape); (have hb2 := Lib.hid (HK3.out.chg G2 (HA3.out.notin HK3.out (by decide) (by decide)))); (have hn2 := Lib.hid (N3.out.chg G2 (HA3.out.notin N3.out (by decide) (by decide)))); (have hp2 := Lib.hid B2); (have HA2 := Lib.hid A2); (have HG2 := Lib.hid (G2.more (G := b :: hoF bh vs vn) (fun k hk => List.mem_cons_of_mem _ hk))); (have HF2 := Lib.hid F2); (have HO2 := Lib.hid O2); clear B2 A2 G2 F2 O2))
            go_meet
            case rel => exact ⟨hb2.out, hn2.out, ⟨vs2, vn2, HS.out ▸ HA2.out, fun k hk => (HO2.out k hk).imp id (fun h => Nat.le_trans hsz h)⟩, (C3.out.more (G := b :: hoF bh vs vn) (by simp)).then HG2.out⟩
          · have hf' : x1.force = true := by simpa using hf
            simp only [hf', Bool.not_true]
            go_wp2
            go_meet
            case rel => exact ⟨HK3.out, N3.out, ⟨vs, vn, HA3.out, fun k hk => .inl hk⟩, C3.out.more (G := b :: hoF bh vs vn) (by simp)⟩
        case rest =>
          obtain ⟨K4, N4, ⟨vs4, vn4, A4, O4⟩, G4⟩ := hcut
          rename World => wd
          have HK4 := Lib.hid K4
          have HN4 := Lib.hid N4
          have HA4 := Lib.hid A4
          have HO4 := Lib.hid O4
          have HG4 := Lib.hid G4
          clear N4 A4 O4 G4 k3c k3f
          go_wp2
          refine wp_region_up (by kernel_rfl) (by kernel_rfl) ?_
          have up_K4 := fun (g : Up _) => (Blk.below K4 g.ok).c
          repeat (go_big_quiet_step (with_reducible exact Up.calls_same _ (HSent_c (HA4.out.below (Up.ok _)))))
          refine wpQuiet_nil ?_
          clear up_K4
          refine up_elim (fun w5 hb_w5 => ?_)
          have HK5 := Lib.hid (Blk.below K4 hb_w5)
          have HN5 := Lib.hid (HN4.out.below hb_w5)
          have HA5 := Lib.hid (HA4.out.below hb_w5)
          have HG5 := Lib.hid (HG4.out.below hb_w5)
          have k5c := HK5.out.c
          have k5f := HK5.out.f
          have DN5 := Lib.hid (HNext_c HA5.out)
          have DF5 := Lib.hid (CFits_c HK5.out OX1.out HA5.out ho)
          clear K4
          go_upto_if 55 with fail
          go_cut [] (fun wx => CyAt wx b bh (x1.wind h) ∧ ∃ wy, Below w5.heap.size w5 wy ∧ Chg [b] wy wx)
          case first =>
            by_cases hw : (h.sent.length : Int) ≤ x1.at_
            · have ew : x1.wind h = { x1 with at_ := 0, force := Cy.must h x1 } := by unfold Cy.wind; rw [if_pos hw]
              by_cases hn : 0 < h.next.length
              · have hn' : (0 : Int) < h.next.length := by omega
                have em : Cy.must h x1 = !Cy.fits h x1 := by simp [Cy.must, hn]
                have EM := Lib.hid em
                have EW := Lib.hid ew
                clear em ew
                go_wp2_with (first
                  | ((with_reducible refine DN5.out.mono ?_); rintro e w6 ⟨rfl, rfl⟩)
                  | ((with_reducible refine DF5.out.mono ?_); rintro e w6 ⟨rfl, hb6⟩; (have k6c := (HK5.out.below hb6).c); (have k6f := (HK5.out.below hb6).f)))
                go_meet
                case rel => exact ⟨(((HK5.out.below hb6).set 4 _).set 5 _).as (by rw [EW.out, EM.out]; simp), _, hb6, (chg1 _ b 4 _).then (chg1 _ b 5 _)⟩
              · have hn' : (h.next.length : Int) = 0 := by omega
                have em : Cy.must h x1 = false := by simp [Cy.must, hn]
                have EM := Lib.hid em
                have EW := Lib.hid ew
                clear em ew
                go_wp2_with (first
                  | ((with_reducible refine DN5.out.mono ?_); rintro e w6 ⟨rfl, rfl⟩))
                go_meet
                case rel => exact ⟨((HK5.out.set 4 _).set 5 _).as (by rw [EW.out, EM.out]; simp), _, bl_refl _, (chg1 _ b 4 _).then (chg1 _ b 5 _)⟩
            · have ew : x1.wind h = x1 := by unfold Cy.wind; rw [if_neg hw]
              have EW := Lib.hid ew
              have hw' : x1.at_ < (h.sent.length : Int) := by omega
              clear ew
              go_wp2
              go_meet
              case rel => exact ⟨HK5.out.as (by rw [EW.out]), _, bl_refl _, Chg.refl _ _⟩
          case rest =>
            rename World => we
            obtain ⟨K7, wy, By, Gy⟩ := hcut
            have KY := HK5.out.below By
            have HA7 := Lib.hid ((HA5.out.below By).other KY (by decide) (by decide) (by decide) Gy)
            have HN7 := Lib.hid ((HN5.out.below By).chg Gy (by simpa using (KY.ne (HN5.out.below By) (by decide)).symm))
            have HG7 := Lib.hid ((HG5.out.below By).trans Gy (by simp))
            have b2 : 0 ≤ (x1.wind h).at_ ∧ (x1.wind h).at_ ≤ 127 := by
              have := OX1.out.at_
              unfold Cy.wind
              split
              · exact ⟨Int.le_refl 0, (by decide : (0 : Int) ≤ 127)⟩
              · exact this
            have hl2 : (x1.wind h).last = x1.last := by unfold Cy.wind; split <;> rfl
            clear KY By Gy k5c k5f
            generalize hx2 : x1.wind h = x2 at *
            have HX2 := Lib.hid hx2
            have HL2 := Lib.hid hl2
            clear hl2
            have HK7 := Lib.hid K7
            have k7c := K7.c
            have k7d := K7.drew.c
            have k7f := K7.f
            clear hx2 K7
            by_cases he : (h.at x2.at_).2.2 = 0
            · have eo : x1.old h = (h, { x2 with at_ := x2.at_ + 1 }, x2.msg (h.at x2.at_).1 (h.at x2.at_).2.1) := by
                unfold Cy.old
                rw [HX2.out, if_pos he]
                simp [Cy.msg, HL2.out]
              have EO := Lib.hid eo
              clear eo
              go_wp2
              go_region_law (go_simp; (with_reducible refine (HAt_c (HA7.out.below (bl_drew (bl_refl _))) ho x2.at_ (by omega) (by omega)).mono ?_); rintro e w8 ⟨v8, rfl, B8, hb8, F8⟩; obtain ⟨a8, c8, rfl, _⟩ := B8.1.shape; have HB8 := Lib.hid B8; have HF8 := Lib.hid F8; clear B8 F8)
              all_goals
                have b8 := Lib.hid (bl_then (bl_drew (bl_refl _)) hb8)
                have K8 := HK7.out.below b8.out
                have k8c := K8.c
                have k8f := K8.f
                have hb2 := Lib.hid (show CyAt _ b bh { x2 with at_ := x2.at_ + 1 } from (K8.set 4 (.int .i64 (x2.at_ + 1))).as (by simp))
                have C8 := Lib.hid (chg1 w8 b 4 (.int .i64 (x2.at_ + 1)))
                have HA8 := Lib.hid ((HA7.out.below b8.out).other K8 (by decide) (by decide) (by decide) C8.out)
                have hn2 := Lib.hid ((HN7.out.below b8.out).chg C8.out (by simpa using (K8.ne (HN7.out.below b8.out) (by decide)).symm))
                have hp2 := Lib.hid (HB8.out.stay (off1 K8 (by decide)) C8.out)
                have G8 := Lib.hid ((HG7.out.below b8.out).trans C8.out (by simp))
                have s8 : w1.heap.size ≤ we.heap.size := HG7.out.size
                clear k7c k7d k7f K8
                go_wp2_with (first
                  | ((with_reducible refine (CMsg_c hb2.out _ _ _ hp2.out).mono ?_); rintro e w3 ⟨rfl, hb3⟩; (have hn3 := Lib.hid (hn2.out.below hb3)); (have n3c := (hn2.out.below hb3).c); (have n3f := (hn2.out.below hb3).f)))
                obtain rfl : r = _ := HR.out.symm.trans EO.out
                exact bodyPost_ret (res_c rfl Un.laid rfl (hn3.out.all8 _ _ _ _ _ _ _ _) rfl) rfl (sends_end BW.out (Nat.le_refl _) G8.out HA8.out hb2.out hp2.out (fun k hk => Nat.le_trans s8 (HF8.out k hk)) HO4.out hb3 hn3.out hbn (by decide) (by decide) (by decide) (by decide) _ _ _ _ _ _ _ _)
            · have eo : x1.old h = (h, x2, x2.head h.last) := by
                unfold Cy.old
                rw [HX2.out, if_neg he]
                simp [Cy.head, HL2.out]
              have EO := Lib.hid eo
              clear eo
              have he' : ((h.at x2.at_).2.2 == 0) = false := beq_eq_false_iff_ne.2 he
              go_wp2
              go_region_law (go_simp; (with_reducible refine (HAt_c (HA7.out.below (bl_drew (bl_refl _))) ho x2.at_ (by omega) (by omega)).mono ?_); rintro e w8 ⟨v8, rfl, B8, hb8, F8⟩; obtain ⟨a8, c8, rfl, _⟩ := B8.1.shape; clear B8 F8)
              all_goals
                have b8 := Lib.hid (bl_then (bl_drew (bl_refl _)) hb8)
                have K8 := Lib.hid (HK7.out.below b8.out)
                have HA8 := Lib.hid (HA7.out.below b8.out)
                have hn2 := Lib.hid (HN7.out.below b8.out)
                have G8 := Lib.hid (HG7.out.below b8.out)
                clear k7c k7d k7f
                go_wp2_with (first
                  | ((with_reducible refine (CFill_c K8.out HA8.out ho).mono ?_); rintro e w3 ⟨rfl, hb3⟩; (have hn3 := Lib.hid (hn2.out.below hb3)); (have n3c := (hn2.out.below hb3).c); (have n3f := (hn2.out.below hb3).f)))
                obtain rfl : r = _ := HR.out.symm.trans EO.out
                exact bodyPost_ret (res_c rfl Un.laid rfl (hn3.out.all8 _ _ _ _ _ _ _ _) rfl) rfl (sends_end BW.out (Nat.le_refl _) G8.out HA8.out K8.out byt_nil (by simp [own, Value.ownBlock]) HO4.out hb3 hn3.out hbn (by decide) (by decide) (by decide) (by decide) _ _ _ _ _ _ _ _)
end Go.Proofs.YtdffinnnjcgfcaaGreatK
