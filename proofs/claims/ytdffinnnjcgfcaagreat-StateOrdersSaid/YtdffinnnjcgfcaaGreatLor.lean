/- StateOrders: which orders are refused in which state. -/
import Derived.Test.YtdffinnnjcgfcaaGreatRob
import Derived.Test.YtdffinnnjcgfcaaGreatLac
import Derived.Test.YtdffinnnjcgfcaaGreatLf0
import Derived.IntWalk
namespace Go.Proofs.YtdffinnnjcgfcaaGreatK
open Go Go.RowKit
set_option linter.unusedVariables false
set_option maxHeartbeats 16000000
set_option maxRecDepth 100000
theorem stateOrders_long (a0 : Bool) (v vp : Value) (n : Nat) (C : Nat → Ac) (I : Nat → Value) (kd : Int) (p : Oct) (w : World) (hv : ActsV w v n C I) (hp : BytI w [] vp p) (hpl : p.length ≤ maxLen) (hn : 60 < n ∨ 400 < p.length) :
    Calls Tryz.prog 12 #[.bool a0, v, .int .u8 kd, vp] w fun e w' => e = .returned (.bool true) ∧ Below w.heap.size w w' := by
  obtain ⟨a, cap, rfl, hcap, hl, _⟩ := hv.open
  obtain ⟨ap, cp, rfl, _⟩ := hp.shape
  unfold maxLen at hl hpl
  have HA := Lib.hid awake_c
  clear hv hp
  by_cases h1 : 60 < n
  · have h1' : (60 : Int) < n := by omega
    clear hn
    go_enter Tryz.func12, Tryz.ntmps12
    go_wp2_with (first
      | ((with_reducible refine (HA.out w).mono ?_); rintro e w1 ⟨rfl, hb1⟩)
      | ((with_reducible refine (HA.out w1).mono ?_); rintro e w2 ⟨rfl, hb2⟩))
    go_ret
    exact ⟨rfl, bl_then hb1 hb2⟩
  · have h1' : (n : Int) ≤ 60 := by omega
    have h2' : (400 : Int) < p.length := by omega
    clear hn
    go_enter Tryz.func12, Tryz.ntmps12
    go_wp2_with (first
      | ((with_reducible refine (HA.out w).mono ?_); rintro e w1 ⟨rfl, hb1⟩)
      | ((with_reducible refine (HA.out w1).mono ?_); rintro e w2 ⟨rfl, hb2⟩))
    go_ret
    exact ⟨rfl, bl_then hb1 hb2⟩
theorem stateOrders_walk (a0 : Bool) (v vp : Value) (n : Nat) (C : Nat → Ac) (I : Nat → Value) (kd : Int) (p : Oct) (w : World) (hv : ActsV w v n C I) (hp : BytI w [] vp p) (hpl : p.length ≤ maxLen) (p2 : 0 ≤ kd) (q2 : kd ≤ 255) :
    Calls Tryz.prog 12 #[.bool a0, v, .int .u8 kd, vp] w fun e w' => e = .returned (.bool true) ∧ Below w.heap.size w w' := by
  by_cases hn0 : 60 < n ∨ 400 < p.length
  · exact stateOrders_long a0 v vp n C I kd p w hv hp hpl hn0
  obtain ⟨a, cap, rfl, hcap, _, ho⟩ := hv.open
  obtain ⟨ap, cp, rfl, _⟩ := hp.shape
  have hn : n ≤ 60 := by omega
  have hl : p.length ≤ 400 := by omega
  have hn' : (n : Int) ≤ 60 := by omega
  have hl' : (p.length : Int) ≤ 400 := by omega
  have HO := Lib.hid ho
  have HP := Lib.hid hp
  have HA := Lib.hid awake_c
  have HQ := Lib.hid (fun w => quick_c a0 w)
  clear ho hv hp hpl hn0
  go_enter Tryz.func12, Tryz.ntmps12
  go_wp2_with (first
    | ((with_reducible refine (HA.out _).mono ?_); rintro e w1 ⟨rfl, hb1⟩)
    | ((with_reducible refine (HQ.out _).mono ?_); rintro e w2 ⟨rfl, hb2⟩)
    | ((with_reducible refine (NewL_c a0 _).mono ?_); rintro e w3 ⟨b, rfl, V0⟩; have V := Lib.hid (V0.base (bl_then hb1 hb2)); clear V0))
  go_loopw [10] (fun i wr => ∃ k : Nat, k ≤ n ∧ i = .int .i64 k ∧ ∃ x, Iv 16 600 x ∧ Lk w wr b x (200 * k)) (fun i _ => n - (intOf i).toNat)
  case atStart => exact ⟨0, by omega, rfl, _, Iv.born a0, V.out.to rfl (by omega)⟩
  case round =>
    obtain ⟨k, hkk, rfl, x, E9, V9⟩ := hrel
    have E := Lib.hid E9
    have V := Lib.hid V9
    clear V9 E9
    by_cases hlt : k < n
    · have hlt' : (k : Int) < n := by omega
      rcases HO.out with h0 | ⟨bs, off, rfl, hA⟩
      · omega
      obtain ⟨⟨hk, ha, hu, hi⟩, hcell⟩ := hA k hlt
      generalize C k = c at hk ha hu hi hcell
      generalize I k = vi at hi hcell
      obtain ⟨ai, ci, rfl, _⟩ := hi.shape
      have hc2 := hcell.below V.out.v.bel
      have il := hu.info
      unfold maxLen at il
      have HC := Lib.hid hc2
      have hi27 := hc2.d9
      have HCO := Lib.hid (fun (h : c.u.info.length ≤ 50) => (⟨hk, ha, hu.ok (by omega)⟩ : c.ok))
      have HI := Lib.hid hi
      clear hcell hA hc2 hk ha hu hi
      by_cases h50 : 50 < c.u.info.length
      · have h50' : (50 : Int) < c.u.info.length := by omega
        go_wp2
        go_ret
        exact ⟨rfl, V.out.v.bel⟩
      have h50' : (c.u.info.length : Int) ≤ 50 := by omega
      have DO := Lib.hid (do_c V.out (by omega) (by omega) (HCO.out (by omega)) HI.out)
      go_upto_region 9 with fail
      clear hi27
      obtain ⟨hv0, hv1, hv2, hv3, hv4, hv5, hv6, hv7, hv8, hv9, _⟩ := HC.out
      go_wp2_with (first
        | ((with_reducible refine DO.out.mono ?_); rintro e w4 ⟨rfl, V1⟩; have Va := Lib.hid V1; clear V1))
      clear hv0 hv1 hv2 hv3 hv4 hv5 hv6 hv7 hv8 hv9
      go_roundw
      case rel => exact ⟨k + 1, by omega, by go_num, _, E.out.act c, Va.out.to rfl (by omega)⟩
      case measure => simp [intOf]; omega
    · obtain rfl : k = n := by omega
      have V := Lib.hid (V.out.to (y := x) (m := 12000) rfl (by omega))
      have kk : ¬ (k : Int) < k := by omega
      clear hkk hlt hcap hn HO HA HQ
      go_upto_region 10 with fail
      have s05 := V.out.k.S
      have cS := V.out.S
      obtain ⟨S, hS⟩ : ∃ S, x.S = S := ⟨_, rfl⟩
      obtain ⟨sv, hsv⟩ : ∃ sv, x.serves = sv := ⟨_, rfl⟩
      have esv : sv = (decide (S = 4) || decide (S = 5)) := by rw [← hsv, ← hS]; rfl
      rw [hS] at cS s05
      go_cut [11] (fun t wx => t = .bool sv ∧ wx = wr)
      case first =>
        have c6 : S = 0 ∨ S = 1 ∨ S = 2 ∨ S = 3 ∨ S = 4 ∨ S = 5 := by omega
        clear hS
        rcases c6 with rfl | rfl | rfl | rfl | rfl | rfl
        all_goals
          obtain rfl := esv
          go_wp2
          go_meet
          case rel => exact ⟨rfl, rfl⟩
      case rest =>
        obtain ⟨rfl, hw⟩ := hcut
        subst hw
        rename World => wr
        obtain ⟨cl, hcl⟩ : ∃ cl, x.o.goes = cl := ⟨_, rfl⟩
        obtain ⟨fl, hfl⟩ : ∃ fl, x.h.full p = fl := ⟨_, rfl⟩
        have want := St.order_want x (kd % 14) p
        obtain ⟨kq, hkq⟩ : ∃ kq, kd % 14 = kq := ⟨_, rfl⟩
        rw [hkq] at want
        obtain ⟨ew, hew⟩ : ∃ ew, x.want kq p = ew := ⟨_, rfl⟩
        rw [hew] at want
        have hw2 := hew
        unfold St.want at hw2
        rw [hS, hsv, hcl, hfl] at hw2
        have HW := Lib.hid hw2
        obtain ⟨S', hS'⟩ : ∃ S', (x.order kq p).1.S = S' := ⟨_, rfl⟩
        have HSS := Lib.hid (show ew ≠ 0 → S' = S from fun h => by rw [← hS', ← hS]; exact want.2 h)
        have HE := Lib.hid want.1
        have HS' := Lib.hid hS'
        have HCL := Lib.hid hcl
        have HFL := Lib.hid hfl
        have hk13 : 0 ≤ kq ∧ kq ≤ 13 := by omega
        have V1 := V.out
        obtain ⟨L, SA⟩ := V1.st
        have cO := V1.v.own
        have cT := V1.v.their
        have HWY := Lib.hid SA.wy
        have HHO := Lib.hid SA.ho
        have HOK := Lib.hid V1.k.h
        have c17 : wr.cell? ⟨b, 17, none⟩ = some (x.w.v L.bw) := by rw [SA.st.c]; rfl
        have KB := SA.st
        have HM := E.out.most
        have HOC := E.out.oc
        have HST := Lib.hid hS
        clear want hw2 hew hS' hcl hfl hS hsv SA esv
        go_upto_region 11 with fail
        go_cut [12] (fun t wx => t = .bool cl ∧ wx = wr)
        case first =>
          have e := HCL.out
          unfold Oa.goes at e
          generalize x.o.own = q1 at cO e
          generalize x.o.their = q2 at cT e
          clear c17 KB HM HOC
          cases q1 <;> cases q2
          all_goals
            simp only [Bool.or_false, Bool.or_true, Bool.not_true, Bool.not_false] at e
            subst e
            go_wp2
            go_meet
            case rel => exact ⟨rfl, rfl⟩
        case rest =>
          obtain ⟨rfl, hw⟩ := hcut
          subst hw
          rename World => wr
          clear cO cT
          obtain ⟨sn, hsn⟩ : ∃ sn : Int, (x.h.sent.length : Int) = sn := ⟨_, rfl⟩
          obtain ⟨nn, hnn⟩ : ∃ nn : Int, (x.h.next.length : Int) = nn := ⟨_, rfl⟩
          obtain ⟨oc, hoc⟩ : ∃ oc : Int, x.h.octets = oc := ⟨_, rfl⟩
          obtain ⟨sm, hsm⟩ : ∃ sm : Int, sn + nn = sm := ⟨_, rfl⟩
          obtain ⟨os, hos⟩ : ∃ os : Int, oc + (p.length : Int) = os := ⟨_, rfl⟩
          have D1 := Lib.hid (fun g : Up wr => hsn ▸ HSent_c (HHO.out.below g.ok))
          have D2 := Lib.hid (fun g : Up wr => hnn ▸ HNext_c (HHO.out.below g.ok))
          have D3 := Lib.hid (fun g : Up wr => hoc ▸ HOctets_c (HHO.out.below g.ok) HOK.out)
          have EFL := Lib.hid (show (decide (16 ≤ sm) || decide (600 < os)) = fl from by rw [← hsm, ← hos, ← hsn, ← hnn, ← hoc, ← HFL.out]; unfold Ho.full; rw [HM, HOC])
          have b1 := HOK.out.all
          have b2 := HOK.out.octs
          have b3 : x.h.octets = (octs x.h.sent : Int) + octs x.h.next := rfl
          have hwr1 : IntKind.i64.wrap (sn + nn) = sm := by rw [IntWalk.i64_in _ (by omega)]; exact hsm
          have hwr2 : IntKind.i64.wrap (oc + (p.length : Int)) = os := by rw [IntWalk.i64_in _ (by omega)]; exact hos
          clear hsm hos hsn hnn hoc b1 b2 b3 KB HM HOC
          have hmB := mB_Hold
          have hmC := mC_Hold
          go_upto_region 12 with fail
          go_cut [13] (fun t wx => t = .bool fl ∧ Below wr.heap.size wr wx)
          case first =>
            obtain ⟨y9, hy9⟩ : ∃ y9, x.w = y9 := ⟨_, rfl⟩
            rw [hy9] at c17 HWY
            clear hy9
            cases y9 with
            | bs qb =>
              as_aux_lemma =>
                simp only [Wy.v] at c17
                have DH := Lib.hid (fun g : Up wr => BHold_c (HWY.out.below g.ok))
                have up_17 := fun g : Up wr => below_cell g.ok c17
                have stp : ∀ ff : Bool, ff = fl → ∀ wx, Below wr.heap.size wr wx → (Value.bool ff = .bool fl ∧ Below wr.heap.size wr wx) := fun ff e wx h => ⟨by rw [e], h⟩
                have STP := Lib.hid stp
                clear stp
                by_cases h16 : 16 ≤ sm
                · have efl : true = fl := by rw [← EFL.out]; simp [h16]
                  have EF := Lib.hid efl
                  clear efl
                  refine wp_region_up (by kernel_rfl) (by kernel_rfl) ?_
                  repeat (go_big_quiet_step (first | (with_reducible exact Up.calls_same _ (DH.out _)) | (with_reducible exact Up.calls_same _ (D1.out _)) | (with_reducible exact Up.calls_same _ (D2.out _)) | (with_reducible exact Up.calls _ (D3.out _))))
                  refine wpQuiet_nil ?_
                  clear up_17
                  refine up_elim (fun w8 hb8 => ?_)
                  go_wp2
                  go_meet
                  case rel => exact STP.out _ EF.out _ hb8
                · by_cases h6 : 600 < os
                  · have efl : true = fl := by rw [← EFL.out]; simp [h16, h6]
                    have EF := Lib.hid efl
                    clear efl
                    refine wp_region_up (by kernel_rfl) (by kernel_rfl) ?_
                    repeat (go_big_quiet_step (first | (with_reducible exact Up.calls_same _ (DH.out _)) | (with_reducible exact Up.calls_same _ (D1.out _)) | (with_reducible exact Up.calls_same _ (D2.out _)) | (with_reducible exact Up.calls _ (D3.out _))))
                    refine wpQuiet_nil ?_
                    clear up_17
                    refine up_elim (fun w8 hb8 => ?_)
                    go_wp2
                    go_meet
                    case rel => exact STP.out _ EF.out _ hb8
                  · have efl : false = fl := by rw [← EFL.out]; simp [h16, h6]
                    have EF := Lib.hid efl
                    clear efl
                    refine wp_region_up (by kernel_rfl) (by kernel_rfl) ?_
                    repeat (go_big_quiet_step (first | (with_reducible exact Up.calls_same _ (DH.out _)) | (with_reducible exact Up.calls_same _ (D1.out _)) | (with_reducible exact Up.calls_same _ (D2.out _)) | (with_reducible exact Up.calls _ (D3.out _))))
                    refine wpQuiet_nil ?_
                    clear up_17
                    refine up_elim (fun w8 hb8 => ?_)
                    go_wp2
                    go_meet
                    case rel => exact STP.out _ EF.out _ hb8
            | cy qc =>
              as_aux_lemma =>
                simp only [Wy.v] at c17
                have DH := Lib.hid (fun g : Up wr => CHold_c (HWY.out.below g.ok))
                have up_17 := fun g : Up wr => below_cell g.ok c17
                have stp : ∀ ff : Bool, ff = fl → ∀ wx, Below wr.heap.size wr wx → (Value.bool ff = .bool fl ∧ Below wr.heap.size wr wx) := fun ff e wx h => ⟨by rw [e], h⟩
                have STP := Lib.hid stp
                clear stp
                by_cases h16 : 16 ≤ sm
                · have efl : true = fl := by rw [← EFL.out]; simp [h16]
                  have EF := Lib.hid efl
                  clear efl
                  refine wp_region_up (by kernel_rfl) (by kernel_rfl) ?_
                  repeat (go_big_quiet_step (first | (with_reducible exact Up.calls_same _ (DH.out _)) | (with_reducible exact Up.calls_same _ (D1.out _)) | (with_reducible exact Up.calls_same _ (D2.out _)) | (with_reducible exact Up.calls _ (D3.out _))))
                  refine wpQuiet_nil ?_
                  clear up_17
                  refine up_elim (fun w8 hb8 => ?_)
                  go_wp2
                  go_meet
                  case rel => exact STP.out _ EF.out _ hb8
                · by_cases h6 : 600 < os
                  · have efl : true = fl := by rw [← EFL.out]; simp [h16, h6]
                    have EF := Lib.hid efl
                    clear efl
                    refine wp_region_up (by kernel_rfl) (by kernel_rfl) ?_
                    repeat (go_big_quiet_step (first | (with_reducible exact Up.calls_same _ (DH.out _)) | (with_reducible exact Up.calls_same _ (D1.out _)) | (with_reducible exact Up.calls_same _ (D2.out _)) | (with_reducible exact Up.calls _ (D3.out _))))
                    refine wpQuiet_nil ?_
                    clear up_17
                    refine up_elim (fun w8 hb8 => ?_)
                    go_wp2
                    go_meet
                    case rel => exact STP.out _ EF.out _ hb8
                  · have efl : false = fl := by rw [← EFL.out]; simp [h16, h6]
                    have EF := Lib.hid efl
                    clear efl
                    refine wp_region_up (by kernel_rfl) (by kernel_rfl) ?_
                    repeat (go_big_quiet_step (first | (with_reducible exact Up.calls_same _ (DH.out _)) | (with_reducible exact Up.calls_same _ (D1.out _)) | (with_reducible exact Up.calls_same _ (D2.out _)) | (with_reducible exact Up.calls _ (D3.out _))))
                    refine wpQuiet_nil ?_
                    clear up_17
                    refine up_elim (fun w8 hb8 => ?_)
                    go_wp2
                    go_meet
                    case rel => exact STP.out _ EF.out _ hb8
          case rest =>
            obtain ⟨rfl, hb⟩ := hcut
            rename World => wq
            have HB := Lib.hid hb
            have Vb := Lib.hid (V.out.below hb)
            have cS2 := Vb.out.S
            rw [HST.out] at cS2
            have HT := Lib.hid (show Calls Tryz.prog 26 #[.pointer (some ⟨b, 0, none⟩), .agg #[.int .u8 kq, .slice ap p.length cp]] wq fun e w' => e = .returned (.int .i64 ew) ∧ Lk w w' b (x.order kq p).1 12001 ∧ Kp wq w' from by rw [← HE.out]; exact Vb.out.orderI (by decide) kq HP.out (by omega))
            clear c17 hwr1 hwr2 hmB hmC hb cS
            go_upto_region 16 with (first
              | ((with_reducible refine HT.out.mono ?_); rintro e w5 ⟨rfl, V1, _⟩; have Vf := Lib.hid V1; (have c5 := V1.S); (rw [HS'.out] at c5); clear V1))
            clear cS2 hkq HT D1 D2 D3 EFL HWY HHO HCL HFL HE HS' HP HOK
            have c14 : kq = 0 ∨ kq = 1 ∨ kq = 2 ∨ kq = 3 ∨ kq = 4 ∨ kq = 5 ∨ kq = 6 ∨ kq = 7 ∨ kq = 8 ∨ kq = 9 ∨ kq = 10 ∨ kq = 11 ∨ kq = 12 ∨ kq = 13 := by omega
            rcases c14 with rfl | rfl | rfl | rfl | rfl | rfl | rfl | rfl | rfl | rfl | rfl | rfl | rfl | rfl
            · as_aux_lemma =>
                obtain rfl : 1 = ew := by simpa using HW.out
                obtain rfl := HSS.out (by decide)
                go_wp2
                go_ret
                exact ⟨rfl, Vf.out.v.bel⟩
            · as_aux_lemma =>
                by_cases h0 : S = 0
                · obtain rfl : 0 = ew := by simpa [h0] using HW.out
                  subst h0
                  go_wp2
                  go_ret
                  exact ⟨rfl, Vf.out.v.bel⟩
                · obtain rfl : 9 = ew := by simpa [h0] using HW.out
                  have k0 : (S == 0) = false := beq_eq_false_iff_ne.2 h0
                  obtain rfl := HSS.out (by decide)
                  go_wp2
                  go_ret
                  exact ⟨rfl, Vf.out.v.bel⟩
            · as_aux_lemma =>
                by_cases h0 : S = 0
                · obtain rfl : 9 = ew := by simpa [h0] using HW.out
                  subst h0
                  obtain rfl := HSS.out (by decide)
                  go_wp2
                  go_ret
                  exact ⟨rfl, Vf.out.v.bel⟩
                · obtain rfl : 0 = ew := by simpa [h0] using HW.out
                  have k0 : (S == 0) = false := beq_eq_false_iff_ne.2 h0
                  go_wp2
                  go_ret
                  exact ⟨rfl, Vf.out.v.bel⟩
            · as_aux_lemma =>
                obtain rfl : 0 = ew := by simpa using HW.out
                go_wp2
                go_ret
                exact ⟨rfl, Vf.out.v.bel⟩
            · as_aux_lemma =>
                obtain rfl : 0 = ew := by simpa using HW.out
                go_wp2
                go_ret
                exact ⟨rfl, Vf.out.v.bel⟩
            · as_aux_lemma =>
                cases sv
                · obtain rfl : 12 = ew := by simpa using HW.out
                  obtain rfl := HSS.out (by decide)
                  go_wp2
                  go_ret
                  exact ⟨rfl, Vf.out.v.bel⟩
                · by_cases h3 : p.length < 3
                  · obtain rfl : 5 = ew := by simpa [h3] using HW.out
                    have h3' : (p.length : Int) < 3 := by omega
                    obtain rfl := HSS.out (by decide)
                    go_wp2
                    go_ret
                    exact ⟨rfl, Vf.out.v.bel⟩
                  have h3' : (3 : Int) ≤ p.length := by omega
                  by_cases h7 : 273 < p.length
                  · obtain rfl : 6 = ew := by simpa [h3, h7] using HW.out
                    have h7' : (273 : Int) < p.length := by omega
                    obtain rfl := HSS.out (by decide)
                    go_wp2
                    go_ret
                    exact ⟨rfl, Vf.out.v.bel⟩
                  have h7' : (p.length : Int) ≤ 273 := by omega
                  cases fl
                  · obtain rfl : 0 = ew := by simpa [h3, h7] using HW.out
                    go_wp2
                    go_ret
                    exact ⟨rfl, Vf.out.v.bel⟩
                  · obtain rfl : 3 = ew := by simpa [h3, h7] using HW.out
                    obtain rfl := HSS.out (by decide)
                    go_wp2
                    go_ret
                    exact ⟨rfl, Vf.out.v.bel⟩
            · as_aux_lemma =>
                obtain rfl : 0 = ew := by simpa using HW.out
                go_wp2
                go_ret
                exact ⟨rfl, Vf.out.v.bel⟩
            · as_aux_lemma =>
                obtain rfl : 0 = ew := by simpa using HW.out
                go_wp2
                go_ret
                exact ⟨rfl, Vf.out.v.bel⟩
            · as_aux_lemma =>
                obtain rfl : 0 = ew := by simpa using HW.out
                go_wp2
                go_ret
                exact ⟨rfl, Vf.out.v.bel⟩
            · as_aux_lemma =>
                cases cl
                · obtain rfl : 9 = ew := by simpa using HW.out
                  obtain rfl := HSS.out (by decide)
                  go_wp2
                  go_ret
                  exact ⟨rfl, Vf.out.v.bel⟩
                · obtain rfl : 0 = ew := by simpa using HW.out
                  go_wp2
                  go_ret
                  exact ⟨rfl, Vf.out.v.bel⟩
            · as_aux_lemma =>
                cases sv
                · obtain rfl : 9 = ew := by simpa using HW.out
                  obtain rfl := HSS.out (by decide)
                  go_wp2
                  go_ret
                  exact ⟨rfl, Vf.out.v.bel⟩
                · obtain rfl : 0 = ew := by simpa using HW.out
                  go_wp2
                  go_ret
                  exact ⟨rfl, Vf.out.v.bel⟩
            · as_aux_lemma =>
                cases sv
                · obtain rfl : 9 = ew := by simpa using HW.out
                  obtain rfl := HSS.out (by decide)
                  go_wp2
                  go_ret
                  exact ⟨rfl, Vf.out.v.bel⟩
                · obtain rfl : 0 = ew := by simpa using HW.out
                  go_wp2
                  go_ret
                  exact ⟨rfl, Vf.out.v.bel⟩
            · as_aux_lemma =>
                obtain rfl : 1 = ew := by simpa using HW.out
                obtain rfl := HSS.out (by decide)
                go_wp2
                go_ret
                exact ⟨rfl, Vf.out.v.bel⟩
            · as_aux_lemma =>
                obtain rfl : 1 = ew := by simpa using HW.out
                obtain rfl := HSS.out (by decide)
                go_wp2
                go_ret
                exact ⟨rfl, Vf.out.v.bel⟩
theorem stateOrders_row (a0 : Bool) (v : Value) (n : Nat) (C : Nat → Ac) (I : Nat → Value) (kd : Int) (vp : Value) (p : Oct) (w : World) (hv : ActsV w v n C I) (p2 : 0 ≤ kd) (q2 : kd ≤ 255) (hp : BytI w [] vp p) (hpl : p.length ≤ maxLen) :
    Calls Tryz.prog 12 #[.bool a0, v, .int .u8 kd, vp] w fun e w' => e = .returned (.bool true) ∧ Below w.heap.size w w' := stateOrders_walk a0 v vp n C I kd p w hv hp hpl p2 q2
end Go.Proofs.YtdffinnnjcgfcaaGreatK
