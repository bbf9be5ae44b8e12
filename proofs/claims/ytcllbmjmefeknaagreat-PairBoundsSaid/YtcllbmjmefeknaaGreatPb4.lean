/- The walk of PairBounds. -/
import Derived.Test.YtcllbmjmefeknaaGreatPb3
namespace Go.Proofs.YtcllbmjmefeknaaGreatK
open Go Go.RowKit
set_option linter.unusedVariables false
set_option maxHeartbeats 40000000
set_option maxRecDepth 100000
theorem PrNewE_c (s : Su) (d : Int) (w : World) {f : Int} (hf : chkS s = f) (h0 : f ≠ 0) : Calls Tryz.prog 16 #[s.v, .int .i64 d] w fun e w' => e = .returned (.tuple #[.pointer none, .int .i64 f]) ∧ Below w.heap.size w w' := by
  have HN := Lib.hid (fun w => PNewE_c s w hf h0)
  have k0 : (f == 0) = false := beq_eq_false_iff_ne.2 h0
  clear hf h0
  obtain ⟨cyc, n1, n2, hdd, oc, t0, t1, t2, t3, t4, t5, t6, t7⟩ := s
  obtain ⟨n0, hn0⟩ : ∃ n0, w.heap.size = n0 := ⟨_, rfl⟩
  have B2 := bl_alloc (bl_alloc (bl_refl w) (.cells #[.bool cyc, .int .i64 n1, .int .i64 n2, .int .i64 hdd, .int .i64 oc, .int .i64 t0, .int .i64 t1, .int .i64 t2, .int .i64 t3, .int .i64 t4, .int .i64 t5, .int .i64 t6, .int .i64 t7] 24)) (.cells zeroP 128)
  have K2 := (Blk.new w #[.bool cyc, .int .i64 n1, .int .i64 n2, .int .i64 hdd, .int .i64 oc, .int .i64 t0, .int .i64 t1, .int .i64 t2, .int .i64 t3, .int .i64 t4, .int .i64 t5, .int .i64 t6, .int .i64 t7] 24).alloc (.cells zeroP 128)
  rw [hn0] at K2
  have HB2 := Lib.hid B2
  have HK2 := Lib.hid K2
  clear B2 K2
  go_enter Tryz.func16, Tryz.ntmps16
  go_upto_region 2 with fail
  generalize (w.alloc _).alloc _ = w2 at HB2 HK2 ⊢
  go_wp2
  go_loopw [13] (fun i wr => i = .int .i64 0 ∧ wr = w2) (fun _ _ => 0)
  case atStart => exact ⟨rfl, rfl⟩
  case round =>
    obtain ⟨rfl, rfl⟩ := hrel
    have kc := HK2.out.c
    go_wp2_with (first
      | ((with_reducible refine (HN.out _).mono ?_); rintro e w4 ⟨rfl, b4⟩; have B4 := Lib.hid (bl_then HB2.out b4); clear b4))
    go_ret2
    exact ⟨rfl, B4.out⟩
theorem PrNewD_c (s : Su) (d : Int) (hd : d < 0 ∨ 65536 < d) (w : World) (HC : ∀ w, Calls Tryz.prog 17 #[s.v] w fun e w' => e = .returned (.int .i64 0) ∧ Below w.heap.size w w') : Calls Tryz.prog 16 #[s.v, .int .i64 d] w fun e w' => e = .returned (.tuple #[.pointer none, .int .i64 1]) ∧ Below w.heap.size w w' := by
  have HN := Lib.hid (fun w => PNew_c s w HC)
  have HW := Lib.hid (fun w => WiNewE_c d hd w)
  clear hd
  obtain ⟨cyc, n1, n2, hdd, oc, t0, t1, t2, t3, t4, t5, t6, t7⟩ := s
  obtain ⟨n0, hn0⟩ : ∃ n0, w.heap.size = n0 := ⟨_, rfl⟩
  have B2 := bl_alloc (bl_alloc (bl_refl w) (.cells #[.bool cyc, .int .i64 n1, .int .i64 n2, .int .i64 hdd, .int .i64 oc, .int .i64 t0, .int .i64 t1, .int .i64 t2, .int .i64 t3, .int .i64 t4, .int .i64 t5, .int .i64 t6, .int .i64 t7] 24)) (.cells zeroP 128)
  have K2 := (Blk.new w #[.bool cyc, .int .i64 n1, .int .i64 n2, .int .i64 hdd, .int .i64 oc, .int .i64 t0, .int .i64 t1, .int .i64 t2, .int .i64 t3, .int .i64 t4, .int .i64 t5, .int .i64 t6, .int .i64 t7] 24).alloc (.cells zeroP 128)
  rw [hn0] at K2
  have HB2 := Lib.hid B2
  have HK2 := Lib.hid K2
  clear B2 K2
  go_enter Tryz.func16, Tryz.ntmps16
  go_upto_region 2 with fail
  generalize (w.alloc _).alloc _ = w2 at HB2 HK2 ⊢
  go_wp2
  go_loopw [13] (fun i wr => i = .int .i64 0 ∧ wr = w2) (fun _ _ => 0)
  case atStart => exact ⟨rfl, rfl⟩
  case round =>
    obtain ⟨rfl, rfl⟩ := hrel
    have kc := HK2.out.c
    go_wp2_with (first
      | ((with_reducible refine (HN.out _).mono ?_); rintro e w4 ⟨b4, rfl, L4, P4, b4', F4⟩; have B4 := Lib.hid (bl_then HB2.out b4'); clear P4 b4' F4)
      | ((with_reducible refine (HW.out _).mono ?_); rintro e w5 ⟨rfl, rfl⟩))
    go_ret2
    exact ⟨rfl, B4.out⟩
theorem PairBounds_w (s : Su) (near : Bool) (d sd k st N : Int) (vm : Value) (ms : Oct) (ok : Int) (vo : Value) (o : Oct) (W : World) (hw : s.wf) (_c1 : 0 ≤ k ∧ k ≤ 255) (_i1 : i64ok st) (_i2 : i64ok N) (h1 : BytI W [] vm ms) (_l1 : ms.length ≤ maxLen) (_c2 : 0 ≤ ok ∧ ok ≤ 255) (h2 : BytI W [] vo o) (_l2 : o.length ≤ maxLen) :
    Calls Tryz.prog 3 #[s.v, .bool near, .int .i64 d, .int .i64 sd, .agg #[.int .u8 k, .int .i64 st, .int .i64 N, vm, .int .u8 ok, vo]] W fun e W' => e = .returned (.bool true) ∧ Below W.heap.size W W' := by
  obtain ⟨am, cm, rfl, hcm⟩ := h1.shape
  obtain ⟨ao, co, rfl, hco⟩ := h2.shape
  obtain ⟨m, hm⟩ : ∃ n, ms.length = n := ⟨_, rfl⟩
  obtain ⟨n, hn⟩ : ∃ n, o.length = n := ⟨_, rfl⟩
  rw [hm] at hcm
  rw [hn] at hco
  rw [hm, hn]
  clear h1 h2 _l1 _l2 hm hn _c1 _c2 _i1 _i2
  have AW := Lib.hid (fun w => LAwake_c w)
  have AW2 := Lib.hid (fun w => LAwake_c w)
  have HW := Lib.hid hw
  clear hw
  obtain ⟨cyc, n1, n2, hd, oc, t0, t1, t2, t3, t4, t5, t6, t7⟩ := s
  go_enter Tryz.func3, Tryz.ntmps3
  go_upto_region 1 with fail
  have B0 := Lib.hid (bl_alloc (bl_alloc (bl_refl W) (.cells #[.bool cyc, .int .i64 n1, .int .i64 n2, .int .i64 hd, .int .i64 oc, .int .i64 t0, .int .i64 t1, .int .i64 t2, .int .i64 t3, .int .i64 t4, .int .i64 t5, .int .i64 t6, .int .i64 t7] 24)) (.cells #[.int .u8 k, .int .i64 st, .int .i64 N, .slice am m cm, .int .u8 ok, .slice ao n co] 29))
  have K0 := Blk.below (Blk.new W #[.bool cyc, .int .i64 n1, .int .i64 n2, .int .i64 hd, .int .i64 oc, .int .i64 t0, .int .i64 t1, .int .i64 t2, .int .i64 t3, .int .i64 t4, .int .i64 t5, .int .i64 t6, .int .i64 t7] 24) (bl_alloc (bl_refl _) (.cells #[.int .u8 k, .int .i64 st, .int .i64 N, .slice am m cm, .int .u8 ok, .slice ao n co] 29))
  have O0 := Blk.newAt (w := W.alloc (.cells #[.bool cyc, .int .i64 n1, .int .i64 n2, .int .i64 hd, .int .i64 oc, .int .i64 t0, .int .i64 t1, .int .i64 t2, .int .i64 t3, .int .i64 t4, .int .i64 t5, .int .i64 t6, .int .i64 t7] 24)) (n := W.heap.size + 1) (by simp) #[.int .u8 k, .int .i64 st, .int .i64 N, .slice am m cm, .int .u8 ok, .slice ao n co] 29
  change Code.wp _ _ _ _ ((W.alloc (.cells #[.bool cyc, .int .i64 n1, .int .i64 n2, .int .i64 hd, .int .i64 oc, .int .i64 t0, .int .i64 t1, .int .i64 t2, .int .i64 t3, .int .i64 t4, .int .i64 t5, .int .i64 t6, .int .i64 t7] 24)).alloc (.cells #[.int .u8 k, .int .i64 st, .int .i64 N, .slice am m cm, .int .u8 ok, .slice ao n co] 29))
  generalize ((W.alloc (.cells #[.bool cyc, .int .i64 n1, .int .i64 n2, .int .i64 hd, .int .i64 oc, .int .i64 t0, .int .i64 t1, .int .i64 t2, .int .i64 t3, .int .i64 t4, .int .i64 t5, .int .i64 t6, .int .i64 t7] 24)).alloc (.cells #[.int .u8 k, .int .i64 st, .int .i64 N, .slice am m cm, .int .u8 ok, .slice ao n co] 29)) = w1 at B0 K0 O0 ⊢
  obtain ⟨go, hgo⟩ : ∃ g, W.heap.size + 1 = g := ⟨_, rfl⟩
  obtain ⟨gs, hgs⟩ : ∃ g, W.heap.size = g := ⟨_, rfl⟩
  have HGS := Lib.hid hgs
  rw [hgo] at O0
  rw [hgs] at K0
  have hgne : gs ≠ go := by omega
  rw [hgo, hgs]
  clear hgo hgs
  have HK0 := Lib.hid K0
  have HO0 := Lib.hid O0
  by_cases hx : 50 < m
  · have hx' : (50 : Int) < m := by omega
    go_wp2_with (first
      | ((with_reducible refine (AW.out _).mono ?_); rintro e w2 ⟨rfl, b2⟩; have B2 := Lib.hid (bl_then B0.out b2); have o2c := (HO0.out.below b2).c; clear b2 K0 O0)
      | ((with_reducible refine (AW2.out _).mono ?_); rintro e w3 ⟨rfl, b3⟩; have B3 := Lib.hid (bl_then B2.out b3); clear b3))
    go_ret
    exact ⟨rfl, B3.out⟩
  have hx' : ¬ (50 : Int) < m := by omega
  by_cases hy : 50 < n
  · have hy' : (50 : Int) < n := by omega
    go_wp2_with (first
      | ((with_reducible refine (AW.out _).mono ?_); rintro e w2 ⟨rfl, b2⟩; have B2 := Lib.hid (bl_then B0.out b2); have o2c := (HO0.out.below b2).c; clear b2 K0 O0)
      | ((with_reducible refine (AW2.out _).mono ?_); rintro e w3 ⟨rfl, b3⟩; have B3 := Lib.hid (bl_then B2.out b3); clear b3))
    go_ret
    exact ⟨rfl, B3.out⟩
  have hy' : ¬ (50 : Int) < n := by omega
  go_upto_if 31 with (first
      | ((with_reducible refine (AW.out _).mono ?_); rintro e w2 ⟨rfl, b2⟩; have B2 := Lib.hid (bl_then B0.out b2); have o2c := (HO0.out.below b2).c; have K2 := Lib.hid (HK0.out.below b2); have O2 := Lib.hid (HO0.out.below b2); clear b2 K0 O0))
  clear o2c
  have HU := Lib.hid (fun w => Usual_c cyc w)
  go_cut [] (fun wx => ∃ s' : Su, s'.wf ∧ Blk wx gs s'.v.cells 24 ∧ Blk wx go #[.int .u8 k, .int .i64 st, .int .i64 N, .slice am m cm, .int .u8 ok, .slice ao n co] 29 ∧ Below W.heap.size W wx)
  case first =>
    cases near with
    | true =>
      have k2c := K2.out.c
      go_wp2_with (first
        | ((with_reducible refine (HU.out _).mono ?_); rintro e w3 ⟨rfl, b3⟩; have B3 := Lib.hid (bl_then B2.out b3); have K3 := Lib.hid (K2.out.below b3); have k3c := K3.out.c; have k3f := K3.out.f; have O3 := Lib.hid (O2.out.below b3); clear b3))
      go_meet
      case rel =>
        obtain ⟨S1, S2⟩ := store13 K3.out (.bool cyc) (.int .i64 8) (.int .i64 300) (.int .i64 16) (.int .i64 600) (.int .i64 600) (.int .i64 12000) (.int .i64 8000) (.int .i64 4000) (.int .i64 1200) (.int .i64 100) (.int .i64 4000) (.int .i64 6000)
        exact ⟨usualP cyc, usual_wf cyc, S1, O3.out.chg S2 (by simpa using Ne.symm hgne), B3.out.trans (S2.to_below B3.out.size (fun k hk => by
          obtain rfl : k = gs := by simpa using hk
          exact Nat.le_of_eq HGS.out))⟩
    | false =>
      go_wp2
      go_meet
      case rel => exact ⟨_, HW.out, K2.out, O2.out, B2.out⟩
  case rest =>
    obtain ⟨s', hw', K, O, B⟩ := hcut
    obtain ⟨f, hf⟩ : ∃ f, chkS s' = f := ⟨_, rfl⟩
    have HCK := Lib.hid (fun w => Check_c s' w)
    rw [hf] at HCK
    have HK := Lib.hid K
    have HO := Lib.hid O
    have HB := Lib.hid B
    have kc := K.c
    have NT := Lib.hid NPTick_c
    have NW := Lib.hid NWatch_c
    have ND := Lib.hid (fun w => NDo_c (.int .u8 k) (.int .i64 st) (.int .i64 N) (.slice am m cm) (.int .u8 ok) (.slice ao n co) w)
    have NP := Lib.hid (fun w => NPost_c sd w)
    have NWI := Lib.hid (fun w => NWire_c sd w)
    have NTI := Lib.hid NTime_c
    clear K O B HO0 HK0 HW hw' K2 O2
    by_cases h0 : f = 0
    · subst h0
      have HC0 : ∀ w, Calls Tryz.prog 17 #[s'.v] w fun e w' => e = .returned (.int .i64 0) ∧ Below w.heap.size w w' := fun w => (Check_c s' w).mono fun e w' ⟨he, hb⟩ => ⟨by rw [he, hf], hb⟩
      by_cases hdd : d < 0 ∨ 65536 < d
      · have HN := Lib.hid (fun w => PrNewD_c s' d hdd w HC0)
        clear HC0 hf
        obtain ⟨cyc, n1, n2, hd, oc, t0, t1, t2, t3, t4, t5, t6, t7⟩ := s'
        by_cases hd0 : d < 0
        · go_wp2_with (first
            | ((with_reducible refine (HN.out _).mono ?_); rintro e w3 ⟨rfl, b3⟩; have B3 := Lib.hid (bl_then HB.out b3); have K3 := Lib.hid (HK.out.below b3); have k3c := K3.out.c; have O3 := Lib.hid (HO.out.below b3); clear b3 kc)
            | ((with_reducible refine (HCK.out _).mono ?_); rintro e w4 ⟨rfl, b4⟩; have B4 := Lib.hid (bl_then B3.out b4); have o4c := (O3.out.below b4).c; clear b4 k3c)
            | ((with_reducible refine (NT.out _).mono ?_); rintro e w5 ⟨rfl, rfl⟩)
            | ((with_reducible refine (NW.out _).mono ?_); rintro e w5 ⟨rfl, rfl⟩)
            | ((with_reducible refine (ND.out _).mono ?_); rintro e w6 ⟨rfl, b6⟩; have B6 := Lib.hid (bl_then B4.out b6); clear b6)
            | ((with_reducible refine (NP.out _).mono ?_); rintro e w7 ⟨rfl, rfl⟩)
            | ((with_reducible refine (NWI.out _).mono ?_); rintro e w7 ⟨rfl, rfl⟩)
            | ((with_reducible refine (NTI.out _).mono ?_); rintro e w7 ⟨rfl, rfl⟩))
          go_ret
          exact ⟨rfl, B6.out⟩
        · have hd1 : 65536 < d := hdd.resolve_left hd0
          clear hdd
          go_wp2_with (first
            | ((with_reducible refine (HN.out _).mono ?_); rintro e w3 ⟨rfl, b3⟩; have B3 := Lib.hid (bl_then HB.out b3); have K3 := Lib.hid (HK.out.below b3); have k3c := K3.out.c; have O3 := Lib.hid (HO.out.below b3); clear b3 kc)
            | ((with_reducible refine (HCK.out _).mono ?_); rintro e w4 ⟨rfl, b4⟩; have B4 := Lib.hid (bl_then B3.out b4); have o4c := (O3.out.below b4).c; clear b4 k3c)
            | ((with_reducible refine (NT.out _).mono ?_); rintro e w5 ⟨rfl, rfl⟩)
            | ((with_reducible refine (NW.out _).mono ?_); rintro e w5 ⟨rfl, rfl⟩)
            | ((with_reducible refine (ND.out _).mono ?_); rintro e w6 ⟨rfl, b6⟩; have B6 := Lib.hid (bl_then B4.out b6); clear b6)
            | ((with_reducible refine (NP.out _).mono ?_); rintro e w7 ⟨rfl, rfl⟩)
            | ((with_reducible refine (NWI.out _).mono ?_); rintro e w7 ⟨rfl, rfl⟩)
            | ((with_reducible refine (NTI.out _).mono ?_); rintro e w7 ⟨rfl, rfl⟩))
          go_ret
          exact ⟨rfl, B6.out⟩
      · obtain ⟨dn, rfl⟩ : ∃ dn : Nat, d = dn := ⟨d.toNat, by omega⟩
        have hd6 : dn ≤ 65536 := by omega
        have HN := Lib.hid (fun w => PrNew_c s' dn hd6 w HC0)
        have HWL := Lib.hid (show ((Pr.new s' dn).w0.l.length : Int) = dn from by simp [Pr.new, Wi.new])
        have q0 : ¬ ((dn : Int) < 0) := by omega
        have q1 : ¬ (65536 < (dn : Int)) := by omega
        obtain ⟨x, hx0⟩ : ∃ x, Pr.new s' dn = x := ⟨_, rfl⟩
        rw [hx0] at HN HWL
        clear HC0 hf hdd hx0
        obtain ⟨cyc, n1, n2, hd, oc, t0, t1, t2, t3, t4, t5, t6, t7⟩ := s'
        go_upto_region 9 with (first
          | ((with_reducible refine (HN.out _).mono ?_); rintro e w3 ⟨b, rfl, L, P3, b3, _⟩; have B3 := Lib.hid (bl_then HB.out b3); have K3 := Lib.hid (HK.out.below b3); have k3c := K3.out.c; have O3 := Lib.hid (HO.out.below b3); have HP3 := Lib.hid P3; clear b3 kc P3)
          | ((with_reducible refine (HCK.out _).mono ?_); rintro e w4 ⟨rfl, b4⟩; have B4 := Lib.hid (bl_then B3.out b4); have o4c := (O3.out.below b4).c; have P4 := Lib.hid (HP3.out.below b4); clear b4 k3c))
        have HP0 := Lib.hid (PrPost0_c P4.out)
        have HP1 := Lib.hid (PrPost1_c P4.out)
        have HW0 := Lib.hid (PrWire0_c P4.out)
        have HW1 := Lib.hid (PrWire1_c P4.out)
        have HDL := WDelay_c P4.out.w0
        rw [HWL.out] at HDL
        have HDL := Lib.hid HDL
        by_cases e0 : sd = 0
        · subst e0
          go_wp2_with (first
            | ((with_reducible refine HP0.out.mono ?_); rintro e w9 ⟨rfl, rfl⟩)
            | ((with_reducible refine HDL.out.mono ?_); rintro e w9 ⟨rfl, rfl⟩)
            | ((with_reducible refine HW0.out.mono ?_); rintro e w9 ⟨rfl, rfl⟩)
            | ((with_reducible refine (NT.out _).mono ?_); rintro e w5 ⟨rfl, rfl⟩)
            | ((with_reducible refine (NW.out _).mono ?_); rintro e w5 ⟨rfl, rfl⟩)
            | ((with_reducible refine (ND.out _).mono ?_); rintro e w6 ⟨rfl, b6⟩; have B6 := Lib.hid (bl_then B4.out b6); clear b6)
            | ((with_reducible refine (NP.out _).mono ?_); rintro e w7 ⟨rfl, rfl⟩)
            | ((with_reducible refine (NWI.out _).mono ?_); rintro e w7 ⟨rfl, rfl⟩)
            | ((with_reducible refine (NTI.out _).mono ?_); rintro e w7 ⟨rfl, rfl⟩))
          go_ret
          exact ⟨rfl, B6.out⟩
        by_cases e1 : sd = 1
        · subst e1
          go_wp2_with (first
            | ((with_reducible refine HP1.out.mono ?_); rintro e w9 ⟨rfl, rfl⟩)
            | ((with_reducible refine HW1.out.mono ?_); rintro e w9 ⟨rfl, rfl⟩)
            | ((with_reducible refine HDL.out.mono ?_); rintro e w9 ⟨rfl, rfl⟩)
            | ((with_reducible refine HW0.out.mono ?_); rintro e w9 ⟨rfl, rfl⟩)
            | ((with_reducible refine (NT.out _).mono ?_); rintro e w5 ⟨rfl, rfl⟩)
            | ((with_reducible refine (NW.out _).mono ?_); rintro e w5 ⟨rfl, rfl⟩)
            | ((with_reducible refine (ND.out _).mono ?_); rintro e w6 ⟨rfl, b6⟩; have B6 := Lib.hid (bl_then B4.out b6); clear b6)
            | ((with_reducible refine (NP.out _).mono ?_); rintro e w7 ⟨rfl, rfl⟩)
            | ((with_reducible refine (NWI.out _).mono ?_); rintro e w7 ⟨rfl, rfl⟩)
            | ((with_reducible refine (NTI.out _).mono ?_); rintro e w7 ⟨rfl, rfl⟩))
          go_ret
          exact ⟨rfl, B6.out⟩
        have PN := Lib.hid (PrPostN_c b sd e0 e1 w4)
        have WN := Lib.hid (PrWireN_c b sd e0 e1 w4)
        have e0' : (sd == 0) = false := beq_eq_false_iff_ne.2 e0
        have e1' : (sd == 1) = false := beq_eq_false_iff_ne.2 e1
        go_wp2_with (first
          | ((with_reducible refine PN.out.mono ?_); rintro e w9 ⟨rfl, rfl⟩)
          | ((with_reducible refine WN.out.mono ?_); rintro e w9 ⟨rfl, rfl⟩)
          | ((with_reducible refine HDL.out.mono ?_); rintro e w9 ⟨rfl, rfl⟩)
          | ((with_reducible refine HW0.out.mono ?_); rintro e w9 ⟨rfl, rfl⟩)
          | ((with_reducible refine (NT.out _).mono ?_); rintro e w5 ⟨rfl, rfl⟩)
          | ((with_reducible refine (NW.out _).mono ?_); rintro e w5 ⟨rfl, rfl⟩)
          | ((with_reducible refine (ND.out _).mono ?_); rintro e w6 ⟨rfl, b6⟩; have B6 := Lib.hid (bl_then B4.out b6); clear b6)
          | ((with_reducible refine (NP.out _).mono ?_); rintro e w7 ⟨rfl, rfl⟩)
          | ((with_reducible refine (NWI.out _).mono ?_); rintro e w7 ⟨rfl, rfl⟩)
          | ((with_reducible refine (NTI.out _).mono ?_); rintro e w7 ⟨rfl, rfl⟩))
        go_ret
        exact ⟨rfl, B6.out⟩
    · have HN := Lib.hid (fun w => PrNewE_c s' d w hf h0)
      have k0 : (f == 0) = false := beq_eq_false_iff_ne.2 h0
      clear hf h0
      obtain ⟨cyc, n1, n2, hd, oc, t0, t1, t2, t3, t4, t5, t6, t7⟩ := s'
      go_wp2_with (first
        | ((with_reducible refine (HN.out _).mono ?_); rintro e w3 ⟨rfl, b3⟩; have B3 := Lib.hid (bl_then HB.out b3); have K3 := Lib.hid (HK.out.below b3); have k3c := K3.out.c; have O3 := Lib.hid (HO.out.below b3); clear b3 kc)
        | ((with_reducible refine (HCK.out _).mono ?_); rintro e w4 ⟨rfl, b4⟩; have B4 := Lib.hid (bl_then B3.out b4); have o4c := (O3.out.below b4).c; clear b4 k3c)
        | ((with_reducible refine (NT.out _).mono ?_); rintro e w5 ⟨rfl, rfl⟩)
        | ((with_reducible refine (NW.out _).mono ?_); rintro e w5 ⟨rfl, rfl⟩)
        | ((with_reducible refine (ND.out _).mono ?_); rintro e w6 ⟨rfl, b6⟩; have B6 := Lib.hid (bl_then B4.out b6); clear b6)
        | ((with_reducible refine (NP.out _).mono ?_); rintro e w7 ⟨rfl, rfl⟩)
        | ((with_reducible refine (NWI.out _).mono ?_); rintro e w7 ⟨rfl, rfl⟩)
        | ((with_reducible refine (NTI.out _).mono ?_); rintro e w7 ⟨rfl, rfl⟩))
      go_ret
      exact ⟨rfl, B6.out⟩
end Go.Proofs.YtcllbmjmefeknaaGreatK
