/- StateSends: which units go in which state. -/
import Derived.Test.YtdffinnnjcgfcaaGreatRob
import Derived.Test.YtdffinnnjcgfcaaGreatLac
namespace Go.Proofs.YtdffinnnjcgfcaaGreatK
open Go Go.RowKit
set_option linter.unusedVariables false
set_option maxHeartbeats 1000000
set_option maxRecDepth 100000
theorem stateSends_long (a0 : Bool) (v : Value) (n : Nat) (C : Nat → Ac) (I : Nat → Value) (w : World) (hv : ActsV w v n C I) (hn : 120 < n) :
    Calls Tryz.prog 11 #[.bool a0, v] w fun e w' => e = .returned (.bool true) ∧ Below w.heap.size w w' := by
  obtain ⟨a, cap, rfl, hcap, hl, _⟩ := hv.open
  unfold maxLen at hl
  have HA := Lib.hid awake_c
  clear hv
  go_enter Tryz.func11, Tryz.ntmps11
  go_wp2_with (first
    | ((with_reducible refine (HA.out w).mono ?_); rintro e w1 ⟨rfl, hb1⟩)
    | ((with_reducible refine (HA.out w1).mono ?_); rintro e w2 ⟨rfl, hb2⟩))
  go_ret
  exact ⟨rfl, bl_then hb1 hb2⟩
theorem stateSends_walk (a0 : Bool) (v : Value) (n : Nat) (C : Nat → Ac) (I : Nat → Value) (w : World) (hv : ActsV w v n C I) :
    Calls Tryz.prog 11 #[.bool a0, v] w fun e w' => e = .returned (.bool true) ∧ Below w.heap.size w w' := by
  by_cases hn : 120 < n
  · exact stateSends_long a0 v n C I w hv hn
  obtain ⟨a, cap, rfl, hcap, _, ho⟩ := hv.open
  have hn' : (n : Int) ≤ 120 := by omega
  have HO := Lib.hid ho
  have HA := Lib.hid awake_c
  have HQ := Lib.hid (fun w => quick_c a0 w)
  clear ho hv
  go_enter Tryz.func11, Tryz.ntmps11
  go_wp2_with (first
    | ((with_reducible refine (HA.out _).mono ?_); rintro e w1 ⟨rfl, hb1⟩)
    | ((with_reducible refine (HQ.out _).mono ?_); rintro e w2 ⟨rfl, hb2⟩)
    | ((with_reducible refine (NewL_c a0 _).mono ?_); rintro e w3 ⟨b, rfl, V0⟩; have V := Lib.hid (V0.base (bl_then hb1 hb2)); clear V0))
  go_loopw [6] (fun i wr => ∃ k : Nat, k ≤ n ∧ i = .int .i64 k ∧ ∃ x, Iv 16 600 x ∧ Lk w wr b x (200 * k)) (fun i _ => n - (intOf i).toNat)
  case atStart => exact ⟨0, by omega, rfl, _, Iv.born a0, V.out.to rfl (by omega)⟩
  case round =>
    obtain ⟨k, hkk, rfl, x, E9, V9⟩ := hrel
    have E := Lib.hid E9
    have V := Lib.hid V9
    clear V9 E9
    by_cases hlt : k < n
    · have hlt' : (k : Int) < n := by omega
      rcases HO.out with h0 | ⟨bs, off, rfl, hA⟩
      · omega
      obtain ⟨⟨hk, ha, hu, hi⟩, hcell⟩ := hA k hlt
      generalize C k = c at hk ha hu hi hcell
      generalize I k = vi at hi hcell
      obtain ⟨ai, ci, rfl, _⟩ := hi.shape
      have hc2 := hcell.below V.out.v.bel
      have il := hu.info
      unfold maxLen at il
      have HC := Lib.hid hc2
      have hi27 := hc2.d9
      have HCO := Lib.hid (fun (h : c.u.info.length ≤ 50) => (⟨hk, ha, hu.ok (by omega)⟩ : c.ok))
      have HI := Lib.hid hi
      clear hcell hA hc2 hk ha hu hi
      by_cases h50 : 50 < c.u.info.length
      · have h50' : (50 : Int) < c.u.info.length := by omega
        go_wp2
        go_ret
        exact ⟨rfl, V.out.v.bel⟩
      have h50' : (c.u.info.length : Int) ≤ 50 := by omega
      have DO := Lib.hid (do_c V.out (by omega) (by omega) (HCO.out (by omega)) HI.out)
      go_upto_region 9 with fail
      clear hi27
      obtain ⟨hv0, hv1, hv2, hv3, hv4, hv5, hv6, hv7, hv8, hv9, _⟩ := HC.out
      go_upto_region 10 with (first
        | ((with_reducible refine DO.out.mono ?_); rintro e w4 ⟨rfl, V1⟩; have Va := Lib.hid V1; clear V1))
      clear hv0 hv1 hv2 hv3 hv4 hv5 hv6 hv7 hv8 hv9
      obtain ⟨y, hy⟩ : ∃ y, x.act c = y := ⟨_, rfl⟩
      have Ey := Lib.hid (hy ▸ E.out.act c)
      have Vy := Lib.hid (hy ▸ Va.out)
      have SY := Lib.hid Ey.out.snd
      have OKY := Vy.out.k.S
      obtain ⟨z, hz⟩ : ∃ z, y.next.1 = z := ⟨_, rfl⟩
      have Ez := Lib.hid (hz ▸ Ey.out.next)
      obtain ⟨u, hu⟩ : ∃ u, y.next.2 = u := ⟨_, rfl⟩
      have same := SY.out.same
      have s0 := SY.out.s0
      have s1 := SY.out.s1
      have s2 := SY.out.s2
      have s3 := SY.out.s3
      have s4 := SY.out.s4
      have s5 := SY.out.s5
      rw [hz] at same
      rw [hu] at s0 s1 s2 s3 s4 s5
      have HN := Lib.hid (show Calls Tryz.prog 27 #[.pointer (some ⟨b, 0, none⟩)] w4 fun e w' => ∃ vi, e = .returned (u.v vi) ∧ BytV w' vi u.info ∧ Lk w w' b z (200 * k + 200) ∧ Kp w4 w' from by rw [← hz, ← hu]; exact Vy.out.next)
      obtain ⟨S, hS⟩ : ∃ S, y.S = S := ⟨_, rfl⟩
      rw [hS] at s0 s1 s2 s3 s4 s5 same OKY
      obtain ⟨own, hown⟩ : ∃ own, y.o.own = own := ⟨_, rfl⟩
      rw [hown] at s4 s5
      obtain ⟨jo, hjo⟩ : ∃ jo, y.j.own = jo := ⟨_, rfl⟩
      rw [hjo] at s4 same
      have ZS := Lib.hid same.1
      have ZO := Lib.hid (show z.o.own = own from by rw [same.2.1, hown])
      have ZJ := Lib.hid same.2.2
      have S0 := Lib.hid s0
      have S1 := Lib.hid s1
      have S2 := Lib.hid s2
      have S3 := Lib.hid s3
      have S4 := Lib.hid s4
      have S5 := Lib.hid s5
      clear same s0 s1 s2 s3 s4 s5 hS hown hjo hu hz hy Vy Ey SY Va E V
      obtain ⟨bsn, fsn, bib, fib, kind, status, wide, info⟩ := u
      dsimp only at S0 S1 S2 S3 S4 S5
      go_upto_region 11 with (first
        | ((with_reducible refine HN.out.mono ?_); rintro e w5 ⟨vi, he, B1, V1, K1⟩; (obtain ⟨a5, c5, rfl, _⟩ := B1.1.shape); subst he; have Vb := Lib.hid V1; clear V1 K1 B1))
      obtain ⟨L, SA⟩ := Vb.out.st
      have cS := Vb.out.S
      rw [ZS.out] at cS
      have cO := Vb.out.v.own
      rw [ZO.out] at cO
      have l5 := Vb.out.lt
      have n5 : b ≠ w5.heap.size := Nat.ne_of_lt l5
      have cJ : w5.cell? ⟨b, 16, none⟩ = some (.pointer (some ⟨L.bj, 0, none⟩)) := by rw [SA.st.c]; rfl
      have lJ := SA.jm.lt
      have nJ : L.bj ≠ w5.heap.size := Nat.ne_of_lt lJ
      have jO : w5.cell? ⟨L.bj, 14, none⟩ = some (.bool jo) := by rw [SA.jm.c, ← ZJ.out]; rfl
      have cases6 : S = 0 ∨ S = 1 ∨ S = 2 ∨ S = 3 ∨ S = 4 ∨ S = 5 := by omega
      have Vc := Lib.hid (Vb.out.below (bl_alloc (bl_refl w5) (.cells #[.int .u8 bsn, .int .u8 fsn, .bool bib, .bool fib, .int .u8 kind, .int .u8 status, .bool wide, .slice a5 info.length c5] 31)))
      clear ZS ZO ZJ OKY SA HN
      rcases cases6 with rfl | rfl | rfl | rfl | rfl | rfl
      · obtain ⟨rfl, rfl⟩ := S0.out rfl
        cases own
        all_goals
          go_wp2
          go_roundw
          case rel => exact ⟨k + 1, by omega, by go_num, z, Ez.out, Vc.out.to rfl (by omega)⟩
          case measure => simp [intOf]; omega
      · obtain ⟨rfl, hst⟩ := S1.out rfl
        cases own
        all_goals
          go_wp2
          go_roundw
          case rel => exact ⟨k + 1, by omega, by go_num, z, Ez.out, Vc.out.to rfl (by omega)⟩
          case measure => simp [intOf]; omega
      · obtain rfl := S2.out rfl
        cases own
        all_goals
          go_wp2
          go_roundw
          case rel => exact ⟨k + 1, by omega, by go_num, z, Ez.out, Vc.out.to rfl (by omega)⟩
          case measure => simp [intOf]; omega
      · obtain ⟨rfl, rfl⟩ := S3.out rfl
        cases own
        all_goals
          go_wp2
          go_roundw
          case rel => exact ⟨k + 1, by omega, by go_num, z, Ez.out, Vc.out.to rfl (by omega)⟩
          case measure => simp [intOf]; omega
      · obtain ⟨h4, rfl⟩ := S4.out rfl
        by_cases k1 : kind = 1
        · rcases h4 with h4 | ⟨rfl, rfl⟩
          · exact absurd k1 h4
          subst k1
          go_wp2
          go_roundw
          case rel => exact ⟨k + 1, by omega, by go_num, z, Ez.out, Vc.out.to rfl (by omega)⟩
          case measure => simp [intOf]; omega
        · clear h4
          go_wp2
          go_roundw
          case rel => exact ⟨k + 1, by omega, by go_num, z, Ez.out, Vc.out.to rfl (by omega)⟩
          case measure => simp [intOf]; omega
      · have h5 := S5.out rfl
        cases own
        · simp only [Bool.false_eq_true, if_false] at h5
          subst h5
          go_wp2
          go_roundw
          case rel => exact ⟨k + 1, by omega, by go_num, z, Ez.out, Vc.out.to rfl (by omega)⟩
          case measure => simp [intOf]; omega
        · simp only [if_true] at h5
          obtain ⟨rfl, rfl⟩ := h5
          go_wp2
          go_roundw
          case rel => exact ⟨k + 1, by omega, by go_num, z, Ez.out, Vc.out.to rfl (by omega)⟩
          case measure => simp [intOf]; omega
    · obtain rfl : k = n := by omega
      go_wp2
      go_ret
      exact ⟨rfl, V.out.v.bel⟩
end Go.Proofs.YtdffinnnjcgfcaaGreatK
