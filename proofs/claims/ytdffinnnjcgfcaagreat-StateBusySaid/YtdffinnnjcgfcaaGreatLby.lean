/- StateBusy: the other side that is busy, and says so, is waited for, but not for longer than T6. -/
import Derived.Test.YtdffinnnjcgfcaaGreatLab
import Derived.Test.YtdffinnnjcgfcaaGreatLbf
namespace Go.Proofs.YtdffinnnjcgfcaaGreatK
open Go Go.RowKit
set_option linter.unusedVariables false
set_option maxHeartbeats 2000000
set_option maxRecDepth 100000
theorem ToldV.pair {w : World} {v : Value} {t u : To} (h : ToldV w v [t, u]) : ∃ bl off cap, v = .slice (some ⟨bl, off, none⟩) 2 cap ∧ w.cell? ⟨bl, off, none⟩ = some (.int .u8 t.kind) ∧ w.cell? ⟨bl, off + 1, none⟩ = some (.int .u8 t.why) ∧ w.cell? ⟨bl, off + 3, none⟩ = some (.int .u8 u.kind) ∧ w.cell? ⟨bl, off + 3 + 1, none⟩ = some (.int .u8 u.why) := by
  obtain ⟨bl, off, cap, rfl, t0, t1, _⟩ := h.2 0 _ rfl
  obtain ⟨bl', off', cap', e', t2, t3, _⟩ := h.2 1 _ rfl
  simp only [Value.slice.injEq, Option.some.injEq, Addr.mk.injEq, and_true, true_and] at e'
  obtain ⟨⟨rfl, rfl⟩, rfl⟩ := e'
  exact ⟨bl, off, cap, rfl, t0, t1, t2, t3⟩
/-- What the link is ahead of a turn. -/
def BusyAt (c : Bool) (k n i : Nat) (x : St) : Prop := (i ≤ n ∧ i ≤ 30 ∧ x = busyR c k i) ∨ (n < i ∧ n < 30 ∧ x = ((busyR c k n).hear (unB 0)).tick)
theorem stateBusy_walk (a0 : Bool) (a1 a2 : Int) (w : World) (p1 : 0 ≤ a1) (q1 : a1 ≤ 255) (p2 : 0 ≤ a2) (q2 : a2 ≤ 255) :
    Calls Tryz.prog 4 #[.bool a0, .int .u8 a1, .int .u8 a2] w fun e w' => e = .returned (.bool true) ∧ Below w.heap.size w w' := by
  obtain ⟨nk, hnk⟩ : ∃ nk : Nat, a1 % 20 + 1 = nk := ⟨(a1 % 20 + 1).toNat, by omega⟩
  obtain ⟨nt, hnt⟩ : ∃ nt : Nat, a2 % 60 = nt := ⟨(a2 % 60).toNat, by omega⟩
  have hnk' : 1 + a1 % 20 = nk := by omega
  have hk0 : 0 < nk := by omega
  have hk20 : nk ≤ 20 := by omega
  have ht : nt < 60 := by omega
  have hnk0 : (1 : Int) ≤ nk := by omega
  have hnk20 : (nk : Int) ≤ 20 := by omega
  have HA := Lib.hid awake_c
  have HS := Lib.hid (serving_c a0)
  have HL := Lib.hid link_c
  have HFL := Lib.hid fill_c
  have o5 := Lib.hid (Un.ok_lk (i := 5) (by decide) (by decide))
  have ou : (unB 0).ok := ⟨by simp, by simp, by simp, by simp, by simp⟩
  have OU := Lib.hid ou
  have HY0 := Lib.hid (show ((served a0).order 5 [97, 98, 99]).1.next.1 = busy0 a0 from rfl)
  clear ou
  go_enter Tryz.func4, Tryz.ntmps4
  go_wp2_with (first
    | ((with_reducible refine (HA.out _).mono ?_); rintro e w1 ⟨rfl, hb1⟩)
    | ((with_reducible refine (HS.out _).mono ?_); rintro e w2 ⟨b, rfl, V0⟩; have V := Lib.hid ((V0.base hb1).below (bl_alloc (bl_refl w2) abc)); have hcv := conv_abc w2 w2.heap.size rfl; have HT := Lib.hid (V.out.orderB (by omega) 5 (byt_abc (w := w2) rfl rfl) (by simp)); clear V0)
    | ((with_reducible refine HT.out.mono ?_); rintro e w4 ⟨rfl, V1, K1⟩; have V4 := Lib.hid V1; clear V1 K1)
    | ((with_reducible refine V4.out.next.mono ?_); rintro e w5 ⟨vi, he, B1, V1, K1⟩; (obtain ⟨ai, ci, rfl, _⟩ := B1.1.shape); (rw [HY0.out] at V1); subst he; have V5 := Lib.hid V1; clear V1 K1 B1))
  clear hcv HT V4
  obtain ⟨tI, hti⟩ : ∃ tI : Int, (nt : Int) = tI := ⟨_, rfl⟩
  simp only [hnt, hti]
  clear hnt hnk hnk'
  go_loopw [11] (fun i wr => ∃ k : Nat, k ≤ 60 ∧ i = .int .i64 k ∧ ∃ x, BusyAt a0 nk nt k x ∧ Lk w wr b x (300 + 20 * k)) (fun i _ => 60 - (intOf i).toNat)
  case atStart => exact ⟨0, by omega, rfl, _, .inl ⟨by omega, by omega, rfl⟩, V5.out.v, V5.out.k, V5.out.f.le (by omega)⟩
  case round =>
    obtain ⟨k, hk, rfl, x, X9, V9⟩ := hrel
    have V := Lib.hid V9
    have cS := V9.S
    clear V9
    have hcm : (k : Int) % (nk : Int) = ((k % nk : Nat) : Int) := by push_cast; rfl
    obtain ⟨hz, HZ⟩ : ∃ z : Bool, Hid (((k : Int) % (nk : Int) == 0) = z ∧ (z = true ↔ k % nk = 0)) := ⟨_, ⟨rfl, by rw [beq_iff_eq, hcm]; omega⟩⟩
    clear hcm
    rcases X9 with ⟨h1, h2, rfl⟩ | ⟨h1, h2, rfl⟩
    · by_cases h30 : k < 30
      · have hlt' : (k : Int) < 60 := by omega
        have F := busy_at a0 hk0 hk20 h30
        rw [F.1] at cS
        have HF := Lib.hid F
        clear F
        by_cases hkn : k = nt
        · have e0 : ((k : Int) == tI) = true := beq_iff_eq.2 (by omega)
          have kk : ¬ (k : Int) < tI := by omega
          have kk' : tI ≤ k := by omega
          have NX := Lib.hid (show BusyAt a0 nk nt (k + 1) ((busyR a0 nk k).hear (unB 0)).tick from .inr ⟨by omega, by omega, by rw [hkn]⟩)
          clear hkn
          have hz1 := HZ.out.1
          clear HZ HF
          cases hz
          all_goals
            go_wp2_with (first
              | ((with_reducible refine (HFL.out _).mono ?_); rintro e w6 ⟨rfl, hb6⟩; (have Va := Lib.hid ((V.out.below hb6).below (bl_alloc (bl_refl w6) (.cells #[.int .u8 0, .int .u8 127, .bool true, .bool true, .int .u8 0, .int .u8 0, .bool false, nil0] 31)))); (have HT := Lib.hid (Va.out.hear0 (unB 0) (by omega) OU.out rfl)))
              | ((with_reducible refine HT.out.mono ?_); rintro e w7 ⟨rfl, V1, _⟩; have Vb := Lib.hid V1; clear V1)
              | ((with_reducible refine (Vb.out.tick (by omega)).mono ?_); rintro e w8 ⟨rfl, V1, _⟩; have Vc := Lib.hid V1; clear V1))
            go_roundw
            case rel => exact ⟨k + 1, by omega, by go_num, _, NX.out, Vc.out.v, Vc.out.k, Vc.out.f.le (by omega)⟩
            case measure => simp [intOf]; omega
        · have kn : ((k : Int) == tI) = false := beq_eq_false_iff_ne.2 (by omega)
          have kl : (k : Int) < tI := by omega
          have hz1 := HZ.out.1
          cases hz
          · have NX := Lib.hid (show BusyAt a0 nk nt (k + 1) (busyR a0 nk k).tick from .inl ⟨by omega, by omega, by show _ = (if k % nk = 0 then _ else _); rw [if_neg (fun e => absurd (HZ.out.2.2 e) (by decide))]⟩)
            clear HZ HF
            go_wp2_with (first
              | ((with_reducible refine (V.out.tick (by omega)).mono ?_); rintro e w8 ⟨rfl, V1, _⟩; have Vc := Lib.hid V1; clear V1))
            go_roundw
            case rel => exact ⟨k + 1, by omega, by go_num, _, NX.out, Vc.out.v, Vc.out.k, Vc.out.f.le (by omega)⟩
            case measure => simp [intOf]; omega
          · have NX := Lib.hid (show BusyAt a0 nk nt (k + 1) ((busyR a0 nk k).hear (lk 5)).tick from .inl ⟨by omega, by omega, by show _ = (if k % nk = 0 then _ else _); rw [if_pos (HZ.out.2.1 rfl)]⟩)
            clear HZ HF
            go_wp2_with (first
              | ((with_reducible refine (HL.out 5 _).mono ?_); rintro e w6 ⟨rfl, hb6⟩; (have Va := Lib.hid (V.out.below hb6)); (have HT := Lib.hid (Va.out.hear0 (lk 5) (by omega) o5.out rfl)))
              | ((with_reducible refine HT.out.mono ?_); rintro e w7 ⟨rfl, V1, _⟩; have Vb := Lib.hid V1; clear V1)
              | ((with_reducible refine (Vb.out.tick (by omega)).mono ?_); rintro e w8 ⟨rfl, V1, _⟩; have Vc := Lib.hid V1; clear V1))
            go_roundw
            case rel => exact ⟨k + 1, by omega, by go_num, _, NX.out, Vc.out.v, Vc.out.k, Vc.out.f.le (by omega)⟩
            case measure => simp [intOf]; omega
      · -- it has waited too long
        obtain rfl : k = 30 := by omega
        have F := busy_last a0 hk0 hk20
        rw [F.1] at cS
        have FT := Lib.hid F.2
        have FS := Lib.hid F.1
        have n30 : (30 : Int) ≤ tI := by omega
        have n30' : ¬ tI < 30 := by omega
        have n0 : (tI == 0) = false := beq_eq_false_iff_ne.2 (by omega)
        clear F HZ
        generalize busyR a0 nk 30 = x at V FT FS cS
        go_wp2_with (first
          | ((with_reducible refine V.out.told.mono ?_); rintro e w6 ⟨vt, rfl, K2, V1, _⟩; (have c6 := V1.S); dsimp only at c6; (rw [FS.out] at c6); (rw [FT.out] at K2); (obtain ⟨bl, off, cap, rfl, t0, t1, t2, t3⟩ := K2.pair); have Ve := Lib.hid V1; clear V1 K2))
        go_loop [10, 14] (fun p q => (p = .int .i64 0 ∧ q = .int .i64 0) ∨ (p = .int .i64 1 ∧ q = .int .i64 1) ∨ (p = .int .i64 1 ∧ q = .int .i64 2)) (fun _ q => 2 - (intOf q).toNat)
        case atStart => exact .inl ⟨rfl, rfl⟩
        case round =>
          rcases hrel with ⟨rfl, rfl⟩ | ⟨rfl, rfl⟩ | ⟨rfl, rfl⟩
          · go_wp2
            go_round
            case rel => exact .inr (.inl ⟨rfl, rfl⟩)
            case measure => simp [intOf]
          · go_wp2
            go_round
            case rel => exact .inr (.inr ⟨rfl, rfl⟩)
            case measure => simp [intOf]
          · go_upto_if 94 with fail
            rw [decide_eq_false (show ¬ tI < 30 by omega)]
            go_wp2
            go_ret
            exact ⟨rfl, Ve.out.v.bel⟩
    · have F := busy_at a0 hk0 hk20 h2
      rw [F.2.1] at cS
      have FS := Lib.hid F.2.1
      have FT := Lib.hid F.2.2.1
      have FX := Lib.hid F.2.2.2
      clear F
      generalize hz9 : ((busyR a0 nk nt).hear (unB 0)).tick = z at V FS FT FX cS
      by_cases hlt : k < 60
      · have hlt' : (k : Int) < 60 := by omega
        have kn : ((k : Int) == tI) = false := beq_eq_false_iff_ne.2 (by omega)
        have kl : ¬ (k : Int) < tI := by omega
        have kl' : tI ≤ k := by omega
        have NX := Lib.hid (show BusyAt a0 nk nt (k + 1) z from .inr ⟨by omega, h2, hz9.symm⟩)
        have hz1 := HZ.out.1
        clear HZ hz9
        cases hz
        all_goals
          go_wp2_with (first
            | ((with_reducible refine (V.out.tick (by omega)).mono ?_); rintro e w8 ⟨rfl, V1, _⟩; (rw [FX.out] at V1); have Vc := Lib.hid V1; clear V1))
          go_roundw
          case rel => exact ⟨k + 1, by omega, by go_num, _, NX.out, Vc.out.v, Vc.out.k, Vc.out.f.le (by omega)⟩
          case measure => simp [intOf]; omega
      · have kk : ¬ (k : Int) < 60 := by omega
        have kk' : (60 : Int) ≤ k := by omega
        clear HZ hz9
        by_cases n0 : nt = 0
        · have FT := Lib.hid (show z.told = [] from by rw [FT.out, if_pos n0])
          obtain rfl : tI = 0 := by omega
          go_wp2_with (first
            | ((with_reducible refine V.out.told.mono ?_); rintro e w6 ⟨vt, rfl, K2, V1, _⟩; (have c6 := V1.S); dsimp only at c6; (rw [FS.out] at c6); (rw [FT.out] at K2); (obtain ⟨a6, c6', rfl⟩ := K2.nil); have Ve := Lib.hid V1; clear V1 K2))
          go_loop [10, 14] (fun p q => p = .int .i64 0 ∧ q = .int .i64 0) (fun _ _ => 0)
          case atStart => exact ⟨rfl, rfl⟩
          case round =>
            obtain ⟨rfl, rfl⟩ := hrel
            go_wp2
            go_ret
            exact ⟨rfl, Ve.out.v.bel⟩
        · have FT := Lib.hid (show z.told = [⟨6, 0, []⟩, ⟨7, 0, []⟩] from by rw [FT.out, if_neg n0])
          have n0' : (tI == 0) = false := beq_eq_false_iff_ne.2 (by omega)
          have n30 : tI < 30 := by omega
          go_wp2_with (first
            | ((with_reducible refine V.out.told.mono ?_); rintro e w6 ⟨vt, rfl, K2, V1, _⟩; (have c6 := V1.S); dsimp only at c6; (rw [FS.out] at c6); (rw [FT.out] at K2); (obtain ⟨bl, off, cap, rfl, t0, t1, t2, t3⟩ := K2.pair); have Ve := Lib.hid V1; clear V1 K2))
          go_loop [10, 14] (fun p q => (p = .int .i64 0 ∧ q = .int .i64 0) ∨ (p = .int .i64 1 ∧ q = .int .i64 1) ∨ (p = .int .i64 1 ∧ q = .int .i64 2)) (fun _ q => 2 - (intOf q).toNat)
          case atStart => exact .inl ⟨rfl, rfl⟩
          case round =>
            rcases hrel with ⟨rfl, rfl⟩ | ⟨rfl, rfl⟩ | ⟨rfl, rfl⟩
            · go_wp2
              go_round
              case rel => exact .inr (.inl ⟨rfl, rfl⟩)
              case measure => simp [intOf]
            · go_wp2
              go_round
              case rel => exact .inr (.inr ⟨rfl, rfl⟩)
              case measure => simp [intOf]
            · go_wp2
              go_ret
              exact ⟨rfl, Ve.out.v.bel⟩
end Go.Proofs.YtdffinnnjcgfcaaGreatK
