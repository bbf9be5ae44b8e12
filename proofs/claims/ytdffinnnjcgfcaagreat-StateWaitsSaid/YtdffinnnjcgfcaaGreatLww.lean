/- StateWaits: a message that isn't answered within T7 ends a link; one that is doesn't. -/
import Derived.Test.YtdffinnnjcgfcaaGreatLw2
import Derived.Test.YtdffinnnjcgfcaaGreatLwf
namespace Go.Proofs.YtdffinnnjcgfcaaGreatK
open Go Go.RowKit
set_option linter.unusedVariables false
set_option maxHeartbeats 1000000
set_option maxRecDepth 100000
theorem stateWaits_walk (a0 : Bool) (a1 : Int) (a2 : Bool) (a3 : Int) (w : World) (p1 : 0 ≤ a1) (q1 : a1 ≤ 255) (p3 : 0 ≤ a3) (q3 : a3 ≤ 255) :
    Calls Tryz.prog 3 #[.bool a0, .int .u8 a1, .bool a2, .int .u8 a3] w fun e w' => e = .returned (.bool true) ∧ Below w.heap.size w w' := by
  obtain ⟨nk, hnk⟩ : ∃ nk : Nat, a1 % 5 + 1 = nk := ⟨(a1 % 5 + 1).toNat, by omega⟩
  have hnk' : 1 + a1 % 5 = nk := by omega
  obtain ⟨nt, hnt⟩ : ∃ nt : Nat, a3 % 25 = nt := ⟨(a3 % 25).toNat, by omega⟩
  have hk : nk < 6 := by omega
  have hk0 : nk ≠ 0 := by omega
  have ht : nt < 25 := by omega
  have HA := Lib.hid awake_c
  have HS := Lib.hid (serving_c a0)
  have HFL := Lib.hid fill_c
  have of := Lib.hid Un.ok_fl
  go_enter Tryz.func3, Tryz.ntmps3
  go_wp2_with (first
    | ((with_reducible refine (HA.out _).mono ?_); rintro e w1 ⟨rfl, hb1⟩)
    | ((with_reducible refine (HS.out _).mono ?_); rintro e w2 ⟨b, rfl, V0⟩; have V := Lib.hid (V0.base hb1); clear V0))
  go_loopw [11] (fun i wr => ∃ k : Nat, k ≤ nk ∧ i = .int .i64 k ∧ Lk w wr b (sendK a0 k) (200 + k)) (fun i _ => nk - (intOf i).toNat)
  case atStart => exact ⟨0, by omega, rfl, V.out⟩
  case round =>
    obtain ⟨k, hkk, rfl, V9⟩ := hrel
    have V := Lib.hid V9
    clear V9
    by_cases hlt : k < nk
    · have hlt' : (k : Int) < nk := by omega
      have hk9 : (k : Int) ≤ 4 := by omega
      have e0 := Lib.hid (send_at a0 (i := k) (by omega))
      have V3 := Lib.hid (V.out.below (bl_alloc (bl_refl wr) (.cells #[.int .u8 k, .int .u8 2, .int .u8 3] 5)))
      have HT := Lib.hid (V3.out.order (by omega) 5 (byt_new3 (x := (k : Int)) (y := 2) (z := 3) (by omega) (by decide) (by decide)) (by simp))
      go_wp2_with (first
        | ((with_reducible refine HT.out.mono ?_); rintro e w4 ⟨he, V1, K1⟩; (rw [e0.out] at he); subst he; have V4 := Lib.hid V1; clear V1 K1)
        | ((with_reducible refine V4.out.next.mono ?_); rintro e w5 ⟨vi, he, B1, V1, K1⟩; (obtain ⟨ai, ci, rfl, _⟩ := B1.1.shape); subst he; have V5 := Lib.hid V1; clear V1 K1 B1))
      go_roundw
      case rel => exact ⟨k + 1, by omega, by go_num, ⟨V5.out.v, V5.out.k, V5.out.f.le (by omega)⟩⟩
      case measure => simp [intOf]; omega
    · obtain rfl : k = nk := by omega
      have V5 := Lib.hid V.out
      cases a2
      · -- no answer
        have fa := waitsA_at a0 hk hk0
        unfold waitsA at fa
        rw [Bool.and_eq_true, decide_eq_true_eq, decide_eq_true_eq] at fa
        generalize hx0 : sendK a0 k = x0 at *
        have FA := Lib.hid fa
        clear fa
        go_wp2
        go_loopw [13] (fun i wr => ∃ t : Nat, t ≤ 25 ∧ i = .int .i64 t ∧ Lk w wr b (x0.ticks t) (210 + 8 * t)) (fun i _ => 25 - (intOf i).toNat)
        case atStart => exact ⟨0, by omega, rfl, V5.out.v, V5.out.k, V5.out.f.le (by omega)⟩
        case round =>
          obtain ⟨t, ht9, rfl, V9⟩ := hrel
          have V6 := Lib.hid V9
          clear V9
          by_cases hlt : t < 25
          · have hlt' : (t : Int) < 25 := by omega
            have HT := Lib.hid (V6.out.tick (by omega))
            go_wp2_with (first | ((with_reducible refine HT.out.mono ?_); rintro e w8 ⟨rfl, V1, _⟩; have Vf := Lib.hid V1; clear V1))
            go_roundw
            case rel => exact ⟨t + 1, by omega, by go_num, ⟨Vf.out.v, Vf.out.k, Vf.out.f.le (by omega)⟩⟩
            case measure => simp [intOf]; omega
          · have ht25 : t = 25 := by omega
            have hV := V6.out
            have hF := FA.out
            rw [← ht25] at hF
            generalize x0.ticks t = x4 at hV hF
            have V7 := Lib.hid (show Lk w wr b x4 410 from ⟨hV.v, hV.k, hV.f.le (by omega)⟩)
            have FB := Lib.hid hF
            clear hV hF
            have kk : ¬ (t : Int) < 25 := by omega
            have kk' : (25 : Int) ≤ t := by omega
            go_wp2_with (first
              | ((with_reducible refine V7.out.told.mono ?_); rintro e w9 ⟨vt, rfl, K2, V1, _⟩; (have c6 := V1.v.S); dsimp only at c6; (rw [FB.out.1] at c6); (rw [FB.out.2] at K2); (obtain ⟨bl, off, cap, rfl, t0, t1, _⟩ := K2.one); (have Ve := Lib.hid V1); clear V1 K2))
            go_ret
            exact ⟨rfl, Ve.out.v.bel⟩
      · -- an answer
        have fa := waitsB_at a0 hk hk0 ht
        unfold waitsB at fa
        simp only [Bool.and_eq_true, decide_eq_true_eq, Bool.not_eq_true', decide_eq_false_iff_not] at fa
        generalize hx0 : sendK a0 k = x0 at *
        have FA := Lib.hid fa
        have ou : (unB ((k : Int) - 1)).ok := ⟨by simp only; omega, by simp, by simp, by simp, by simp⟩
        have OU := Lib.hid ou
        clear fa ou
        go_wp2
        go_loopw [13] (fun i wr => ∃ t : Nat, t ≤ nt ∧ i = .int .i64 t ∧ Lk w wr b (x0.ticks t) (210 + 8 * t)) (fun i _ => nt - (intOf i).toNat)
        case atStart => exact ⟨0, by omega, rfl, V5.out.v, V5.out.k, V5.out.f.le (by omega)⟩
        case round =>
          obtain ⟨t, ht9, rfl, V9⟩ := hrel
          have V6 := Lib.hid V9
          clear V9
          by_cases hlt : t < nt
          · have hlt' : (t : Int) < nt := by omega
            have HT := Lib.hid (V6.out.tick (by omega))
            go_wp2_with (first | ((with_reducible refine HT.out.mono ?_); rintro e w8 ⟨rfl, V1, _⟩; have Vf := Lib.hid V1; clear V1))
            go_roundw
            case rel => exact ⟨t + 1, by omega, by go_num, ⟨Vf.out.v, Vf.out.k, Vf.out.f.le (by omega)⟩⟩
            case measure => simp [intOf]; omega
          · obtain rfl : t = nt := by omega
            obtain ⟨x5, hx5⟩ : ∃ x5, (x0.ticks t).hear (unB ((k : Int) - 1)) = x5 := ⟨_, rfl⟩
            have fb := FA.out
            rw [hx5] at fb
            have FB := Lib.hid fb
            have X5 := Lib.hid hx5
            clear fb hx5
            have hm1 : 0 ≤ (k : Int) - 1 ∧ (k : Int) - 1 ≤ 4 := by omega
            go_wp2_with (first
              | ((with_reducible refine (HFL.out _).mono ?_); rintro e w9 ⟨rfl, hb9⟩; (have V7 := Lib.hid ((V6.out.below hb9).below (bl_alloc (bl_refl w9) (.cells #[.int .u8 ((k : Int) - 1), .int .u8 127, .bool true, .bool true, .int .u8 0, .int .u8 0, .bool false, nil0] 31)))); (have HT := Lib.hid (V7.out.hear0 (unB ((k : Int) - 1)) (by omega) OU.out rfl)))
              | ((with_reducible refine HT.out.mono ?_); rintro e w10 ⟨rfl, V1, _⟩; (rw [X5.out] at V1); have V8 := Lib.hid V1; clear V1))
            go_loopw [16] (fun i wr => ∃ t : Nat, t ≤ 60 ∧ i = .int .i64 t ∧ Lk w wr b (x5.ticks t) (500 + 8 * t)) (fun i _ => 60 - (intOf i).toNat)
            case atStart => exact ⟨0, by omega, rfl, V8.out.v, V8.out.k, V8.out.f.le (by omega)⟩
            case round =>
              obtain ⟨t, ht9, rfl, V9⟩ := hrel
              have V6 := Lib.hid V9
              clear V9
              by_cases hlt : t < 60
              · have hlt' : (t : Int) < 60 := by omega
                have HT := Lib.hid (V6.out.tick (by omega))
                go_wp2_with (first | ((with_reducible refine HT.out.mono ?_); rintro e w8 ⟨rfl, V1, _⟩; have Vf := Lib.hid V1; clear V1))
                go_roundw
                case rel => exact ⟨t + 1, by omega, by go_num, ⟨Vf.out.v, Vf.out.k, Vf.out.f.le (by omega)⟩⟩
                case measure => simp [intOf]; omega
              · have ht60 : t = 60 := by omega
                have hV := V6.out
                have hF := FB.out
                rw [← ht60] at hF
                generalize x5.ticks t = x4 at hV hF
                have V7 := Lib.hid (show Lk w wr b x4 1000 from ⟨hV.v, hV.k, hV.f.le (by omega)⟩)
                have kk : ¬ (t : Int) < 60 := by omega
                have kk' : (60 : Int) ≤ t := by omega
                have cS := hV.S
                rw [hF.1.1] at cS
                obtain ⟨bc, c14, hck⟩ := hV.ck
                obtain ⟨bw, bh, vs, vn, c17, hwy, hho⟩ := hV.hold
                have ho := On_c hck 7 (by decide) (by decide)
                rw [decide_eq_false (show ¬ 0 < x4.c.get 7 by have := hF.2; omega)] at ho
                have HO := Lib.hid ho
                have hn := HSent_c hho
                rw [hF.1.2] at hn
                have HN := Lib.hid hn
                have hmB := mB_Hold
                have hmC := mC_Hold
                clear hV hF hck ho hn hho
                obtain ⟨z, hz⟩ : ∃ z, x4.w = z := ⟨_, rfl⟩
                rw [hz] at c17 hwy
                have HW := Lib.hid hwy
                clear hwy hz
                cases z
                all_goals
                  simp only [Wy.v] at c17
                  go_wp2_with (first
                    | ((with_reducible refine (BHold_c HW.out).mono ?_); rintro e w11 ⟨rfl, rfl⟩)
                    | ((with_reducible refine (CHold_c HW.out).mono ?_); rintro e w11 ⟨rfl, rfl⟩)
                    | ((with_reducible refine HN.out.mono ?_); rintro e w12 ⟨rfl, rfl⟩)
                    | ((with_reducible refine HO.out.mono ?_); rintro e w13 ⟨rfl, rfl⟩))
                  go_ret
                  exact ⟨rfl, V7.out.v.bel⟩
end Go.Proofs.YtdffinnnjcgfcaaGreatK
