/- StateErrors: in service 64 units that aren't right, one behind the other, end a link, whatever came ahead; one in 256 never does. -/
import Derived.Test.YtdffinnnjcgfcaaGreatLw2
import Derived.Test.YtdffinnnjcgfcaaGreatLer
import Derived.Test.YtdffinnnjcgfcaaGreatRoa
namespace Go.Proofs.YtdffinnnjcgfcaaGreatK
open Go Go.RowKit
set_option linter.unusedVariables false
set_option maxHeartbeats 1000000
set_option maxRecDepth 100000
theorem SlV.open {w : World} {v : Value} {n : Nat} {V : Nat → Value} (h : SlV w v n V) : ∃ a cap, v = .slice a n cap ∧ n ≤ cap ∧ (n = 0 ∨ ∃ b off, a = some ⟨b, off, none⟩ ∧ ∀ i, i < n → w.cell? ⟨b, off + i, none⟩ = some (V i)) := by
  obtain ⟨⟨a, cap, rfl, h1, h2⟩, h3⟩ := h
  refine ⟨a, cap, rfl, h1, ?_⟩
  by_cases h0 : n = 0
  · exact .inl h0
  · obtain ⟨b, off, cap', e, _⟩ := h3 0 (by omega)
    simp only [Value.slice.injEq, true_and] at e
    refine .inr ⟨b, off, e.1, fun i hi => ?_⟩
    obtain ⟨b', off', cap'', e', hc⟩ := h3 i hi
    simp only [Value.slice.injEq, true_and] at e'
    have := e.1.symm.trans e'.1
    simp only [Option.some.injEq, Addr.mk.injEq, and_true] at this
    rw [this.1, this.2]
    exact hc
theorem SlV.size {w : World} {v : Value} {n : Nat} {V : Nat → Value} (h : SlV w v n V) : n ≤ maxLen := by
  obtain ⟨⟨a, cap, rfl, h1, h2⟩, h3⟩ := h
  omega
theorem stateErrors_long (a0 : Bool) (v : Value) (n : Nat) (V : Nat → Value) (a2 : Int) (w : World) (hv : SlV w v n V) (hn : 200 < n) :
    Calls Tryz.prog 10 #[.bool a0, v, .int .u8 a2] w fun e w' => e = .returned (.bool true) ∧ Below w.heap.size w w' := by
  have hs := hv.size
  unfold maxLen at hs
  obtain ⟨a, cap, rfl, hc, _⟩ := hv.open
  have HA := Lib.hid awake_c
  clear hv
  go_enter Tryz.func10, Tryz.ntmps10
  go_wp2_with (first
    | ((with_reducible refine (HA.out w).mono ?_); rintro e w1 ⟨rfl, hb1⟩)
    | ((with_reducible refine (HA.out w1).mono ?_); rintro e w2 ⟨rfl, hb2⟩))
  go_ret
  exact ⟨rfl, bl_then hb1 hb2⟩
theorem stateErrors_walk (a0 : Bool) (v : Value) (n : Nat) (B : Nat → Bool) (a2 : Int) (w : World) (hv : SlV w v n (fun i => .bool (B i))) (p2 : 0 ≤ a2) (q2 : a2 ≤ 255) :
    Calls Tryz.prog 10 #[.bool a0, v, .int .u8 a2] w fun e w' => e = .returned (.bool true) ∧ Below w.heap.size w w' := by
  by_cases hn : 200 < n
  · exact stateErrors_long a0 v n _ a2 w hv hn
  obtain ⟨nK, hnK⟩ : ∃ nK : Nat, 256 + a2 = nK := ⟨(256 + a2).toNat, by omega⟩
  have hK0 : (256 : Int) ≤ nK := by omega
  have hK1 : (nK : Int) ≤ 511 := by omega
  have hK2 : 256 ≤ nK := by omega
  obtain ⟨a, cap, rfl, hcap, ho⟩ := hv.open
  have hn' : (n : Int) ≤ 200 := by omega
  have HO := Lib.hid ho
  have HA := Lib.hid awake_c
  have HS := Lib.hid (serving_c a0)
  have HFL := Lib.hid fill_c
  have of := Lib.hid Un.ok_fl
  have ES := Lib.hid (srvL_zero a0)
  clear hv ho
  go_enter Tryz.func10, Tryz.ntmps10
  go_wp2_with (first
    | ((with_reducible refine (HA.out _).mono ?_); rintro e w1 ⟨rfl, hb1⟩)
    | ((with_reducible refine (HS.out _).mono ?_); rintro e w2 ⟨b, rfl, V0⟩; have V := Lib.hid (V0.base hb1); clear V0))
  go_loopw [8] (fun i wr => ∃ k : Nat, k ≤ n ∧ i = .int .i64 k ∧ ∃ x, ErA a0 x ∧ Lk w wr b x (200 + 6 * k)) (fun i _ => n - (intOf i).toNat)
  case atStart => exact ⟨0, by omega, rfl, _, ES.out ▸ ErA.on ⟨0, 0⟩ (by decide) (by decide) (by decide) (by decide), V.out⟩
  case round =>
    obtain ⟨k, hkk, rfl, x, E9, V9⟩ := hrel
    have E := Lib.hid E9
    have V := Lib.hid V9
    clear V9 E9
    by_cases hlt : k < n
    · have hlt' : (k : Int) < n := by omega
      rcases HO.out with h0 | ⟨bs, off, rfl, hcell⟩
      · omega
      have hck := hcell k hlt
      have hck2 : wr.cell? ⟨bs, off + k, none⟩ = some (.bool (B k)) := by rw [V.out.v.bel.cell (World.block_lt_of_cell? w _ hck)]; exact hck
      clear hcell hck
      cases hB : B k
      · rw [hB] at hck2
        go_wp2_with (first
          | ((with_reducible refine (HFL.out _).mono ?_); rintro e w3 ⟨rfl, hb3⟩; (have Va := Lib.hid (V.out.below hb3)); (have HT := Lib.hid (Va.out.hear0 fl (by omega) of.out rfl)))
          | ((with_reducible refine HT.out.mono ?_); rintro e w4 ⟨rfl, V1, _⟩; have Vb := Lib.hid V1; clear V1))
        go_roundw
        case rel => exact ⟨k + 1, by omega, by go_num, _, E.out.hear, ⟨Vb.out.v, Vb.out.k, Vb.out.f.le (by omega)⟩⟩
        case measure => simp [intOf]; omega
      · rw [hB] at hck2
        have HT := Lib.hid (V.out.damage (by omega))
        go_wp2_with (first
          | ((with_reducible refine HT.out.mono ?_); rintro e w4 ⟨rfl, V1, _⟩; have Vb := Lib.hid V1; clear V1))
        go_roundw
        case rel => exact ⟨k + 1, by omega, by go_num, _, E.out.damage, ⟨Vb.out.v, Vb.out.k, Vb.out.f.le (by omega)⟩⟩
        case measure => simp [intOf]; omega
    · obtain rfl : k = n := by omega
      have kk : ¬ (k : Int) < k := by omega
      go_wp2
      go_loopw [9] (fun i wr => ∃ j : Nat, j ≤ 64 ∧ i = .int .i64 j ∧ ∃ x, ErB a0 j x ∧ Lk w wr b x (2000 + 6 * j)) (fun i _ => 64 - (intOf i).toNat)
      case atStart => exact ⟨0, by omega, rfl, _, E.out.b, V.out.v, V.out.k, V.out.f.le (by omega)⟩
      case round =>
        obtain ⟨j, hjj, rfl, x, E9, V9⟩ := hrel
        have E := Lib.hid E9
        have V := Lib.hid V9
        clear V9 E9
        by_cases hlt : j < 64
        · have hlt' : (j : Int) < 64 := by omega
          have HT := Lib.hid (V.out.damage (by omega))
          go_wp2_with (first
            | ((with_reducible refine HT.out.mono ?_); rintro e w4 ⟨rfl, V1, _⟩; have Vb := Lib.hid V1; clear V1))
          go_roundw
          case rel => exact ⟨j + 1, by omega, by go_num, _, E.out.damage (by omega) (by omega), ⟨Vb.out.v, Vb.out.k, Vb.out.f.le (by omega)⟩⟩
          case measure => simp [intOf]; omega
        · have hj : j = 64 := by omega
          have ex : x = srvF a0 := (show ErB a0 64 x from by have := E.out; rw [hj] at this; exact this).last
          have V7 := Lib.hid (show Lk w wr b x 4000 from ⟨V.out.v, V.out.k, V.out.f.le (by omega)⟩)
          have FS := Lib.hid (show x.S = 0 from ex ▸ srvF_S a0)
          have FT := Lib.hid (show x.told = [⟨2, 1, []⟩] from ex ▸ srvF_told a0)
          clear ex hj E V
          have kk : ¬ (j : Int) < 64 := by omega
          have kk' : (64 : Int) ≤ j := by omega
          go_wp2_with (first
            | ((with_reducible refine V7.out.told.mono ?_); rintro e w9 ⟨vt, rfl, K2, V1, _⟩; (have c6 := V1.v.S); dsimp only at c6; (rw [FS.out] at c6); (rw [FT.out] at K2); (obtain ⟨bl, off, cap, rfl, t0, t1, _⟩ := K2.one); (have Ve := Lib.hid V1); clear V1 K2)
            | ((with_reducible refine (HS.out w9).mono ?_); rintro e w10 ⟨b2, rfl, V0⟩; have V10 := Lib.hid (V0.base Ve.out.v.bel); clear V0))
          go_loopw [12] (fun i wr => ∃ k : Nat, k ≤ 1000 ∧ i = .int .i64 k ∧ Lk w wr b2 (srvL a0 (leakAt nK k)) (200 + 6 * k)) (fun i _ => 1000 - (intOf i).toNat)
          case atStart => exact ⟨0, by omega, rfl, (show srvL a0 (leakAt nK 0) = served a0 from by rw [← ES.out]; rfl) ▸ V10.out⟩
          case round =>
            obtain ⟨i, hii, rfl, V9⟩ := hrel
            have V := Lib.hid V9
            clear V9
            by_cases hlt : i < 1000
            · have hlt' : (i : Int) < 1000 := by omega
              obtain ⟨nx, hnx⟩ : ∃ nx, (leakAt nK (i + 1)).n = nx := ⟨_, rfl⟩
              have hn0 := leakAt_n nK (i + 1)
              rw [hnx] at hn0
              obtain ⟨hx0, hx1⟩ := hn0
              have NX := Lib.hid hnx
              clear hnx
              go_upto_if 74 with fail
              have hcm : (i : Int) % (nK : Int) = ((i % nK : Nat) : Int) := by push_cast; rfl
              by_cases hm : i % nK = 0
              · have hz : ((i : Int) % (nK : Int) == 0) = true := beq_iff_eq.2 (by rw [hcm, hm]; rfl)
                rw [hz]
                clear hcm hz
                have eD := Lib.hid (show (srvL a0 (leakAt nK i)).count true = srvL a0 (leakAt nK (i + 1)) from by rw [srvL_count, leakAt_bad, leakAt_wrong (by omega) hm]; rfl)
                clear hm
                have HT := Lib.hid (V.out.damage (by omega))
                go_upto_if 82 with (first
                  | ((with_reducible refine HT.out.mono ?_); rintro e w4 ⟨rfl, V1, _⟩; (rw [eD.out] at V1); have Vb := Lib.hid V1; have HW := Lib.hid V1.v.wrong; clear V1)
                  | ((with_reducible refine HW.out.mono ?_); rintro e w5 ⟨he, rfl⟩; (rw [srvL_leak, NX.out] at he); subst he))
                rw [decide_eq_false (show ¬ (1 : Int) < nx by omega)]
                go_wp2
                go_roundw
                case rel => exact ⟨i + 1, by omega, by go_num, ⟨Vb.out.v, Vb.out.k, Vb.out.f.le (by omega)⟩⟩
                case measure => simp [intOf]; omega
              · have hz : ((i : Int) % (nK : Int) == 0) = false := beq_eq_false_iff_ne.2 (by rw [hcm]; omega)
                rw [hz]
                clear hcm hz
                have eD := Lib.hid (show (srvL a0 (leakAt nK i)).hear fl = srvL a0 (leakAt nK (i + 1)) from by rw [srvL_hear _ _ (by have := leakAt_n nK i; omega), leakAt_right (by omega) hm])
                clear hm
                go_upto_if 82 with (first
                  | ((with_reducible refine (HFL.out _).mono ?_); rintro e w3 ⟨rfl, hb3⟩; (have Va := Lib.hid (V.out.below hb3)); (have HT := Lib.hid (Va.out.hear0 fl (by omega) of.out rfl)))
                  | ((with_reducible refine HT.out.mono ?_); rintro e w4 ⟨rfl, V1, _⟩; (rw [eD.out] at V1); have Vb := Lib.hid V1; have HW := Lib.hid V1.v.wrong; clear V1)
                  | ((with_reducible refine HW.out.mono ?_); rintro e w5 ⟨he, rfl⟩; (rw [srvL_leak, NX.out] at he); subst he))
                rw [decide_eq_false (show ¬ (1 : Int) < nx by omega)]
                go_wp2
                go_roundw
                case rel => exact ⟨i + 1, by omega, by go_num, ⟨Vb.out.v, Vb.out.k, Vb.out.f.le (by omega)⟩⟩
                case measure => simp [intOf]; omega
            · have kk : ¬ (i : Int) < 1000 := by omega
              have kk' : (1000 : Int) ≤ i := by omega
              have c9 := V.out.S
              rw [srvL_S] at c9
              have HF := Lib.hid V.out.v.fails
              have EF := Lib.hid (srvL_fails a0 (leakAt nK i))
              go_wp2_with (first
                | ((with_reducible refine HF.out.mono ?_); rintro e w5 ⟨he, rfl⟩; (rw [EF.out] at he); subst he))
              go_ret
              exact ⟨rfl, V.out.v.bel⟩
end Go.Proofs.YtdffinnnjcgfcaaGreatK
