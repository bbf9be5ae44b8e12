/- Layer 21's example: both sides serve. -/
import Derived.Test.YtcllbmjmefeknaaGreatPr7
import Derived.Test.YtcllbmjmefeknaaGreatEv0
namespace Go.Proofs.YtcllbmjmefeknaaGreatK
open Go Go.RowKit
set_option linter.unusedVariables false
set_option maxHeartbeats 40000000
set_option maxRecDepth 100000
theorem lp_6000 : Lp.run 6000 (Lp.begin false) = lp6000 := by
  have h := Lp.run_add 500 5500 (Lp.begin false)
  rw [lc500, Lp.run_add 1000 4500, lc1500, Lp.run_add 1000 3500, lc2500, Lp.run_add 1000 2500, lc3500, show lp3500 = lq3500 from rfl, Lp.run_add 1000 1500, lc4500, Lp.run_add 756 744, lc5256, lc6000] at h
  exact h
theorem LBegin_c {w0 w : World} {b : Nat} {x : Pr} (T : Nat) (hT : T ≤ 10000) (h : PrW Wr.none w0 w b x () 0 []) (h0 : Below w0.heap.size w0 w) (hk : x.ok 0) :
    Calls Tryz.prog 66 #[.pointer (some ⟨b, 0, none⟩), .int .i64 0, .int .i64 (T : Int)] w fun e w' => e = .returned (.tuple #[]) ∧ (Pr.run T ((x.ord0 1 []).ord1 1 [])).ok (2 + 64 * T) ∧ PrW Wr.none w0 w' b (Pr.run T ((x.ord0 1 []).ord1 1 [])) () 100000000000000 [] ∧ Below w0.heap.size w0 w' := by
  have HD0 := Lib.hid (h.tell0 Wo.none h0.size (by simp) hk (by omega) (by omega) 1 (by omega) trivial)
  have H0 := Lib.hid h0
  have HK1 := Lib.hid (Pr.ok_ord0 hk 1 [])
  have HK2 := Lib.hid (Pr.ok_ord1 (Pr.ok_ord0 hk 1 []) 1 [])
  clear h hk h0
  go_enter Tryz.func66, Tryz.ntmps66
  go_wp2_with (first
    | ((with_reducible refine HD0.out.mono ?_); rintro e w2 ⟨rfl, P2, F2⟩; have HF2 := Lib.hid (F2.bel H0.out); have HP2 := Lib.hid P2; have HD1 := Lib.hid (P2.tell1 Wo.none (F2.bel H0.out).size (by simp) HK1.out (by omega) (by omega) 1 (by omega) trivial); clear P2 F2))
  go_loopw [6] (fun i wr => i = .int .i64 0 ∧ wr = w2) (fun _ _ => 0)
  case atStart => exact ⟨rfl, rfl⟩
  case round =>
    obtain ⟨rfl, rfl⟩ := hrel
    go_wp2_with (first
      | ((with_reducible refine HD1.out.mono ?_); rintro e w3 ⟨rfl, P3, F3⟩; have HF3 := Lib.hid (F3.bel HF2.out); have HP3 := Lib.hid P3; clear P3 F3))
    go_loopw [7] (fun i wr => ∃ k : Nat, k ≤ T ∧ i = .int .i64 k ∧ (Pr.run k ((x.ord0 1 []).ord1 1 [])).ok (2 + 64 * k) ∧ PrW Wr.none w0 wr b (Pr.run k ((x.ord0 1 []).ord1 1 [])) () (1000000000 + k * 200000000) [] ∧ Below w0.heap.size w0 wr) (fun i _ => T - (intOf i).toNat)
    case atStart => exact ⟨0, by omega, rfl, HK2.out, HP3.out.same (by omega), HF3.out⟩
    case round =>
      obtain ⟨k, hkT, rfl, hk, P, B⟩ := hrel
      by_cases hlt : k < T
      · have hlt' : (k : Int) < T := by omega
        have HT := Lib.hid (P.tick B.size (by simp) hk (by omega) (by omega) trivial trivial)
        have HB := Lib.hid B
        clear P B hk
        go_wp2_with (first
          | ((with_reducible refine HT.out.mono ?_); rintro e w5 ⟨rfl, hk5, P5, F5⟩; have HK5 := Lib.hid hk5; have HP5 := Lib.hid P5; have HF5 := Lib.hid (F5.bel HB.out); clear hk5 P5 F5))
        go_roundw
        case rel => exact ⟨k + 1, by omega, by go_num, HK5.out.le (by omega), HP5.out.same (by omega), HF5.out⟩
        case measure => simp [intOf]; omega
      · obtain rfl : k = T := by omega
        have hnl : ¬ ((k : Int) < k) := by omega
        have HK := Lib.hid hk
        have HP := Lib.hid P
        have HB := Lib.hid B
        clear hk P B
        go_wp2
        go_end0
        exact ⟨rfl, HK.out, HP.out.same (by omega), HB.out⟩
theorem LServe_c {w : World} {b : Nat} {x : Pr} {L : PrL} {ws : List (TypeId × Nat)} (P : PrAt w b x L ws) (h0 : x.p0.x.S = 4) (h1 : x.p1.x.S = 4) :
    Calls Tryz.prog 67 #[.pointer (some ⟨b, 0, none⟩)] w fun e w' => e = .returned (.bool true) ∧ w = w' := by
  have H0 := Lib.hid (PrPost0_c P)
  have H1 := Lib.hid (PrPost1_c P)
  have S0 := Lib.hid (PState_c P.p0)
  have S1 := Lib.hid (PState_c P.p1)
  have c0 := P.p0.lk.st.c 0
  have c1 := P.p1.lk.st.c 0
  rw [show (St.cells x.p0.x L.L0.L)[0]? = some (.int .u8 x.p0.x.S) from rfl, h0] at c0
  rw [show (St.cells x.p1.x L.L1.L)[0]? = some (.int .u8 x.p1.x.S) from rfl, h1] at c1
  have nn1 := neq_some
  clear P
  go_enter Tryz.func67, Tryz.ntmps67
  go_wp2_with (first
    | ((with_reducible refine H0.out.mono ?_); rintro e w2 ⟨rfl, rfl⟩)
    | ((with_reducible refine H1.out.mono ?_); rintro e w2 ⟨rfl, rfl⟩)
    | ((with_reducible refine S0.out.mono ?_); rintro e w2 ⟨rfl, rfl⟩)
    | ((with_reducible refine S1.out.mono ?_); rintro e w2 ⟨rfl, rfl⟩))
  go_ret
  exact ⟨rfl, rfl⟩
theorem LAwake_c (w : World) : Calls Tryz.prog 14 #[] w fun e w' => e = .returned (.bool true) ∧ Below w.heap.size w w' := by
  have HU := Lib.hid (Usual_c false w)
  have HN := Lib.hid (fun w => (show Calls Tryz.prog 16 #[(usualP false).v, .int .i64 0] w _ from PrNewU_c false 0 (by omega) w))
  have e6 : Pr.run 6000 (((Pr.new (usualP false) 0).ord0 1 []).ord1 1 []) = Pr.sym lp6000 6000 := by
    rw [begin_sym, sym_run, lp_6000]
    rfl
  have HE := Lib.hid e6
  clear e6
  go_enter Tryz.func14, Tryz.ntmps14
  go_upto_region 5 with (first
    | ((with_reducible refine HU.out.mono ?_); rintro e w2 ⟨rfl, b2⟩; have B2 := Lib.hid b2; clear b2)
    | ((with_reducible refine (HN.out _).mono ?_); rintro e w3 ⟨b, rfl, P3, b3⟩; have B3 := Lib.hid (bl_then B2.out b3); have HG := Lib.hid (show Calls Tryz.prog 66 #[.pointer (some ⟨b, 0, none⟩), .int .i64 0, .int .i64 6000] w3 _ from LBegin_c 6000 (by omega) P3 b3 (newPr_ok false (by omega))); clear P3 b3)
    | ((with_reducible refine HG.out.mono ?_); rintro e w4 ⟨rfl, _, P4, b4⟩; have HP4 := Lib.hid P4; have HB4 := Lib.hid b4; clear P4 b4))
  obtain ⟨L, A, P, _⟩ := HP4.out.ex
  rw [HE.out] at P
  have HS := Lib.hid (LServe_c P rfl rfl)
  have HT := Lib.hid (PrTime_c P)
  clear P
  go_wp2_with (first
    | ((with_reducible refine HS.out.mono ?_); rintro e w5 ⟨rfl, rfl⟩)
    | ((with_reducible refine HT.out.mono ?_); rintro e w5 ⟨rfl, rfl⟩))
  go_ret
  exact ⟨rfl, bl_then B2.out HB4.out⟩
end Go.Proofs.YtcllbmjmefeknaaGreatK
