/- StateOutage: while its processor is out a link takes nothing, and says so; when it is back it goes on; when the other's was it waits for level 3. -/
import Derived.Test.YtdffinnnjcgfcaaGreatLab
import Derived.Test.YtdffinnnjcgfcaaGreatLof
namespace Go.Proofs.YtdffinnnjcgfcaaGreatK
open Go Go.RowKit
set_option linter.unusedVariables false
set_option maxHeartbeats 1000000
set_option maxRecDepth 100000
theorem sg_ok : sg.ok := ⟨by decide, by decide, by decide, by decide, by decide⟩
abbrev sgU (g : Nat) : Array Value := #[.int .u8 127, .int .u8 0, .bool true, .bool true, .int .u8 2, .int .u8 0, .bool false, .slice (some ⟨g, 0, none⟩) 3 3]
theorem noLk_abc {w w' : World} {g : Nat} (hg : g = w.heap.size) (hw : w' = w.alloc abc) : NoLk w' (.slice (some ⟨g, 0, none⟩) 3 3) := by
  subst hg hw
  intro g hg
  obtain rfl : g = w.heap.size := by simpa [own, Value.ownBlock] using hg
  exact ⟨abc, heap_alloc_new w _, fun cs t e => by simp [abc] at e⟩
theorem abc_str : strOfNums [97, 98, 99] = ⟨#[97, 98, 99]⟩ := by kernel_rfl
theorem ToldV.two {w : World} {v : Value} {t u : To} (h : ToldV w v [t, u]) : ∃ bl off cap, v = .slice (some ⟨bl, off, none⟩) 2 cap ∧ w.cell? ⟨bl, off, none⟩ = some (.int .u8 t.kind) ∧ w.cell? ⟨bl, off + 1, none⟩ = some (.int .u8 t.why) ∧ w.cell? ⟨bl, off + 3, none⟩ = some (.int .u8 u.kind) ∧ w.cell? ⟨bl, off + 3 + 1, none⟩ = some (.int .u8 u.why) := by
  obtain ⟨bl, off, cap, rfl, t0, t1, _⟩ := h.2 0 _ rfl
  obtain ⟨bl', off', cap', e', t2, t3, _⟩ := h.2 1 _ rfl
  simp only [Value.slice.injEq, Option.some.injEq, Addr.mk.injEq, and_true, true_and] at e'
  obtain ⟨⟨rfl, rfl⟩, rfl⟩ := e'
  exact ⟨bl, off, cap, rfl, t0, t1, t2, t3⟩
theorem stateOutage_own (a0 : Bool) (a2 : Int) (w : World) (p2 : 0 ≤ a2) (q2 : a2 ≤ 255) :
    Calls Tryz.prog 5 #[.bool a0, .bool true, .int .u8 a2] w fun e w' => e = .returned (.bool true) ∧ Below w.heap.size w w' := by
  obtain ⟨nk, rfl⟩ : ∃ nk : Nat, a2 = nk := ⟨a2.toNat, by omega⟩
  have HA := Lib.hid awake_c
  have HS := Lib.hid (serving_c a0)
  have HFL := Lib.hid fill_c
  have OS := Lib.hid sg_ok
  have X1 := Lib.hid (show ((served a0).order 6 []).1 = outA a0 from rfl)
  have FX := Lib.hid (outA_fix a0)
  have XS := Lib.hid (outA_S a0)
  have XT := Lib.hid (outA_told a0)
  have XN := Lib.hid (outA_nil a0)
  have XX := Lib.hid (outA_next a0)
  have Y1 := Lib.hid (show ((outA a0).order 7 []).1 = outB a0 from rfl)
  have YS := Lib.hid (outB_S a0)
  have YT := Lib.hid (outB_told a0)
  generalize outA a0 = xa at X1 FX XS XT XN XX Y1
  generalize outB a0 = xb at Y1 YS YT
  go_enter Tryz.func5, Tryz.ntmps5
  go_wp2_with (first
    | ((with_reducible refine (HA.out _).mono ?_); rintro e w1 ⟨rfl, hb1⟩)
    | ((with_reducible refine (HS.out _).mono ?_); rintro e w2 ⟨b, rfl, V0⟩; have V := Lib.hid (V0.base hb1); clear V0)
    | ((with_reducible refine (HFL.out _).mono ?_); rintro e w3 ⟨rfl, hb3⟩; have V3 := Lib.hid (V.out.below hb3); have hcv := conv_abc (w3.alloc (.cells #[.int .u8 127, .int .u8 0, .bool true, .bool true, .int .u8 2, .int .u8 0, .bool false, nil0] 31)) (w3.heap.size + 1) (by simp))
    | ((with_reducible refine ((V3.out.below (bl_alloc (bl_alloc (bl_refl w3) (.cells (sgU (w3.heap.size + 1)) 31)) abc)).order0 6 (by decide)).mono ?_); rintro e w4 ⟨rfl, V1, K1⟩; (rw [X1.out] at V1); have V4 := Lib.hid V1; have N4 := Lib.hid (K1.blk ((Blk.new w3 (sgU (w3.heap.size + 1)) 31).alloc abc) (by decide)); have B4 := Lib.hid (K1.bytI (byt_abc (w := w3.alloc (.cells (sgU (w3.heap.size + 1)) 31)) (g := w3.heap.size + 1) (by simp) rfl) (noLk_abc (by simp) rfl)); clear V1 K1))
  clear hcv
  obtain ⟨g, hg⟩ : ∃ g, w3.heap.size + 1 = g := ⟨_, rfl⟩
  obtain ⟨gu, hgu⟩ : ∃ gu, w3.heap.size = gu := ⟨_, rfl⟩
  have N4 := Lib.hid (show Blk w4 gu (sgU g) 31 from by rw [← hg, ← hgu]; exact N4.out)
  have B4 := Lib.hid (show BytI w4 [] (.slice (some ⟨g, 0, none⟩) 3 3) [97, 98, 99] ∧ NoLk w4 (.slice (some ⟨g, 0, none⟩) 3 3) from by rw [← hg]; exact B4.out)
  simp only [hgu]
  go_loopw [9] (fun i wr => ∃ k : Nat, k ≤ nk ∧ i = .int .i64 k ∧ Lk w wr b xa (300 + 14 * k) ∧ Blk wr gu (sgU g) 31 ∧ BytI wr [] (.slice (some ⟨g, 0, none⟩) 3 3) [97, 98, 99] ∧ NoLk wr (.slice (some ⟨g, 0, none⟩) 3 3)) (fun i _ => nk - (intOf i).toNat)
  case atStart => exact ⟨0, by omega, rfl, ⟨V4.out.v, V4.out.k, V4.out.f.le (by omega)⟩, N4.out, B4.out⟩
  case round =>
    obtain ⟨k, hkk, rfl, V9, N9, B9⟩ := hrel
    have V := Lib.hid V9
    have N := Lib.hid N9
    have B := Lib.hid B9
    have nc := N9.c
    clear V9 N9 B9 V3
    by_cases hlt : k < nk
    · have hlt' : (k : Int) < nk := by omega
      have HT := Lib.hid (V.out.hearN (by omega) OS.out B.out.1 B.out.2)
      go_wp2_with (first
        | ((with_reducible refine HT.out.mono ?_); rintro e w5 ⟨rfl, V1, K1⟩; have Va := Lib.hid V1; have Na := Lib.hid (K1.blk N.out (by decide)); have Ba := Lib.hid (K1.bytI B.out.1 B.out.2); clear V1 K1)
        | ((with_reducible refine (Va.out.tick (by omega)).mono ?_); rintro e w6 ⟨rfl, V1, K1⟩; (rw [FX.out] at V1); have Vb := Lib.hid V1; have Nb := Lib.hid (K1.blk Na.out (by decide)); have Bb := Lib.hid (K1.bytI Ba.out.1 Ba.out.2); clear V1 K1))
      go_roundw
      case rel => exact ⟨k + 1, by omega, by go_num, ⟨Vb.out.v, Vb.out.k, Vb.out.f.le (by omega)⟩, Nb.out, Bb.out⟩
      case measure => simp [intOf]; omega
    · obtain rfl : k = nk := by omega
      have cS := V.out.S
      rw [XS.out] at cS
      have kk : ¬ (k : Int) < k := by omega
      have HTO := Lib.hid V.out.told
      go_upto_region 20 with (first
        | ((with_reducible refine HTO.out.mono ?_); rintro e w5 ⟨vt, rfl, K2, V1, K1⟩; (rw [XN.out] at V1); (rw [XT.out] at K2); (obtain ⟨a5, c5, rfl⟩ := K2.nil); have Va := Lib.hid V1; have Na := Lib.hid (K1.blk N.out (by decide)); have Ba := Lib.hid (K1.bytI B.out.1 B.out.2); clear V1 K1 K2)
        | ((with_reducible refine Va.out.next.mono ?_); rintro e w6 ⟨vi, he, V1, V2, K1⟩; (rw [XX.out] at he V1 V2); (obtain ⟨ai, ci, rfl, _⟩ := V1.1.shape); subst he; (have hfd := run_fieldU5 ⟨127, 127, true, true, 1, 4, false, []⟩ (.slice ai 0 ci) w6); dsimp only at hfd; have Vb := Lib.hid V2; have Nb := Lib.hid (K1.blk Na.out (by decide)); have Bb := Lib.hid (K1.bytI Ba.out.1 Ba.out.2); clear V1 V2 K1)
        | ((with_reducible refine (Vb.out.order0 7 (by omega)).mono ?_); rintro e w7 ⟨rfl, V1, K1⟩; (rw [Y1.out] at V1); have Vc := Lib.hid V1; (have c7 := V1.S); (rw [YS.out] at c7); have Nc := Lib.hid (K1.blk Nb.out (by decide)); (have nc7 := Nc.out.c); have Bc := Lib.hid (K1.bytI Bb.out.1 Bb.out.2); clear V1 K1))
      clear cS nc hfd
      have HT := Lib.hid (Vc.out.hearN (by omega) OS.out Bc.out.1 Bc.out.2)
      go_wp2_with (first
        | ((with_reducible refine HT.out.mono ?_); rintro e w8 ⟨rfl, V1, K1⟩; have Vd := Lib.hid V1; clear V1 K1)
        | ((with_reducible refine Vd.out.told.mono ?_); rintro e w9 ⟨vt, rfl, K2, V1, _⟩; (rw [YT.out] at K2); (obtain ⟨bl, off, cap, rfl, t0, t1, vp, t2, bp⟩ := K2.one); (have hcb := conv_back bp); (rw [abc_str] at hcb); have Ve := Lib.hid V1; clear V1 K2 bp))
      go_ret
      exact ⟨rfl, Ve.out.v.bel⟩
theorem stateOutage_their (a0 : Bool) (a2 : Int) (w : World) (p2 : 0 ≤ a2) (q2 : a2 ≤ 255) :
    Calls Tryz.prog 5 #[.bool a0, .bool false, .int .u8 a2] w fun e w' => e = .returned (.bool true) ∧ Below w.heap.size w w' := by
  obtain ⟨nk, rfl⟩ : ∃ nk : Nat, a2 = nk := ⟨a2.toNat, by omega⟩
  have HA := Lib.hid awake_c
  have HS := Lib.hid (serving_c a0)
  have HFL := Lib.hid fill_c
  have HL := Lib.hid link_c
  have o4 := Lib.hid (Un.ok_lk (i := 4) (by decide) (by decide))
  have of := Lib.hid Un.ok_fl
  have X1 := Lib.hid (show (served a0).hear (lk 4) = outC a0 from rfl)
  have FX := Lib.hid (outC_fix a0)
  have XO := Lib.hid (outC_order a0)
  have X2 := Lib.hid (show (outC a0).hear fl = outD a0 from rfl)
  have YS := Lib.hid (outD_S a0)
  have YE := Lib.hid (outD_e a0)
  have YS2 := Lib.hid (outD_S2 a0)
  have YT := Lib.hid (outD_told a0)
  generalize outC a0 = xa at X1 FX XO X2
  generalize outD a0 = xb at X2 YS YE YS2 YT
  go_enter Tryz.func5, Tryz.ntmps5
  go_wp2_with (first
    | ((with_reducible refine (HA.out _).mono ?_); rintro e w1 ⟨rfl, hb1⟩)
    | ((with_reducible refine (HS.out _).mono ?_); rintro e w2 ⟨b, rfl, V0⟩; have V := Lib.hid (V0.base hb1); clear V0)
    | ((with_reducible refine (HFL.out _).mono ?_); rintro e w3 ⟨rfl, hb3⟩; have V3 := Lib.hid (V.out.below hb3); have hcv := conv_abc (w3.alloc (.cells #[.int .u8 127, .int .u8 0, .bool true, .bool true, .int .u8 2, .int .u8 0, .bool false, nil0] 31)) (w3.heap.size + 1) (by simp); have V4 := Lib.hid (V3.out.below (bl_alloc (bl_alloc (bl_refl w3) (.cells (sgU (w3.heap.size + 1)) 31)) abc)))
    | ((with_reducible refine (HL.out 4 _).mono ?_); rintro e w4 ⟨rfl, hb4⟩; (have Va := Lib.hid (V4.out.below hb4)); (have HT := Lib.hid (Va.out.hear0 (lk 4) (by omega) o4.out rfl)))
    | ((with_reducible refine HT.out.mono ?_); rintro e w5 ⟨rfl, V1, _⟩; (rw [X1.out] at V1); have V5 := Lib.hid V1; clear V1))
  clear hcv V3 V4 HT
  go_loopw [11] (fun i wr => ∃ k : Nat, k ≤ nk ∧ i = .int .i64 k ∧ Lk w wr b xa (300 + 14 * k)) (fun i _ => nk - (intOf i).toNat)
  case atStart => exact ⟨0, by omega, rfl, ⟨V5.out.v, V5.out.k, V5.out.f.le (by omega)⟩⟩
  case round =>
    obtain ⟨k, hkk, rfl, V9⟩ := hrel
    have V := Lib.hid V9
    clear V9
    by_cases hlt : k < nk
    · have hlt' : (k : Int) < nk := by omega
      go_wp2_with (first
        | ((with_reducible refine (HL.out 4 _).mono ?_); rintro e w4 ⟨rfl, hb4⟩; (have Va := Lib.hid (V.out.below hb4)); (have HT := Lib.hid (Va.out.hear0 (lk 4) (by omega) o4.out rfl)))
        | ((with_reducible refine HT.out.mono ?_); rintro e w6 ⟨rfl, V1, K1⟩; have Vb := Lib.hid V1; clear V1 K1)
        | ((with_reducible refine (Vb.out.tick (by omega)).mono ?_); rintro e w7 ⟨rfl, V1, K1⟩; (rw [FX.out] at V1); have Vc := Lib.hid V1; clear V1 K1))
      go_roundw
      case rel => exact ⟨k + 1, by omega, by go_num, ⟨Vc.out.v, Vc.out.k, Vc.out.f.le (by omega)⟩⟩
      case measure => simp [intOf]; omega
    · obtain rfl : k = nk := by omega
      have kk : ¬ (k : Int) < k := by omega
      obtain ⟨xc, hxc⟩ : ∃ xc, (xb.order 9 []).1 = xc := ⟨_, rfl⟩
      have XC := Lib.hid hxc
      rw [hxc] at YS2 YT
      clear hxc
      go_wp2_with (first
        | ((with_reducible refine (V.out.order0 9 (by omega)).mono ?_); rintro e w4 ⟨he, V1, _⟩; (rw [XO.out] at he V1); subst he; have Va := Lib.hid V1; clear V1)
        | ((with_reducible refine (HFL.out _).mono ?_); rintro e w5 ⟨rfl, hb5⟩; (have Vb := Lib.hid (Va.out.below hb5)); (have HT := Lib.hid (Vb.out.hear0 fl (by omega) of.out rfl)))
        | ((with_reducible refine HT.out.mono ?_); rintro e w6 ⟨rfl, V1, _⟩; (rw [X2.out] at V1); have Vc := Lib.hid V1; (have c6 := V1.S); (rw [YS.out] at c6); clear V1)
        | ((with_reducible refine (Vc.out.order0 9 (by omega)).mono ?_); rintro e w7 ⟨he, V1, _⟩; (rw [YE.out] at he); (rw [XC.out] at V1); subst he; have Vd := Lib.hid V1; clear V1)
        | ((with_reducible refine Vd.out.told.mono ?_); rintro e w8 ⟨vt, rfl, K2, V1, _⟩; (rw [YT.out] at K2); (have c8 := V1.S); dsimp only at c8; (rw [YS2.out] at c8); (obtain ⟨bl, off, cap, rfl, t0, t1, t2, t3⟩ := K2.two); have Ve := Lib.hid V1; clear V1 K2))
      go_ret
      exact ⟨rfl, Ve.out.v.bel⟩
theorem stateOutage_walk (a0 a1 : Bool) (a2 : Int) (w : World) (p2 : 0 ≤ a2) (q2 : a2 ≤ 255) :
    Calls Tryz.prog 5 #[.bool a0, .bool a1, .int .u8 a2] w fun e w' => e = .returned (.bool true) ∧ Below w.heap.size w w' := by
  cases a1
  · exact stateOutage_their a0 a2 w p2 q2
  · exact stateOutage_own a0 a2 w p2 q2
end Go.Proofs.YtdffinnnjcgfcaaGreatK
