/- StateTakes: messages that come one behind the other are told, each once; those that don't aren't. -/
import Derived.Test.YtdffinnnjcgfcaaGreatLab
import Derived.Test.YtdffinnnjcgfcaaGreatLtf
import Derived.Test.YtdffinnnjcgfcaaGreatRoa
import Derived.Test.YtdffinnnjcgfcaaGreatLf0
namespace Go.Proofs.YtdffinnnjcgfcaaGreatK
open Go Go.RowKit
set_option linter.unusedVariables false
set_option maxHeartbeats 4000000
set_option maxRecDepth 100000
theorem SlV.openT {w : World} {v : Value} {n : Nat} {V : Nat → Value} (h : SlV w v n V) : ∃ a cap, v = .slice a n cap ∧ n ≤ cap ∧ (n = 0 ∨ ∃ b off, a = some ⟨b, off, none⟩ ∧ ∀ i, i < n → w.cell? ⟨b, off + i, none⟩ = some (V i)) := by
  obtain ⟨⟨a, cap, rfl, h1, h2⟩, h3⟩ := h
  refine ⟨a, cap, rfl, h1, ?_⟩
  by_cases h0 : n = 0
  · exact .inl h0
  · obtain ⟨b, off, cap', e, _⟩ := h3 0 (by omega)
    simp only [Value.slice.injEq, true_and] at e
    refine .inr ⟨b, off, e.1, fun i hi => ?_⟩
    obtain ⟨b', off', cap'', e', hc⟩ := h3 i hi
    simp only [Value.slice.injEq, true_and] at e'
    have := e.1.symm.trans e'.1
    simp only [Option.some.injEq, Addr.mk.injEq, and_true] at this
    rw [this.1, this.2]
    exact hc
theorem SlV.sizeT {w : World} {v : Value} {n : Nat} {V : Nat → Value} (h : SlV w v n V) : n ≤ maxLen := by
  obtain ⟨⟨a, cap, rfl, h1, h2⟩, h3⟩ := h
  omega
theorem byt_new3T {w : World} {g : Nat} (hg : g = w.heap.size) {x y z : Int} (hx : 0 ≤ x ∧ x ≤ 255) (hy : 0 ≤ y ∧ y ≤ 255) (hz : 0 ≤ z ∧ z ≤ 255) : BytV (w.alloc (.cells #[.int .u8 x, .int .u8 y, .int .u8 z] 5)) (.slice (some ⟨g, 0, none⟩) 3 3) [x, y, z] := hg ▸ byt_new3 hx hy hz
theorem stateTakes_long (a0 : Bool) (v : Value) (n : Nat) (V : Nat → Value) (w : World) (hv : SlV w v n V) (hn : 60 < n) :
    Calls Tryz.prog 9 #[.bool a0, v] w fun e w' => e = .returned (.bool true) ∧ Below w.heap.size w w' := by
  have hs := hv.sizeT
  unfold maxLen at hs
  obtain ⟨a, cap, rfl, hc, _⟩ := hv.openT
  have HA := Lib.hid awake_c
  clear hv
  go_enter Tryz.func9, Tryz.ntmps9
  go_wp2_with (first
    | ((with_reducible refine (HA.out w).mono ?_); rintro e w1 ⟨rfl, hb1⟩)
    | ((with_reducible refine (HA.out w1).mono ?_); rintro e w2 ⟨rfl, hb2⟩))
  go_ret
  exact ⟨rfl, bl_then hb1 hb2⟩
theorem stateTakes_walk (a0 : Bool) (v : Value) (n : Nat) (Z : Nat → Int) (w : World) (hv : SlV w v n (fun i => .int .u8 (Z i))) (hz : ∀ i, i < n → 0 ≤ Z i ∧ Z i ≤ 255) :
    Calls Tryz.prog 9 #[.bool a0, v] w fun e w' => e = .returned (.bool true) ∧ Below w.heap.size w w' := by
  by_cases hn : 60 < n
  · exact stateTakes_long a0 v n _ w hv hn
  obtain ⟨a, cap, rfl, hcap, ho⟩ := hv.openT
  have hn' : (n : Int) ≤ 60 := by omega
  have HO := Lib.hid ho
  have HZ := Lib.hid hz
  have HA := Lib.hid awake_c
  have HS := Lib.hid (serving_c a0)
  have HFL := Lib.hid fill_c
  clear hv ho hz
  go_enter Tryz.func9, Tryz.ntmps9
  go_wp2_with (first
    | ((with_reducible refine (HA.out _).mono ?_); rintro e w1 ⟨rfl, hb1⟩)
    | ((with_reducible refine (HS.out _).mono ?_); rintro e w2 ⟨b, rfl, V0⟩; have V := Lib.hid (V0.base hb1); clear V0))
  go_loopw [6, 7] (fun nx i wr => ∃ k m : Nat, k ≤ n ∧ m ≤ k ∧ nx = .int .i64 m ∧ i = .int .i64 k ∧ Lk w wr b (tk a0 m) (200 + 6 * k)) (fun _ i _ => n - (intOf i).toNat)
  case atStart => exact ⟨0, 0, by omega, by omega, rfl, rfl, (tk_zero a0).symm ▸ V.out⟩
  case round =>
    obtain ⟨k, m, hkk, hmk, rfl, rfl, V9⟩ := hrel
    have V := Lib.hid V9
    clear V9
    have hm60 : (m : Int) ≤ 60 := by omega
    by_cases hlt : k < n
    · have hlt' : (k : Int) < n := by omega
      have hk60 : (k : Int) ≤ 59 := by omega
      rcases HO.out with h0 | ⟨bs, off, rfl, hcell⟩
      · omega
      have hck := hcell k hlt
      have hck2 : wr.cell? ⟨bs, off + k, none⟩ = some (.int .u8 (Z k)) := by rw [V.out.v.bel.cell (World.block_lt_of_cell? w _ hck)]; exact hck
      have hzk := HZ.out k hlt
      obtain ⟨z, hz⟩ : ∃ z, Z k = z := ⟨_, rfl⟩
      rw [hz] at hck2 hzk
      have C0 := Lib.hid hck2
      have CZ := Lib.hid (hz ▸ hck)
      have lbs : bs < w.heap.size := World.block_lt_of_cell? w _ hck
      have F := Lib.hid (takes_at a0 (n := m) (i := k) (by omega) (by omega))
      clear hcell hck hz hck2
      go_upto_region 8 with fail
      go_upto_region 11 with (first
        | ((with_reducible refine (HFL.out _).mono ?_); rintro e w3 ⟨rfl, hb3⟩; (have V3 := Lib.hid (V.out.below hb3))))
      have c3 := below_cell hb3 C0.out
      have l3 : bs < w3.heap.size := World.block_lt_of_cell? w3 _ c3
      have l4 : bs ≠ w3.heap.size := Nat.ne_of_lt l3
      have l5 : bs ≠ w3.heap.size + 1 := by omega
      by_cases hz3 : 0 < z % 3
      · have HT := Lib.hid ((V3.out.below (bl_alloc (bl_alloc (bl_refl w3) (.cells #[.int .u8 127, .int .u8 m, .bool true, .bool true, .int .u8 2, .int .u8 0, .bool false, .slice (some ⟨w3.heap.size + 1, 0, none⟩) 3 3] 31)) (.cells #[.int .u8 k, .int .u8 1, .int .u8 2] 5))).hear (u := sgT m k) (by omega) ⟨by simp, by dsimp only; omega, by simp, by simp, by simp⟩ (byt_new3T (g := w3.heap.size + 1) (by simp) (x := (k : Int)) (y := 1) (z := 2) (by omega) (by decide) (by decide)))
        have N3 := Lib.hid ((Blk.new w3 #[.int .u8 127, .int .u8 m, .bool true, .bool true, .int .u8 2, .int .u8 0, .bool false, .slice (some ⟨w3.heap.size + 1, 0, none⟩) 3 3] 31).alloc (.cells #[.int .u8 k, .int .u8 1, .int .u8 2] 5))
        have B3 := Lib.hid (byt_new3T (w := w3.alloc (.cells #[.int .u8 127, .int .u8 m, .bool true, .bool true, .int .u8 2, .int .u8 0, .bool false, .slice (some ⟨w3.heap.size + 1, 0, none⟩) 3 3] 31)) (g := w3.heap.size + 1) (by simp) (x := (k : Int)) (y := 1) (z := 2) (by omega) (by decide) (by decide))
        have FT := Lib.hid F.out.1
        have FN := Lib.hid F.out.2.1
        clear F
        go_upto_region 16 with (first
          | ((with_reducible refine HT.out.mono ?_); rintro e w4 ⟨rfl, V1, K1⟩; have V4 := Lib.hid V1; have N4 := Lib.hid (K1.blk N3.out (by decide)); have B4 := Lib.hid (K1.byt B3.out); clear V1 K1)
          | ((with_reducible refine V4.out.told.mono ?_); rintro e w5 ⟨vt, rfl, K2, V1, K1⟩; (rw [FT.out] at K2); (rw [FN.out] at V1); (obtain ⟨bl, ol, cl, rfl, t0, t1, vp, t2, bp⟩ := K2.one); have V5 := Lib.hid V1; have N5 := Lib.hid (K1.blk N4.out (by decide)); have B5 := Lib.hid (K1.byt B4.out); have BP := Lib.hid bp; clear V1 K1 K2 bp))
        have c5 : w5.cell? ⟨bs, off + k, none⟩ = some (.int .u8 z) := by rw [V5.out.v.bel.cell lbs]; exact CZ.out
        obtain ⟨ap, cp, rfl⟩ : ∃ ap cp, vp = .slice ap 3 cp := by obtain ⟨ap, cp, e, _⟩ := BP.out.1.shape; exact ⟨ap, cp, e⟩
        have up_t0 := fun g : Up w5 => below_cell g.ok t0
        have up_t2 := fun g : Up w5 => below_cell g.ok t2
        have NB := N5.out
        have up_c1 := fun g : Up w5 => conv_back (Byt.below BP.out g.ok)
        have up_c2 := fun g : Up w5 => conv_back (Byt.below B5.out g.ok)
        obtain ⟨str, hstr⟩ : ∃ str, strOfNums [(k : Int), 1, 2] = str := ⟨_, rfl⟩
        rw [hstr] at up_c1 up_c2
        clear t0 t2 hstr
        go_upto_region 17 with fail
        clear c5
        refine wp_region_up (by kernel_rfl) (by kernel_rfl) ?_
        have up_NB := fun (g : Up _) => (Blk.below NB g.ok).c
        repeat (go_big_quiet_step (fail))
        refine wpQuiet_nil ?_
        clear up_NB
        refine up_elim (fun w6 hb_w6 => ?_)
        clear up_t0 up_t2 up_c1 up_c2
        have V6 := Lib.hid (V5.out.below hb_w6)
        go_wp2
        go_roundw
        case rel => exact ⟨k + 1, m + 1, by omega, by omega, by go_num, by go_num, ⟨V6.out.v, V6.out.k, V6.out.f.le (by omega)⟩⟩
        case measure => simp [intOf]; omega
      · have hz3d : decide (0 < z % 3) = false := decide_eq_false hz3
        obtain ⟨fs, hfs⟩ : ∃ fs : Int, ((m : Int) + 127) % 128 = fs := ⟨_, rfl⟩
        have hfs2 : (((m + 127) % 128 : Nat) : Int) = fs := by rw [← hfs]; push_cast; rfl
        have fs0 : 0 ≤ fs ∧ fs ≤ 127 := by omega
        have FT := F.out.2.2
        rw [hfs2] at FT
        have FT := Lib.hid FT
        have TT := Lib.hid (tk_told a0 m)
        have TN := Lib.hid (show ({ tk a0 m with told := [] } : St) = tk a0 m from by have h := tk_told a0 m; generalize tk a0 m = y at h ⊢; obtain ⟨s, S, c, a, j, o, wy, oa, leak, told, fails⟩ := y; dsimp only at h; rw [h])
        clear F hfs2
        have HT := Lib.hid ((V3.out.below (bl_alloc (bl_alloc (bl_refl w3) (.cells #[.int .u8 127, .int .u8 fs, .bool true, .bool true, .int .u8 2, .int .u8 0, .bool false, .slice (some ⟨w3.heap.size + 1, 0, none⟩) 3 3] 31)) (.cells #[.int .u8 k, .int .u8 1, .int .u8 2] 5))).hear (u := sgT fs k) (by omega) ⟨by simp, by dsimp only; omega, by simp, by simp, by simp⟩ (byt_new3T (g := w3.heap.size + 1) (by simp) (x := (k : Int)) (y := 1) (z := 2) (by omega) (by decide) (by decide)))
        go_upto_region 16 with (first
          | ((with_reducible refine HT.out.mono ?_); rintro e w4 ⟨rfl, V1, K1⟩; (rw [FT.out] at V1); have V4 := Lib.hid V1; clear V1 K1)
          | ((with_reducible refine V4.out.told.mono ?_); rintro e w5 ⟨vt, rfl, K2, V1, K1⟩; (rw [TT.out] at K2); (rw [TN.out] at V1); (obtain ⟨a5, c5', rfl⟩ := K2.nil); have V5 := Lib.hid V1; clear V1 K1 K2))
        have c5 : w5.cell? ⟨bs, off + k, none⟩ = some (.int .u8 z) := by rw [V5.out.v.bel.cell lbs]; exact CZ.out
        go_wp2
        go_roundw
        case rel => exact ⟨k + 1, m, by omega, by omega, rfl, by go_num, ⟨V5.out.v, V5.out.k, V5.out.f.le (by omega)⟩⟩
        case measure => simp [intOf]; omega
    · obtain rfl : k = n := by omega
      have kk : ¬ (k : Int) < k := by omega
      have cS := V.out.S
      rw [tk_S] at cS
      obtain ⟨bw, bh, vs, vn, c17, hwy, hho⟩ := V.out.hold
      obtain ⟨ls, hls⟩ : ∃ ls, (tk a0 m).w.last = ls := ⟨_, rfl⟩
      have el : ls = ((m : Int) + 127) % 128 := by rw [← hls, tk_last]; push_cast; rfl
      have hmB := mB_Taken
      have hmC := mC_Taken
      obtain ⟨y9, hy9⟩ : ∃ y9, (tk a0 m).w = y9 := ⟨_, rfl⟩
      rw [hy9] at c17 hwy hls
      have HW := Lib.hid hwy
      clear hwy hy9 hho
      cases y9 with
      | bs q =>
        simp only [Wy.v] at c17
        have hq : q.last = ((m : Int) + 127) % 128 := hls.trans el
        have HT := Lib.hid (hq ▸ BTaken_c HW.out)
        clear hls el hq
        go_wp2_with (first | ((with_reducible refine HT.out.mono ?_); rintro e w9 ⟨rfl, rfl⟩))
        go_ret
        exact ⟨rfl, V.out.v.bel⟩
      | cy q =>
        simp only [Wy.v] at c17
        have hq : q.last = ((m : Int) + 127) % 128 := hls.trans el
        have HT := Lib.hid (hq ▸ CTaken_c HW.out)
        clear hls el hq
        go_wp2_with (first | ((with_reducible refine HT.out.mono ?_); rintro e w9 ⟨rfl, rfl⟩))
        go_ret
        exact ⟨rfl, V.out.v.bel⟩
end Go.Proofs.YtdffinnnjcgfcaaGreatK
