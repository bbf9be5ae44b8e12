/- StateFails: a link that serves goes out when the other side does, or begins anew; and what waits isn't lost by that. -/
import Derived.Test.YtdffinnnjcgfcaaGreatLf0
import Derived.Test.YtdffinnnjcgfcaaGreatLab
import Derived.IntWalk
namespace Go.Proofs.YtdffinnnjcgfcaaGreatK
open Go Go.RowKit
set_option linter.unusedVariables false
set_option maxHeartbeats 4000000
set_option maxRecDepth 100000
/-- So many messages are handed in, and sent. -/
def sendF (c : Bool) : Nat → St
  | 0 => served c
  | i + 1 => ((sendF c i).order 5 [i, 1, 2]).1.next.1
def failsH (x : St) (h : Bool) : St := if h then { x.hear (lk 4) with told := [] } else x
def failsB (c : Bool) (k s : Nat) (h : Bool) : Bool :=
  let z := (failsH (sendF c k) h).hear (lk s)
  decide (z.S = 0) && decide (z.told = [⟨2, if s = 3 then 8 else 9, []⟩]) && decide (z.h.sent.length + z.h.next.length = k) &&
    decide (z.a.sends = 3) && !decide (0 < z.c.get 7)
theorem fails_all : ((List.range 6).all fun k => (List.range 4).all fun s => failsB false k s false && failsB false k s true && (failsB true k s false && failsB true k s true)) = true := by kernel_rfl
theorem fails_at (c h : Bool) {k s : Nat} (hk : k < 6) (hs : s < 4) : failsB c k s h = true := by
  have f := List.all_eq_true.1 (List.all_eq_true.1 fails_all k (List.mem_range.2 hk)) s (List.mem_range.2 hs)
  simp only [Bool.and_eq_true] at f
  cases c <;> cases h
  · exact f.1.1
  · exact f.1.2
  · exact f.2.1
  · exact f.2.2
theorem St.next_out {x : St} (h : x.S = 0) : x.next = (x, x.stat x.a.sends) := by unfold St.next; rw [if_pos (.inl h)]
theorem stateFails_walk (a0 : Bool) (a1 a2 : Int) (a3 : Bool) (w : World) (p1 : 0 ≤ a1) (q1 : a1 ≤ 255) (p2 : 0 ≤ a2) (q2 : a2 ≤ 255) :
    Calls Tryz.prog 7 #[.bool a0, .int .u8 a1, .int .u8 a2, .bool a3] w fun e w' => e = .returned (.bool true) ∧ Below w.heap.size w w' := by
  obtain ⟨nk, hnk⟩ : ∃ nk : Nat, a1 % 6 = nk := ⟨(a1 % 6).toNat, by omega⟩
  obtain ⟨ns, hns⟩ : ∃ ns : Nat, a2 % 4 = ns := ⟨(a2 % 4).toNat, by omega⟩
  have hk : nk < 6 := by omega
  have hs : ns < 4 := by omega
  have HA := Lib.hid awake_c
  have HS := Lib.hid (serving_c a0)
  have HL := Lib.hid link_c
  have o4 := Lib.hid (Un.ok_lk (i := 4) (by decide) (by decide))
  have os := Lib.hid (Un.ok_lk (i := (ns : Int)) (by omega) (by omega))
  go_enter Tryz.func7, Tryz.ntmps7
  go_wp2_with (first
    | ((with_reducible refine (HA.out _).mono ?_); rintro e w1 ⟨rfl, hb1⟩)
    | ((with_reducible refine (HS.out _).mono ?_); rintro e w2 ⟨b, rfl, V0⟩; have V := Lib.hid (V0.base hb1); clear V0))
  simp only [hnk]
  have HNK := Lib.hid hnk
  clear hnk
  go_loopw [11] (fun i wr => ∃ k : Nat, k ≤ nk ∧ i = .int .i64 k ∧ Lk w wr b (sendF a0 k) (200 + k)) (fun i _ => nk - (intOf i).toNat)
  case atStart => exact ⟨0, by omega, rfl, V.out⟩
  case round =>
    obtain ⟨k, hkk, rfl, V9⟩ := hrel
    have V := Lib.hid V9
    clear V9
    by_cases hlt : k < nk
    · have hlt' : (k : Int) < nk := by omega
      have hk9 : (k : Int) ≤ 5 := by omega
      have V3 := Lib.hid (V.out.below (bl_alloc (bl_refl wr) (.cells #[.int .u8 k, .int .u8 1, .int .u8 2] 5)))
      have HT := Lib.hid (V3.out.order (by omega) 5 (byt_new3 (x := (k : Int)) (y := 1) (z := 2) (by omega) (by decide) (by decide)) (by simp))
      go_wp2_with (first
        | ((with_reducible refine HT.out.mono ?_); rintro e w4 ⟨rfl, V1, K1⟩; have V4 := Lib.hid V1; clear V1 K1)
        | ((with_reducible refine V4.out.next.mono ?_); rintro e w5 ⟨vi, he, B1, V1, K1⟩; (obtain ⟨ai, ci, rfl, _⟩ := B1.1.shape); subst he; have V5 := Lib.hid V1; clear V1 K1 B1))
      go_roundw
      case rel => exact ⟨k + 1, by omega, by go_num, ⟨V5.out.v, V5.out.k, V5.out.f.le (by omega)⟩⟩
      case measure => simp [intOf]; omega
    · obtain rfl : k = nk := by omega
      have fa := fails_at a0 a3 hk hs
      unfold failsB at fa
      simp only [Bool.and_eq_true, decide_eq_true_eq, Bool.not_eq_true', decide_eq_false_iff_not] at fa
      generalize hx0 : sendF a0 k = x0 at *
      obtain ⟨y, hy⟩ : ∃ y, failsH x0 a3 = y := ⟨_, rfl⟩
      rw [hy] at fa
      obtain ⟨z, hz⟩ : ∃ z, y.hear (lk ns) = z := ⟨_, rfl⟩
      rw [hz] at fa
      have FA := Lib.hid fa
      have HY := Lib.hid hy
      have HZ := Lib.hid hz
      clear fa hy hz
      go_upto_if 35 with fail
      go_cut [] (fun wx => Lk w wx b y 300)
      case first =>
        cases a3
        · have ey : y = x0 := by rw [← HY.out]; rfl
          subst ey
          go_wp2
          go_meet
          case rel => exact ⟨V.out.v, V.out.k, V.out.f.le (by omega)⟩
        · have ey : y = { x0.hear (lk 4) with told := [] } := by rw [← HY.out]; rfl
          subst ey
          go_wp2_with (first
            | ((with_reducible refine (HL.out 4 _).mono ?_); rintro e w4 ⟨rfl, hb4⟩; (have Va := Lib.hid (V.out.below hb4)); (have HT := Lib.hid (Va.out.hear0 (lk 4) (by omega) o4.out rfl)))
            | ((with_reducible refine HT.out.mono ?_); rintro e w5 ⟨rfl, V1, K1⟩; have Vb := Lib.hid V1; clear V1 K1)
            | ((with_reducible refine Vb.out.told.mono ?_); rintro e w6 ⟨vt, rfl, K2, V1, _⟩; (obtain ⟨at9, ct9, rfl⟩ := K2.1); have Vc := Lib.hid V1; clear V1 K2))
          go_meet
          case rel => exact ⟨Vc.out.v, Vc.out.k, Vc.out.f.le (by omega)⟩
      case rest =>
        rename World => wa
        have Vy := Lib.hid hcut
        clear hcut
        have HT := Lib.hid (fun (w' : World) (hb : Below wa.heap.size wa w') => (Vy.out.below hb).hear0 (lk ns) (by decide) os.out rfl)
        obtain ⟨wv, hwv⟩ : ∃ wv : Int, (if ns = 3 then 8 else 9) = wv := ⟨_, rfl⟩
        have f2 := Lib.hid (show z.told = [⟨2, wv, []⟩] from by rw [FA.out.1.1.1.2, hwv])
        have HWV := Lib.hid hwv
        clear hwv
        go_upto_if 50 with (first
          | ((with_reducible refine (HL.out _ _).mono ?_); rintro e w4 ⟨rfl, hb4⟩)
          | ((with_reducible refine (HT.out _ hb4).mono ?_); rintro e w5 ⟨rfl, V1, K1⟩; (rw [HZ.out] at V1); have Vb := Lib.hid V1; clear V1 K1)
          | ((with_reducible refine Vb.out.told.mono ?_); rintro e w6 ⟨vt, rfl, K2, V1, _⟩; (rw [f2.out] at K2); (obtain ⟨bl, off, cap, rfl, t0, t1, _⟩ := K2.one); have Vc := Lib.hid V1; clear V1 K2))
        go_cut [14] (fun v wx => v = .int .u8 wv ∧ wx = w6)
        case first =>
          by_cases h3 : ns = 3
          · subst h3
            have e8 := HWV.out
            simp only [if_true] at e8
            subst e8
            go_wp2
            go_meet
            case rel => exact ⟨rfl, rfl⟩
          · have e9 := HWV.out
            rw [if_neg h3] at e9
            subst e9
            have k3 : ((ns : Int) == 3) = false := beq_eq_false_iff_ne.2 (by omega)
            go_wp2
            go_meet
            case rel => exact ⟨rfl, rfl⟩
        case rest =>
          rename World => wz
          obtain ⟨rfl, hwz⟩ := hcut
          subst hwz
          have hmB := mB_Hold
          have hmC := mC_Hold
          obtain ⟨hS, hsum, hsd, hc7⟩ : z.S = 0 ∧ z.h.sent.length + z.h.next.length = k ∧ z.a.sends = 3 ∧ ¬ 0 < z.c.get 7 := ⟨FA.out.1.1.1.1, FA.out.1.1.2, FA.out.1.2, by have := FA.out.2; omega⟩
          have Vd := Lib.hid Vc.out
          have cS := Vd.out.S
          dsimp only at cS
          rw [hS] at cS
          obtain ⟨bw, bh, vs, vn, c17, hwy, hho⟩ := Vd.out.hold
          dsimp only at c17 hwy hho
          obtain ⟨bc, c14, hck⟩ := Vd.out.ck
          dsimp only at hck
          obtain ⟨sn, hsn⟩ : ∃ sn : Int, (z.h.sent.length : Int) = sn := ⟨_, rfl⟩
          obtain ⟨nn, hnn⟩ : ∃ nn : Int, (z.h.next.length : Int) = nn := ⟨_, rfl⟩
          have D1 := Lib.hid (fun g : Up wz => hsn ▸ HSent_c (hho.below g.ok))
          have D2 := Lib.hid (fun g : Up wz => hnn ▸ HNext_c (hho.below g.ok))
          have hsum' : sn + nn = k := by omega
          have hs0 : 0 ≤ sn := by omega
          have hn0 : 0 ≤ nn := by omega
          have hs5 : sn ≤ 5 := by omega
          have hn5 : nn ≤ 5 := by omega
          have hx := fun g : Up wz => (Vd.out.below g.ok).next0 hS
          obtain ⟨u, hu⟩ : ∃ u, St.stat { z with told := [] } ({ z with told := [] } : St).a.sends = u := ⟨_, rfl⟩
          have hu3 : u.status = 3 := by rw [← hu]; exact hsd
          dsimp only at hx hu
          rw [hu] at hx
          obtain ⟨bsn, fsn, bib, fib, kind, status, wide, info⟩ := u
          dsimp only at hu3
          subst hu3
          have DX := Lib.hid hx
          have hfd := run_fieldU5 ⟨bsn, fsn, bib, fib, kind, 3, wide, info⟩ nil0
          dsimp only at hfd
          have up_t0 := fun g : Up wz => below_cell g.ok t0
          have up_t1 := fun g : Up wz => below_cell g.ok t1
          have up_S := fun g : Up wz => below_cell g.ok cS
          have up_14 := fun g : Up wz => below_cell g.ok c14
          have DON := Lib.hid (show ∀ g : Up wz, Calls Tryz.prog 33 #[.pointer (some ⟨bc, 0, none⟩), .int .i64 7] g.val fun e w' => e = .returned (.bool false) ∧ g.val = w' from fun g => by
            have ho := On_c (hck.below g.ok) 7 (by decide) (by decide)
            rw [decide_eq_false (show ¬ 0 < z.c.get 7 from hc7)] at ho
            exact ho)
          have hwr : IntKind.i64.wrap (sn + nn) = k := by rw [IntWalk.i64_in _ (by omega)]; exact hsum'
          clear hho hx hu hsn hnn hS hsum hsd hc7 hck t0 t1 cS c14 hsum'
          obtain ⟨y9, hy9⟩ : ∃ y9, z.w = y9 := ⟨_, rfl⟩
          rw [hy9] at c17 hwy
          have HW := Lib.hid hwy
          clear hwy hy9
          cases y9
          case bs qb =>
            simp only [Wy.v] at c17
            have DH := Lib.hid (fun g : Up wz => BHold_c (HW.out.below g.ok))
            have up_17 := fun g : Up wz => below_cell g.ok c17
            go_upto_region 19 with fail
            refine wp_region_up (by kernel_rfl) (by kernel_rfl) ?_
            repeat (go_big_quiet_step (first | (with_reducible exact Up.calls_same _ (DH.out _)) | (with_reducible exact Up.calls_same _ (D1.out _)) | (with_reducible exact Up.calls_same _ (D2.out _)) | (with_reducible exact Up.calls _ (DX.out _)) | (with_reducible exact Up.calls_same _ (DON.out _))))
            refine wpQuiet_nil ?_
            clear up_S up_17 up_14 up_t0 up_t1
            refine up_elim (fun w8 hb8 => ?_)
            go_wp2
            go_ret
            exact ⟨rfl, bl_then Vd.out.v.bel hb8⟩
          case cy qc =>
            simp only [Wy.v] at c17
            have DH := Lib.hid (fun g : Up wz => CHold_c (HW.out.below g.ok))
            have up_17 := fun g : Up wz => below_cell g.ok c17
            go_upto_region 19 with fail
            refine wp_region_up (by kernel_rfl) (by kernel_rfl) ?_
            repeat (go_big_quiet_step (first | (with_reducible exact Up.calls_same _ (DH.out _)) | (with_reducible exact Up.calls_same _ (D1.out _)) | (with_reducible exact Up.calls_same _ (D2.out _)) | (with_reducible exact Up.calls _ (DX.out _)) | (with_reducible exact Up.calls_same _ (DON.out _))))
            refine wpQuiet_nil ?_
            clear up_S up_17 up_14 up_t0 up_t1
            refine up_elim (fun w8 hb8 => ?_)
            go_wp2
            go_ret
            exact ⟨rfl, bl_then Vd.out.v.bel hb8⟩
end Go.Proofs.YtdffinnnjcgfcaaGreatK
