/- The walk of Pair.Tick: the terminals and the wires. -/
import Derived.Test.YtcllbmjmefeknaaGreatPr0
namespace Go.Proofs.YtcllbmjmefeknaaGreatK
open Go Go.RowKit
set_option linter.unusedVariables false
set_option maxHeartbeats 40000000
set_option maxRecDepth 100000
theorem PrTick_raw {σ : Type} (R : Wr σ) {w : World} {b n m : Nat} {x : Pr} {s : σ} {L : PrL} {A : List Nat} (P : PrAt w b x L R.ws) (W : R.At n w s A) (D : Dis (prF b L) A) (hk : x.ok m) (hm : m ≤ 700000) (hn : n ≤ 100000000000000) (hp0 : R.pre x.wires.p0.tell x.wires.p0.x.told) (hp1 : R.pre x.wires.p1.tell x.wires.p1.x.told) :
    Calls Tryz.prog 21 #[.pointer (some ⟨b, 0, none⟩)] w fun e w' => e = .returned (.tuple #[]) ∧ x.tick.ok (m + 64) ∧ PrB R (n + 200000000) w w' b x.tick (x.seen R s) L A := by
  obtain ⟨b0, b1, c0, c1, L0, L1, l0, m0, l1, m1, vw⟩ := L
  obtain ⟨a0, a1, a2, a3, a4, a5, a6, a7, ha⟩ := eightB P.n0
  obtain ⟨g0, g1, g2, g3, g4, g5, g6, g7, hg⟩ := eightB P.n1
  obtain ⟨g, hgw⟩ : ∃ g, w.heap.size = g := ⟨_, rfl⟩
  have htime := hk.time
  have hc := P.blk.c
  have hf := P.blk.f
  have K0 : Blk w b #[.pointer (some ⟨b0, 0, none⟩), .pointer (some ⟨b1, 0, none⟩), .pointer (some ⟨c0, 0, none⟩), .pointer (some ⟨c1, 0, none⟩), .bool a0, .bool a1, .bool a2, .bool a3, .bool a4, .bool a5, .bool a6, .bool a7, .bool g0, .bool g1, .bool g2, .bool g3, .bool g4, .bool g5, .bool g6, .bool g7, .int .i64 x.time, vw] 128 := P.blk.as (by rw [Pr.cells, ha, hg]; rfl)
  have k0c := K0.c
  have k0f := K0.f
  have hbg : b ≠ g := fun e => by have := K0.lt; omega
  have hgb : g ≠ b := fun e => hbg e.symm
  have G1 := (Chg.refl [b] w).set (b := b) (i := 20) (.inl (by simp)) (.int .i64 (x.time + 1))
  have T1 : PrTo w (w.setCell ⟨b, 20, none⟩ (.int .i64 (x.time + 1))) b x.a0 ⟨b0, b1, c0, c1, L0, L1, l0, m0, l1, m1, vw⟩ R.ws := PrTo.byC P P.n0 P.n1 ((K0.set 20 (.int .i64 (x.time + 1))).as (by rw [Pr.cells, ha, hg]; rfl)) G1
  have HP := Lib.hid P
  have HW := Lib.hid W
  have HD := Lib.hid D
  have HK := Lib.hid hk
  have T2 : PrTo w ((w.setCell ⟨b, 20, none⟩ (.int .i64 (x.time + 1))).alloc (.cells #[.bool false, .bool false, .bool false, .bool false, .bool false, .bool false, .bool false, .bool false, .bool false, .bool false, .bool false, .bool false, .bool false, .bool false, .bool false, .bool false] outT)) b x.a0 ⟨b0, b1, c0, c1, L0, L1, l0, m0, l1, m1, vw⟩ R.ws := T1.then (fun _ h _ => .below h (bl_alloc (bl_refl _) _))
  have N2 : Blk ((w.setCell ⟨b, 20, none⟩ (.int .i64 (x.time + 1))).alloc (.cells #[.bool false, .bool false, .bool false, .bool false, .bool false, .bool false, .bool false, .bool false, .bool false, .bool false, .bool false, .bool false, .bool false, .bool false, .bool false, .bool false] outT)) g #[.bool false, .bool false, .bool false, .bool false, .bool false, .bool false, .bool false, .bool false, .bool false, .bool false, .bool false, .bool false, .bool false, .bool false, .bool false, .bool false] outT := Blk.newAt (by simp [World.setCell, hgw]) _ _
  obtain ⟨⟨q0, q1, r0, r1, M0, M1, u0, v0, u1, v1, vw'⟩, P2, e2, G2, O2⟩ := T2
  obtain rfl : q0 = b0 := e2.b0
  obtain rfl : q1 = b1 := e2.b1
  obtain rfl : r0 = c0 := e2.c0
  obtain rfl : r1 = c1 := e2.c1
  obtain rfl : vw' = vw := e2.vw
  have k2c := (P2.blk.as (cs' := #[.pointer (some ⟨q0, 0, none⟩), .pointer (some ⟨q1, 0, none⟩), .pointer (some ⟨r0, 0, none⟩), .pointer (some ⟨r1, 0, none⟩), .bool a0, .bool a1, .bool a2, .bool a3, .bool a4, .bool a5, .bool a6, .bool a7, .bool g0, .bool g1, .bool g2, .bool g3, .bool g4, .bool g5, .bool g6, .bool g7, .int .i64 (x.time + 1), vw']) (by simp only [Pr.cells, Pr.a0, ha, hg]; rfl)).c
  have HT2 := Lib.hid (show PrTo w _ b x.a0 ⟨q0, q1, r0, r1, L0, L1, l0, m0, l1, m1, vw'⟩ R.ws from ⟨_, P2, e2, G2, O2⟩)
  have HN2 := Lib.hid N2
  clear P W D hk T1 N2 G1 hc hf K0 P2 e2 G2 O2
  have ip0 := indexP0
  have ip1 := indexP1
  have iw0 := indexW0
  have iw1 := indexW1
  go_enter Tryz.func21, Tryz.ntmps21
  go_upto_region 3 with fail
  generalize (w.setCell ⟨b, 20, none⟩ (.int .i64 (x.time + 1))).alloc (.cells #[.bool false, .bool false, .bool false, .bool false, .bool false, .bool false, .bool false, .bool false, .bool false, .bool false, .bool false, .bool false, .bool false, .bool false, .bool false, .bool false] outT) = w2 at k2c HT2 HN2 ⊢
  clear k0c k0f
  go_wp2
  go_loopw [27] (fun i wr => (i = .int .i64 0 ∧ PrTo w wr b x.a0 ⟨q0, q1, r0, r1, L0, L1, l0, m0, l1, m1, vw'⟩ R.ws ∧ Blk wr g #[.bool false, .bool false, .bool false, .bool false, .bool false, .bool false, .bool false, .bool false, .bool false, .bool false, .bool false, .bool false, .bool false, .bool false, .bool false, .bool false] outT)
    ∨ (i = .int .i64 1 ∧ PrTo w wr b x.a1 ⟨q0, q1, r0, r1, L0, L1, l0, m0, l1, m1, vw'⟩ R.ws ∧ (x.p0.tick x.n0).1.ok (m + 64) ∧ Blk wr g ((x.o0 ++ List.replicate 8 false).map Value.bool).toArray outT)
    ∨ (i = .int .i64 2 ∧ PrTo w wr b x.posts ⟨q0, q1, r0, r1, L0, L1, l0, m0, l1, m1, vw'⟩ R.ws ∧ (x.p0.tick x.n0).1.ok (m + 64) ∧ (x.p1.tick x.n1).1.ok (m + 64) ∧ Blk wr g ((x.o0 ++ x.o1).map Value.bool).toArray outT)) (fun i _ => 2 - (intOf i).toNat)
  case atStart => exact .inl ⟨rfl, HT2.out, HN2.out⟩
  case round =>
    rcases hrel with ⟨rfl, T, N⟩ | ⟨rfl, T, ok0, N⟩ | ⟨rfl, T, ok0, ok1, N⟩
    · obtain ⟨⟨s0, s1, t0, t1, J0, J1, y0, z0, y1, z1, vw''⟩, P3, e3, G3, O3⟩ := T
      obtain rfl : s0 = q0 := e3.b0
      obtain rfl : s1 = q1 := e3.b1
      obtain rfl : t0 = r0 := e3.c0
      obtain rfl : t1 = r1 := e3.c1
      have k3c := (P3.blk.as (cs' := #[.pointer (some ⟨s0, 0, none⟩), .pointer (some ⟨s1, 0, none⟩), .pointer (some ⟨t0, 0, none⟩), .pointer (some ⟨t1, 0, none⟩), .bool a0, .bool a1, .bool a2, .bool a3, .bool a4, .bool a5, .bool a6, .bool a7, .bool g0, .bool g1, .bool g2, .bool g3, .bool g4, .bool g5, .bool g6, .bool g7, .int .i64 (x.time + 1), vw'']) (by simp only [Pr.cells, Pr.a0, ha, hg]; rfl)).c
      have HT := Lib.hid (Tick8_c (p := x.p0) P3.p0 HK.out.p0 hm ha)
      have HP3 := Lib.hid P3
      have AF := Lib.hid (fun (w9 : World) (z : Pr) (k : PrTo wr w9 b z ⟨s0, s1, t0, t1, J0, J1, y0, z0, y1, z1, vw''⟩ R.ws) => PrTo.after e3 G3 O3 k)
      have HN := Lib.hid N
      clear P3 e3 G3 O3 N k2c
      go_wp2_with (first
        | ((with_reducible refine HT.out.mono ?_); rintro e w6 ⟨⟨d0, d1, d2, d3, d4, d5, d6, d7, hd, rfl⟩, T6, ok6⟩; (have HO6 := Lib.hid ok6); clear ok6; (have N6 := HN.out.keep (HP3.out.p0.typed.off (t := outT) (by decide)) T6.choose_spec.2.2.1); (have HN6 := Lib.hid N6); (have HT6 := Lib.hid T6); (have k6c := N6.c); (have k6f := N6.f); (have HDD := Lib.hid hd); clear N6 T6 hd))
      go_roundw
      case rel =>
        have S := store8 (o := 0) HN6.out (.bool d0) (.bool d1) (.bool d2) (.bool d3) (.bool d4) (.bool d5) (.bool d6) (.bool d7)
        have e8 : x.o0 = [d0, d1, d2, d3, d4, d5, d6, d7] := HDD.out
        refine .inr (.inl ⟨by go_num, PrTo.fresh (AF.out _ _ (PrTo.byP0 HP3.out HT6.out)) HN6.out (Nat.le_of_eq hgw) S.2, HO6.out, S.1.as (by rw [e8]; rfl)⟩)
      case measure => simp [intOf]
    · obtain ⟨⟨s0, s1, t0, t1, J0, J1, y0, z0, y1, z1, vw''⟩, P3, e3, G3, O3⟩ := T
      obtain rfl : s0 = q0 := e3.b0
      obtain rfl : s1 = q1 := e3.b1
      obtain rfl : t0 = r0 := e3.c0
      obtain rfl : t1 = r1 := e3.c1
      have k3c := (P3.blk.as (cs' := #[.pointer (some ⟨s0, 0, none⟩), .pointer (some ⟨s1, 0, none⟩), .pointer (some ⟨t0, 0, none⟩), .pointer (some ⟨t1, 0, none⟩), .bool a0, .bool a1, .bool a2, .bool a3, .bool a4, .bool a5, .bool a6, .bool a7, .bool g0, .bool g1, .bool g2, .bool g3, .bool g4, .bool g5, .bool g6, .bool g7, .int .i64 (x.time + 1), vw'']) (by simp only [Pr.cells, Pr.a1, Pr.a0, ha, hg]; rfl)).c
      have HT := Lib.hid (Tick8_c (p := x.p1) P3.p1 HK.out.p1 hm hg)
      obtain ⟨f0, f1, f2, f3, f4, f5, f6, f7, hf0⟩ := eightB x.o0_len
      have HF0 := Lib.hid hf0
      have HP3 := Lib.hid P3
      have AF := Lib.hid (fun (w9 : World) (z : Pr) (k : PrTo wr w9 b z ⟨s0, s1, t0, t1, J0, J1, y0, z0, y1, z1, vw''⟩ R.ws) => PrTo.after e3 G3 O3 k)
      have HN := Lib.hid (N.as (cs' := #[.bool f0, .bool f1, .bool f2, .bool f3, .bool f4, .bool f5, .bool f6, .bool f7, .bool false, .bool false, .bool false, .bool false, .bool false, .bool false, .bool false, .bool false]) (by rw [hf0]; rfl))
      clear P3 e3 G3 O3 N k2c hf0
      go_wp2_with (first
        | ((with_reducible refine HT.out.mono ?_); rintro e w6 ⟨⟨d0, d1, d2, d3, d4, d5, d6, d7, hd, rfl⟩, T6, ok6⟩; (have HO6 := Lib.hid ok6); clear ok6; (have N6 := HN.out.keep (HP3.out.p1.typed.off (t := outT) (by decide)) T6.choose_spec.2.2.1); (have HN6 := Lib.hid N6); (have HT6 := Lib.hid T6); (have k6c := N6.c); (have k6f := N6.f); (have HDD := Lib.hid hd); clear N6 T6 hd))
      go_roundw
      case rel =>
        have S := store8 (o := 8) HN6.out (.bool d0) (.bool d1) (.bool d2) (.bool d3) (.bool d4) (.bool d5) (.bool d6) (.bool d7)
        have e8 : x.o1 = [d0, d1, d2, d3, d4, d5, d6, d7] := HDD.out
        refine .inr (.inr ⟨by go_num, PrTo.fresh (AF.out _ _ (PrTo.byP1 HP3.out HT6.out)) HN6.out (Nat.le_of_eq hgw) S.2, ok0, HO6.out, S.1.as (by rw [e8, HF0.out]; rfl)⟩)
      case measure => simp [intOf]
    · clear k2c
      obtain ⟨f0, f1, f2, f3, f4, f5, f6, f7, hf0⟩ := eightB x.o0_len
      obtain ⟨h0, h1, h2, h3, h4, h5, h6, h7, hf1⟩ := eightB x.o1_len
      obtain ⟨⟨s0, s1, t0, t1, J0, J1, y0, z0, y1, z1, vw''⟩, P3, e3, G3, O3⟩ := T
      obtain rfl : s0 = q0 := e3.b0
      obtain rfl : s1 = q1 := e3.b1
      obtain rfl : t0 = r0 := e3.c0
      obtain rfl : t1 = r1 := e3.c1
      obtain rfl : vw'' = vw' := e3.vw
      have k3c := (P3.blk.as (cs' := #[.pointer (some ⟨s0, 0, none⟩), .pointer (some ⟨s1, 0, none⟩), .pointer (some ⟨t0, 0, none⟩), .pointer (some ⟨t1, 0, none⟩), .bool a0, .bool a1, .bool a2, .bool a3, .bool a4, .bool a5, .bool a6, .bool a7, .bool g0, .bool g1, .bool g2, .bool g3, .bool g4, .bool g5, .bool g6, .bool g7, .int .i64 (x.time + 1), vw'']) (by simp only [Pr.cells, Pr.posts, ha, hg]; rfl)).c
      have HT3 := Lib.hid (show PrTo w wr b (x.b1 0) ⟨s0, s1, t0, t1, L0, L1, l0, m0, l1, m1, vw''⟩ R.ws from by rw [Pr.b1_0]; exact ⟨_, P3, e3, G3, O3⟩)
      have HN := Lib.hid (N.as (cs' := #[.bool f0, .bool f1, .bool f2, .bool f3, .bool f4, .bool f5, .bool f6, .bool f7, .bool h0, .bool h1, .bool h2, .bool h3, .bool h4, .bool h5, .bool h6, .bool h7]) (by rw [hf0, hf1]; rfl))
      have HF0 := Lib.hid hf0
      have HF1 := Lib.hid hf1
      have OK0 := Lib.hid ok0
      have OK1 := Lib.hid ok1
      clear P3 e3 G3 O3 N hf0 hf1 ok0 ok1
      go_wp2
      go_loopw [46] (fun i wr => (i = .int .i64 0 ∧ PrTo w wr b (x.b1 0) ⟨s0, s1, t0, t1, L0, L1, l0, m0, l1, m1, vw''⟩ R.ws ∧ Blk wr g #[.bool f0, .bool f1, .bool f2, .bool f3, .bool f4, .bool f5, .bool f6, .bool f7, .bool h0, .bool h1, .bool h2, .bool h3, .bool h4, .bool h5, .bool h6, .bool h7] outT)
        ∨ (i = .int .i64 1 ∧ PrTo w wr b (x.b2 0) ⟨s0, s1, t0, t1, L0, L1, l0, m0, l1, m1, vw''⟩ R.ws ∧ Blk wr g #[.bool f0, .bool f1, .bool f2, .bool f3, .bool f4, .bool f5, .bool f6, .bool f7, .bool h0, .bool h1, .bool h2, .bool h3, .bool h4, .bool h5, .bool h6, .bool h7] outT)
        ∨ (i = .int .i64 2 ∧ PrTo w wr b (x.b2 8) ⟨s0, s1, t0, t1, L0, L1, l0, m0, l1, m1, vw''⟩ R.ws)) (fun i _ => 2 - (intOf i).toNat)
      case atStart => exact .inl ⟨rfl, HT3.out, HN.out⟩
      case round =>
        clear k3c
        rcases hrel with ⟨rfl, T, N⟩ | ⟨rfl, T, N⟩ | ⟨rfl, T⟩
        · have nc := N.c
          have HT := Lib.hid T
          have HNN := Lib.hid N
          clear T N
          go_wp2
          go_loopw [53] (fun j wz => ∃ z : Nat, z ≤ 8 ∧ j = .int .i64 z ∧ PrTo w wz b (x.b1 z) ⟨s0, s1, t0, t1, L0, L1, l0, m0, l1, m1, vw''⟩ R.ws ∧ Blk wz g #[.bool f0, .bool f1, .bool f2, .bool f3, .bool f4, .bool f5, .bool f6, .bool f7, .bool h0, .bool h1, .bool h2, .bool h3, .bool h4, .bool h5, .bool h6, .bool h7] outT) (fun j _ => 8 - (intOf j).toNat)
          case atStart => exact ⟨0, by omega, rfl, HT.out, HNN.out⟩
          case round =>
            clear nc
            obtain ⟨z, hz, rfl, T, N⟩ := hrel
            by_cases hlt : z < 8
            · have hlt' : (z : Int) < 8 := by omega
              obtain ⟨v, hv⟩ : ∃ v, x.o0[z]? = some v := ⟨_, List.getElem?_eq_getElem (by rw [x.o0_len]; exact hlt)⟩
              have hi := index8 (d0 := f0) (d1 := f1) (d2 := f2) (d3 := f3) (d4 := f4) (d5 := f5) (d6 := f6) (d7 := f7) (z := z) (v := v) (by rw [← HF0.out]; exact hv)
              obtain ⟨⟨b0', b1', c0', c1', J0, J1, y0, z0, y1, z1, vw3⟩, P3, e3, G3, O3⟩ := T
              obtain rfl : c0' = t0 := e3.c0
              replace P3 := P3.below (bl_drew (bl_refl wr))
              replace G3 := G3.drew
              replace N := N.drew
              have HP3 := Lib.hid P3
              have AF := Lib.hid (fun (w9 : World) (q : Pr) (k : PrTo wr.drew w9 b q ⟨b0', b1', c0', c1', J0, J1, y0, z0, y1, z1, vw3⟩ R.ws) => PrTo.after e3 G3 O3 k)
              have HN := Lib.hid N
              have HV := Lib.hid hv
              have hok : (x.b1 z).w0.ok (m + 2 * (x.o0.take z).length) := Wi.ok_passes _ HK.out.w0
              have HWP := Lib.hid (WPass_c P3.w0 hok (by rw [List.length_take]; omega) v)
              obtain ⟨u9, hu9⟩ := cells_at1 P3.n0 P3.n1 hlt (L := ⟨b0', b1', c0', c1', J0, J1, y0, z0, y1, z1, vw3⟩)
              clear P3 e3 G3 O3 N hv hok
              go_upto_region 14 with fail
              go_region_held (fun _ => True) (first | exact trivial | go_keep) (first
                | ((with_reducible refine HWP.out.mono ?_); rintro e w6 ⟨rfl, T6⟩; (have HN6 := Lib.hid (HN.out.keep (HP3.out.w0.typed.off (t := outT) (by decide)) T6.choose_spec.2.1)); (have B6 := HP3.out.blk.keep (HP3.out.w0.typed.off (by decide)) T6.choose_spec.2.1); (have k6c := (B6.c (12 + z)).trans hu9); (have k6f := B6.f); (have HX6 := Lib.hid (PrTo.byW0 HP3.out T6)); clear T6 B6))
              all_goals
                go_wp2
                go_roundw
                case rel => exact ⟨z + 1, by omega, by go_num, PrTo.step1 HP.out.n0 HP.out.n1 hlt HV.out AF.out HX6.out, HN6.out.far hbg _ _⟩
                case measure => simp [intOf]; omega
            · obtain rfl : z = 8 := by omega
              have HT8 := Lib.hid T
              have HN8 := Lib.hid N
              clear T N
              go_wp2
              go_roundw
              case rel => exact .inr (.inl ⟨by go_num, by rw [Pr.b2_0]; exact HT8.out, HN8.out⟩)
              case measure => simp [intOf]
        · have nc := N.c
          have HT := Lib.hid T
          have HNN := Lib.hid N
          clear T N
          go_wp2
          go_loopw [53] (fun j wz => ∃ z : Nat, z ≤ 8 ∧ j = .int .i64 z ∧ PrTo w wz b (x.b2 z) ⟨s0, s1, t0, t1, L0, L1, l0, m0, l1, m1, vw''⟩ R.ws ∧ Blk wz g #[.bool f0, .bool f1, .bool f2, .bool f3, .bool f4, .bool f5, .bool f6, .bool f7, .bool h0, .bool h1, .bool h2, .bool h3, .bool h4, .bool h5, .bool h6, .bool h7] outT) (fun j _ => 8 - (intOf j).toNat)
          case atStart => exact ⟨0, by omega, rfl, HT.out, HNN.out⟩
          case round =>
            clear nc
            obtain ⟨z, hz, rfl, T, N⟩ := hrel
            by_cases hlt : z < 8
            · have hlt' : (z : Int) < 8 := by omega
              obtain ⟨v, hv⟩ : ∃ v, x.o1[z]? = some v := ⟨_, List.getElem?_eq_getElem (by rw [x.o1_len]; exact hlt)⟩
              have hi := index8 (d0 := h0) (d1 := h1) (d2 := h2) (d3 := h3) (d4 := h4) (d5 := h5) (d6 := h6) (d7 := h7) (z := z) (v := v) (by rw [← HF1.out]; exact hv)
              obtain ⟨⟨b0', b1', c0', c1', J0, J1, y0, z0, y1, z1, vw3⟩, P3, e3, G3, O3⟩ := T
              obtain rfl : c1' = t1 := e3.c1
              replace P3 := P3.below (bl_drew (bl_refl wr))
              replace G3 := G3.drew
              replace N := N.drew
              have HP3 := Lib.hid P3
              have AF := Lib.hid (fun (w9 : World) (q : Pr) (k : PrTo wr.drew w9 b q ⟨b0', b1', c0', c1', J0, J1, y0, z0, y1, z1, vw3⟩ R.ws) => PrTo.after e3 G3 O3 k)
              have HN := Lib.hid N
              have HV := Lib.hid hv
              have hok : (x.b2 z).w1.ok (m + 2 * (x.o1.take z).length) := Wi.ok_passes _ HK.out.w1
              have HWP := Lib.hid (WPass_c P3.w1 hok (by rw [List.length_take]; omega) v)
              obtain ⟨u9, hu9⟩ := cells_at0 P3.n0 hlt (L := ⟨b0', b1', c0', c1', J0, J1, y0, z0, y1, z1, vw3⟩)
              clear P3 e3 G3 O3 N hv hok
              go_upto_region 14 with fail
              go_region_held (fun _ => True) (first | exact trivial | go_keep) (first
                | ((with_reducible refine HWP.out.mono ?_); rintro e w6 ⟨rfl, T6⟩; (have HN6 := Lib.hid (HN.out.keep (HP3.out.w1.typed.off (t := outT) (by decide)) T6.choose_spec.2.1)); (have B6 := HP3.out.blk.keep (HP3.out.w1.typed.off (by decide)) T6.choose_spec.2.1); (have k6c := (B6.c (4 + z)).trans hu9); (have k6f := B6.f); (have HX6 := Lib.hid (PrTo.byW1 HP3.out T6)); clear T6 B6))
              all_goals
                go_wp2
                go_roundw
                case rel => exact ⟨z + 1, by omega, by go_num, PrTo.step2 HP.out.n0 HP.out.n1 hlt HV.out AF.out HX6.out, HN6.out.far hbg _ _⟩
                case measure => simp [intOf]; omega
            · obtain rfl : z = 8 := by omega
              have HT8 := Lib.hid T
              have HN8 := Lib.hid N
              clear T N
              go_wp2
              go_roundw
              case rel => exact .inr (.inr ⟨by go_num, HT8.out⟩)
              case measure => simp [intOf]
        · have hB := T
          rw [Pr.b2_8 HP.out.n0 HP.out.n1] at hB
          replace hB := PrB.byTo HP.out HW.out HD.out hB
          obtain ⟨⟨b0', b1', c0', c1', J0, J1, y0, z0, y1, z1, vw3⟩, P3, e3, G3, O3⟩ := T
          obtain rfl : s0 = b0' := e3.b0.symm
          obtain rfl : s1 = b1' := e3.b1.symm
          have hc0 := P3.blk.c 0
          have hc1 := P3.blk.c 1
          rw [show (Pr.cells (x.b2 8) ⟨s0, s1, c0', c1', J0, J1, y0, z0, y1, z1, vw3⟩)[0]? = some (.pointer (some ⟨s0, 0, none⟩)) from rfl] at hc0
          rw [show (Pr.cells (x.b2 8) ⟨s0, s1, c0', c1', J0, J1, y0, z0, y1, z1, vw3⟩)[1]? = some (.pointer (some ⟨s1, 0, none⟩)) from rfl] at hc1
          have HB := Lib.hid hB
          clear P3 e3 G3 O3 hB
          go_wp2
          go_loopw [74] (fun i wr => (i = .int .i64 0 ∧ PrB R n w wr b x.wires s ⟨s0, s1, t0, t1, L0, L1, l0, m0, l1, m1, vw''⟩ A)
            ∨ (i = .int .i64 1 ∧ PrB R (n + 100000000) w wr b { x.wires with p0 := x.wires.p0.tell } (R.see 0 x.wires.p0.tell x.wires.p0.x.told R.ws.length s) ⟨s0, s1, t0, t1, L0, L1, l0, m0, l1, m1, vw''⟩ A)
            ∨ (i = .int .i64 2 ∧ PrB R (n + 200000000) w wr b x.tick (x.seen R s) ⟨s0, s1, t0, t1, L0, L1, l0, m0, l1, m1, vw''⟩ A)) (fun i _ => 2 - (intOf i).toNat)
          case atStart => exact .inl ⟨rfl, HB.out⟩
          case round =>
            clear hc0 hc1 HT3 HN HF0 HF1
            rcases hrel with ⟨rfl, B⟩ | ⟨rfl, B⟩ | ⟨rfl, B⟩
            · obtain ⟨⟨b0', b1', c0', c1', J0, J1, y0, z0, y1, z1, vw3⟩, A3, P3, W3, D3, e3, G3, O3⟩ := B
              obtain rfl : s0 = b0' := e3.b0.symm
              obtain rfl : s1 = b1' := e3.b1.symm
              obtain rfl : vw'' = vw3 := e3.vw.symm
              have HTD := Lib.hid (PTold_c P3.p0)
              have HP3 := Lib.hid P3
              have HS0 := Lib.hid (fun (w9 : World) (T : Tolds w9 J0.L.vt x.wires.p0.x.told) (X : PoTo wr w9 s0 x.wires.p0.tell J0) => Seen.start0 P3 W3 D3 e3 G3 O3 T X)
              obtain ⟨av, cv, evw, hcv⟩ := P3.wt.shape
              dsimp only at evw
              have hvw : (Pr.cells (x.wires) ⟨s0, s1, c0', c1', J0, J1, y0, z0, y1, z1, vw''⟩)[21]? = some (.slice av R.ws.length cv) := by
                have e21 := cells_at21 (x := x.wires) (L := ⟨s0, s1, c0', c1', J0, J1, y0, z0, y1, z1, vw''⟩) P3.n0 P3.n1
                rw [e21]
                exact congrArg some evw
              clear P3 W3 D3 e3 G3 O3
              go_wp2_with (first
                | ((with_reducible refine HTD.out.mono ?_); rintro e w6 ⟨rfl, T6, X6, C6⟩; (have B6 := (HP3.out.blk.keep (HP3.out.p0.typed.off (by decide)) X6.choose_spec.2.2.1)); (have k6v := (B6.c 21).trans hvw); (have HSS := Lib.hid (HS0.out _ T6 X6)); clear T6 X6 C6 B6))
              go_loopw [85] (fun j wz => ∃ z : Nat, z ≤ R.ws.length ∧ j = .int .i64 z ∧ Seen R (n + z * 10000000) w wz b ({ x.wires with p0 := x.wires.p0.tell }) (R.see 0 x.wires.p0.tell x.wires.p0.x.told z s) ⟨s0, s1, t0, t1, L0, L1, l0, m0, l1, m1, vw''⟩ A J0.L.vt x.wires.p0.x.told) (fun j _ => R.ws.length - (intOf j).toNat)
              case atStart => exact ⟨0, by omega, rfl, by rw [Nat.zero_mul, Nat.add_zero]; exact HSS.out⟩
              case round =>
                clear k6v
                obtain ⟨z, hz, rfl, S⟩ := hrel
                by_cases hlt : z < R.ws.length
                · have hlt' : (z : Int) < R.ws.length := by omega
                  obtain ⟨⟨T9, g9⟩, hws⟩ : ∃ u, R.ws[z]? = some u := ⟨_, List.getElem?_eq_getElem hlt⟩
                  have nA := R.nilT hws
                  have mA := R.metT hws
                  have eA := R.entT hws
                  obtain ⟨⟨b0', b1', c0', c1', J2, J3, y0, z0, y1, z1, vw3⟩, A3, P3, W3, D3, V3, T3, e3, G3, O3⟩ := S
                  obtain rfl : s0 = b0' := e3.b0.symm
                  obtain rfl : vw'' = vw3 := e3.vw.symm
                  obtain ⟨bw, ow, rfl, hcw⟩ := Row.at1 (evw ▸ P3.wt : Row wr 142 1 (.slice av R.ws.length cv) R.ws.length _) z _ (by rw [List.getElem?_map, hws]; rfl)
                  dsimp only at hcw
                  have hzl := R.len
                  have HTK := Lib.hid (show Calls Tryz.prog (R.fT z) #[.pointer (some ⟨g9, 0, none⟩), .int .i64 0, .pointer (some ⟨s0, 0, none⟩), J0.L.vt] wr _ from R.tick hws 0 W3 (by omega) P3.p0 (Po.ok_tell OK0.out) (by omega) (fun k hk hv => D3 k (mem6.2 (.inr (.inl hv))) hk) T3 V3 (by have h9 := OK0.out.few.1; have h10 : ((x.wires.p0.x.told.length : Int)) ≤ ((m + 64 : Nat) : Int) := h9; omega) (by omega) hp0)
                  have ST := Lib.hid (fun (w9 : World) (A9 : List Nat) (W9 : R.At (n + z * 10000000 + 10000000) w9 (R.see 0 x.wires.p0.tell x.wires.p0.x.told (z + 1) s) A9) (G9 : Chg A3 wr w9) (O9 : ∀ k ∈ A9, k ∈ A3 ∨ wr.heap.size ≤ k) => Seen.step P3 W3 D3 V3 T3 e3 G3 O3 W9 G9 O9)
                  clear P3 W3 D3 V3 T3 e3 G3 O3
                  go_wp2_with (first
                    | ((with_reducible refine HTK.out.mono ?_); rintro e w7 ⟨rfl, A7, W7, G7, O7⟩; (have HS7 := Lib.hid (ST.out _ _ W7 G7 O7)); clear W7 G7 O7))
                  go_roundw
                  case rel => exact ⟨z + 1, by omega, by go_num, by rw [Nat.succ_mul, ← Nat.add_assoc]; exact HS7.out⟩
                  case measure => simp [intOf]; omega
                · obtain rfl : z = R.ws.length := by omega
                  have HSn := Lib.hid S
                  clear S
                  have hnl : ¬ ((R.ws.length : Int) < R.ws.length) := by omega
                  go_wp2
                  go_roundw
                  case rel => exact .inr (.inl ⟨by go_num, (Seen.done HSn.out).le (by have := R.len; omega)⟩)
                  case measure => simp [intOf]
            · obtain ⟨⟨b0', b1', c0', c1', J0, J1, y0, z0, y1, z1, vw3⟩, A3, P3, W3, D3, e3, G3, O3⟩ := B
              obtain rfl : s1 = b1' := e3.b1.symm
              obtain rfl : s0 = b0' := e3.b0.symm
              obtain rfl : vw'' = vw3 := e3.vw.symm
              have HTD := Lib.hid (PTold_c P3.p1)
              have HP3 := Lib.hid P3
              have HS0 := Lib.hid (fun (w9 : World) (T : Tolds w9 J1.L.vt x.wires.p1.x.told) (X : PoTo wr w9 s1 { x.wires with p0 := x.wires.p0.tell }.p1.tell J1) => Seen.start1 P3 W3 D3 e3 G3 O3 T X)
              obtain ⟨av, cv, evw, hcv⟩ := P3.wt.shape
              dsimp only at evw
              have hvw : (Pr.cells ({ x.wires with p0 := x.wires.p0.tell }) ⟨s0, s1, c0', c1', J0, J1, y0, z0, y1, z1, vw''⟩)[21]? = some (.slice av R.ws.length cv) := by
                have e21 := cells_at21 (x := { x.wires with p0 := x.wires.p0.tell }) (L := ⟨s0, s1, c0', c1', J0, J1, y0, z0, y1, z1, vw''⟩) P3.n0 P3.n1
                rw [e21]
                exact congrArg some evw
              clear P3 W3 D3 e3 G3 O3
              go_wp2_with (first
                | ((with_reducible refine HTD.out.mono ?_); rintro e w6 ⟨rfl, T6, X6, C6⟩; (have B6 := (HP3.out.blk.keep (HP3.out.p1.typed.off (by decide)) X6.choose_spec.2.2.1)); (have k6v := (B6.c 21).trans hvw); (have HSS := Lib.hid (HS0.out _ T6 X6)); clear T6 X6 C6 B6))
              go_loopw [85] (fun j wz => ∃ z : Nat, z ≤ R.ws.length ∧ j = .int .i64 z ∧ Seen R (n + 100000000 + z * 10000000) w wz b (x.tick) (R.see 1 x.wires.p1.tell x.wires.p1.x.told z (R.see 0 x.wires.p0.tell x.wires.p0.x.told R.ws.length s)) ⟨s0, s1, t0, t1, L0, L1, l0, m0, l1, m1, vw''⟩ A J1.L.vt x.wires.p1.x.told) (fun j _ => R.ws.length - (intOf j).toNat)
              case atStart => exact ⟨0, by omega, rfl, by rw [Nat.zero_mul, Nat.add_zero]; exact HSS.out⟩
              case round =>
                clear k6v
                obtain ⟨z, hz, rfl, S⟩ := hrel
                by_cases hlt : z < R.ws.length
                · have hlt' : (z : Int) < R.ws.length := by omega
                  obtain ⟨⟨T9, g9⟩, hws⟩ : ∃ u, R.ws[z]? = some u := ⟨_, List.getElem?_eq_getElem hlt⟩
                  have nA := R.nilT hws
                  have mA := R.metT hws
                  have eA := R.entT hws
                  obtain ⟨⟨b0', b1', c0', c1', J2, J3, y0, z0, y1, z1, vw3⟩, A3, P3, W3, D3, V3, T3, e3, G3, O3⟩ := S
                  obtain rfl : s1 = b1' := e3.b1.symm
                  obtain rfl : vw'' = vw3 := e3.vw.symm
                  obtain ⟨bw, ow, rfl, hcw⟩ := Row.at1 (evw ▸ P3.wt : Row wr 142 1 (.slice av R.ws.length cv) R.ws.length _) z _ (by rw [List.getElem?_map, hws]; rfl)
                  dsimp only at hcw
                  have hzl := R.len
                  have HTK := Lib.hid (show Calls Tryz.prog (R.fT z) #[.pointer (some ⟨g9, 0, none⟩), .int .i64 1, .pointer (some ⟨s1, 0, none⟩), J1.L.vt] wr _ from R.tick hws 1 W3 (by omega) P3.p1 (Po.ok_tell OK1.out) (by omega) (fun k hk hv => D3 k (mem6.2 (.inr (.inr (.inl hv)))) hk) T3 V3 (by have h9 := OK1.out.few.1; have h10 : ((x.wires.p1.x.told.length : Int)) ≤ ((m + 64 : Nat) : Int) := h9; omega) (by omega) hp1)
                  have ST := Lib.hid (fun (w9 : World) (A9 : List Nat) (W9 : R.At (n + 100000000 + z * 10000000 + 10000000) w9 (R.see 1 x.wires.p1.tell x.wires.p1.x.told (z + 1) (R.see 0 x.wires.p0.tell x.wires.p0.x.told R.ws.length s)) A9) (G9 : Chg A3 wr w9) (O9 : ∀ k ∈ A9, k ∈ A3 ∨ wr.heap.size ≤ k) => Seen.step P3 W3 D3 V3 T3 e3 G3 O3 W9 G9 O9)
                  clear P3 W3 D3 V3 T3 e3 G3 O3
                  go_wp2_with (first
                    | ((with_reducible refine HTK.out.mono ?_); rintro e w7 ⟨rfl, A7, W7, G7, O7⟩; (have HS7 := Lib.hid (ST.out _ _ W7 G7 O7)); clear W7 G7 O7))
                  go_roundw
                  case rel => exact ⟨z + 1, by omega, by go_num, by rw [Nat.succ_mul, ← Nat.add_assoc]; exact HS7.out⟩
                  case measure => simp [intOf]; omega
                · obtain rfl : z = R.ws.length := by omega
                  have HSn := Lib.hid S
                  clear S
                  have hnl : ¬ ((R.ws.length : Int) < R.ws.length) := by omega
                  go_wp2
                  go_roundw
                  case rel => exact .inr (.inr ⟨by go_num, (Seen.done HSn.out).le (by have := R.len; omega)⟩)
                  case measure => simp [intOf]
            · have HBB := Lib.hid B
              clear B
              go_wp2
              go_end0
              exact ⟨rfl, Pr.ok_tick HK.out OK0.out OK1.out, HBB.out⟩
end Go.Proofs.YtcllbmjmefeknaaGreatK
