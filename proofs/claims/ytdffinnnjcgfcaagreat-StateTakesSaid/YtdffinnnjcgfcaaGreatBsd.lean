/- The walks of package basic, continued: New, Reset, Take, Answer. -/
import Derived.Test.YtdffinnnjcgfcaaGreatBsc
namespace Go.Proofs.YtdffinnnjcgfcaaGreatK
open Go Go.RowKit
set_option linter.unusedVariables false
set_option maxHeartbeats 1000000
set_option maxRecDepth 100000
theorem BNew_c (most oc : Int) (w : World) :
    Calls Tryz.prog 127 #[.int .i64 most, .int .i64 oc] w fun e w' => ∃ b bh, e = .returned (.pointer (some ⟨b, 0, none⟩)) ∧ w.heap.size ≤ b ∧ w.heap.size ≤ bh ∧ HoAt w' bh (Ho.none most oc) nil0 nil0 ∧ BsAt w' b bh Bs.zero ∧ Below w.heap.size w w' := by
  go_enter Tryz.func127, Tryz.ntmps127
  go_wp2_with (first | ((with_reducible refine (HNew_c most oc w).mono ?_); rintro e w2 ⟨bh, rfl, h1, h2, h3⟩))
  go_ret
  exact ⟨_, bh, rfl, h3.size, h1, h2.below (bl_alloc (bl_refl _) _), Blk.new _ _ _, bl_alloc h3 _⟩
theorem BReset_c {w : World} {b bh : Nat} {x : Bs} {h : Ho} {vs vn : Value} (hb : BsAt w b bh x) (hh : HoAt w bh h vs vn) :
    Calls Tryz.prog 206 #[.pointer (some ⟨b, 0, none⟩)] w fun e w' => e = .returned (.tuple #[]) ∧ HoAt w' bh h.clear nil0 nil0 ∧ BsAt w' b bh Bs.zero ∧ Chg [b, bh] w w' := by
  have hc := hb.c
  have hbn := hh.notin hb (by decide) (by decide)
  have HB := Lib.hid hb
  have HH := Lib.hid hh
  have hne : b ∉ [bh] := by simp at hbn ⊢; exact hbn.1
  clear hb hh
  go_enter Tryz.func206, Tryz.ntmps206
  go_wp2_with (first | ((with_reducible refine (HClear_c HH.out).mono ?_); rintro e w2 ⟨rfl, A2, G2⟩; (have hb2 := Lib.hid (HB.out.chg G2 hne)); (have hb2c := hb2.out.c); (have hb2f := hb2.out.f); (have HA2 := Lib.hid A2); clear A2))
  go_end0
  have hc9 : Chg [b] w2 _ := ((((((((((chg1 w2 b 0 (.pointer (some ⟨bh, 0, none⟩))).then (chg1 _ b 1 (.bool true))).then (chg1 _ b 2 (.bool true))).then (chg1 _ b 3 (.int .u8 127))).then (chg1 _ b 4 (.bool false))).then (chg1 _ b 5 (.int .i64 (-1)))).then (chg1 _ b 6 (.bool false))).then (chg1 _ b 7 (.bool false))).then (chg1 _ b 8 (.bool false))).then (chg1 _ b 9 (.bool false)))
  exact ⟨rfl, HA2.out.other hb2.out (by decide) (by decide) (by decide) hc9, ((((((((((hb2.out.set 0 _).set 1 _).set 2 _).set 3 _).set 4 _).set 5 _).set 6 _).set 7 _).set 8 _).set 9 _).as (by simp [Bs.zero]), (G2.more (by simp)).trans hc9 (by simp)⟩
theorem BTake_c {w : World} {b bh : Nat} {x : Bs} {u : Un} {vi : Value} (hb : BsAt w b bh x) (hx : x.ok) (hu : u.ok) (hv : BytI w [b] vi u.info) :
    Calls Tryz.prog 207 #[.pointer (some ⟨b, 0, none⟩), u.v vi] w fun e w' => ∃ v, e = .returned (.tuple #[v, .bool (x.take u).2.2.1, .int .i64 (x.take u).2.2.2]) ∧ BytV w' v (x.take u).2.1 ∧ (∀ g ∈ own v, w.heap.size ≤ g) ∧ BsAt w' b bh (x.take u).1 ∧ Chg [b] w w' := by
  obtain ⟨a1, c1, rfl, _⟩ := hv.shape
  have hl := hu.info
  have hlast := hx.last
  clear hx hu
  obtain ⟨bsn, fsn, bib, fib, kind, status, wide, info⟩ := u
  obtain ⟨fib', bib', last, asked, again, b0, b1, i0, i1⟩ := x
  dsimp only at hl hlast
  have U1 := Blk.new w (#[.int .u8 bsn, .int .u8 fsn, .bool bib, .bool fib, .int .u8 kind, .int .u8 status, .bool wide, .slice a1 info.length c1] : Array Value) 31
  have H1 := Blk.alloc hb (.cells #[.int .u8 bsn, .int .u8 fsn, .bool bib, .bool fib, .int .u8 kind, .int .u8 status, .bool wide, .slice a1 info.length c1] 31)
  have HU := Lib.hid U1
  have HB := Lib.hid H1
  have HV := Lib.hid hv
  clear hb hv U1 H1
  by_cases hf : fib = bib'
  · subst hf
    have hlast' : 0 ≤ last ∧ last ≤ 255 := by omega
    obtain ⟨nx, hnx⟩ : ∃ nx, (last + 1) % 128 = nx := ⟨_, rfl⟩
    have hN := Lib.hid fun w' => hnx ▸ Next_c last w' hlast'.1 hlast'.2
    by_cases hk : kind = 2 ∧ fsn = nx
    · obtain ⟨hk1, hk2⟩ := hk
      subst hk1
      subst hk2
      have et : (⟨fib', fib, last, asked, again, b0, b1, i0, i1⟩ : Bs).take ⟨bsn, fsn, bib, fib, 2, status, wide, info⟩ = (⟨fib', fib, fsn, false, again, b0, b1, i1, false⟩, info, true, 0) := by
        simp [Bs.take, Bs.sei, hnx]
      rw [et]
      have U1 := HU.out
      have H1 := HB.out
      go_enter Tryz.func207, Tryz.ntmps207
      go_wp2
      refine wp_region_up (by kernel_rfl) (by kernel_rfl) ?_
      have up_U1 := fun (g : Up _) => (Blk.below U1 g.ok).c
      have up_H1 := fun (g : Up _) => (Blk.below H1 g.ok).c
      repeat (go_big_quiet_step (fail))
      refine wpQuiet_nil ?_
      clear up_U1 up_H1
      refine up_elim (fun w2 hb_w2 => ?_)
      have H2 := Lib.hid (H1.below hb_w2)
      have U2 := Lib.hid (U1.below hb_w2)
      have nUb : w.heap.size ∉ [b] := by simpa using (H1.ne U1 (by decide)).symm
      clear U1 H1
      have HS := Lib.hid (See_c (off := 8) (o0 := i0) (o1 := i1) H2.out rfl rfl false)
      go_wp2_with (first
        | ((with_reducible refine HS.out.mono ?_); rintro e w4 ⟨rfl, K4, G4⟩; (have U4 := Lib.hid (U2.out.chg G4 nUb)); (have HK4 := Lib.hid (show BsAt w4 b bh ⟨fib', fib, last, asked, again, b0, b1, i1, false⟩ from K4.as (by simp))); clear K4; (have k4c := HK4.out.c); (have k4f := HK4.out.f); (have u4c := U4.out.c); (have V4 := Lib.hid (HV.out.below (bl_then (bl_alloc (bl_refl w) _) hb_w2) |>.chg G4 (fun _ hk => hk))); (have C4 := Lib.hid ((Chg.of_below (bl_then (bl_alloc (bl_refl w) _) hb_w2) [b]).then G4)))
        | ((with_reducible refine (hN.out _).mono ?_); rintro e w5 ⟨rfl, rfl⟩)
        | ((with_reducible refine (Clone_c ((V4.out.chg (chg1 w4 b 3 (.int .u8 fsn)) (fun _ hk => hk)).chg (chg1 _ b 4 (.bool false)) (fun _ hk => hk)) hl).mono ?_); rintro e w6 ⟨v6, rfl, B6, hb6, F6⟩))

      go_ret3
      exact ⟨_, rfl, B6, fun g hg => Nat.le_trans (Nat.le_trans (Nat.le_trans C4.out.size (chg1 w4 b 3 (.int .u8 fsn)).size) (chg1 _ b 4 (.bool false)).size) (F6 g hg), (Blk.below ((HK4.out.set 3 (.int .u8 fsn)).set 4 (.bool false)) hb6).as (by simp), (C4.out.then ((chg1 w4 b 3 (.int .u8 fsn)).then (chg1 _ b 4 (.bool false)))).below hb6⟩
    · by_cases hl2 : fsn = last
      · have et : (⟨fib', fib, last, asked, again, b0, b1, i0, i1⟩ : Bs).take ⟨bsn, fsn, bib, fib, kind, status, wide, info⟩ = (⟨fib', fib, last, false, again, b0, b1, i1, false⟩, [], false, 0) := by
          simp only [Bs.take, Bs.sei, hnx]
          rw [if_pos trivial, if_neg hk, if_pos hl2]
        rw [et]
        clear et
        by_cases hkk : kind = 2
        · have hn : ¬ fsn = nx := fun h => hk ⟨hkk, h⟩
          subst hkk
          subst hl2
          clear hk
          have U1 := HU.out
          have H1 := HB.out
          go_enter Tryz.func207, Tryz.ntmps207
          go_wp2
          refine wp_region_up (by kernel_rfl) (by kernel_rfl) ?_
          have up_U1 := fun (g : Up _) => (Blk.below U1 g.ok).c
          have up_H1 := fun (g : Up _) => (Blk.below H1 g.ok).c
          repeat (go_big_quiet_step (fail))
          refine wpQuiet_nil ?_
          clear up_U1 up_H1
          refine up_elim (fun w2 hb_w2 => ?_)
          have H2 := Lib.hid (H1.below hb_w2)
          have U2 := Lib.hid (U1.below hb_w2)
          have nUb : w.heap.size ∉ [b] := by simpa using (H1.ne U1 (by decide)).symm
          clear U1 H1
          have HS := Lib.hid (See_c (off := 8) (o0 := i0) (o1 := i1) H2.out rfl rfl false)
          go_wp2_with (first
            | ((with_reducible refine HS.out.mono ?_); rintro e w4 ⟨rfl, K4, G4⟩; (have U4 := Lib.hid (U2.out.chg G4 nUb)); (have HK4 := Lib.hid (show BsAt w4 b bh ⟨fib', fib, fsn, asked, again, b0, b1, i1, false⟩ from K4.as (by simp))); clear K4; (have k4c := HK4.out.c); (have k4f := HK4.out.f); (have u4c := U4.out.c); (have V4 := Lib.hid (HV.out.below (bl_then (bl_alloc (bl_refl w) _) hb_w2) |>.chg G4 (fun _ hk => hk))); (have C4 := Lib.hid ((Chg.of_below (bl_then (bl_alloc (bl_refl w) _) hb_w2) [b]).then G4)))
            | ((with_reducible refine (hN.out _).mono ?_); rintro e w5 ⟨rfl, rfl⟩))
          clear k4c k4f u4c
          have K := HK4.out
          have U := U4.out
          refine wp_region_up (by kernel_rfl) (by kernel_rfl) ?_
          have up_K := fun (g : Up _) => (Blk.below K g.ok).c
          have up_U := fun (g : Up _) => (Blk.below U g.ok).c
          repeat (go_big_quiet_step (fail))
          refine wpQuiet_nil ?_
          clear up_K up_U
          refine up_elim (fun w7 hb_w7 => ?_)
          have k7c := (K.below hb_w7).c
          have k7f := (K.below hb_w7).f
          go_wp2
          go_ret3
          exact ⟨_, rfl, byt_nil, by simp [own, Value.ownBlock], (Blk.set (K.below hb_w7) 4 (.bool false)).as (by simp), (C4.out.below hb_w7).then (chg1 _ b 4 (.bool false))⟩
        · subst hl2
          clear hk
          have U1 := HU.out
          have H1 := HB.out
          go_enter Tryz.func207, Tryz.ntmps207
          go_wp2
          refine wp_region_up (by kernel_rfl) (by kernel_rfl) ?_
          have up_U1 := fun (g : Up _) => (Blk.below U1 g.ok).c
          have up_H1 := fun (g : Up _) => (Blk.below H1 g.ok).c
          repeat (go_big_quiet_step (fail))
          refine wpQuiet_nil ?_
          clear up_U1 up_H1
          refine up_elim (fun w2 hb_w2 => ?_)
          have H2 := Lib.hid (H1.below hb_w2)
          have U2 := Lib.hid (U1.below hb_w2)
          have nUb : w.heap.size ∉ [b] := by simpa using (H1.ne U1 (by decide)).symm
          clear U1 H1
          have HS := Lib.hid (See_c (off := 8) (o0 := i0) (o1 := i1) H2.out rfl rfl false)
          go_wp2_with (first
            | ((with_reducible refine HS.out.mono ?_); rintro e w4 ⟨rfl, K4, G4⟩; (have U4 := Lib.hid (U2.out.chg G4 nUb)); (have HK4 := Lib.hid (show BsAt w4 b bh ⟨fib', fib, fsn, asked, again, b0, b1, i1, false⟩ from K4.as (by simp))); clear K4; (have k4c := HK4.out.c); (have k4f := HK4.out.f); (have u4c := U4.out.c); (have V4 := Lib.hid (HV.out.below (bl_then (bl_alloc (bl_refl w) _) hb_w2) |>.chg G4 (fun _ hk => hk))); (have C4 := Lib.hid ((Chg.of_below (bl_then (bl_alloc (bl_refl w) _) hb_w2) [b]).then G4)))
            | ((with_reducible refine (hN.out _).mono ?_); rintro e w5 ⟨rfl, rfl⟩))
          clear k4c k4f u4c
          have K := HK4.out
          have U := U4.out
          refine wp_region_up (by kernel_rfl) (by kernel_rfl) ?_
          have up_K := fun (g : Up _) => (Blk.below K g.ok).c
          have up_U := fun (g : Up _) => (Blk.below U g.ok).c
          repeat (go_big_quiet_step (fail))
          refine wpQuiet_nil ?_
          clear up_K up_U
          refine up_elim (fun w7 hb_w7 => ?_)
          have k7c := (K.below hb_w7).c
          have k7f := (K.below hb_w7).f
          go_wp2
          go_ret3
          exact ⟨_, rfl, byt_nil, by simp [own, Value.ownBlock], (Blk.set (K.below hb_w7) 4 (.bool false)).as (by simp), (C4.out.below hb_w7).then (chg1 _ b 4 (.bool false))⟩
      · have et : (⟨fib', fib, last, asked, again, b0, b1, i0, i1⟩ : Bs).take ⟨bsn, fsn, bib, fib, kind, status, wide, info⟩ = (⟨fib', !fib, last, true, again, b0, b1, i1, false⟩, [], false, 0) := by
          simp only [Bs.take, Bs.sei, hnx]
          rw [if_pos trivial, if_neg hk, if_neg hl2]
        rw [et]
        clear et
        by_cases hkk : kind = 2
        · have hn : ¬ fsn = nx := fun h => hk ⟨hkk, h⟩
          subst hkk
          clear hk
          have U1 := HU.out
          have H1 := HB.out
          go_enter Tryz.func207, Tryz.ntmps207
          go_wp2
          refine wp_region_up (by kernel_rfl) (by kernel_rfl) ?_
          have up_U1 := fun (g : Up _) => (Blk.below U1 g.ok).c
          have up_H1 := fun (g : Up _) => (Blk.below H1 g.ok).c
          repeat (go_big_quiet_step (fail))
          refine wpQuiet_nil ?_
          clear up_U1 up_H1
          refine up_elim (fun w2 hb_w2 => ?_)
          have H2 := Lib.hid (H1.below hb_w2)
          have U2 := Lib.hid (U1.below hb_w2)
          have nUb : w.heap.size ∉ [b] := by simpa using (H1.ne U1 (by decide)).symm
          clear U1 H1
          have HS := Lib.hid (See_c (off := 8) (o0 := i0) (o1 := i1) H2.out rfl rfl false)
          go_wp2_with (first
            | ((with_reducible refine HS.out.mono ?_); rintro e w4 ⟨rfl, K4, G4⟩; (have U4 := Lib.hid (U2.out.chg G4 nUb)); (have HK4 := Lib.hid (show BsAt w4 b bh ⟨fib', fib, last, asked, again, b0, b1, i1, false⟩ from K4.as (by simp))); clear K4; (have k4c := HK4.out.c); (have k4f := HK4.out.f); (have u4c := U4.out.c); (have V4 := Lib.hid (HV.out.below (bl_then (bl_alloc (bl_refl w) _) hb_w2) |>.chg G4 (fun _ hk => hk))); (have C4 := Lib.hid ((Chg.of_below (bl_then (bl_alloc (bl_refl w) _) hb_w2) [b]).then G4)))
            | ((with_reducible refine (hN.out _).mono ?_); rintro e w5 ⟨rfl, rfl⟩))
          clear k4c k4f u4c
          have K := HK4.out
          have U := U4.out
          refine wp_region_up (by kernel_rfl) (by kernel_rfl) ?_
          have up_K := fun (g : Up _) => (Blk.below K g.ok).c
          have up_U := fun (g : Up _) => (Blk.below U g.ok).c
          repeat (go_big_quiet_step (fail))
          refine wpQuiet_nil ?_
          clear up_K up_U
          refine up_elim (fun w7 hb_w7 => ?_)
          have k7c := (K.below hb_w7).c
          have k7f := (K.below hb_w7).f
          go_wp2
          go_ret3
          exact ⟨_, rfl, byt_nil, by simp [own, Value.ownBlock], (Blk.set (Blk.set (K.below hb_w7) 2 (.bool !fib)) 4 (.bool true)).as (by simp), (C4.out.below hb_w7).then ((chg1 _ b 2 (.bool !fib)).then (chg1 _ b 4 (.bool true)))⟩
        · skip
          clear hk
          have U1 := HU.out
          have H1 := HB.out
          go_enter Tryz.func207, Tryz.ntmps207
          go_wp2
          refine wp_region_up (by kernel_rfl) (by kernel_rfl) ?_
          have up_U1 := fun (g : Up _) => (Blk.below U1 g.ok).c
          have up_H1 := fun (g : Up _) => (Blk.below H1 g.ok).c
          repeat (go_big_quiet_step (fail))
          refine wpQuiet_nil ?_
          clear up_U1 up_H1
          refine up_elim (fun w2 hb_w2 => ?_)
          have H2 := Lib.hid (H1.below hb_w2)
          have U2 := Lib.hid (U1.below hb_w2)
          have nUb : w.heap.size ∉ [b] := by simpa using (H1.ne U1 (by decide)).symm
          clear U1 H1
          have HS := Lib.hid (See_c (off := 8) (o0 := i0) (o1 := i1) H2.out rfl rfl false)
          go_wp2_with (first
            | ((with_reducible refine HS.out.mono ?_); rintro e w4 ⟨rfl, K4, G4⟩; (have U4 := Lib.hid (U2.out.chg G4 nUb)); (have HK4 := Lib.hid (show BsAt w4 b bh ⟨fib', fib, last, asked, again, b0, b1, i1, false⟩ from K4.as (by simp))); clear K4; (have k4c := HK4.out.c); (have k4f := HK4.out.f); (have u4c := U4.out.c); (have V4 := Lib.hid (HV.out.below (bl_then (bl_alloc (bl_refl w) _) hb_w2) |>.chg G4 (fun _ hk => hk))); (have C4 := Lib.hid ((Chg.of_below (bl_then (bl_alloc (bl_refl w) _) hb_w2) [b]).then G4)))
            | ((with_reducible refine (hN.out _).mono ?_); rintro e w5 ⟨rfl, rfl⟩))
          clear k4c k4f u4c
          have K := HK4.out
          have U := U4.out
          refine wp_region_up (by kernel_rfl) (by kernel_rfl) ?_
          have up_K := fun (g : Up _) => (Blk.below K g.ok).c
          have up_U := fun (g : Up _) => (Blk.below U g.ok).c
          repeat (go_big_quiet_step (fail))
          refine wpQuiet_nil ?_
          clear up_K up_U
          refine up_elim (fun w7 hb_w7 => ?_)
          have k7c := (K.below hb_w7).c
          have k7f := (K.below hb_w7).f
          go_wp2
          go_ret3
          exact ⟨_, rfl, byt_nil, by simp [own, Value.ownBlock], (Blk.set (Blk.set (K.below hb_w7) 2 (.bool !fib)) 4 (.bool true)).as (by simp), (C4.out.below hb_w7).then ((chg1 _ b 2 (.bool !fib)).then (chg1 _ b 4 (.bool true)))⟩
  · have hfb : (fib == bib') = false := by simpa using hf
    obtain ⟨bad, hbad⟩ : ∃ bad, (!asked && (i0 || i1)) = bad := ⟨_, rfl⟩
    have hcase : fib = !bib' := by cases fib <;> cases bib' <;> simp_all
    subst hcase
    have et : (⟨fib', bib', last, asked, again, b0, b1, i0, i1⟩ : Bs).take ⟨bsn, fsn, bib, !bib', kind, status, wide, info⟩ = (⟨fib', bib', last, asked, again, b0, b1, i1, !asked⟩, [], false, if bad then 10 else 0) := by
      cases bad <;> cases bib' <;> simp_all [Bs.take, Bs.sei]
    rw [et]
    cases bib' <;> cases bad <;> (
      have U1 := HU.out
      have H1 := HB.out
      go_enter Tryz.func207, Tryz.ntmps207
      go_wp2
      refine wp_region_up (by kernel_rfl) (by kernel_rfl) ?_
      have up_U1 := fun (g : Up _) => (Blk.below U1 g.ok).c
      have up_H1 := fun (g : Up _) => (Blk.below H1 g.ok).c
      repeat (go_big_quiet_step (fail))
      refine wpQuiet_nil ?_
      clear up_U1 up_H1
      refine up_elim (fun w2 hb_w2 => ?_)
      have H2 := H1.below hb_w2
      go_wp2
      refine wp_region_up_tail 8 (by kernel_rfl) (by kernel_rfl) ?_
      simp only [List.take_succ_cons, List.take_zero, List.drop_succ_cons, List.drop_zero]
      have up_H2 := fun (g : Up _) => (Blk.below H2 g.ok).c
      repeat (go_big_quiet_step (fail))
      refine wpQuiet_nil ?_
      clear up_H2
      refine up_elim (fun w3 hb_w3 => ?_)
      have HS := Lib.hid (See_c (off := 8) (o0 := i0) (o1 := i1) (H2.below hb_w3) rfl rfl (!asked))
      rw [hbad] at HS
      go_wp2_with (first | ((with_reducible refine HS.out.mono ?_); rintro e w4 ⟨rfl, K4, G4⟩))
      go_ret3
      exact ⟨_, rfl, byt_nil, by simp [own, Value.ownBlock], K4.as (by simp), (Chg.of_below (bl_then (bl_then (bl_alloc (bl_refl w) _) hb_w2) hb_w3) [b]).then G4⟩)
end Go.Proofs.YtdffinnnjcgfcaaGreatK
