/- The walks of package cyclic, continued: Answer, Next. -/
import Derived.Test.YtdffinnnjcgfcaaGreatCyc
namespace Go.Proofs.YtdffinnnjcgfcaaGreatK
open Go Go.RowKit
set_option linter.unusedVariables false
set_option maxHeartbeats 1000000
set_option maxRecDepth 100000
theorem CAnswer_c {w : World} {F : List Nat} {b bh : Nat} {x : Cy} {h : Ho} {vs vn : Value} {u : Un} {vi : Value} (hb : CyAt w b bh x) (hx : x.ok) (hh : HoAt w bh h vs vn) (ho : h.ok) (hu : u.ok) (hv : BytI w F vi u.info) :
    Calls Tryz.prog 182 #[.pointer (some ⟨b, 0, none⟩), u.v vi] w fun e w' => e = .returned (.tuple #[.int .i64 (Cy.answer h x u).2.2.1, .int .i64 (Cy.answer h x u).2.2.2]) ∧ Ans w w' b bh 204 ((Cy.answer h x u).2.1.cells bh) (Cy.answer h x u).1 vs vn := by
  obtain ⟨a1, c1, rfl, _⟩ := hv.shape
  have hl := hu.bsn
  have hag := hx.at_
  clear hx
  have hbn := hh.notin hb (by decide) (by decide)
  have U1 := Blk.new w (u.cells (.slice a1 u.info.length c1)) 31
  have H1 := hb.alloc (.cells (u.cells (.slice a1 u.info.length c1)) 31)
  have HA := Lib.hid (hh.below (bl_alloc (bl_refl w) (.cells (u.cells (.slice a1 u.info.length c1)) 31)))
  have nUb : w.heap.size ≠ b := (H1.ne U1 (by decide)).symm
  have D := Lib.hid fun g : Up (w.alloc (.cells (u.cells (.slice a1 u.info.length c1)) 31)) => HKnows_c (HA.out.below g.ok) ho u.bsn (by omega) (by omega)
  have HU := Lib.hid U1
  have HB := Lib.hid H1
  clear hb hh hv U1 H1
  cases hk : h.knows u.bsn
  · obtain ⟨bad, hbad⟩ : ∃ bad, (x.b0 || x.b1) = bad := ⟨_, rfl⟩
    have et : Cy.answer h x u = (h, x.see true, 0, if bad then 10 else 0) := by
      cases bad <;> simp [Cy.answer, hk, hbad]
    rw [et]
    rw [hk] at D
    cases bad <;> (
      have U1 := HU.out
      have H1 := HB.out
      go_enter Tryz.func182, Tryz.ntmps182
      go_wp2
      refine wp_region_up (by kernel_rfl) (by kernel_rfl) ?_
      have up_U1 := fun (g : Up _) => (Blk.below U1 g.ok).c
      have up_H1 := fun (g : Up _) => (Blk.below H1 g.ok).c
      repeat (go_big_quiet_step (with_reducible exact Up.calls _ (D.out _)))
      refine wpQuiet_nil ?_
      clear up_U1 up_H1
      refine up_elim (fun w2 hb_w2 => ?_)
      have HS := Lib.hid (See_c (off := 6) (o0 := x.b0) (o1 := x.b1) (Blk.below H1 hb_w2) rfl rfl true)
      rw [Bool.true_and, hbad] at HS
      have H2 := Lib.hid (Blk.below H1 hb_w2)
      clear H1
      go_wp2_with (first | ((with_reducible refine HS.out.mono ?_); rintro e w4 ⟨rfl, K4, G4⟩))
      go_ret2
      exact ⟨rfl, ⟨vs, ((HA.out.below hb_w2).other H2.out (by decide) (by decide) (by decide) G4), fun g hg => hg⟩, K4.as (by simp [Cy.see]), ((Chg.of_below (bl_then (bl_alloc (bl_refl w) _) hb_w2) _).trans G4 (by simp))⟩)
  · rw [hk] at D
    have hgap := Ho.gap_le ho hk
    have ek : (h.free u.bsn).2.1 = h.gap u.bsn := by simp [Ho.free, hk]
    have e0 : (h.free u.bsn).2.2 = 0 := by simp [Ho.free, hk]
    have ef : Cy.answer h x u = ((h.free u.bsn).1, { x.see false with at_ := max 0 (x.at_ - (h.free u.bsn).2.1) }, (h.free u.bsn).2.1, 0) := by simp [Cy.answer, hk]
    rw [ef, show x.at_ = (x.see false).at_ from rfl]
    have ls := ho.sent
    rw [← ek] at hgap
    have hh' := Ho.ok_free ho u.bsn
    have CF : ∀ w', HoAt w' bh h vs vn → _ := fun w' hh => Free_c hh ho u.bsn (by omega) (by omega)
    rw [e0] at CF
    clear ek ef e0
    generalize (h.free u.bsn).2.1 = k at *
    generalize (h.free u.bsn).1 = h' at *
    have l5 := hh'.sent
    have HF := Lib.hid CF
    clear CF
    have h1a : 0 ≤ (x.see false).at_ ∧ (x.see false).at_ ≤ 127 := hag
    generalize hx1 : x.see false = x1 at *
    have HX1 := Lib.hid hx1
    clear hx1
    have U1 := HU.out
    have H1 := HB.out
    go_enter Tryz.func182, Tryz.ntmps182
    go_wp2
    refine wp_region_up (by kernel_rfl) (by kernel_rfl) ?_
    have up_U1 := fun (g : Up _) => (Blk.below U1 g.ok).c
    have up_H1 := fun (g : Up _) => (Blk.below H1 g.ok).c
    repeat (go_big_quiet_step (with_reducible exact Up.calls _ (D.out _)))
    refine wpQuiet_nil ?_
    clear up_U1 up_H1
    refine up_elim (fun w2 hb_w2 => ?_)
    have HS := Lib.hid (See_c (off := 6) (o0 := x.b0) (o1 := x.b1) (Blk.below H1 hb_w2) rfl rfl false)
    rw [Bool.false_and] at HS
    have H2 := Lib.hid (Blk.below H1 hb_w2)
    have U2 := Lib.hid (Blk.below U1 hb_w2)
    clear H1 U1
    go_upto_region 8 with (first | ((with_reducible refine HS.out.mono ?_); rintro e w4 ⟨rfl, K4, G4⟩))
    have HK4 := Lib.hid (show CyAt w4 b bh x1 from K4.as (by rw [← HX1.out]; simp [Cy.see]))
    have HA4 := Lib.hid ((HA.out.below hb_w2).other H2.out (by decide) (by decide) (by decide) G4)
    have HU4 := Lib.hid (U2.out.chg G4 (by simpa using nUb))
    have HG4 := Lib.hid ((Chg.of_below (bl_then (bl_alloc (bl_refl w) _) hb_w2) (b :: hoF bh vs vn)).trans G4 (by simp))
    clear K4 G4
    go_cut [7] (fun k' wx => k' = .int .i64 k ∧ CyAt wx b bh x1 ∧ Blk wx w.heap.size (u.cells (.slice a1 u.info.length c1)) 31 ∧ (∃ vs', HoAt wx bh h' vs' vn ∧ ∀ g ∈ own vs', g ∈ own vs) ∧ Chg (b :: hoF bh vs vn) w wx)
    case first =>
      have h4d := HK4.out.drew.c
      have u4d := HU4.out.drew.c
      go_region_law (go_simp; (with_reducible refine (HF.out _ (HA4.out.below (bl_drew (bl_refl _)))).mono ?_); rintro e w5 ⟨rfl, vs5, A5, G5, O5⟩; have HA5 := Lib.hid A5; have HG5 := Lib.hid G5; have HO5 := Lib.hid O5; clear A5 G5 O5)
      all_goals
        go_wp2
        go_meet
        case rel => exact ⟨rfl, (HK4.out.drew.chg HG5.out ((HA4.out.below (bl_drew (bl_refl _))).notin HK4.out.drew (by decide) (by decide))), (HU4.out.drew.chg HG5.out ((HA4.out.below (bl_drew (bl_refl _))).notin HU4.out.drew (by decide) (by decide))), ⟨vs5, HA5.out, HO5.out⟩, HG4.out.drew.trans (HG5.out.more (G := b :: hoF bh vs vn) (fun k hk => List.mem_cons_of_mem _ hk)) (fun k hk => .inl hk)⟩
    case rest =>
      obtain ⟨rfl, K5, U5, ⟨vs5, A5, O5⟩, G5⟩ := hcut
      have HK5 := Lib.hid K5
      have HU5 := Lib.hid U5
      have HA5 := Lib.hid A5
      have HG5 := Lib.hid G5
      have HO5 := Lib.hid O5
      have k5c := K5.c
      have k5f := K5.f
      clear K5 U5 A5 G5 O5
      have nU := Lib.hid nUb
      go_wp2
      all_goals
        go_ret2
        exact ⟨rfl, ⟨_, HA5.out.other HK5.out (by decide) (by decide) (by decide) (chg1 _ b 4 _), HO5.out⟩, (HK5.out.set 4 _).as (by simp; omega), HG5.out.trans (chg1 _ b 4 _) (by simp)⟩
end Go.Proofs.YtdffinnnjcgfcaaGreatK
