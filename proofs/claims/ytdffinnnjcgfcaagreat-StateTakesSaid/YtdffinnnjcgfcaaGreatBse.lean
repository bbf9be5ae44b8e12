/- The walks of package basic, the last: Answer. -/
import Derived.Test.YtdffinnnjcgfcaaGreatBsd
import Derived.Deep.DeepCutAuto
namespace Go.Proofs.YtdffinnnjcgfcaaGreatK
open Go Go.RowKit
set_option linter.unusedVariables false
set_option maxHeartbeats 1000000
set_option maxRecDepth 100000
abbrev Un.cells (u : Un) (vi : Value) : Array Value := #[.int .u8 u.bsn, .int .u8 u.fsn, .bool u.bib, .bool u.fib, .int .u8 u.kind, .int .u8 u.status, .bool u.wide, vi]
/-- What an answer leaves. -/
structure Ans (w w' : World) (b bh : Nat) (tb : TypeId) (cells : Array Value) (h : Ho) (vs vn : Value) : Prop where
  hold : ∃ vs', HoAt w' bh h vs' vn ∧ ∀ g ∈ own vs', g ∈ own vs
  blk : Blk w' b cells tb
  chg : Chg (b :: hoF bh vs vn) w w'
theorem BAnswer_c {w : World} {F : List Nat} {b bh : Nat} {x : Bs} {h : Ho} {vs vn : Value} {u : Un} {vi : Value} (hb : BsAt w b bh x) (hx : x.ok) (hh : HoAt w bh h vs vn) (ho : h.ok) (hu : u.ok) (hv : BytI w F vi u.info) :
    Calls Tryz.prog 201 #[.pointer (some ⟨b, 0, none⟩), u.v vi] w fun e w' => e = .returned (.tuple #[.int .i64 (Bs.answer h x u).2.2.1, .int .i64 (Bs.answer h x u).2.2.2]) ∧ Ans w w' b bh 206 ((Bs.answer h x u).2.1.cells bh) (Bs.answer h x u).1 vs vn := by
  obtain ⟨a1, c1, rfl, _⟩ := hv.shape
  have hl := hu.bsn
  have hag := hx.again
  clear hx
  have hbn := hh.notin hb (by decide) (by decide)
  have U1 := Blk.new w (u.cells (.slice a1 u.info.length c1)) 31
  have H1 := hb.alloc (.cells (u.cells (.slice a1 u.info.length c1)) 31)
  have HA := Lib.hid (hh.below (bl_alloc (bl_refl w) (.cells (u.cells (.slice a1 u.info.length c1)) 31)))
  have nUb : w.heap.size ≠ b := (H1.ne U1 (by decide)).symm
  have D := Lib.hid fun g : Up (w.alloc (.cells (u.cells (.slice a1 u.info.length c1)) 31)) => HKnows_c (HA.out.below g.ok) ho u.bsn (by omega) (by omega)
  have HU := Lib.hid U1
  have HB := Lib.hid H1
  clear hb hh hv U1 H1
  cases hk : h.knows u.bsn
  · obtain ⟨bad, hbad⟩ : ∃ bad, (x.b0 || x.b1) = bad := ⟨_, rfl⟩
    have et : Bs.answer h x u = (h, x.see true, 0, if bad then 10 else 0) := by
      cases bad <;> simp [Bs.answer, hk, hbad]
    rw [et]
    rw [hk] at D
    cases bad <;> (
      have U1 := HU.out
      have H1 := HB.out
      go_enter Tryz.func201, Tryz.ntmps201
      go_wp2
      refine wp_region_up (by kernel_rfl) (by kernel_rfl) ?_
      have up_U1 := fun (g : Up _) => (Blk.below U1 g.ok).c
      have up_H1 := fun (g : Up _) => (Blk.below H1 g.ok).c
      repeat (go_big_quiet_step (with_reducible exact Up.calls _ (D.out _)))
      refine wpQuiet_nil ?_
      clear up_U1 up_H1
      refine up_elim (fun w2 hb_w2 => ?_)
      have HS := Lib.hid (See_c (off := 6) (o0 := x.b0) (o1 := x.b1) (Blk.below H1 hb_w2) rfl rfl true)
      rw [Bool.true_and, hbad] at HS
      have H2 := Lib.hid (Blk.below H1 hb_w2)
      clear H1
      go_wp2_with (first | ((with_reducible refine HS.out.mono ?_); rintro e w4 ⟨rfl, K4, G4⟩))
      go_ret2
      exact ⟨rfl, ⟨vs, ((HA.out.below hb_w2).other H2.out (by decide) (by decide) (by decide) G4), fun g hg => hg⟩, K4.as (by simp [Bs.see]), ((Chg.of_below (bl_then (bl_alloc (bl_refl w) _) hb_w2) _).trans G4 (by simp))⟩)
  · rw [hk] at D
    have hgap := Ho.gap_le ho hk
    have ek : (h.free u.bsn).2.1 = h.gap u.bsn := by simp [Ho.free, hk]
    have e0 : (h.free u.bsn).2.2 = 0 := by simp [Ho.free, hk]
    have ef : Bs.answer h x u = ((h.free u.bsn).1, (((x.see false).back (h.free u.bsn).2.1).over (h.free u.bsn).1.sent.length).turn u.bib (h.free u.bsn).1.sent.length, (h.free u.bsn).2.1, 0) := by simp [Bs.answer, hk]
    rw [ef]
    have ls := ho.sent
    rw [← ek] at hgap
    have hh' := Ho.ok_free ho u.bsn
    have CF : ∀ w', HoAt w' bh h vs vn → _ := fun w' hh => Free_c hh ho u.bsn (by omega) (by omega)
    rw [e0] at CF
    clear ek ef e0
    generalize (h.free u.bsn).2.1 = k at *
    generalize (h.free u.bsn).1 = h' at *
    have l5 := hh'.sent
    have HF := Lib.hid CF
    clear CF
    have h1a : -1 ≤ (x.see false).again ∧ (x.see false).again ≤ 127 := hag
    generalize hx1 : x.see false = x1 at *
    have HX1 := Lib.hid hx1
    clear hx1
    have U1 := HU.out
    have H1 := HB.out
    go_enter Tryz.func201, Tryz.ntmps201
    go_wp2
    refine wp_region_up (by kernel_rfl) (by kernel_rfl) ?_
    have up_U1 := fun (g : Up _) => (Blk.below U1 g.ok).c
    have up_H1 := fun (g : Up _) => (Blk.below H1 g.ok).c
    repeat (go_big_quiet_step (with_reducible exact Up.calls _ (D.out _)))
    refine wpQuiet_nil ?_
    clear up_U1 up_H1
    refine up_elim (fun w2 hb_w2 => ?_)
    have HS := Lib.hid (See_c (off := 6) (o0 := x.b0) (o1 := x.b1) (Blk.below H1 hb_w2) rfl rfl false)
    rw [Bool.false_and] at HS
    have H2 := Lib.hid (Blk.below H1 hb_w2)
    have U2 := Lib.hid (Blk.below U1 hb_w2)
    clear H1 U1
    go_upto_region 8 with (first | ((with_reducible refine HS.out.mono ?_); rintro e w4 ⟨rfl, K4, G4⟩))
    have HK4 := Lib.hid (show BsAt w4 b bh x1 from K4.as (by rw [← HX1.out]; simp [Bs.see]))
    have HA4 := Lib.hid ((HA.out.below hb_w2).other H2.out (by decide) (by decide) (by decide) G4)
    have HU4 := Lib.hid (U2.out.chg G4 (by simpa using nUb))
    have HG4 := Lib.hid ((Chg.of_below (bl_then (bl_alloc (bl_refl w) _) hb_w2) (b :: hoF bh vs vn)).trans G4 (by simp))
    clear K4 G4
    go_cut [7] (fun k' wx => k' = .int .i64 k ∧ BsAt wx b bh x1 ∧ Blk wx w.heap.size (u.cells (.slice a1 u.info.length c1)) 31 ∧ (∃ vs', HoAt wx bh h' vs' vn ∧ ∀ g ∈ own vs', g ∈ own vs) ∧ Chg (b :: hoF bh vs vn) w wx)
    case first =>
      have h4d := HK4.out.drew.c
      have u4d := HU4.out.drew.c
      go_region_law (go_simp; (with_reducible refine (HF.out _ (HA4.out.below (bl_drew (bl_refl _)))).mono ?_); rintro e w5 ⟨rfl, vs5, A5, G5, O5⟩; have HA5 := Lib.hid A5; have HG5 := Lib.hid G5; have HO5 := Lib.hid O5; clear A5 G5 O5)
      all_goals
        go_wp2
        go_meet
        case rel => exact ⟨rfl, (HK4.out.drew.chg HG5.out ((HA4.out.below (bl_drew (bl_refl _))).notin HK4.out.drew (by decide) (by decide))), (HU4.out.drew.chg HG5.out ((HA4.out.below (bl_drew (bl_refl _))).notin HU4.out.drew (by decide) (by decide))), ⟨vs5, HA5.out, HO5.out⟩, HG4.out.drew.trans (HG5.out.more (G := b :: hoF bh vs vn) (fun k hk => List.mem_cons_of_mem _ hk)) (fun k hk => .inl hk)⟩
    case rest =>
      obtain ⟨rfl, K5, U5, ⟨vs5, A5, O5⟩, G5⟩ := hcut
      have HK5 := Lib.hid K5
      have HU5 := Lib.hid U5
      have HA5 := Lib.hid A5
      have HG5 := Lib.hid G5
      have HO5 := Lib.hid O5
      have k5c := K5.c
      have k5f := K5.f
      clear K5 U5 A5 G5 O5
      have nU := Lib.hid nUb
      go_upto_if 40 with fail
      go_cut [] (fun wx => BsAt wx b bh (x1.back k) ∧ Chg [b] wc wx)
      case first =>
        by_cases ha : 0 ≤ x1.again
        · have eb : x1.back k = { x1 with again := max 0 (x1.again - k) } := by unfold Bs.back; rw [if_pos ha]
          go_wp2
          all_goals
            go_meet
            case rel => exact ⟨(HK5.out.set 5 _).as (by rw [eb]; simp; omega), chg1 _ _ _ _⟩
        · have eb : x1.back k = x1 := by unfold Bs.back; rw [if_neg ha]
          go_wp2
          go_meet
          case rel => exact ⟨HK5.out.as (by rw [eb]), Chg.refl _ _⟩
      case rest =>
        obtain ⟨K6, G6⟩ := hcut
        have b5 : b ∉ hoF bh vs vn := hbn
        have a2 : -1 ≤ (x1.back k).again ∧ (x1.back k).again ≤ 127 := by unfold Bs.back; split <;> first | omega | (dsimp only; omega)
        have HU6 := Lib.hid (HU5.out.chg G6 (by simpa using nU.out))
        have HA6 := Lib.hid (HA5.out.other HK5.out (by decide) (by decide) (by decide) G6)
        have HG6 := Lib.hid (HG5.out.trans G6 (by simp))
        generalize hx2 : x1.back k = x2 at *
        have HX2 := Lib.hid hx2
        clear hx2
        have HK6 := Lib.hid K6
        clear K6 G6
        go_wp2
        have K6 := HK6.out
        refine wp_region_up (by kernel_rfl) (by kernel_rfl) ?_
        have up_K6 := fun (g : Up _) => (Blk.below K6 g.ok).c
        repeat (go_big_quiet_step (with_reducible exact Up.calls_same _ (HSent_c (HA6.out.below (Up.ok _)))))
        refine wpQuiet_nil ?_
        clear up_K6
        refine up_elim (fun w7 hb_w7 => ?_)
        have HK7 := Lib.hid (Blk.below K6 hb_w7)
        have k7c := HK7.out.c
        have k7f := HK7.out.f
        have HU7 := Lib.hid (HU6.out.below hb_w7)
        have HA7 := Lib.hid (HA6.out.below hb_w7)
        have HG7 := Lib.hid (HG6.out.below hb_w7)
        clear K6
        go_upto_if 60 with fail
        go_cut [] (fun wx => BsAt wx b bh (x2.over h'.sent.length) ∧ Chg [b] w7 wx)
        case first =>
          by_cases hov : (h'.sent.length : Int) ≤ x2.again
          · have eb : x2.over h'.sent.length = { x2 with again := -1 } := by unfold Bs.over; rw [if_pos hov]
            go_wp2
            go_meet
            case rel => exact ⟨(HK7.out.set 5 _).as (by rw [eb]; simp), chg1 _ _ _ _⟩
          · have eb : x2.over h'.sent.length = x2 := by unfold Bs.over; rw [if_neg hov]
            have hov' : x2.again < (h'.sent.length : Int) := by omega
            go_wp2
            go_meet
            case rel => exact ⟨HK7.out.as (by rw [eb]), Chg.refl _ _⟩
        case rest =>
          obtain ⟨K8, G8⟩ := hcut
          have HU8 := Lib.hid (HU7.out.chg G8 (by simpa using nU.out))
          have HA8 := Lib.hid (HA7.out.other HK7.out (by decide) (by decide) (by decide) G8)
          have HG8 := Lib.hid (HG7.out.trans G8 (by simp))
          clear k7c k7f k5c k5f G8
          generalize hx3 : x2.over h'.sent.length = x3 at *
          have HX3 := Lib.hid hx3
          clear hx3
          have U8 := HU8.out
          go_wp2
          refine wp_region_up (by kernel_rfl) (by kernel_rfl) ?_
          have up_K8 := fun (g : Up _) => (Blk.below K8 g.ok).c
          have up_U8 := fun (g : Up _) => (Blk.below U8 g.ok).c
          repeat (go_big_quiet_step (fail))
          refine wpQuiet_nil ?_
          clear up_K8 up_U8
          refine up_elim (fun w9 hb_w9 => ?_)
          have HK9 := Lib.hid (K8.below hb_w9)
          have k9c := HK9.out.c
          have k9f := HK9.out.f
          have u9c := (U8.below hb_w9).c
          have HA9 := Lib.hid (HA8.out.below hb_w9)
          have HG9 := Lib.hid (HG8.out.below hb_w9)
          have bU : w.heap.size ≠ b := nU.out
          clear K8 U8
          by_cases hbf : u.bib = x3.fib
          · have eb : x3.turn u.bib h'.sent.length = x3 := by unfold Bs.turn; rw [if_pos hbf]
            go_wp2
            all_goals try (exfalso; refine absurd (show (!(u.bib == x3.fib)) = true from ?_) ?_ <;> first | assumption | (rw [hbf]; simp; done) | fail)
            go_ret2
            exact ⟨rfl, ⟨vs5, HA9.out, HO5.out⟩, HK9.out.as (by rw [HX2.out, HX3.out, eb]), HG9.out⟩
          · have hne : (u.bib != x3.fib) = true := by simpa using hbf
            have ha9 := HA9.out.other HK9.out (by decide) (by decide) (by decide) ((chg1 w9 b 1 (.bool u.bib)).then (chg1 _ b 5 (.int .i64 (-1))))
            have hk9 := Lib.hid ((HK9.out.set 1 (.bool u.bib)).set 5 (.int .i64 (-1)))
            have HS9 := Lib.hid (HSent_c ha9)
            have HA := Lib.hid ha9
            clear ha9
            by_cases hs : 0 < h'.sent.length
            · have eb : x3.turn u.bib h'.sent.length = { x3 with fib := u.bib, again := 0 } := by unfold Bs.turn; rw [if_neg hbf, if_pos (by omega)]
              have hs' : (0 : Int) < h'.sent.length := by omega
              go_wp2_with (first | ((with_reducible refine HS9.out.mono ?_); rintro e w10 ⟨rfl, rfl⟩))
              all_goals try (exfalso; refine absurd (show (!(u.bib == x3.fib)) = false from ?_) ?_ <;> first | assumption | (simp only [Bool.not_eq_false', beq_iff_eq]; exact hbf) | fail)
              go_ret2
              exact ⟨rfl, ⟨vs5, HA.out.other hk9.out (by decide) (by decide) (by decide) (chg1 _ b 5 _), HO5.out⟩, (hk9.out.set 5 _).as (by rw [HX2.out, HX3.out, eb]; simp), ((HG9.out.trans (chg1 w9 b 1 (.bool u.bib)) (by simp)).trans (chg1 _ b 5 (.int .i64 (-1))) (by simp)).trans (chg1 _ b 5 _) (by simp)⟩
            · have eb : x3.turn u.bib h'.sent.length = { x3 with fib := u.bib, again := -1 } := by unfold Bs.turn; rw [if_neg hbf, if_neg (by omega)]
              have hs' : h'.sent.length = 0 := by omega
              go_wp2_with (first | ((with_reducible refine HS9.out.mono ?_); rintro e w10 ⟨rfl, rfl⟩))
              all_goals try (exfalso; refine absurd (show (!(u.bib == x3.fib)) = false from ?_) ?_ <;> first | assumption | (simp only [Bool.not_eq_false', beq_iff_eq]; exact hbf) | fail)
              go_ret2
              exact ⟨rfl, ⟨vs5, HA.out, HO5.out⟩, hk9.out.as (by rw [HX2.out, HX3.out, eb]; simp), (HG9.out.trans (chg1 w9 b 1 (.bool u.bib)) (by simp)).trans (chg1 _ b 5 (.int .i64 (-1))) (by simp)⟩
end Go.Proofs.YtdffinnnjcgfcaaGreatK
