/- The walks of package cyclic. The walks of package cyclic, continued: Answer, Next. The walks of package cyclic, the last: Next. -/
import Derived.Test.YtcllbmjmefeknaaGreatBsc
namespace Go.Proofs.YtcllbmjmefeknaaGreatK
/-! ### The walks of package cyclic. -/
section
open Go Go.RowKit
set_option linter.unusedVariables false
set_option maxHeartbeats 1000000
set_option maxRecDepth 100000
abbrev Cy.cells (x : Cy) (bh : Nat) : Array Value := #[.pointer (some ⟨bh, 0, none⟩), .int .i64 x.n1, .int .i64 x.n2, .int .u8 x.last, .int .i64 x.at_, .bool x.force, .bool x.b0, .bool x.b1]
abbrev CyAt (w : World) (b bh : Nat) (x : Cy) : Prop := Blk w b (x.cells bh) 260
theorem CHold_c {w : World} {b bh : Nat} {x : Cy} (hb : CyAt w b bh x) :
    Calls Tryz.prog 230 #[.pointer (some ⟨b, 0, none⟩)] w fun e w' => e = .returned (.pointer (some ⟨bh, 0, none⟩)) ∧ w = w' := by
  have hc := hb.c
  clear hb
  go_enter Tryz.func230, Tryz.ntmps230
  go_wp2
  go_ret
  exact ⟨rfl, rfl⟩
theorem CTaken_c {w : World} {b bh : Nat} {x : Cy} (hb : CyAt w b bh x) :
    Calls Tryz.prog 235 #[.pointer (some ⟨b, 0, none⟩)] w fun e w' => e = .returned (.int .u8 x.last) ∧ w = w' := by
  have hc := hb.c
  clear hb
  go_enter Tryz.func235, Tryz.ntmps235
  go_wp2
  go_ret
  exact ⟨rfl, rfl⟩
theorem CHead_c {w : World} {b bh : Nat} {x : Cy} (hb : CyAt w b bh x) (n : Int) :
    Calls Tryz.prog 238 #[.pointer (some ⟨b, 0, none⟩), .int .u8 n] w fun e w' => e = .returned ((x.head n).v nil0) ∧ Below w.heap.size w w' := by
  have hc := (hb.alloc (.cells Un.zeros 188)).c
  have N1 := Blk.new w Un.zeros 188
  have n1c := N1.c
  have n1f := N1.f
  have HN := Lib.hid N1
  clear hb N1
  go_enter Tryz.func238, Tryz.ntmps238
  go_wp2
  exact bodyPost_ret (res_c rfl Un.laid rfl (Blk.new _ _ _) rfl) rfl ⟨rfl, bl_alloc (bl_refl w) _⟩
theorem CNew_c (most oc n1 n2 : Int) (w : World) :
    Calls Tryz.prog 140 #[.int .i64 most, .int .i64 oc, .int .i64 n1, .int .i64 n2] w fun e w' => ∃ b bh, e = .returned (.pointer (some ⟨b, 0, none⟩)) ∧ w.heap.size ≤ b ∧ w.heap.size ≤ bh ∧ HoAt w' bh (Ho.none most oc) nil0 nil0 ∧ CyAt w' b bh (Cy.zero n1 n2) ∧ Below w.heap.size w w' := by
  go_enter Tryz.func140, Tryz.ntmps140
  go_wp2_with (first | ((with_reducible refine (HNew_c most oc w).mono ?_); rintro e w2 ⟨bh, rfl, h1, h2, h3⟩))
  all_goals
    go_ret
    exact ⟨_, rfl, h3.size, bh, h1, h2.below (bl_alloc (bl_refl _) _), (Blk.new _ _ _).as (by simp [Cy.zero]; omega), bl_alloc h3 _⟩
theorem CMsg_c {w : World} {b bh : Nat} {x : Cy} (hb : CyAt w b bh x) (n : Int) (vp : Value) (p : Oct) (hp : BytV w vp p) :
    Calls Tryz.prog 241 #[.pointer (some ⟨b, 0, none⟩), .int .u8 n, vp] w fun e w' => e = .returned ((x.msg n p).v vp) ∧ Below w.heap.size w w' := by
  obtain ⟨ap, cp, rfl, _⟩ := hp.1.shape
  have H1 := Lib.hid (hb.alloc (.cells Un.zeros 188))
  have N1 := Lib.hid (Blk.new w Un.zeros 188)
  clear hb hp
  go_enter Tryz.func241, Tryz.ntmps241
  go_wp2_with (first | ((with_reducible refine (CHead_c H1.out n).mono ?_); rintro e w2 ⟨rfl, hb2⟩; (have n1c := (N1.out.below hb2).c); (have n1f := (N1.out.below hb2).f); (have n1 := Lib.hid (N1.out.below hb2)); (have lt2 : w.heap.size < w2.heap.size := N1.out.below hb2 |>.lt); (have ne2 : w.heap.size ≠ w2.heap.size := Nat.ne_of_lt lt2)))
  exact bodyPost_ret (res_c rfl Un.laid rfl ((n1.out.all8 _ _ _ _ _ _ _ _).alloc _) rfl) rfl ⟨rfl, bl_alloc (bl_all8 (bl_then (bl_alloc (bl_refl w) _) hb2) (Nat.le_refl _) _ _ _ _ _ _ _ _) _⟩
theorem CFill_c {w : World} {b bh : Nat} {x : Cy} {h : Ho} {vs vn : Value} (hb : CyAt w b bh x) (hh : HoAt w bh h vs vn) (ho : h.ok) :
    Calls Tryz.prog 229 #[.pointer (some ⟨b, 0, none⟩)] w fun e w' => e = .returned ((x.head h.last).v nil0) ∧ Below w.heap.size w w' := by
  have H1 := Lib.hid (hb.alloc (.cells Un.zeros 188))
  have h1c := (hb.alloc (.cells Un.zeros 188)).c
  have N1 := Lib.hid (Blk.new w Un.zeros 188)
  have HA := Lib.hid (hh.below (bl_alloc (bl_refl w) (.cells Un.zeros 188)))
  clear hb hh
  go_enter Tryz.func229, Tryz.ntmps229
  go_wp2_with (first
    | ((with_reducible refine (HLast_c HA.out ho).mono ?_); rintro e w2 ⟨rfl, hb2⟩)
    | ((with_reducible refine (CHead_c (H1.out.below hb2) h.last).mono ?_); rintro e w3 ⟨rfl, hb3⟩; (have n1c := ((N1.out.below hb2).below hb3).c); (have n1f := ((N1.out.below hb2).below hb3).f); (have n1 := Lib.hid ((N1.out.below hb2).below hb3))))
  exact bodyPost_ret (res_c rfl Un.laid rfl (n1.out.all8 _ _ _ _ _ _ _ _) rfl) rfl ⟨rfl, bl_all8 (bl_then (bl_then (bl_alloc (bl_refl w) _) hb2) hb3) (Nat.le_refl _) _ _ _ _ _ _ _ _⟩
theorem CReset_c {w : World} {b bh : Nat} {x : Cy} {h : Ho} {vs vn : Value} (hb : CyAt w b bh x) (hh : HoAt w bh h vs vn) :
    Calls Tryz.prog 233 #[.pointer (some ⟨b, 0, none⟩)] w fun e w' => e = .returned (.tuple #[]) ∧ HoAt w' bh h.clear nil0 nil0 ∧ CyAt w' b bh x.reset ∧ Chg [b, bh] w w' := by
  have hc := hb.c
  have hbn := hh.notin hb (by decide) (by decide)
  have HB := Lib.hid hb
  have HH := Lib.hid hh
  have hne : b ∉ [bh] := by simp at hbn ⊢; exact hbn.1
  clear hb hh
  go_enter Tryz.func233, Tryz.ntmps233
  go_wp2_with (first | ((with_reducible refine (HClear_c HH.out).mono ?_); rintro e w2 ⟨rfl, A2, G2⟩; (have hb2 := Lib.hid (HB.out.chg G2 hne)); (have hb2c := hb2.out.c); (have HA2 := Lib.hid A2); clear A2))
  have K2 := hb2.out
  refine wp_region_up_tail 14 (by kernel_rfl) (by kernel_rfl) ?_
  simp only [List.take_succ_cons, List.take_zero, List.drop_succ_cons, List.drop_zero]
  have up_K2 := fun (g : Up _) => (Blk.below K2 g.ok).c
  repeat (go_big_quiet_step (fail))
  refine wpQuiet_nil ?_
  clear up_K2
  refine up_elim (fun w3 hb_w3 => ?_)
  have K3 := Lib.hid (K2.below hb_w3)
  have k3c := K3.out.c
  have k3f := K3.out.f
  clear K2 hb2c
  go_wp2
  go_end0
  have hc9 : Chg [b] w3 _ := ((((((((chg1 w3 b 0 (.pointer (some ⟨bh, 0, none⟩))).then (chg1 _ b 1 (.int .i64 x.n1))).then (chg1 _ b 2 (.int .i64 x.n2))).then (chg1 _ b 3 (.int .u8 127))).then (chg1 _ b 4 (.int .i64 0))).then (chg1 _ b 5 (.bool false))).then (chg1 _ b 6 (.bool false))).then (chg1 _ b 7 (.bool false)))
  exact ⟨rfl, (HA2.out.below hb_w3).other K3.out (by decide) (by decide) (by decide) hc9, (K3.out.all8 _ _ _ _ _ _ _ _).as (by simp [Cy.reset]), ((G2.more (by simp)).below hb_w3).trans hc9 (by simp)⟩
theorem CTake_c {w : World} {b bh : Nat} {x : Cy} {u : Un} {vi : Value} (hb : CyAt w b bh x) (hx : x.ok) (hu : u.ok) (hv : BytI w [b] vi u.info) :
    Calls Tryz.prog 234 #[.pointer (some ⟨b, 0, none⟩), u.v vi] w fun e w' => ∃ v, e = .returned (.tuple #[v, .bool (x.take u).2.2.1, .int .i64 (x.take u).2.2.2]) ∧ BytV w' v (x.take u).2.1 ∧ (∀ g ∈ own v, w.heap.size ≤ g) ∧ CyAt w' b bh (x.take u).1 ∧ Chg [b] w w' := by
  obtain ⟨a1, c1, rfl, _⟩ := hv.shape
  have hl := hu.info
  have hlast := hx.last
  clear hx hu
  obtain ⟨bsn, fsn, bib, fib, kind, status, wide, info⟩ := u
  dsimp only at hl
  obtain ⟨nx, hnx⟩ : ∃ nx, (x.last + 1) % 128 = nx := ⟨_, rfl⟩
  have U1 := Blk.new w (Un.cells ⟨bsn, fsn, bib, fib, kind, status, wide, info⟩ (.slice a1 info.length c1)) 188
  have H1 := hb.alloc (.cells (Un.cells ⟨bsn, fsn, bib, fib, kind, status, wide, info⟩ (.slice a1 info.length c1)) 188)
  have nUb : w.heap.size ≠ b := (H1.ne U1 (by decide)).symm
  have HV := Lib.hid hv
  have D := Lib.hid fun w' => hnx ▸ Next_c x.last w' hlast.1 (by omega)
  have HU := Lib.hid U1
  have HB := Lib.hid H1
  clear hb hv U1 H1
  by_cases hk : kind = 2
  · subst hk
    by_cases hn : fsn = nx
    · subst hn
      have et : x.take ⟨bsn, fsn, bib, fib, 2, status, wide, info⟩ = ({ x with last := fsn }, info, true, 0) := by simp [Cy.take, hnx]
      rw [et]
      clear et hnx
      have U1 := HU.out
      have H1 := HB.out
      go_enter Tryz.func234, Tryz.ntmps234
      go_wp2
      refine wp_region_up (by kernel_rfl) (by kernel_rfl) ?_
      have up_U1 := fun (g : Up _) => (Blk.below U1 g.ok).c
      have up_H1 := fun (g : Up _) => (Blk.below H1 g.ok).c
      repeat (go_big_quiet_step (with_reducible exact Up.calls_same _ (D.out _)))
      refine wpQuiet_nil ?_
      clear up_U1 up_H1
      refine up_elim (fun w2 hb_w2 => ?_)
      have K2 := Lib.hid (Blk.below H1 hb_w2)
      have U2 := Lib.hid (Blk.below U1 hb_w2)
      have k2c := K2.out.c
      have k2f := K2.out.f
      have u2c := U2.out.c
      have V2 := Lib.hid ((HV.out.below (bl_then (bl_alloc (bl_refl w) _) hb_w2)).chg (chg1 w2 b 3 (.int .u8 fsn)) (fun _ hk => hk))
      clear U1 H1
      go_wp2_with (first | ((with_reducible refine (Clone_c V2.out hl).mono ?_); rintro e w6 ⟨v6, rfl, B6, hb6, F6⟩))
      go_ret3
      have hs := Below.size (bl_then (bl_alloc (bl_refl w) _) hb_w2)
      exact ⟨_, rfl, B6, fun g hg => Nat.le_trans hs (Nat.le_trans (chg1 w2 b 3 (.int .u8 fsn)).size (F6 g hg)), (Blk.below (K2.out.set 3 (.int .u8 fsn)) hb6).as (by simp), ((Chg.of_below (bl_then (bl_alloc (bl_refl w) _) hb_w2) [b]).then (chg1 w2 b 3 (.int .u8 fsn))).below hb6⟩
    · have et : x.take ⟨bsn, fsn, bib, fib, 2, status, wide, info⟩ = (x, [], false, 0) := by simp [Cy.take, hnx, hn]
      rw [et]
      clear et hnx
      have U1 := HU.out
      have H1 := HB.out
      go_enter Tryz.func234, Tryz.ntmps234
      go_wp2
      refine wp_region_up (by kernel_rfl) (by kernel_rfl) ?_
      have up_U1 := fun (g : Up _) => (Blk.below U1 g.ok).c
      have up_H1 := fun (g : Up _) => (Blk.below H1 g.ok).c
      repeat (go_big_quiet_step (with_reducible exact Up.calls_same _ (D.out _)))
      refine wpQuiet_nil ?_
      clear up_U1 up_H1
      refine up_elim (fun w2 hb_w2 => ?_)
      go_wp2
      go_ret3
      exact ⟨_, rfl, byt_nil, by simp [own, Value.ownBlock], Blk.below H1 hb_w2, Chg.of_below (bl_then (bl_alloc (bl_refl w) _) hb_w2) [b]⟩
  · have et : x.take ⟨bsn, fsn, bib, fib, kind, status, wide, info⟩ = (x, [], false, 0) := by simp [Cy.take, hk]
    rw [et]
    clear et hnx
    have U1 := HU.out
    have H1 := HB.out
    go_enter Tryz.func234, Tryz.ntmps234
    go_wp2
    have hkb : (kind == 2) = false := by simpa using hk
    have hkc : (kind != 2) = true := by simpa using hk
    refine wp_region_up (by kernel_rfl) (by kernel_rfl) ?_
    have up_U1 := fun (g : Up _) => (Blk.below U1 g.ok).c
    have up_H1 := fun (g : Up _) => (Blk.below H1 g.ok).c
    repeat (go_big_quiet_step (with_reducible exact Up.calls_same _ (D.out _)))
    refine wpQuiet_nil ?_
    clear up_U1 up_H1
    refine up_elim (fun w2 hb_w2 => ?_)
    go_wp2
    go_ret3
    exact ⟨_, rfl, byt_nil, by simp [own, Value.ownBlock], Blk.below H1 hb_w2, Chg.of_below (bl_then (bl_alloc (bl_refl w) _) hb_w2) [b]⟩
theorem CFits_c {w : World} {b bh : Nat} {x : Cy} {h : Ho} {vs vn : Value} (hb : CyAt w b bh x) (hx : x.ok) (hh : HoAt w bh h vs vn) (ho : h.ok) :
    Calls Tryz.prog 239 #[.pointer (some ⟨b, 0, none⟩)] w fun e w' => e = .returned (.bool (Cy.fits h x)) ∧ Below w.heap.size w w' := by
  have D1 := Lib.hid fun g : Up w => HSent_c (hh.below g.ok)
  have D2 := Lib.hid fun g : Up w => HWaiting_c (hh.below g.ok) ho
  have D3 := Lib.hid fun g : Up w => HSize_c (hh.below g.ok) ho
  have l1 := ho.octs
  have l2 := ho.sent
  have l3 := hx.n1
  have l4 := hx.n2
  have lsz : 0 ≤ h.size ∧ h.size ≤ 300 := by
    unfold Ho.size
    cases hn : h.next with
    | nil => simp
    | cons p r =>
      have := ho.long p (by rw [hn]; exact List.mem_cons_self ..)
      simp; omega
  clear hh ho hx
  by_cases h1 : h.sent.length = 0
  · have e : Cy.fits h x = true := by simp [Cy.fits, h1]
    rw [e]
    have D0 := Lib.hid fun g : Up w => (show Calls Tryz.prog 79 #[.pointer (some ⟨bh, 0, none⟩)] g.val (fun e w' => e = .returned (.int .i64 0) ∧ g.val = w') from by
      have := D1.out g
      rw [h1] at this
      exact this)
    clear h1 D1 D2 D3 l1 l2 l3 l4 lsz e
    go_enter Tryz.func239, Tryz.ntmps239
    go_wp2
    refine wp_region_up (by kernel_rfl) (by kernel_rfl) ?_
    have up_hb := fun (g : Up _) => (Blk.below hb g.ok).c
    repeat (go_big_quiet_step (with_reducible exact Up.calls_same _ (D0.out _)))
    refine wpQuiet_nil ?_
    clear up_hb
    refine up_elim (fun w2 hb_w2 => ?_)
    go_wp2
    go_ret
    exact ⟨rfl, hb_w2⟩
  · have hz : ¬ (h.sent.length : Int) = 0 := by omega
    by_cases h2 : (h.sent.length : Int) < x.n1
    · have e : Cy.fits h x = decide ((octs h.sent : Int) + h.size ≤ x.n2) := by simp [Cy.fits, h1, h2]
      rw [e]
      go_enter Tryz.func239, Tryz.ntmps239
      go_wp2
      have hz' : ((h.sent.length : Int) == 0) = false := beq_eq_false_iff_ne.2 (by omega)
      refine wp_region_up (by kernel_rfl) (by kernel_rfl) ?_
      have up_hb := fun (g : Up _) => (Blk.below hb g.ok).c
      repeat (go_big_quiet_step (first | (with_reducible exact Up.calls_same _ (D1.out _)) | (with_reducible exact Up.calls_same _ (D2.out _)) | (with_reducible exact Up.calls_same _ (D3.out _))))
      refine wpQuiet_nil ?_
      clear up_hb
      refine up_elim (fun w2 hb_w2 => ?_)
      go_wp2
      go_ret
      exact ⟨rfl, hb_w2⟩
    · have e : Cy.fits h x = false := by simp [Cy.fits, h1, h2]
      rw [e]
      go_enter Tryz.func239, Tryz.ntmps239
      go_wp2
      have hz' : ((h.sent.length : Int) == 0) = false := beq_eq_false_iff_ne.2 (by omega)
      have h2' : ¬ (h.sent.length : Int) < x.n1 := by omega
      refine wp_region_up (by kernel_rfl) (by kernel_rfl) ?_
      have up_hb := fun (g : Up _) => (Blk.below hb g.ok).c
      repeat (go_big_quiet_step (with_reducible exact Up.calls_same _ (D1.out _)))
      refine wpQuiet_nil ?_
      clear up_hb
      refine up_elim (fun w2 hb_w2 => ?_)
      go_wp2
      go_ret
      exact ⟨rfl, hb_w2⟩
end
/-! ### The walks of package cyclic, continued: Answer, Next. -/
section
open Go Go.RowKit
set_option linter.unusedVariables false
set_option maxHeartbeats 1000000
set_option maxRecDepth 100000
theorem CAnswer_c {w : World} {F : List Nat} {b bh : Nat} {x : Cy} {h : Ho} {vs vn : Value} {u : Un} {vi : Value} (hb : CyAt w b bh x) (hx : x.ok) (hh : HoAt w bh h vs vn) (ho : h.ok) (hu : u.ok) (hv : BytI w F vi u.info) :
    Calls Tryz.prog 228 #[.pointer (some ⟨b, 0, none⟩), u.v vi] w fun e w' => e = .returned (.tuple #[.int .i64 (Cy.answer h x u).2.2.1, .int .i64 (Cy.answer h x u).2.2.2]) ∧ Ans w w' b bh 260 ((Cy.answer h x u).2.1.cells bh) (Cy.answer h x u).1 vs vn := by
  obtain ⟨a1, c1, rfl, _⟩ := hv.shape
  have hl := hu.bsn
  have hag := hx.at_
  clear hx
  have hbn := hh.notin hb (by decide) (by decide)
  have U1 := Blk.new w (u.cells (.slice a1 u.info.length c1)) 188
  have H1 := hb.alloc (.cells (u.cells (.slice a1 u.info.length c1)) 188)
  have HA := Lib.hid (hh.below (bl_alloc (bl_refl w) (.cells (u.cells (.slice a1 u.info.length c1)) 188)))
  have nUb : w.heap.size ≠ b := (H1.ne U1 (by decide)).symm
  have D := Lib.hid fun g : Up (w.alloc (.cells (u.cells (.slice a1 u.info.length c1)) 188)) => HKnows_c (HA.out.below g.ok) ho u.bsn (by omega) (by omega)
  have HU := Lib.hid U1
  have HB := Lib.hid H1
  clear hb hh hv U1 H1
  cases hk : h.knows u.bsn
  · obtain ⟨bad, hbad⟩ : ∃ bad, (x.b0 || x.b1) = bad := ⟨_, rfl⟩
    have et : Cy.answer h x u = (h, x.see true, 0, if bad then 10 else 0) := by
      cases bad <;> simp [Cy.answer, hk, hbad]
    rw [et]
    rw [hk] at D
    cases bad <;> (
      have U1 := HU.out
      have H1 := HB.out
      go_enter Tryz.func228, Tryz.ntmps228
      go_wp2
      refine wp_region_up (by kernel_rfl) (by kernel_rfl) ?_
      have up_U1 := fun (g : Up _) => (Blk.below U1 g.ok).c
      have up_H1 := fun (g : Up _) => (Blk.below H1 g.ok).c
      repeat (go_big_quiet_step (with_reducible exact Up.calls _ (D.out _)))
      refine wpQuiet_nil ?_
      clear up_U1 up_H1
      refine up_elim (fun w2 hb_w2 => ?_)
      have HS := Lib.hid (See_c (off := 6) (o0 := x.b0) (o1 := x.b1) (Blk.below H1 hb_w2) rfl rfl true)
      rw [Bool.true_and, hbad] at HS
      have H2 := Lib.hid (Blk.below H1 hb_w2)
      clear H1
      go_wp2_with (first | ((with_reducible refine HS.out.mono ?_); rintro e w4 ⟨rfl, K4, G4⟩))
      go_ret2
      exact ⟨rfl, ⟨vs, ((HA.out.below hb_w2).other H2.out (by decide) (by decide) (by decide) G4), fun g hg => hg⟩, K4.as (by simp [Cy.see]), ((Chg.of_below (bl_then (bl_alloc (bl_refl w) _) hb_w2) _).trans G4 (by simp))⟩)
  · rw [hk] at D
    have hgap := Ho.gap_le ho hk
    have ek : (h.free u.bsn).2.1 = h.gap u.bsn := by simp [Ho.free, hk]
    have e0 : (h.free u.bsn).2.2 = 0 := by simp [Ho.free, hk]
    have ef : Cy.answer h x u = ((h.free u.bsn).1, { x.see false with at_ := max 0 (x.at_ - (h.free u.bsn).2.1) }, (h.free u.bsn).2.1, 0) := by simp [Cy.answer, hk]
    rw [ef, show x.at_ = (x.see false).at_ from rfl]
    have ls := ho.sent
    rw [← ek] at hgap
    have hh' := Ho.ok_free ho u.bsn
    have CF : ∀ w', HoAt w' bh h vs vn → _ := fun w' hh => Free_c hh ho u.bsn (by omega) (by omega)
    rw [e0] at CF
    clear ek ef e0
    generalize (h.free u.bsn).2.1 = k at *
    generalize (h.free u.bsn).1 = h' at *
    have l5 := hh'.sent
    have HF := Lib.hid CF
    clear CF
    have h1a : 0 ≤ (x.see false).at_ ∧ (x.see false).at_ ≤ 127 := hag
    generalize hx1 : x.see false = x1 at *
    have HX1 := Lib.hid hx1
    clear hx1
    have U1 := HU.out
    have H1 := HB.out
    go_enter Tryz.func228, Tryz.ntmps228
    go_wp2
    refine wp_region_up (by kernel_rfl) (by kernel_rfl) ?_
    have up_U1 := fun (g : Up _) => (Blk.below U1 g.ok).c
    have up_H1 := fun (g : Up _) => (Blk.below H1 g.ok).c
    repeat (go_big_quiet_step (with_reducible exact Up.calls _ (D.out _)))
    refine wpQuiet_nil ?_
    clear up_U1 up_H1
    refine up_elim (fun w2 hb_w2 => ?_)
    have HS := Lib.hid (See_c (off := 6) (o0 := x.b0) (o1 := x.b1) (Blk.below H1 hb_w2) rfl rfl false)
    rw [Bool.false_and] at HS
    have H2 := Lib.hid (Blk.below H1 hb_w2)
    have U2 := Lib.hid (Blk.below U1 hb_w2)
    clear H1 U1
    go_upto_region 8 with (first | ((with_reducible refine HS.out.mono ?_); rintro e w4 ⟨rfl, K4, G4⟩))
    have HK4 := Lib.hid (show CyAt w4 b bh x1 from K4.as (by rw [← HX1.out]; simp [Cy.see]))
    have HA4 := Lib.hid ((HA.out.below hb_w2).other H2.out (by decide) (by decide) (by decide) G4)
    have HU4 := Lib.hid (U2.out.chg G4 (by simpa using nUb))
    have HG4 := Lib.hid ((Chg.of_below (bl_then (bl_alloc (bl_refl w) _) hb_w2) (b :: hoF bh vs vn)).trans G4 (by simp))
    clear K4 G4
    go_cut [7] (fun k' wx => k' = .int .i64 k ∧ CyAt wx b bh x1 ∧ Blk wx w.heap.size (u.cells (.slice a1 u.info.length c1)) 188 ∧ (∃ vs', HoAt wx bh h' vs' vn ∧ ∀ g ∈ own vs', g ∈ own vs) ∧ Chg (b :: hoF bh vs vn) w wx)
    case first =>
      have h4d := HK4.out.drew.c
      have u4d := HU4.out.drew.c
      go_region_law (go_simp; (with_reducible refine (HF.out _ (HA4.out.below (bl_drew (bl_refl _)))).mono ?_); rintro e w5 ⟨rfl, vs5, A5, G5, O5⟩; have HA5 := Lib.hid A5; have HG5 := Lib.hid G5; have HO5 := Lib.hid O5; clear A5 G5 O5)
      all_goals
        go_wp2
        go_meet
        case rel => exact ⟨rfl, (HK4.out.drew.chg HG5.out ((HA4.out.below (bl_drew (bl_refl _))).notin HK4.out.drew (by decide) (by decide))), (HU4.out.drew.chg HG5.out ((HA4.out.below (bl_drew (bl_refl _))).notin HU4.out.drew (by decide) (by decide))), ⟨vs5, HA5.out, HO5.out⟩, HG4.out.drew.trans (HG5.out.more (G := b :: hoF bh vs vn) (fun k hk => List.mem_cons_of_mem _ hk)) (fun k hk => .inl hk)⟩
    case rest =>
      obtain ⟨rfl, K5, U5, ⟨vs5, A5, O5⟩, G5⟩ := hcut
      have HK5 := Lib.hid K5
      have HU5 := Lib.hid U5
      have HA5 := Lib.hid A5
      have HG5 := Lib.hid G5
      have HO5 := Lib.hid O5
      have k5c := K5.c
      have k5f := K5.f
      clear K5 U5 A5 G5 O5
      have nU := Lib.hid nUb
      go_wp2
      all_goals
        go_ret2
        exact ⟨rfl, ⟨_, HA5.out.other HK5.out (by decide) (by decide) (by decide) (chg1 _ b 4 _), HO5.out⟩, (HK5.out.set 4 _).as (by simp; omega), HG5.out.trans (chg1 _ b 4 _) (by simp)⟩
end
/-! ### The walks of package cyclic, the last: Next. -/
section
open Go Go.RowKit
set_option linter.unusedVariables false
set_option maxHeartbeats 1000000
set_option maxRecDepth 100000
theorem CNext_c {w : World} {b bh : Nat} {x : Cy} {h : Ho} {vs vn : Value} (hb : CyAt w b bh x) (hx : x.ok) (hh : HoAt w bh h vs vn) (ho : h.ok) :
    Calls Tryz.prog 231 #[.pointer (some ⟨b, 0, none⟩)] w fun e w' => Sends w w' b bh 260 ((Cy.next h x).2.1.cells bh) (Cy.next h x).1 vs vn e (Cy.next h x).2.2 := by
  have hbn := hh.notin hb (by decide) (by decide)
  have HB := Lib.hid (hb.alloc (.cells Un.zeros 188))
  have h1c := (hb.alloc (.cells Un.zeros 188)).c
  have h1f := (hb.alloc (.cells Un.zeros 188)).f
  have N1 := Lib.hid (Blk.new w Un.zeros 188)
  have HA := Lib.hid (hh.below (bl_alloc (bl_refl w) (.cells Un.zeros 188)))
  have HX := Lib.hid hx
  have BW := Lib.hid (bl_alloc (bl_refl w) (.cells Un.zeros 188))
  have DN := Lib.hid (HNext_c HA.out)
  have DF := Lib.hid (CFits_c HB.out hx HA.out ho)
  clear hb hh
  have l1 := ho.all
  obtain ⟨x1, hx1⟩ : ∃ x1, x.push h = x1 := ⟨_, rfl⟩
  have f1 : x1.at_ = x.at_ ∧ x1.last = x.last ∧ x1.n1 = x.n1 ∧ x1.n2 = x.n2 := by rw [← hx1]; unfold Cy.push; split <;> exact ⟨rfl, rfl, rfl, rfl⟩
  have ox1 : x1.ok := ⟨by rw [f1.2.2.1]; exact hx.n1, by rw [f1.2.2.2]; exact hx.n2, by rw [f1.2.1]; exact hx.last, by rw [f1.1]; exact hx.at_⟩
  have en : Cy.next h x = if x1.force = false ∧ h.send.2.2.2 = 0 then (h.send.1, x1, x1.msg h.send.2.1 h.send.2.2.1) else x1.old h := by
    unfold Cy.next
    rw [hx1]
    have : x.msg h.send.2.1 h.send.2.2.1 = x1.msg h.send.2.1 h.send.2.2.1 := by simp [Cy.msg, f1.2.1]
    rw [this]
  have HX1 := Lib.hid hx1
  have OX1 := Lib.hid ox1
  rw [en]
  clear hx1 ox1 en
  obtain ⟨mu, hmu⟩ : ∃ mu, Cy.must h x = mu := ⟨_, rfl⟩
  by_cases hA : x1.force = false ∧ h.send.2.2.2 = 0
  · rw [if_pos hA]
    have hs := hA.2
    have hf := hA.1
    clear hA
    go_enter Tryz.func231, Tryz.ntmps231
    go_upto_region 3 with fail
    generalize hw1 : w.alloc (.cells Un.zeros 188) = w1 at *
    go_cut [22] (fun t wx => t = .bool mu ∧ Below w1.heap.size w1 wx)
    case first =>
      by_cases hn : 0 < h.next.length
      · have hn' : (0 : Int) < h.next.length := by omega
        have em : mu = !Cy.fits h x := by rw [← hmu]; simp [Cy.must, hn]
        have EM := Lib.hid em
        clear em hmu
        go_wp2_with (first | ((with_reducible refine DN.out.mono ?_); rintro e w2 ⟨rfl, rfl⟩) | ((with_reducible refine DF.out.mono ?_); rintro e w3 ⟨rfl, hb3⟩))
        go_meet
        case rel => exact ⟨by rw [EM.out], hb3⟩
      · have hn' : (h.next.length : Int) = 0 := by omega
        have em : mu = false := by rw [← hmu]; simp [Cy.must, hn]
        have EM := Lib.hid em
        clear em hmu
        go_wp2_with (first | ((with_reducible refine DN.out.mono ?_); rintro e w2 ⟨rfl, rfl⟩) | ((with_reducible refine DF.out.mono ?_); rintro e w3 ⟨rfl, hb3⟩))
        go_meet
        case rel => exact ⟨by rw [EM.out], bl_refl _⟩
    case rest =>
      obtain ⟨rfl, B2⟩ := hcut
      have HB2 := Lib.hid B2
      have K2 := Lib.hid (HB.out.below B2)
      have k2c := K2.out.c
      have k2f := K2.out.f
      clear B2 h1c h1f
      rename World => wa
      go_upto_if 22 with fail
      go_cut [] (fun wx => CyAt wx b bh x1 ∧ Chg [b] wa wx)
      case first =>
        cases mu
        · have ep : x1 = x := by rw [← HX1.out]; simp [Cy.push, hmu]
          go_wp2
          go_meet
          case rel => exact ⟨K2.out.as (by rw [ep]), Chg.refl _ _⟩
        · have ep : x1 = { x with force := true } := by rw [← HX1.out]; simp [Cy.push, hmu]
          go_wp2
          go_meet
          case rel => exact ⟨(K2.out.set 5 _).as (by rw [ep]; simp), chg1 _ _ _ _⟩
      case rest =>
        obtain ⟨K3, G3⟩ := hcut
        rename World => wb
        have HA3 := Lib.hid ((HA.out.below HB2.out).other K2.out (by decide) (by decide) (by decide) G3)
        have N3 := Lib.hid ((N1.out.below HB2.out).chg G3 (by simpa using (K2.out.ne (N1.out.below HB2.out) (by decide)).symm))
        have HK3 := Lib.hid K3
        have C3 := Lib.hid ((Chg.of_below HB2.out [b]).then G3)
        have k3c := K3.c
        have k3f := K3.f
        clear k2c k2f K3 G3
        have hs' := hs
        go_wp2_with (first
          | ((with_reducible refine (Send_c HA3.out ho).mono ?_); rintro e w2 ⟨v2, rfl, B2, F2, vs2, vn2, A2, G2, O2⟩; (obtain ⟨a2, c2, rfl, _⟩ := B2.1.shape); (have hb2 := Lib.hid (HK3.out.chg G2 (HA3.out.notin HK3.out (by decide) (by decide)))); (have hn2 := Lib.hid (N3.out.chg G2 (HA3.out.notin N3.out (by decide) (by decide)))); (have hp2 := Lib.hid B2); (have HA2 := Lib.hid A2); (have HG2 := Lib.hid (G2.more (G := b :: hoF bh vs vn) (fun k hk => List.mem_cons_of_mem _ hk))); (have HF2 := Lib.hid F2); (have HO2 := Lib.hid O2); clear B2 A2 G2 F2 O2)
          | ((with_reducible refine (CMsg_c hb2.out _ _ _ hp2.out).mono ?_); rintro e w3 ⟨rfl, hb3⟩; (have hn3 := Lib.hid (hn2.out.below hb3)); (have n3c := (hn2.out.below hb3).c); (have n3f := (hn2.out.below hb3).f)))
        have hsz : w1.heap.size ≤ wb.heap.size := C3.out.size
        exact bodyPost_ret (res_c rfl Un.laid rfl (hn3.out.all8 _ _ _ _ _ _ _ _) rfl) rfl (sends_end BW.out (Nat.le_refl _) ((C3.out.more (G := b :: hoF bh vs vn) (by simp)).then HG2.out) HA2.out hb2.out hp2.out (fun k hk => Nat.le_trans hsz (HF2.out k hk)) (fun k hk => (HO2.out k hk).imp id (fun h => Nat.le_trans hsz h)) hb3 hn3.out hbn (by decide) (by decide) (by decide) (by decide) _ _ _ _ _ _ _ _)
  · rw [if_neg hA]
    have es : h.send.2.2.2 ≠ 0 → h.send.1 = h := by
      intro h9
      unfold Ho.send at h9 ⊢
      split at h9
      · rfl
      · split at h9
        · rename_i h10; rw [if_pos h10]
        · exact absurd rfl h9
    have HES := Lib.hid es
    have HNA := Lib.hid hA
    clear es hA
    obtain ⟨r, hr⟩ : ∃ r, x1.old h = r := ⟨_, rfl⟩
    rw [hr]
    have HR := Lib.hid hr
    clear hr
    go_enter Tryz.func231, Tryz.ntmps231
    go_upto_region 3 with fail
    generalize hw1 : w.alloc (.cells Un.zeros 188) = w1 at *
    go_cut [22] (fun t wx => t = .bool mu ∧ Below w1.heap.size w1 wx)
    case first =>
      by_cases hn : 0 < h.next.length
      · have hn' : (0 : Int) < h.next.length := by omega
        have em : mu = !Cy.fits h x := by rw [← hmu]; simp [Cy.must, hn]
        have EM := Lib.hid em
        clear em hmu
        go_wp2_with (first | ((with_reducible refine DN.out.mono ?_); rintro e w2 ⟨rfl, rfl⟩) | ((with_reducible refine DF.out.mono ?_); rintro e w3 ⟨rfl, hb3⟩))
        go_meet
        case rel => exact ⟨by rw [EM.out], hb3⟩
      · have hn' : (h.next.length : Int) = 0 := by omega
        have em : mu = false := by rw [← hmu]; simp [Cy.must, hn]
        have EM := Lib.hid em
        clear em hmu
        go_wp2_with (first | ((with_reducible refine DN.out.mono ?_); rintro e w2 ⟨rfl, rfl⟩) | ((with_reducible refine DF.out.mono ?_); rintro e w3 ⟨rfl, hb3⟩))
        go_meet
        case rel => exact ⟨by rw [EM.out], bl_refl _⟩
    case rest =>
      obtain ⟨rfl, B2⟩ := hcut
      have HB2 := Lib.hid B2
      have K2 := Lib.hid (HB.out.below B2)
      have k2c := K2.out.c
      have k2f := K2.out.f
      clear B2 h1c h1f
      rename World => wa
      go_upto_if 22 with fail
      go_cut [] (fun wx => CyAt wx b bh x1 ∧ Chg [b] wa wx)
      case first =>
        cases mu
        · have ep : x1 = x := by rw [← HX1.out]; simp [Cy.push, hmu]
          go_wp2
          go_meet
          case rel => exact ⟨K2.out.as (by rw [ep]), Chg.refl _ _⟩
        · have ep : x1 = { x with force := true } := by rw [← HX1.out]; simp [Cy.push, hmu]
          go_wp2
          go_meet
          case rel => exact ⟨(K2.out.set 5 _).as (by rw [ep]; simp), chg1 _ _ _ _⟩
      case rest =>
        obtain ⟨K3, G3⟩ := hcut
        rename World => wb
        have HA3 := Lib.hid ((HA.out.below HB2.out).other K2.out (by decide) (by decide) (by decide) G3)
        have N3 := Lib.hid ((N1.out.below HB2.out).chg G3 (by simpa using (K2.out.ne (N1.out.below HB2.out) (by decide)).symm))
        have HK3 := Lib.hid K3
        have C3 := Lib.hid ((Chg.of_below HB2.out [b]).then G3)
        have k3c := K3.c
        have k3f := K3.f
        clear k2c k2f K3 G3
        go_upto_if 30 with fail
        go_cut [] (fun wx => CyAt wx b bh x1 ∧ Blk wx w.heap.size Un.zeros 188 ∧ (∃ vs' vn', HoAt wx bh h vs' vn' ∧ ∀ g ∈ own vs' ++ own vn', g ∈ own vs ++ own vn ∨ w1.heap.size ≤ g) ∧ Chg (b :: hoF bh vs vn) w1 wx)
        case first =>
          have hsz : w1.heap.size ≤ wb.heap.size := C3.out.size
          by_cases hf : x1.force = false
          · have hs : ¬ h.send.2.2.2 = 0 := fun h9 => HNA.out ⟨hf, h9⟩
            have HS := Lib.hid (HES.out hs)
            simp only [hf, Bool.not_false]
            go_wp2_with (first
              | ((with_reducible refine (Send_c HA3.out ho).mono ?_); rintro e w2 ⟨v2, rfl, B2, F2, vs2, vn2, A2, G2, O2⟩; (obtain ⟨a2, c2, rfl, _⟩ := B2.1.shape); (have hb2 := Lib.hid (HK3.out.chg G2 (HA3.out.notin HK3.out (by decide) (by decide)))); (have hn2 := Lib.hid (N3.out.chg G2 (HA3.out.notin N3.out (by decide) (by decide)))); (have hp2 := Lib.hid B2); (have HA2 := Lib.hid A2); (have HG2 := Lib.hid (G2.more (G := b :: hoF bh vs vn) (fun k hk => List.mem_cons_of_mem _ hk))); (have HF2 := Lib.hid F2); (have HO2 := Lib.hid O2); clear B2 A2 G2 F2 O2))
            go_meet
            case rel => exact ⟨hb2.out, hn2.out, ⟨vs2, vn2, HS.out ▸ HA2.out, fun k hk => (HO2.out k hk).imp id (fun h => Nat.le_trans hsz h)⟩, (C3.out.more (G := b :: hoF bh vs vn) (by simp)).then HG2.out⟩
          · have hf' : x1.force = true := by simpa using hf
            simp only [hf', Bool.not_true]
            go_wp2
            go_meet
            case rel => exact ⟨HK3.out, N3.out, ⟨vs, vn, HA3.out, fun k hk => .inl hk⟩, C3.out.more (G := b :: hoF bh vs vn) (by simp)⟩
        case rest =>
          obtain ⟨K4, N4, ⟨vs4, vn4, A4, O4⟩, G4⟩ := hcut
          rename World => wd
          have HK4 := Lib.hid K4
          have HN4 := Lib.hid N4
          have HA4 := Lib.hid A4
          have HO4 := Lib.hid O4
          have HG4 := Lib.hid G4
          clear N4 A4 O4 G4 k3c k3f
          go_wp2
          refine wp_region_up (by kernel_rfl) (by kernel_rfl) ?_
          have up_K4 := fun (g : Up _) => (Blk.below K4 g.ok).c
          repeat (go_big_quiet_step (with_reducible exact Up.calls_same _ (HSent_c (HA4.out.below (Up.ok _)))))
          refine wpQuiet_nil ?_
          clear up_K4
          refine up_elim (fun w5 hb_w5 => ?_)
          have HK5 := Lib.hid (Blk.below K4 hb_w5)
          have HN5 := Lib.hid (HN4.out.below hb_w5)
          have HA5 := Lib.hid (HA4.out.below hb_w5)
          have HG5 := Lib.hid (HG4.out.below hb_w5)
          have k5c := HK5.out.c
          have k5f := HK5.out.f
          have DN5 := Lib.hid (HNext_c HA5.out)
          have DF5 := Lib.hid (CFits_c HK5.out OX1.out HA5.out ho)
          clear K4
          go_upto_if 55 with fail
          go_cut [] (fun wx => CyAt wx b bh (x1.wind h) ∧ ∃ wy, Below w5.heap.size w5 wy ∧ Chg [b] wy wx)
          case first =>
            by_cases hw : (h.sent.length : Int) ≤ x1.at_
            · have ew : x1.wind h = { x1 with at_ := 0, force := Cy.must h x1 } := by unfold Cy.wind; rw [if_pos hw]
              by_cases hn : 0 < h.next.length
              · have hn' : (0 : Int) < h.next.length := by omega
                have em : Cy.must h x1 = !Cy.fits h x1 := by simp [Cy.must, hn]
                have EM := Lib.hid em
                have EW := Lib.hid ew
                clear em ew
                go_wp2_with (first
                  | ((with_reducible refine DN5.out.mono ?_); rintro e w6 ⟨rfl, rfl⟩)
                  | ((with_reducible refine DF5.out.mono ?_); rintro e w6 ⟨rfl, hb6⟩; (have k6c := (HK5.out.below hb6).c); (have k6f := (HK5.out.below hb6).f)))
                go_meet
                case rel => exact ⟨(((HK5.out.below hb6).set 4 _).set 5 _).as (by rw [EW.out, EM.out]; simp), _, hb6, (chg1 _ b 4 _).then (chg1 _ b 5 _)⟩
              · have hn' : (h.next.length : Int) = 0 := by omega
                have em : Cy.must h x1 = false := by simp [Cy.must, hn]
                have EM := Lib.hid em
                have EW := Lib.hid ew
                clear em ew
                go_wp2_with (first
                  | ((with_reducible refine DN5.out.mono ?_); rintro e w6 ⟨rfl, rfl⟩))
                go_meet
                case rel => exact ⟨((HK5.out.set 4 _).set 5 _).as (by rw [EW.out, EM.out]; simp), _, bl_refl _, (chg1 _ b 4 _).then (chg1 _ b 5 _)⟩
            · have ew : x1.wind h = x1 := by unfold Cy.wind; rw [if_neg hw]
              have EW := Lib.hid ew
              have hw' : x1.at_ < (h.sent.length : Int) := by omega
              clear ew
              go_wp2
              go_meet
              case rel => exact ⟨HK5.out.as (by rw [EW.out]), _, bl_refl _, Chg.refl _ _⟩
          case rest =>
            rename World => we
            obtain ⟨K7, wy, By, Gy⟩ := hcut
            have KY := HK5.out.below By
            have HA7 := Lib.hid ((HA5.out.below By).other KY (by decide) (by decide) (by decide) Gy)
            have HN7 := Lib.hid ((HN5.out.below By).chg Gy (by simpa using (KY.ne (HN5.out.below By) (by decide)).symm))
            have HG7 := Lib.hid ((HG5.out.below By).trans Gy (by simp))
            have b2 : 0 ≤ (x1.wind h).at_ ∧ (x1.wind h).at_ ≤ 127 := by
              have := OX1.out.at_
              unfold Cy.wind
              split
              · exact ⟨Int.le_refl 0, (by decide : (0 : Int) ≤ 127)⟩
              · exact this
            have hl2 : (x1.wind h).last = x1.last := by unfold Cy.wind; split <;> rfl
            clear KY By Gy k5c k5f
            generalize hx2 : x1.wind h = x2 at *
            have HX2 := Lib.hid hx2
            have HL2 := Lib.hid hl2
            clear hl2
            have HK7 := Lib.hid K7
            have k7c := K7.c
            have k7d := K7.drew.c
            have k7f := K7.f
            clear hx2 K7
            by_cases he : (h.at x2.at_).2.2 = 0
            · have eo : x1.old h = (h, { x2 with at_ := x2.at_ + 1 }, x2.msg (h.at x2.at_).1 (h.at x2.at_).2.1) := by
                unfold Cy.old
                rw [HX2.out, if_pos he]
                simp [Cy.msg, HL2.out]
              have EO := Lib.hid eo
              clear eo
              go_wp2
              go_region_law (go_simp; (with_reducible refine (HAt_c (HA7.out.below (bl_drew (bl_refl _))) ho x2.at_ (by omega) (by omega)).mono ?_); rintro e w8 ⟨v8, rfl, B8, hb8, F8⟩; obtain ⟨a8, c8, rfl, _⟩ := B8.1.shape; have HB8 := Lib.hid B8; have HF8 := Lib.hid F8; clear B8 F8)
              all_goals
                have b8 := Lib.hid (bl_then (bl_drew (bl_refl _)) hb8)
                have K8 := HK7.out.below b8.out
                have k8c := K8.c
                have k8f := K8.f
                have hb2 := Lib.hid (show CyAt _ b bh { x2 with at_ := x2.at_ + 1 } from (K8.set 4 (.int .i64 (x2.at_ + 1))).as (by simp))
                have C8 := Lib.hid (chg1 w8 b 4 (.int .i64 (x2.at_ + 1)))
                have HA8 := Lib.hid ((HA7.out.below b8.out).other K8 (by decide) (by decide) (by decide) C8.out)
                have hn2 := Lib.hid ((HN7.out.below b8.out).chg C8.out (by simpa using (K8.ne (HN7.out.below b8.out) (by decide)).symm))
                have hp2 := Lib.hid (HB8.out.stay (off1 K8 (by decide)) C8.out)
                have G8 := Lib.hid ((HG7.out.below b8.out).trans C8.out (by simp))
                have s8 : w1.heap.size ≤ we.heap.size := HG7.out.size
                clear k7c k7d k7f K8
                go_wp2_with (first
                  | ((with_reducible refine (CMsg_c hb2.out _ _ _ hp2.out).mono ?_); rintro e w3 ⟨rfl, hb3⟩; (have hn3 := Lib.hid (hn2.out.below hb3)); (have n3c := (hn2.out.below hb3).c); (have n3f := (hn2.out.below hb3).f)))
                obtain rfl : r = _ := HR.out.symm.trans EO.out
                exact bodyPost_ret (res_c rfl Un.laid rfl (hn3.out.all8 _ _ _ _ _ _ _ _) rfl) rfl (sends_end BW.out (Nat.le_refl _) G8.out HA8.out hb2.out hp2.out (fun k hk => Nat.le_trans s8 (HF8.out k hk)) HO4.out hb3 hn3.out hbn (by decide) (by decide) (by decide) (by decide) _ _ _ _ _ _ _ _)
            · have eo : x1.old h = (h, x2, x2.head h.last) := by
                unfold Cy.old
                rw [HX2.out, if_neg he]
                simp [Cy.head, HL2.out]
              have EO := Lib.hid eo
              clear eo
              have he' : ((h.at x2.at_).2.2 == 0) = false := beq_eq_false_iff_ne.2 he
              go_wp2
              go_region_law (go_simp; (with_reducible refine (HAt_c (HA7.out.below (bl_drew (bl_refl _))) ho x2.at_ (by omega) (by omega)).mono ?_); rintro e w8 ⟨v8, rfl, B8, hb8, F8⟩; obtain ⟨a8, c8, rfl, _⟩ := B8.1.shape; clear B8 F8)
              all_goals
                have b8 := Lib.hid (bl_then (bl_drew (bl_refl _)) hb8)
                have K8 := Lib.hid (HK7.out.below b8.out)
                have HA8 := Lib.hid (HA7.out.below b8.out)
                have hn2 := Lib.hid (HN7.out.below b8.out)
                have G8 := Lib.hid (HG7.out.below b8.out)
                clear k7c k7d k7f
                go_wp2_with (first
                  | ((with_reducible refine (CFill_c K8.out HA8.out ho).mono ?_); rintro e w3 ⟨rfl, hb3⟩; (have hn3 := Lib.hid (hn2.out.below hb3)); (have n3c := (hn2.out.below hb3).c); (have n3f := (hn2.out.below hb3).f)))
                obtain rfl : r = _ := HR.out.symm.trans EO.out
                exact bodyPost_ret (res_c rfl Un.laid rfl (hn3.out.all8 _ _ _ _ _ _ _ _) rfl) rfl (sends_end BW.out (Nat.le_refl _) G8.out HA8.out K8.out byt_nil (by simp [own, Value.ownBlock]) HO4.out hb3 hn3.out hbn (by decide) (by decide) (by decide) (by decide) _ _ _ _ _ _ _ _)
end
end Go.Proofs.YtcllbmjmefeknaaGreatK
