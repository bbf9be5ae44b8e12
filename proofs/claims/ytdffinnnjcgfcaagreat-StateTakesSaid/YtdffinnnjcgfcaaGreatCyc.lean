/- The walks of package cyclic. -/
import Derived.Test.YtdffinnnjcgfcaaGreatBse
namespace Go.Proofs.YtdffinnnjcgfcaaGreatK
open Go Go.RowKit
set_option linter.unusedVariables false
set_option maxHeartbeats 1000000
set_option maxRecDepth 100000
abbrev Cy.cells (x : Cy) (bh : Nat) : Array Value := #[.pointer (some ⟨bh, 0, none⟩), .int .i64 x.n1, .int .i64 x.n2, .int .u8 x.last, .int .i64 x.at_, .bool x.force, .bool x.b0, .bool x.b1]
abbrev CyAt (w : World) (b bh : Nat) (x : Cy) : Prop := Blk w b (x.cells bh) 204
theorem CHold_c {w : World} {b bh : Nat} {x : Cy} (hb : CyAt w b bh x) :
    Calls Tryz.prog 184 #[.pointer (some ⟨b, 0, none⟩)] w fun e w' => e = .returned (.pointer (some ⟨bh, 0, none⟩)) ∧ w = w' := by
  have hc := hb.c
  clear hb
  go_enter Tryz.func184, Tryz.ntmps184
  go_wp2
  go_ret
  exact ⟨rfl, rfl⟩
theorem CTaken_c {w : World} {b bh : Nat} {x : Cy} (hb : CyAt w b bh x) :
    Calls Tryz.prog 189 #[.pointer (some ⟨b, 0, none⟩)] w fun e w' => e = .returned (.int .u8 x.last) ∧ w = w' := by
  have hc := hb.c
  clear hb
  go_enter Tryz.func189, Tryz.ntmps189
  go_wp2
  go_ret
  exact ⟨rfl, rfl⟩
theorem CHead_c {w : World} {b bh : Nat} {x : Cy} (hb : CyAt w b bh x) (n : Int) :
    Calls Tryz.prog 192 #[.pointer (some ⟨b, 0, none⟩), .int .u8 n] w fun e w' => e = .returned ((x.head n).v nil0) ∧ Below w.heap.size w w' := by
  have hc := (hb.alloc (.cells Un.zeros 31)).c
  have N1 := Blk.new w Un.zeros 31
  have n1c := N1.c
  have n1f := N1.f
  have HN := Lib.hid N1
  clear hb N1
  go_enter Tryz.func192, Tryz.ntmps192
  go_wp2
  exact bodyPost_ret (res_c rfl Un.laid rfl (Blk.new _ _ _) rfl) rfl ⟨rfl, bl_alloc (bl_refl w) _⟩
theorem CNew_c (most oc n1 n2 : Int) (w : World) :
    Calls Tryz.prog 126 #[.int .i64 most, .int .i64 oc, .int .i64 n1, .int .i64 n2] w fun e w' => ∃ b bh, e = .returned (.pointer (some ⟨b, 0, none⟩)) ∧ w.heap.size ≤ b ∧ w.heap.size ≤ bh ∧ HoAt w' bh (Ho.none most oc) nil0 nil0 ∧ CyAt w' b bh (Cy.zero n1 n2) ∧ Below w.heap.size w w' := by
  go_enter Tryz.func126, Tryz.ntmps126
  go_wp2_with (first | ((with_reducible refine (HNew_c most oc w).mono ?_); rintro e w2 ⟨bh, rfl, h1, h2, h3⟩))
  all_goals
    go_ret
    exact ⟨_, rfl, h3.size, bh, h1, h2.below (bl_alloc (bl_refl _) _), (Blk.new _ _ _).as (by simp [Cy.zero]; omega), bl_alloc h3 _⟩
theorem CMsg_c {w : World} {b bh : Nat} {x : Cy} (hb : CyAt w b bh x) (n : Int) (vp : Value) (p : Oct) (hp : BytV w vp p) :
    Calls Tryz.prog 195 #[.pointer (some ⟨b, 0, none⟩), .int .u8 n, vp] w fun e w' => e = .returned ((x.msg n p).v vp) ∧ Below w.heap.size w w' := by
  obtain ⟨ap, cp, rfl, _⟩ := hp.1.shape
  have H1 := Lib.hid (hb.alloc (.cells Un.zeros 31))
  have N1 := Lib.hid (Blk.new w Un.zeros 31)
  clear hb hp
  go_enter Tryz.func195, Tryz.ntmps195
  go_wp2_with (first | ((with_reducible refine (CHead_c H1.out n).mono ?_); rintro e w2 ⟨rfl, hb2⟩; (have n1c := (N1.out.below hb2).c); (have n1f := (N1.out.below hb2).f); (have n1 := Lib.hid (N1.out.below hb2)); (have lt2 : w.heap.size < w2.heap.size := N1.out.below hb2 |>.lt); (have ne2 : w.heap.size ≠ w2.heap.size := Nat.ne_of_lt lt2)))
  exact bodyPost_ret (res_c rfl Un.laid rfl ((n1.out.all8 _ _ _ _ _ _ _ _).alloc _) rfl) rfl ⟨rfl, bl_alloc (bl_all8 (bl_then (bl_alloc (bl_refl w) _) hb2) (Nat.le_refl _) _ _ _ _ _ _ _ _) _⟩
theorem CFill_c {w : World} {b bh : Nat} {x : Cy} {h : Ho} {vs vn : Value} (hb : CyAt w b bh x) (hh : HoAt w bh h vs vn) (ho : h.ok) :
    Calls Tryz.prog 183 #[.pointer (some ⟨b, 0, none⟩)] w fun e w' => e = .returned ((x.head h.last).v nil0) ∧ Below w.heap.size w w' := by
  have H1 := Lib.hid (hb.alloc (.cells Un.zeros 31))
  have h1c := (hb.alloc (.cells Un.zeros 31)).c
  have N1 := Lib.hid (Blk.new w Un.zeros 31)
  have HA := Lib.hid (hh.below (bl_alloc (bl_refl w) (.cells Un.zeros 31)))
  clear hb hh
  go_enter Tryz.func183, Tryz.ntmps183
  go_wp2_with (first
    | ((with_reducible refine (HLast_c HA.out ho).mono ?_); rintro e w2 ⟨rfl, hb2⟩)
    | ((with_reducible refine (CHead_c (H1.out.below hb2) h.last).mono ?_); rintro e w3 ⟨rfl, hb3⟩; (have n1c := ((N1.out.below hb2).below hb3).c); (have n1f := ((N1.out.below hb2).below hb3).f); (have n1 := Lib.hid ((N1.out.below hb2).below hb3))))
  exact bodyPost_ret (res_c rfl Un.laid rfl (n1.out.all8 _ _ _ _ _ _ _ _) rfl) rfl ⟨rfl, bl_all8 (bl_then (bl_then (bl_alloc (bl_refl w) _) hb2) hb3) (Nat.le_refl _) _ _ _ _ _ _ _ _⟩
theorem CReset_c {w : World} {b bh : Nat} {x : Cy} {h : Ho} {vs vn : Value} (hb : CyAt w b bh x) (hh : HoAt w bh h vs vn) :
    Calls Tryz.prog 187 #[.pointer (some ⟨b, 0, none⟩)] w fun e w' => e = .returned (.tuple #[]) ∧ HoAt w' bh h.clear nil0 nil0 ∧ CyAt w' b bh x.reset ∧ Chg [b, bh] w w' := by
  have hc := hb.c
  have hbn := hh.notin hb (by decide) (by decide)
  have HB := Lib.hid hb
  have HH := Lib.hid hh
  have hne : b ∉ [bh] := by simp at hbn ⊢; exact hbn.1
  clear hb hh
  go_enter Tryz.func187, Tryz.ntmps187
  go_wp2_with (first | ((with_reducible refine (HClear_c HH.out).mono ?_); rintro e w2 ⟨rfl, A2, G2⟩; (have hb2 := Lib.hid (HB.out.chg G2 hne)); (have hb2c := hb2.out.c); (have HA2 := Lib.hid A2); clear A2))
  have K2 := hb2.out
  refine wp_region_up_tail 14 (by kernel_rfl) (by kernel_rfl) ?_
  simp only [List.take_succ_cons, List.take_zero, List.drop_succ_cons, List.drop_zero]
  have up_K2 := fun (g : Up _) => (Blk.below K2 g.ok).c
  repeat (go_big_quiet_step (fail))
  refine wpQuiet_nil ?_
  clear up_K2
  refine up_elim (fun w3 hb_w3 => ?_)
  have K3 := Lib.hid (K2.below hb_w3)
  have k3c := K3.out.c
  have k3f := K3.out.f
  clear K2 hb2c
  go_wp2
  go_end0
  have hc9 : Chg [b] w3 _ := ((((((((chg1 w3 b 0 (.pointer (some ⟨bh, 0, none⟩))).then (chg1 _ b 1 (.int .i64 x.n1))).then (chg1 _ b 2 (.int .i64 x.n2))).then (chg1 _ b 3 (.int .u8 127))).then (chg1 _ b 4 (.int .i64 0))).then (chg1 _ b 5 (.bool false))).then (chg1 _ b 6 (.bool false))).then (chg1 _ b 7 (.bool false)))
  exact ⟨rfl, (HA2.out.below hb_w3).other K3.out (by decide) (by decide) (by decide) hc9, (K3.out.all8 _ _ _ _ _ _ _ _).as (by simp [Cy.reset]), ((G2.more (by simp)).below hb_w3).trans hc9 (by simp)⟩
theorem CTake_c {w : World} {b bh : Nat} {x : Cy} {u : Un} {vi : Value} (hb : CyAt w b bh x) (hx : x.ok) (hu : u.ok) (hv : BytI w [b] vi u.info) :
    Calls Tryz.prog 188 #[.pointer (some ⟨b, 0, none⟩), u.v vi] w fun e w' => ∃ v, e = .returned (.tuple #[v, .bool (x.take u).2.2.1, .int .i64 (x.take u).2.2.2]) ∧ BytV w' v (x.take u).2.1 ∧ (∀ g ∈ own v, w.heap.size ≤ g) ∧ CyAt w' b bh (x.take u).1 ∧ Chg [b] w w' := by
  obtain ⟨a1, c1, rfl, _⟩ := hv.shape
  have hl := hu.info
  have hlast := hx.last
  clear hx hu
  obtain ⟨bsn, fsn, bib, fib, kind, status, wide, info⟩ := u
  dsimp only at hl
  obtain ⟨nx, hnx⟩ : ∃ nx, (x.last + 1) % 128 = nx := ⟨_, rfl⟩
  have U1 := Blk.new w (Un.cells ⟨bsn, fsn, bib, fib, kind, status, wide, info⟩ (.slice a1 info.length c1)) 31
  have H1 := hb.alloc (.cells (Un.cells ⟨bsn, fsn, bib, fib, kind, status, wide, info⟩ (.slice a1 info.length c1)) 31)
  have nUb : w.heap.size ≠ b := (H1.ne U1 (by decide)).symm
  have HV := Lib.hid hv
  have D := Lib.hid fun w' => hnx ▸ Next_c x.last w' hlast.1 hlast.2
  have HU := Lib.hid U1
  have HB := Lib.hid H1
  clear hb hv U1 H1
  by_cases hk : kind = 2
  · subst hk
    by_cases hn : fsn = nx
    · subst hn
      have et : x.take ⟨bsn, fsn, bib, fib, 2, status, wide, info⟩ = ({ x with last := fsn }, info, true, 0) := by simp [Cy.take, hnx]
      rw [et]
      clear et hnx
      have U1 := HU.out
      have H1 := HB.out
      go_enter Tryz.func188, Tryz.ntmps188
      go_wp2
      refine wp_region_up (by kernel_rfl) (by kernel_rfl) ?_
      have up_U1 := fun (g : Up _) => (Blk.below U1 g.ok).c
      have up_H1 := fun (g : Up _) => (Blk.below H1 g.ok).c
      repeat (go_big_quiet_step (with_reducible exact Up.calls_same _ (D.out _)))
      refine wpQuiet_nil ?_
      clear up_U1 up_H1
      refine up_elim (fun w2 hb_w2 => ?_)
      have K2 := Lib.hid (Blk.below H1 hb_w2)
      have U2 := Lib.hid (Blk.below U1 hb_w2)
      have k2c := K2.out.c
      have k2f := K2.out.f
      have u2c := U2.out.c
      have V2 := Lib.hid ((HV.out.below (bl_then (bl_alloc (bl_refl w) _) hb_w2)).chg (chg1 w2 b 3 (.int .u8 fsn)) (fun _ hk => hk))
      clear U1 H1
      go_wp2_with (first | ((with_reducible refine (Clone_c V2.out hl).mono ?_); rintro e w6 ⟨v6, rfl, B6, hb6, F6⟩))
      go_ret3
      have hs := Below.size (bl_then (bl_alloc (bl_refl w) _) hb_w2)
      exact ⟨_, rfl, B6, fun g hg => Nat.le_trans hs (Nat.le_trans (chg1 w2 b 3 (.int .u8 fsn)).size (F6 g hg)), (Blk.below (K2.out.set 3 (.int .u8 fsn)) hb6).as (by simp), ((Chg.of_below (bl_then (bl_alloc (bl_refl w) _) hb_w2) [b]).then (chg1 w2 b 3 (.int .u8 fsn))).below hb6⟩
    · have et : x.take ⟨bsn, fsn, bib, fib, 2, status, wide, info⟩ = (x, [], false, 0) := by simp [Cy.take, hnx, hn]
      rw [et]
      clear et hnx
      have U1 := HU.out
      have H1 := HB.out
      go_enter Tryz.func188, Tryz.ntmps188
      go_wp2
      refine wp_region_up (by kernel_rfl) (by kernel_rfl) ?_
      have up_U1 := fun (g : Up _) => (Blk.below U1 g.ok).c
      have up_H1 := fun (g : Up _) => (Blk.below H1 g.ok).c
      repeat (go_big_quiet_step (with_reducible exact Up.calls_same _ (D.out _)))
      refine wpQuiet_nil ?_
      clear up_U1 up_H1
      refine up_elim (fun w2 hb_w2 => ?_)
      go_wp2
      go_ret3
      exact ⟨_, rfl, byt_nil, by simp [own, Value.ownBlock], Blk.below H1 hb_w2, Chg.of_below (bl_then (bl_alloc (bl_refl w) _) hb_w2) [b]⟩
  · have et : x.take ⟨bsn, fsn, bib, fib, kind, status, wide, info⟩ = (x, [], false, 0) := by simp [Cy.take, hk]
    rw [et]
    clear et hnx
    have U1 := HU.out
    have H1 := HB.out
    go_enter Tryz.func188, Tryz.ntmps188
    go_wp2
    have hkb : (kind == 2) = false := by simpa using hk
    have hkc : (kind != 2) = true := by simpa using hk
    refine wp_region_up (by kernel_rfl) (by kernel_rfl) ?_
    have up_U1 := fun (g : Up _) => (Blk.below U1 g.ok).c
    have up_H1 := fun (g : Up _) => (Blk.below H1 g.ok).c
    repeat (go_big_quiet_step (with_reducible exact Up.calls_same _ (D.out _)))
    refine wpQuiet_nil ?_
    clear up_U1 up_H1
    refine up_elim (fun w2 hb_w2 => ?_)
    go_wp2
    go_ret3
    exact ⟨_, rfl, byt_nil, by simp [own, Value.ownBlock], Blk.below H1 hb_w2, Chg.of_below (bl_then (bl_alloc (bl_refl w) _) hb_w2) [b]⟩
theorem CFits_c {w : World} {b bh : Nat} {x : Cy} {h : Ho} {vs vn : Value} (hb : CyAt w b bh x) (hx : x.ok) (hh : HoAt w bh h vs vn) (ho : h.ok) :
    Calls Tryz.prog 193 #[.pointer (some ⟨b, 0, none⟩)] w fun e w' => e = .returned (.bool (Cy.fits h x)) ∧ Below w.heap.size w w' := by
  have D1 := Lib.hid fun g : Up w => HSent_c (hh.below g.ok)
  have D2 := Lib.hid fun g : Up w => HWaiting_c (hh.below g.ok) ho
  have D3 := Lib.hid fun g : Up w => HSize_c (hh.below g.ok) ho
  have l1 := ho.octs
  have l2 := ho.sent
  have l3 := hx.n1
  have l4 := hx.n2
  have lsz : 0 ≤ h.size ∧ h.size ≤ 300 := by
    unfold Ho.size
    cases hn : h.next with
    | nil => simp
    | cons p r =>
      have := ho.long p (by rw [hn]; exact List.mem_cons_self ..)
      simp; omega
  clear hh ho hx
  by_cases h1 : h.sent.length = 0
  · have e : Cy.fits h x = true := by simp [Cy.fits, h1]
    rw [e]
    have D0 := Lib.hid fun g : Up w => (show Calls Tryz.prog 32 #[.pointer (some ⟨bh, 0, none⟩)] g.val (fun e w' => e = .returned (.int .i64 0) ∧ g.val = w') from by
      have := D1.out g
      rw [h1] at this
      exact this)
    clear h1 D1 D2 D3 l1 l2 l3 l4 lsz e
    go_enter Tryz.func193, Tryz.ntmps193
    go_wp2
    refine wp_region_up (by kernel_rfl) (by kernel_rfl) ?_
    have up_hb := fun (g : Up _) => (Blk.below hb g.ok).c
    repeat (go_big_quiet_step (with_reducible exact Up.calls_same _ (D0.out _)))
    refine wpQuiet_nil ?_
    clear up_hb
    refine up_elim (fun w2 hb_w2 => ?_)
    go_wp2
    go_ret
    exact ⟨rfl, hb_w2⟩
  · have hz : ¬ (h.sent.length : Int) = 0 := by omega
    by_cases h2 : (h.sent.length : Int) < x.n1
    · have e : Cy.fits h x = decide ((octs h.sent : Int) + h.size ≤ x.n2) := by simp [Cy.fits, h1, h2]
      rw [e]
      go_enter Tryz.func193, Tryz.ntmps193
      go_wp2
      have hz' : ((h.sent.length : Int) == 0) = false := beq_eq_false_iff_ne.2 (by omega)
      refine wp_region_up (by kernel_rfl) (by kernel_rfl) ?_
      have up_hb := fun (g : Up _) => (Blk.below hb g.ok).c
      repeat (go_big_quiet_step (first | (with_reducible exact Up.calls_same _ (D1.out _)) | (with_reducible exact Up.calls_same _ (D2.out _)) | (with_reducible exact Up.calls_same _ (D3.out _))))
      refine wpQuiet_nil ?_
      clear up_hb
      refine up_elim (fun w2 hb_w2 => ?_)
      go_wp2
      go_ret
      exact ⟨rfl, hb_w2⟩
    · have e : Cy.fits h x = false := by simp [Cy.fits, h1, h2]
      rw [e]
      go_enter Tryz.func193, Tryz.ntmps193
      go_wp2
      have hz' : ((h.sent.length : Int) == 0) = false := beq_eq_false_iff_ne.2 (by omega)
      have h2' : ¬ (h.sent.length : Int) < x.n1 := by omega
      refine wp_region_up (by kernel_rfl) (by kernel_rfl) ?_
      have up_hb := fun (g : Up _) => (Blk.below hb g.ok).c
      repeat (go_big_quiet_step (with_reducible exact Up.calls_same _ (D1.out _)))
      refine wpQuiet_nil ?_
      clear up_hb
      refine up_elim (fun w2 hb_w2 => ?_)
      go_wp2
      go_ret
      exact ⟨rfl, hb_w2⟩
end Go.Proofs.YtdffinnnjcgfcaaGreatK
