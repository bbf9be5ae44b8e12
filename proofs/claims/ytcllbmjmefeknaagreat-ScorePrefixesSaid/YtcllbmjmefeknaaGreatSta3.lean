/- The walks of package state, continued: Next. -/
import Derived.Test.YtcllbmjmefeknaaGreatSt3
namespace Go.Proofs.YtcllbmjmefeknaaGreatK
open Go Go.RowKit
set_option linter.unusedVariables false
set_option maxHeartbeats 2000000
set_option maxRecDepth 100000
/-- What a link sends: the unit, what the link is then. -/
structure Goes (w w' : World) (b : Nat) (x : St) (L : Lay) (e : Ending) (u : Un) : Prop where
  ret : ∃ vi, e = .returned (u.v vi) ∧ BytV w' vi u.info ∧ ∀ g ∈ own vi, w.heap.size ≤ g
  lk : StTo w w' b x L
theorem Goes.nil {w w' : World} {b : Nat} {x : St} {L : Lay} {u : Un} (h : u.info = []) (T : StTo w w' b x L) : Goes w w' b x L (.returned (u.v nil0)) u :=
  ⟨⟨nil0, rfl, h ▸ byt_nil, by simp [own, Value.ownBlock]⟩, T⟩
theorem goes_end {w w1 w2 w3 : World} {b g : Nat} {x : St} {L : Lay} {u : Un} {cs : Array Value} (hu : u.info = []) (B1 : Below w.heap.size w w1) (hg : w.heap.size ≤ g) (h : StTo w1 w2 b x L) (hb : Below w2.heap.size w2 w3) (v0 v1 v2 v3 v4 v5 v6 v7 : Value) (hn : Blk w3 g cs 188) :
    Goes w (((((((((w3.setCell ⟨g, 0, none⟩ v0).setCell ⟨g, 1, none⟩ v1).setCell ⟨g, 2, none⟩ v2).setCell ⟨g, 3, none⟩ v3).setCell ⟨g, 4, none⟩ v4).setCell ⟨g, 5, none⟩ v5).setCell ⟨g, 6, none⟩ v6).setCell ⟨g, 7, none⟩ v7)) b x L (.returned (u.v nil0)) u := by
  refine Goes.nil hu ?_
  obtain ⟨L2, S2, G2, O2⟩ := h
  have S3 := S2.below hb
  have hc := Chg.all8 w3 g v0 v1 v2 v3 v4 v5 v6 v7
  refine ⟨L2, S3.far ((Typed.one hn).off (by decide)) (fun k hk hF => ?_) hc, ?_, fun k hk => ?_⟩
  · obtain rfl : k = g := by simpa using hF
    exact (S3.typed.off (t := 188) (by decide)).notin hn hk
  · refine (((Chg.of_below B1 _).trans G2 (fun k hk => .inl hk)).below hb).trans hc (fun k hk => .inr ?_)
    obtain rfl : k = g := by simpa using hk
    exact hg
  · rcases O2 k hk with h | h
    · exact .inl h
    · exact .inr (Nat.le_trans B1.size h)
theorem St.stat_info (x : St) (i : Int) : (x.stat i).info = [] := by
  unfold St.stat St.fill
  cases x.w <;> rfl
theorem St.fill_info (x : St) : x.fill.info = [] := by
  unfold St.fill
  cases x.w <;> rfl
theorem Next0_c {w : World} {b : Nat} {x : St} {L : Lay} (h : StAt w b x L) (ho : x.h.ok) (h0 : x.S = 0 ∨ x.S = 1) :
    Calls Tryz.prog 125 #[.pointer (some ⟨b, 0, none⟩)] w fun e w' => Goes w w' b x L e (x.stat x.a.sends) := by
  obtain ⟨s, S, c, a, j, o, wy, oa, leak, told, fails⟩ := x
  have B1 := Lib.hid (bl_alloc (bl_refl w) (.cells Un.zeros 188))
  have S1 := Lib.hid (h.below B1.out)
  have N1 := Lib.hid (Blk.new w Un.zeros 188)
  have HO := Lib.hid ho
  clear h ho
  obtain ⟨u, hu⟩ : ∃ u, St.stat ⟨s, S, c, a, j, o, wy, oa, leak, told, fails⟩ a.sends = u := ⟨_, rfl⟩
  have hi : u.info = [] := hu ▸ St.stat_info _ _
  have CS := Lib.hid (fun (w' : World) (hb : Below (w.alloc (.cells Un.zeros 188)).heap.size (w.alloc (.cells Un.zeros 188)) w') => hu ▸ WStatus_c (S1.out.below hb) HO.out a.sends)
  have CA := Lib.hid (fun g : Up (w.alloc (.cells Un.zeros 188)) => ASends_c (S1.out.al.below g.ok))
  show Calls _ _ _ w fun e w' => Goes w w' b _ L e (St.stat ⟨s, S, c, a, j, o, wy, oa, leak, told, fails⟩ a.sends)
  rw [hu]
  clear hu
  obtain ⟨bsn, fsn, bib, fib, kind, status, wide, info⟩ := u
  rcases h0 with h0 | h0
  all_goals
    dsimp only at h0
    subst h0
    have K1 := S1.out.st
    have k1c := K1.c
    go_enter Tryz.func125, Tryz.ntmps125
    go_wp2
    refine wp_region_up_tail 9 (by kernel_rfl) (by kernel_rfl) ?_
    simp only [List.take_succ_cons, List.take_zero, List.drop_succ_cons, List.drop_zero]
    have up_K1 := fun (g : Up _) => (Blk.below K1 g.ok).c
    repeat (go_big_quiet_step (with_reducible exact Up.calls_same _ (CA.out _)))
    refine wpQuiet_nil ?_
    clear up_K1
    refine up_elim (fun w2 hb_w2 => ?_)
    have N2 := Lib.hid (N1.out.below hb_w2)
    go_wp2_with (first | ((with_reducible refine (CS.out _ hb_w2).mono ?_); rintro e w3 ⟨rfl, hb3⟩; (have N3 := Lib.hid (N2.out.below hb3)); (have n3c := N3.out.c); (have n3f := N3.out.f)))
    exact bodyPost_ret (res_c rfl Un.laid rfl (N3.out.all8 _ _ _ _ _ _ _ _) rfl) rfl (goes_end (u := ⟨bsn, fsn, bib, fib, kind, status, wide, info⟩) hi B1.out (Nat.le_refl _) (StTo.stepB hb_w2 (StTo.same (S1.out.below hb_w2))) hb3 _ _ _ _ _ _ _ _ N3.out)
/-- At a state that is none of the first: a status. -/
theorem NextS_c {w : World} {b : Nat} {x : St} {L : Lay} (h : StAt w b x L) (ho : x.h.ok) (n0 : x.S ≠ 0) (n1 : x.S ≠ 1) (n2 : x.S ≠ 2) (n4 : x.S ≠ 4) (hown : x.o.own = true) :
    Calls Tryz.prog 125 #[.pointer (some ⟨b, 0, none⟩)] w fun e w' => Goes w w' b x L e (x.stat 4) := by
  obtain ⟨s, S, c, a, j, o, wy, ⟨own, their, wait⟩, leak, told, fails⟩ := x
  dsimp only at hown n0 n1 n2 n4
  subst hown
  have B1 := Lib.hid (bl_alloc (bl_refl w) (.cells Un.zeros 188))
  have S1 := Lib.hid (h.below B1.out)
  have N1 := Lib.hid (Blk.new w Un.zeros 188)
  have k0 : (S == 0) = false := beq_eq_false_iff_ne.2 n0
  have k1 : (S == 1) = false := beq_eq_false_iff_ne.2 n1
  have k2 : (S == 2) = false := beq_eq_false_iff_ne.2 n2
  have k4 : (S == 4) = false := beq_eq_false_iff_ne.2 n4
  obtain ⟨u, hu⟩ : ∃ u, St.stat ⟨s, S, c, a, j, o, wy, ⟨true, their, wait⟩, leak, told, fails⟩ 4 = u := ⟨_, rfl⟩
  have hi : u.info = [] := hu ▸ St.stat_info _ _
  have CS := Lib.hid (hu ▸ WStatus_c S1.out ho 4)
  clear h ho n0 n1 n2 n4
  rw [hu]
  clear hu
  obtain ⟨bsn, fsn, bib, fib, kind, status, wide, info⟩ := u
  have k1c := S1.out.st.c
  go_enter Tryz.func125, Tryz.ntmps125
  go_wp2_with (first | ((with_reducible refine CS.out.mono ?_); rintro e w3 ⟨rfl, hb3⟩; (have N3 := Lib.hid (N1.out.below hb3)); (have n3c := N3.out.c); (have n3f := N3.out.f)))
  exact bodyPost_ret (res_c rfl Un.laid rfl (N3.out.all8 _ _ _ _ _ _ _ _) rfl) rfl (goes_end (u := ⟨bsn, fsn, bib, fib, kind, status, wide, info⟩) hi B1.out (Nat.le_refl _) (StTo.same S1.out) hb3 _ _ _ _ _ _ _ _ N3.out)
/-- What a way fills with. -/
theorem WFill_c {w : World} {b : Nat} {x : St} {L : Lay} (h : StAt w b x L) (ho : x.h.ok) :
    (∀ q, x.w = .bs q → Calls Tryz.prog 247 #[.pointer (some ⟨L.bw, 0, none⟩)] w fun e w' => e = .returned (x.fill.v nil0) ∧ Below w.heap.size w w') ∧
    (∀ q, x.w = .cy q → Calls Tryz.prog 229 #[.pointer (some ⟨L.bw, 0, none⟩)] w fun e w' => e = .returned (x.fill.v nil0) ∧ Below w.heap.size w w') := by
  obtain ⟨s, S, c, a, j, o, wy, oa, leak, told, fails⟩ := x
  refine ⟨?_, ?_⟩
  · rintro q rfl
    exact BFill_c h.wy h.ho ho
  · rintro q rfl
    exact CFill_c h.wy h.ho ho
theorem Next2_c {w : World} {b : Nat} {x : St} {L : Lay} (h : StAt w b x L) (ho : x.h.ok) (h2 : x.S = 2) :
    Calls Tryz.prog 125 #[.pointer (some ⟨b, 0, none⟩)] w fun e w' => Goes w w' b x L e x.fill := by
  obtain ⟨s, S, c, a, j, o, wy, ⟨own, their, wait⟩, leak, told, fails⟩ := x
  dsimp only at h2
  subst h2
  have B1 := Lib.hid (bl_alloc (bl_refl w) (.cells Un.zeros 188))
  have S1 := Lib.hid (h.below B1.out)
  have N1 := Lib.hid (Blk.new w Un.zeros 188)
  have hmB := mB_Fill
  have hmC := mC_Fill
  have CF := WFill_c S1.out ho
  obtain ⟨u, hu⟩ : ∃ u, St.fill ⟨s, 2, c, a, j, o, wy, ⟨own, their, wait⟩, leak, told, fails⟩ = u := ⟨_, rfl⟩
  have hi : u.info = [] := hu ▸ St.fill_info _
  rw [hu] at CF ⊢
  have HCF := Lib.hid CF
  clear h ho CF hu
  obtain ⟨bsn, fsn, bib, fib, kind, status, wide, info⟩ := u
  cases wy with
  | bs q =>
    have CQ := Lib.hid (HCF.out.1 q rfl)
    have k1c := S1.out.st.c
    simp only [St.cells, Wy.v] at k1c
    go_enter Tryz.func125, Tryz.ntmps125
    go_wp2_with (first | ((with_reducible refine CQ.out.mono ?_); rintro e w3 ⟨rfl, hb3⟩; (have N3 := Lib.hid (N1.out.below hb3)); (have n3c := N3.out.c); (have n3f := N3.out.f)))
    exact bodyPost_ret (res_c rfl Un.laid rfl (N3.out.all8 _ _ _ _ _ _ _ _) rfl) rfl (goes_end (u := ⟨bsn, fsn, bib, fib, kind, status, wide, info⟩) hi B1.out (Nat.le_refl _) (StTo.same S1.out) hb3 _ _ _ _ _ _ _ _ N3.out)
  | cy q =>
    have CQ := Lib.hid (HCF.out.2 q rfl)
    have k1c := S1.out.st.c
    simp only [St.cells, Wy.v] at k1c
    go_enter Tryz.func125, Tryz.ntmps125
    go_wp2_with (first | ((with_reducible refine CQ.out.mono ?_); rintro e w3 ⟨rfl, hb3⟩; (have N3 := Lib.hid (N1.out.below hb3)); (have n3c := N3.out.c); (have n3f := N3.out.f)))
    exact bodyPost_ret (res_c rfl Un.laid rfl (N3.out.all8 _ _ _ _ _ _ _ _) rfl) rfl (goes_end (u := ⟨bsn, fsn, bib, fib, kind, status, wide, info⟩) hi B1.out (Nat.le_refl _) (StTo.same S1.out) hb3 _ _ _ _ _ _ _ _ N3.out)
theorem NextF_c {w : World} {b : Nat} {x : St} {L : Lay} (h : StAt w b x L) (ho : x.h.ok) (n0 : x.S ≠ 0) (n1 : x.S ≠ 1) (n2 : x.S ≠ 2) (n4 : x.S ≠ 4) (hown : x.o.own = false) :
    Calls Tryz.prog 125 #[.pointer (some ⟨b, 0, none⟩)] w fun e w' => Goes w w' b x L e x.fill := by
  obtain ⟨s, S, c, a, j, o, wy, ⟨own, their, wait⟩, leak, told, fails⟩ := x
  dsimp only at hown n0 n1 n2 n4
  subst hown
  have k0 : (S == 0) = false := beq_eq_false_iff_ne.2 n0
  have k1 : (S == 1) = false := beq_eq_false_iff_ne.2 n1
  have k2 : (S == 2) = false := beq_eq_false_iff_ne.2 n2
  have k4 : (S == 4) = false := beq_eq_false_iff_ne.2 n4
  clear n0 n1 n2 n4
  have B1 := Lib.hid (bl_alloc (bl_refl w) (.cells Un.zeros 188))
  have S1 := Lib.hid (h.below B1.out)
  have N1 := Lib.hid (Blk.new w Un.zeros 188)
  have hmB := mB_Fill
  have hmC := mC_Fill
  have CF := WFill_c S1.out ho
  obtain ⟨u, hu⟩ : ∃ u, St.fill ⟨s, S, c, a, j, o, wy, ⟨false, their, wait⟩, leak, told, fails⟩ = u := ⟨_, rfl⟩
  have hi : u.info = [] := hu ▸ St.fill_info _
  rw [hu] at CF ⊢
  have HCF := Lib.hid CF
  clear h ho CF hu
  obtain ⟨bsn, fsn, bib, fib, kind, status, wide, info⟩ := u
  cases wy with
  | bs q =>
    have CQ := Lib.hid (HCF.out.1 q rfl)
    have k1c := S1.out.st.c
    simp only [St.cells, Wy.v] at k1c
    go_enter Tryz.func125, Tryz.ntmps125
    go_wp2_with (first | ((with_reducible refine CQ.out.mono ?_); rintro e w3 ⟨rfl, hb3⟩; (have N3 := Lib.hid (N1.out.below hb3)); (have n3c := N3.out.c); (have n3f := N3.out.f)))
    exact bodyPost_ret (res_c rfl Un.laid rfl (N3.out.all8 _ _ _ _ _ _ _ _) rfl) rfl (goes_end (u := ⟨bsn, fsn, bib, fib, kind, status, wide, info⟩) hi B1.out (Nat.le_refl _) (StTo.same S1.out) hb3 _ _ _ _ _ _ _ _ N3.out)
  | cy q =>
    have CQ := Lib.hid (HCF.out.2 q rfl)
    have k1c := S1.out.st.c
    simp only [St.cells, Wy.v] at k1c
    go_enter Tryz.func125, Tryz.ntmps125
    go_wp2_with (first | ((with_reducible refine CQ.out.mono ?_); rintro e w3 ⟨rfl, hb3⟩; (have N3 := Lib.hid (N1.out.below hb3)); (have n3c := N3.out.c); (have n3f := N3.out.f)))
    exact bodyPost_ret (res_c rfl Un.laid rfl (N3.out.all8 _ _ _ _ _ _ _ _) rfl) rfl (goes_end (u := ⟨bsn, fsn, bib, fib, kind, status, wide, info⟩) hi B1.out (Nat.le_refl _) (StTo.same S1.out) hb3 _ _ _ _ _ _ _ _ N3.out)
end Go.Proofs.YtcllbmjmefeknaaGreatK
