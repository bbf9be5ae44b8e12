/- The walks of package state, continued: Next in service. -/
import Derived.Test.YtcllbmjmefeknaaGreatSta3
namespace Go.Proofs.YtcllbmjmefeknaaGreatK
open Go Go.RowKit
set_option linter.unusedVariables false
set_option maxHeartbeats 2000000
set_option maxRecDepth 100000
theorem goes_end2 {w w1 w3 : World} {b g : Nat} {x : St} {L : Lay} {u : Un} {cs : Array Value} {vi : Value} (B1 : Below w.heap.size w w1) (hg : w.heap.size ≤ g) (h : StTo w1 w3 b x L) (hv : BytV w3 vi u.info) (hf : ∀ k ∈ own vi, w.heap.size ≤ k) (v0 v1 v2 v3 v4 v5 v6 v7 : Value) (hn : Blk w3 g cs 188) :
    Goes w (((((((((w3.setCell ⟨g, 0, none⟩ v0).setCell ⟨g, 1, none⟩ v1).setCell ⟨g, 2, none⟩ v2).setCell ⟨g, 3, none⟩ v3).setCell ⟨g, 4, none⟩ v4).setCell ⟨g, 5, none⟩ v5).setCell ⟨g, 6, none⟩ v6).setCell ⟨g, 7, none⟩ v7)) b x L (.returned (u.v vi)) u := by
  obtain ⟨L2, S3, G2, O2⟩ := h
  have hc := Chg.all8 w3 g v0 v1 v2 v3 v4 v5 v6 v7
  refine ⟨⟨vi, rfl, hv.stay ((Typed.one hn).off (by decide)) hc, hf⟩, L2, S3.far ((Typed.one hn).off (by decide)) (fun k hk hF => ?_) hc, ?_, fun k hk => ?_⟩
  · obtain rfl : k = g := by simpa using hF
    exact (S3.typed.off (t := 188) (by decide)).notin hn hk
  · refine ((Chg.of_below B1 _).trans G2 (fun k hk => .inl hk)).trans hc (fun k hk => .inr ?_)
    obtain rfl : k = g := by simpa using hk
    exact hg
  · rcases O2 k hk with h | h
    · exact .inl h
    · exact .inr (Nat.le_trans B1.size h)
theorem NextD_c {w : World} {b : Nat} {x : St} {L : Lay} (h : StAt w b x L) (ho : x.h.ok) (h4 : x.S = 4) (hd : x.j.due = true) :
    Calls Tryz.prog 125 #[.pointer (some ⟨b, 0, none⟩)] w fun e w' => Goes w w' b { x with j := x.j.told } L e (x.stat 5) := by
  obtain ⟨s, S, c, a, ⟨jown, their, due⟩, o, wy, oa, leak, told, fails⟩ := x
  dsimp only at h4 hd
  subst h4 hd
  have B1 := Lib.hid (bl_alloc (bl_refl w) (.cells Un.zeros 188))
  have S1 := Lib.hid (h.below B1.out)
  have N1 := Lib.hid (Blk.new w Un.zeros 188)
  have CD := Lib.hid (show Calls Tryz.prog 154 #[.pointer (some ⟨L.bj, 0, none⟩)] (w.alloc (.cells Un.zeros 188)) fun e w' => e = .returned (.bool true) ∧ JmAt w' L.bj s L.bc ⟨jown, their, false⟩ ∧ Chg [L.bj] (w.alloc (.cells Un.zeros 188)) w' from JDue_c S1.out.jm)
  have HO := Lib.hid ho
  clear h ho
  obtain ⟨u, hu⟩ : ∃ u, St.stat ⟨s, 4, c, a, ⟨jown, their, true⟩, o, wy, oa, leak, told, fails⟩ 5 = u := ⟨_, rfl⟩
  have hi : u.info = [] := hu ▸ St.stat_info _ _
  have HS := Lib.hid (show St.stat ⟨s, 4, c, a, ⟨jown, their, false⟩, o, wy, oa, leak, told, fails⟩ 5 = u from hu)
  rw [hu]
  clear hu
  obtain ⟨bsn, fsn, bib, fib, kind, status, wide, info⟩ := u
  have k1c := S1.out.st.c
  go_enter Tryz.func125, Tryz.ntmps125
  go_wp2_with (first
    | ((with_reducible refine CD.out.mono ?_); rintro e w2 ⟨rfl, J2, G2⟩; (have S2 := Lib.hid (show StAt w2 b ⟨s, 4, c, a, ⟨jown, their, false⟩, o, wy, oa, leak, told, fails⟩ L from S1.out.byJ1 J2 G2)); (have HG2 := Lib.hid G2); (have s2c := S2.out.st.c); (have N2 := Lib.hid (N1.out.keep ((Typed.one S1.out.jm).off (by decide)) G2)); (have cs := WStatus_c S2.out HO.out 5); rw [HS.out] at cs; (have CS := Lib.hid cs); clear J2 G2 cs)
    | ((with_reducible refine CS.out.mono ?_); rintro e w3 ⟨rfl, hb3⟩; (have N3 := Lib.hid (N2.out.below hb3)); (have n3c := N3.out.c); (have n3f := N3.out.f)))
  exact bodyPost_ret (res_c rfl Un.laid rfl (N3.out.all8 _ _ _ _ _ _ _ _) rfl) rfl (goes_end (u := ⟨bsn, fsn, bib, fib, kind, status, wide, info⟩) hi B1.out (Nat.le_refl _) (StTo.stepJ1 HG2.out (StTo.same S2.out)) hb3 _ _ _ _ _ _ _ _ N3.out)
theorem NextW_c {w : World} {b : Nat} {x : St} {L : Lay} (h : StAt w b x L) (hk : x.ok) (h4 : x.S = 4) (hd : x.j.due = false) :
    Calls Tryz.prog 125 #[.pointer (some ⟨b, 0, none⟩)] w fun e w' => Goes w w' b (((x.setH (x.w.next x.h).1).setW (x.w.next x.h).2.1).wait false) L e (x.w.next x.h).2.2 := by
  obtain ⟨s, S, c, a, ⟨jown, their, due⟩, o, wy, oa, leak, told, fails⟩ := x
  dsimp only at h4 hd
  subst h4 hd
  have B1 := Lib.hid (bl_alloc (bl_refl w) (.cells Un.zeros 188))
  have S1 := Lib.hid (h.below B1.out)
  have N1 := Lib.hid (Blk.new w Un.zeros 188)
  have CD := Lib.hid (show Calls Tryz.prog 154 #[.pointer (some ⟨L.bj, 0, none⟩)] (w.alloc (.cells Un.zeros 188)) fun e w' => e = .returned (.bool false) ∧ JmAt w' L.bj s L.bc ⟨jown, their, false⟩ ∧ Chg [L.bj] (w.alloc (.cells Un.zeros 188)) w' from JDue_c S1.out.jm)
  have HO := Lib.hid hk.h
  have HW := hk.w
  clear h hk
  obtain ⟨⟨o', wz, u⟩, hr⟩ : ∃ r, Wy.next o wy = r := ⟨_, rfl⟩
  show Calls _ _ _ w fun e w' => Goes w w' b (St.wait ⟨s, 4, c, a, ⟨jown, their, false⟩, (Wy.next o wy).1, (Wy.next o wy).2.1, oa, leak, told, fails⟩ false) L e (Wy.next o wy).2.2
  rw [hr]
  dsimp only
  cases wy with
  | bs q =>
    simp only [Wy.next, Prod.mk.injEq] at hr
    obtain ⟨r1, r2, r3⟩ := hr
    have hq : q.ok := HW
    have HQ := Lib.hid hq
    have CN := Lib.hid (fun (w' : World) (L' : Lay) (hS : StAt w' b ⟨s, 4, c, a, ⟨jown, their, false⟩, o, .bs q, oa, leak, told, fails⟩ L') => (BNext_c hS.wy HQ.out hS.ho HO.out))
    have CN2 : Hid (∀ (w' : World) (L' : Lay), StAt w' b ⟨s, 4, c, a, ⟨jown, their, false⟩, o, .bs q, oa, leak, told, fails⟩ L' → Calls Tryz.prog 249 #[.pointer (some ⟨L'.bw, 0, none⟩)] w' fun e w'' => ∃ vi, e = .returned (u.v vi) ∧ BytV w'' vi u.info ∧ (∀ g ∈ own vi, w'.heap.size ≤ g) ∧ ∃ L'', StAt w'' b ⟨s, 4, c, a, ⟨jown, their, false⟩, o', wz, oa, leak, told, fails⟩ L'' ∧ Chg (stF b L') w' w'' ∧ ∀ k ∈ stF b L'', k ∈ stF b L' ∨ w'.heap.size ≤ k) := fun w' L' hS => by
      refine (CN.out w' L' hS).mono ?_
      rintro e w'' ⟨⟨vi, he, hv, hf⟩, ⟨vs', vn', H5, O5⟩, Y5, G5⟩
      subst r1 r2 r3
      refine ⟨vi, he, hv, hf, ?_⟩
      exact StTo.stepH (b := b) (L := L') G5 (fun k hk => hk) O5 (StTo.same (hS.byHW (y := .bs _) H5 Y5 rfl G5 (fun k hk => hk)))
    clear CN HW hq r1 r2 r3
    obtain ⟨bsn, fsn, bib, fib, kind, status, wide, info⟩ := u
    have hm := mB_Next
    have k1c := S1.out.st.c
    simp only [St.cells, Wy.v] at k1c
    go_enter Tryz.func125, Tryz.ntmps125
    go_wp2_with (first
      | ((with_reducible refine CD.out.mono ?_); rintro e w2 ⟨rfl, J2, G2⟩; (have S2 := Lib.hid (show StAt w2 b ⟨s, 4, c, a, ⟨jown, their, false⟩, o, .bs q, oa, leak, told, fails⟩ L from S1.out.byJ1 J2 G2)); (have HG2 := Lib.hid G2); (have s2c := S2.out.st.c); simp only [St.cells, Wy.v] at s2c; (have N2 := Lib.hid (N1.out.keep ((Typed.one S1.out.jm).off (by decide)) G2)); clear J2 G2)
      | ((with_reducible refine (CN2.out _ _ S2.out).mono ?_); rintro e w3 ⟨vi, rfl, V3, F3, L3, S3, G3, O3⟩; (obtain ⟨ai, ci, rfl, _⟩ := V3.1.shape); (have HB3 := Lib.hid (bl_alloc (bl_refl w3) (.cells (Un.cells ⟨bsn, fsn, bib, fib, kind, status, wide, info⟩ (.slice ai info.length ci)) 188))); (have HS3 := Lib.hid (S3.below HB3.out)); (have HN3 := Lib.hid ((N2.out.keep (S2.out.typed.off (by decide)) G3).below HB3.out)); (have HM3 := Lib.hid (Blk.new w3 (Un.cells ⟨bsn, fsn, bib, fib, kind, status, wide, info⟩ (.slice ai info.length ci)) 188)); (have HV3 := Lib.hid (V3.below HB3.out)); (have HG3 := Lib.hid G3); (have HO3 := Lib.hid O3); (have HF3 := Lib.hid F3); (have s3c := HS3.out.st.c); clear V3 F3 S3 G3 O3)
      | ((with_reducible refine (Wait_c HS3.out false).mono ?_); rintro e w4 ⟨rfl, L4, S4, G4, O4⟩; (have HS4 := Lib.hid S4); (have HG4 := Lib.hid G4); (have HO4 := Lib.hid O4); (have HN4 := Lib.hid (HN3.out.keep (HS3.out.typed.off (by decide)) G4)); (have HM4 := Lib.hid (HM3.out.keep (HS3.out.typed.off (by decide)) G4)); (have HV4 := Lib.hid (HV3.out.stay (HS3.out.typed.off (by decide)) G4)); (have n4c := HN4.out.c); (have n4f := HN4.out.f); (have m4c := HM4.out.c); (have ne4 : w.heap.size ≠ w3.heap.size := by have := HN3.out; have h9 := (N2.out.keep (S2.out.typed.off (by decide)) HG3.out).lt; omega); clear S4 G4 O4))
    have l1 : w.heap.size ≤ w2.heap.size := Nat.le_trans B1.out.size HG2.out.size
    exact bodyPost_ret (res_c rfl Un.laid rfl (HN4.out.all8 _ _ _ _ _ _ _ _) rfl) rfl (goes_end2 (u := ⟨bsn, fsn, bib, fib, kind, status, wide, info⟩) B1.out (Nat.le_refl _) (StTo.stepJ1 HG2.out (StTo.then HG3.out HO3.out (StTo.stepB HB3.out ⟨_, HS4.out, HG4.out, HO4.out⟩))) HV4.out (fun k hk => Nat.le_trans l1 (HF3.out k hk)) _ _ _ _ _ _ _ _ HN4.out)
  | cy q =>
    simp only [Wy.next, Prod.mk.injEq] at hr
    obtain ⟨r1, r2, r3⟩ := hr
    have hq : q.ok := HW
    have HQ := Lib.hid hq
    have CN := Lib.hid (fun (w' : World) (L' : Lay) (hS : StAt w' b ⟨s, 4, c, a, ⟨jown, their, false⟩, o, .cy q, oa, leak, told, fails⟩ L') => (CNext_c hS.wy HQ.out hS.ho HO.out))
    have CN2 : Hid (∀ (w' : World) (L' : Lay), StAt w' b ⟨s, 4, c, a, ⟨jown, their, false⟩, o, .cy q, oa, leak, told, fails⟩ L' → Calls Tryz.prog 231 #[.pointer (some ⟨L'.bw, 0, none⟩)] w' fun e w'' => ∃ vi, e = .returned (u.v vi) ∧ BytV w'' vi u.info ∧ (∀ g ∈ own vi, w'.heap.size ≤ g) ∧ ∃ L'', StAt w'' b ⟨s, 4, c, a, ⟨jown, their, false⟩, o', wz, oa, leak, told, fails⟩ L'' ∧ Chg (stF b L') w' w'' ∧ ∀ k ∈ stF b L'', k ∈ stF b L' ∨ w'.heap.size ≤ k) := fun w' L' hS => by
      refine (CN.out w' L' hS).mono ?_
      rintro e w'' ⟨⟨vi, he, hv, hf⟩, ⟨vs', vn', H5, O5⟩, Y5, G5⟩
      subst r1 r2 r3
      refine ⟨vi, he, hv, hf, ?_⟩
      exact StTo.stepH (b := b) (L := L') G5 (fun k hk => hk) O5 (StTo.same (hS.byHW (y := .cy _) H5 Y5 rfl G5 (fun k hk => hk)))
    clear CN HW hq r1 r2 r3
    obtain ⟨bsn, fsn, bib, fib, kind, status, wide, info⟩ := u
    have hm := mC_Next
    have k1c := S1.out.st.c
    simp only [St.cells, Wy.v] at k1c
    go_enter Tryz.func125, Tryz.ntmps125
    go_wp2_with (first
      | ((with_reducible refine CD.out.mono ?_); rintro e w2 ⟨rfl, J2, G2⟩; (have S2 := Lib.hid (show StAt w2 b ⟨s, 4, c, a, ⟨jown, their, false⟩, o, .cy q, oa, leak, told, fails⟩ L from S1.out.byJ1 J2 G2)); (have HG2 := Lib.hid G2); (have s2c := S2.out.st.c); simp only [St.cells, Wy.v] at s2c; (have N2 := Lib.hid (N1.out.keep ((Typed.one S1.out.jm).off (by decide)) G2)); clear J2 G2)
      | ((with_reducible refine (CN2.out _ _ S2.out).mono ?_); rintro e w3 ⟨vi, rfl, V3, F3, L3, S3, G3, O3⟩; (obtain ⟨ai, ci, rfl, _⟩ := V3.1.shape); (have HB3 := Lib.hid (bl_alloc (bl_refl w3) (.cells (Un.cells ⟨bsn, fsn, bib, fib, kind, status, wide, info⟩ (.slice ai info.length ci)) 188))); (have HS3 := Lib.hid (S3.below HB3.out)); (have HN3 := Lib.hid ((N2.out.keep (S2.out.typed.off (by decide)) G3).below HB3.out)); (have HM3 := Lib.hid (Blk.new w3 (Un.cells ⟨bsn, fsn, bib, fib, kind, status, wide, info⟩ (.slice ai info.length ci)) 188)); (have HV3 := Lib.hid (V3.below HB3.out)); (have HG3 := Lib.hid G3); (have HO3 := Lib.hid O3); (have HF3 := Lib.hid F3); (have s3c := HS3.out.st.c); clear V3 F3 S3 G3 O3)
      | ((with_reducible refine (Wait_c HS3.out false).mono ?_); rintro e w4 ⟨rfl, L4, S4, G4, O4⟩; (have HS4 := Lib.hid S4); (have HG4 := Lib.hid G4); (have HO4 := Lib.hid O4); (have HN4 := Lib.hid (HN3.out.keep (HS3.out.typed.off (by decide)) G4)); (have HM4 := Lib.hid (HM3.out.keep (HS3.out.typed.off (by decide)) G4)); (have HV4 := Lib.hid (HV3.out.stay (HS3.out.typed.off (by decide)) G4)); (have n4c := HN4.out.c); (have n4f := HN4.out.f); (have m4c := HM4.out.c); (have ne4 : w.heap.size ≠ w3.heap.size := by have := HN3.out; have h9 := (N2.out.keep (S2.out.typed.off (by decide)) HG3.out).lt; omega); clear S4 G4 O4))
    have l1 : w.heap.size ≤ w2.heap.size := Nat.le_trans B1.out.size HG2.out.size
    exact bodyPost_ret (res_c rfl Un.laid rfl (HN4.out.all8 _ _ _ _ _ _ _ _) rfl) rfl (goes_end2 (u := ⟨bsn, fsn, bib, fib, kind, status, wide, info⟩) B1.out (Nat.le_refl _) (StTo.stepJ1 HG2.out (StTo.then HG3.out HO3.out (StTo.stepB HB3.out ⟨_, HS4.out, HG4.out, HO4.out⟩))) HV4.out (fun k hk => Nat.le_trans l1 (HF3.out k hk)) _ _ _ _ _ _ _ _ HN4.out)
end Go.Proofs.YtcllbmjmefeknaaGreatK
