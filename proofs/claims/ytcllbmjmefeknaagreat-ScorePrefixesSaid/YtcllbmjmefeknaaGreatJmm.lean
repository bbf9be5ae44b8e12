/- The walks of package jam. -/
import Derived.Test.YtcllbmjmefeknaaGreatClk
namespace Go.Proofs.YtcllbmjmefeknaaGreatK
open Go Go.RowKit
set_option linter.unusedVariables false
set_option maxHeartbeats 1000000
set_option maxRecDepth 100000
abbrev Su.cs (s : Su) : List Value := [.bool s.cyc, .int .i64 s.n1, .int .i64 s.n2, .int .i64 s.hd, .int .i64 s.oc, .int .i64 s.t0, .int .i64 s.t1, .int .i64 s.t2, .int .i64 s.t3, .int .i64 s.t4, .int .i64 s.t5, .int .i64 s.t6, .int .i64 s.t7]
abbrev Su.v (s : Su) : Value := .agg #[.bool s.cyc, .int .i64 s.n1, .int .i64 s.n2, .int .i64 s.hd, .int .i64 s.oc, .int .i64 s.t0, .int .i64 s.t1, .int .i64 s.t2, .int .i64 s.t3, .int .i64 s.t4, .int .i64 s.t5, .int .i64 s.t6, .int .i64 s.t7]
abbrev Jm.cells (s : Su) (bc : Nat) (j : Jm) : Array Value := #[.bool s.cyc, .int .i64 s.n1, .int .i64 s.n2, .int .i64 s.hd, .int .i64 s.oc, .int .i64 s.t0, .int .i64 s.t1, .int .i64 s.t2, .int .i64 s.t3, .int .i64 s.t4, .int .i64 s.t5, .int .i64 s.t6, .int .i64 s.t7, .pointer (some ⟨bc, 0, none⟩), .bool j.own, .bool j.their, .bool j.due]
abbrev JmAt (w : World) (b : Nat) (s : Su) (bc : Nat) (j : Jm) : Prop := Blk w b (j.cells s bc) 236

theorem JBegin_c {w : World} {bj bc : Nat} {s : Su} {j : Jm} {c : Ck} (hJ : JmAt w bj s bc j) (hC : CkAt w bc c) :
    Calls Tryz.prog 135 #[.pointer (some ⟨bj, 0, none⟩)] w fun e w' => e = .returned (.tuple #[]) ∧ JmAt w' bj s bc (j.begin s c).1 ∧ CkAt w' bc (j.begin s c).2 ∧ Chg [bj, bc] w w' := by
  obtain ⟨own, their, due⟩ := j
  have n_bj_bc : bj ≠ bc := hJ.ne hC (by decide)
  have n_bc_bj : bc ≠ bj := fun e => n_bj_bc e.symm
  have HJ := Lib.hid hJ
  have HC := Lib.hid hC
  have jc := hJ.c
  have jf := hJ.f
  clear hJ hC
  cases own
  · go_enter Tryz.func135, Tryz.ntmps135
    go_wp2
    have J1 := (HJ.out.set 14 (.bool true)).set 16 (.bool true)
    have C1 := (HC.out.far n_bj_bc 14 (.bool true)).far n_bj_bc 16 (.bool true)
    have G1 := ((Chg.refl [bj, bc] w).set (b := bj) (i := 14) (by simp) (.bool true)).set (b := bj) (i := 16) (by simp) (.bool true)
    refine wp_region_up_tail 10 (by kernel_rfl) (by kernel_rfl) ?_
    simp only [List.take_succ_cons, List.take_zero, List.drop_succ_cons, List.drop_zero]
    have up_J1 := fun (g : Up _) => (Blk.below J1 g.ok).c
    repeat (go_big_quiet_step (fail))
    refine wpQuiet_nil ?_
    clear up_J1
    refine up_elim (fun w2 hb_w2 => ?_)
    go_wp2_with (first | ((with_reducible refine (Start_c (C1.below hb_w2) _ _ (by omega) (by omega)).mono ?_); rintro e w3 ⟨⟨x, rfl⟩, C2, G2⟩))
    go_end0
    exact ⟨rfl, ((J1.below hb_w2).chg G2 (by simpa using n_bj_bc)).as (by simp [Jm.begin]), C2.as (by simp [Jm.begin]), (G1.below hb_w2).trans G2 (by simp)⟩
  · go_enter Tryz.func135, Tryz.ntmps135
    go_wp2
    go_end0
    exact ⟨rfl, HJ.out.as (by simp [Jm.begin]), HC.out.as (by simp [Jm.begin]), Chg.refl _ _⟩


theorem JEnd_c {w : World} {bj bc : Nat} {s : Su} {j : Jm} {c : Ck} (hJ : JmAt w bj s bc j) (hC : CkAt w bc c) :
    Calls Tryz.prog 136 #[.pointer (some ⟨bj, 0, none⟩)] w fun e w' => e = .returned (.tuple #[]) ∧ JmAt w' bj s bc (j.end c).1 ∧ CkAt w' bc (j.end c).2 ∧ Chg [bj, bc] w w' := by
  have n_bj_bc : bj ≠ bc := hJ.ne hC (by decide)
  have n_bc_bj : bc ≠ bj := fun e => n_bj_bc e.symm
  have HJ := Lib.hid hJ
  have HC := Lib.hid hC
  have hJc := hJ.c
  have hJf := hJ.f
  clear hJ hC
  go_enter Tryz.func136, Tryz.ntmps136
  have J1 := ((HJ.out.set 14 (.bool false)).set 16 (.bool false))
  have C1 := ((HC.out.far n_bj_bc 14 (.bool false)).far n_bj_bc 16 (.bool false))
  have G1 := (((Chg.refl [bj, bc] w).set (b := bj) (i := 14) (by simp) (.bool false)).set (b := bj) (i := 16) (by simp) (.bool false))
  have HS := Stop_c (l := [5]) (n := 1) (cap := 1) (C1.alloc (.cells #[.int .i64 5] 3)) (Blk.newAt (n := w.heap.size) (by simp [World.setCell]) #[.int .i64 5] 3) (by simp) (by simp) rfl
  have HS' := Lib.hid HS
  clear HS
  go_wp2_with (first | ((with_reducible refine HS'.out.mono ?_); rintro e w3 ⟨rfl, C2, G2⟩))
  go_end0
  exact ⟨rfl, ((J1.alloc _).chg G2 (by simpa using n_bj_bc)).as (by simp [Jm.end]), C2, (G1.alloc _).trans G2 (by simp)⟩

theorem JClear_c {w : World} {bj bc : Nat} {s : Su} {j : Jm} {c : Ck} (hJ : JmAt w bj s bc j) (hC : CkAt w bc c) :
    Calls Tryz.prog 160 #[.pointer (some ⟨bj, 0, none⟩)] w fun e w' => e = .returned (.tuple #[]) ∧ JmAt w' bj s bc (j.clear c).1 ∧ CkAt w' bc (j.clear c).2 ∧ Chg [bj, bc] w w' := by
  have n_bj_bc : bj ≠ bc := hJ.ne hC (by decide)
  have n_bc_bj : bc ≠ bj := fun e => n_bj_bc e.symm
  have HJ := Lib.hid hJ
  have HC := Lib.hid hC
  have hJc := hJ.c
  have hJf := hJ.f
  clear hJ hC
  go_enter Tryz.func160, Tryz.ntmps160
  have J1 := (((HJ.out.set 14 (.bool false)).set 15 (.bool false)).set 16 (.bool false))
  have C1 := (((HC.out.far n_bj_bc 14 (.bool false)).far n_bj_bc 15 (.bool false)).far n_bj_bc 16 (.bool false))
  have G1 := ((((Chg.refl [bj, bc] w).set (b := bj) (i := 14) (by simp) (.bool false)).set (b := bj) (i := 15) (by simp) (.bool false)).set (b := bj) (i := 16) (by simp) (.bool false))
  have HS := Stop_c (l := [5, 6]) (n := 2) (cap := 2) (C1.alloc (.cells #[.int .i64 5, .int .i64 6] 3)) (Blk.newAt (n := w.heap.size) (by simp [World.setCell]) #[.int .i64 5, .int .i64 6] 3) (by simp) (by simp) rfl
  have HS' := Lib.hid HS
  clear HS
  go_wp2_with (first | ((with_reducible refine HS'.out.mono ?_); rintro e w3 ⟨rfl, C2, G2⟩))
  go_end0
  exact ⟨rfl, ((J1.alloc _).chg G2 (by simpa using n_bj_bc)).as (by simp [Jm.clear]), C2, (G1.alloc _).trans G2 (by simp)⟩

theorem JDue_c {w : World} {bj bc : Nat} {s : Su} {j : Jm} (hJ : JmAt w bj s bc j) :
    Calls Tryz.prog 154 #[.pointer (some ⟨bj, 0, none⟩)] w fun e w' => e = .returned (.bool j.due) ∧ JmAt w' bj s bc j.told ∧ Chg [bj] w w' := by
  obtain ⟨own, their, due⟩ := j
  have HJ := Lib.hid hJ
  have hJc := hJ.c
  have hJf := hJ.f
  clear hJ
  cases due
  · go_enter Tryz.func154, Tryz.ntmps154
    go_wp2
    go_ret
    exact ⟨rfl, HJ.out.as (by simp [Jm.told]), Chg.refl _ _⟩
  · go_enter Tryz.func154, Tryz.ntmps154
    go_wp2
    go_ret
    exact ⟨rfl, (HJ.out.set 16 (.bool false)).as (by simp [Jm.told]), (Chg.refl [bj] w).set (b := bj) (i := 16) (by simp) (.bool false)⟩

theorem JAnswer_c {w : World} {bj bc : Nat} {s : Su} {j : Jm} {c : Ck} (hJ : JmAt w bj s bc j) (hC : CkAt w bc c) :
    Calls Tryz.prog 184 #[.pointer (some ⟨bj, 0, none⟩)] w fun e w' => e = .returned (.bool (j.answer c).2.2) ∧ JmAt w' bj s bc (j.answer c).1 ∧ CkAt w' bc (j.answer c).2.1 ∧ Chg [bj, bc] w w' := by
  obtain ⟨own, their, due⟩ := j
  have n_bj_bc : bj ≠ bc := hJ.ne hC (by decide)
  have n_bc_bj : bc ≠ bj := fun e => n_bj_bc e.symm
  have HJ := Lib.hid hJ
  have HC := Lib.hid hC
  have hJc := hJ.c
  have hJf := hJ.f
  clear hJ hC
  cases their
  · go_enter Tryz.func184, Tryz.ntmps184
    go_wp2
    go_ret
    exact ⟨rfl, HJ.out.as (by simp [Jm.answer]), HC.out.as (by simp [Jm.answer]), Chg.refl _ _⟩
  · go_enter Tryz.func184, Tryz.ntmps184
    have J1 := (HJ.out.set 15 (.bool false))
    have C1 := (HC.out.far n_bj_bc 15 (.bool false))
    have G1 := ((Chg.refl [bj, bc] w).set (b := bj) (i := 15) (by simp) (.bool false))
    have HS := Stop_c (l := [6]) (n := 1) (cap := 1) (C1.alloc (.cells #[.int .i64 6] 3)) (Blk.newAt (n := w.heap.size) (by simp [World.setCell]) #[.int .i64 6] 3) (by simp) (by simp) rfl
    have HS' := Lib.hid HS
    clear HS
    go_wp2_with (first | ((with_reducible refine HS'.out.mono ?_); rintro e w3 ⟨rfl, C2, G2⟩))
    go_ret
    exact ⟨rfl, ((J1.alloc _).chg G2 (by simpa using n_bj_bc)).as (by simp [Jm.answer]), C2.as (by simp [Jm.answer]), (G1.alloc _).trans G2 (by simp)⟩

theorem JHeard_c {w : World} {bj bc : Nat} {s : Su} {j : Jm} {c : Ck} (hJ : JmAt w bj s bc j) (hC : CkAt w bc c) (waits : Bool) :
    Calls Tryz.prog 182 #[.pointer (some ⟨bj, 0, none⟩), .bool waits] w fun e w' => e = .returned (.bool (j.heard s c waits).2.2) ∧ JmAt w' bj s bc (j.heard s c waits).1 ∧ CkAt w' bc (j.heard s c waits).2.1 ∧ Chg [bj, bc] w w' := by
  obtain ⟨own, their, due⟩ := j
  have n_bj_bc : bj ≠ bc := hJ.ne hC (by decide)
  have n_bc_bj : bc ≠ bj := fun e => n_bj_bc e.symm
  have HJ := Lib.hid hJ
  have HC := Lib.hid hC
  have hJc := hJ.c
  have hJf := hJ.f
  clear hJ hC
  cases waits <;> cases their
  · go_enter Tryz.func182, Tryz.ntmps182
    go_wp2
    have J1 := (HJ.out.set 15 (.bool true))
    have C1 := (HC.out.far n_bj_bc 15 (.bool true))
    have G1 := ((Chg.refl [bj, bc] w).set (b := bj) (i := 15) (by simp) (.bool true))
    refine wp_region_up_tail 10 (by kernel_rfl) (by kernel_rfl) ?_
    simp only [List.take_succ_cons, List.take_zero, List.drop_succ_cons, List.drop_zero]
    have up_J1 := fun (g : Up _) => (Blk.below J1 g.ok).c
    repeat (go_big_quiet_step (fail))
    refine wpQuiet_nil ?_
    clear up_J1
    refine up_elim (fun w2 hb_w2 => ?_)
    go_wp2_with (first | ((with_reducible refine (Start_c (C1.below hb_w2) 6 _ (by omega) (by omega)).mono ?_); rintro e w3 ⟨⟨x, rfl⟩, C2, G2⟩))
    go_ret
    exact ⟨rfl, ((J1.below hb_w2).chg G2 (by simpa using n_bj_bc)).as (by simp [Jm.heard]), C2.as (by simp [Jm.heard]), (G1.below hb_w2).trans G2 (by simp)⟩
  · go_enter Tryz.func182, Tryz.ntmps182
    go_wp2
    go_ret
    exact ⟨rfl, HJ.out.as (by simp [Jm.heard]), HC.out.as (by simp [Jm.heard]), Chg.refl _ _⟩
  · go_enter Tryz.func182, Tryz.ntmps182
    go_wp2
    have J0 := HJ.out
    refine wp_region_up_tail 10 (by kernel_rfl) (by kernel_rfl) ?_
    simp only [List.take_succ_cons, List.take_zero, List.drop_succ_cons, List.drop_zero]
    have up_J0 := fun (g : Up _) => (Blk.below J0 g.ok).c
    repeat (go_big_quiet_step (fail))
    refine wpQuiet_nil ?_
    clear up_J0
    refine up_elim (fun w2 hb_w2 => ?_)
    clear hJc hJf
    go_upto_region 5 with (first | ((with_reducible refine (Start_c (HC.out.below hb_w2) 7 _ (by omega) (by omega)).mono ?_); rintro e w3 ⟨⟨x, rfl⟩, C2, G2⟩))
    have JJ := Lib.hid ((J0.below hb_w2).chg G2 (by simpa using n_bj_bc))
    have GG := Lib.hid (((Chg.refl [bj, bc] w).below hb_w2).trans G2 (by simp))
    have CC := Lib.hid C2
    clear J0 hb_w2 G2 C2
    have hJc := JJ.out.c
    have hJf := JJ.out.f
    go_wp2
    have J1 := (JJ.out.set 15 (.bool true))
    have C1 := (CC.out.far n_bj_bc 15 (.bool true))
    have G1 := (GG.out.set (b := bj) (i := 15) (by simp) (.bool true))
    refine wp_region_up_tail 10 (by kernel_rfl) (by kernel_rfl) ?_
    simp only [List.take_succ_cons, List.take_zero, List.drop_succ_cons, List.drop_zero]
    have up_J1 := fun (g : Up _) => (Blk.below J1 g.ok).c
    repeat (go_big_quiet_step (fail))
    refine wpQuiet_nil ?_
    clear up_J1
    refine up_elim (fun w4 hb_w4 => ?_)
    go_wp2_with (first | ((with_reducible refine (Start_c (C1.below hb_w4) 6 _ (by omega) (by omega)).mono ?_); rintro e w5 ⟨⟨x, rfl⟩, C3, G3⟩))
    go_ret
    exact ⟨rfl, ((J1.below hb_w4).chg G3 (by simpa using n_bj_bc)).as (by simp [Jm.heard]), C3.as (by simp [Jm.heard]), (G1.below hb_w4).trans G3 (by simp)⟩
  · go_enter Tryz.func182, Tryz.ntmps182
    go_wp2
    have J0 := HJ.out
    refine wp_region_up_tail 10 (by kernel_rfl) (by kernel_rfl) ?_
    simp only [List.take_succ_cons, List.take_zero, List.drop_succ_cons, List.drop_zero]
    have up_J0 := fun (g : Up _) => (Blk.below J0 g.ok).c
    repeat (go_big_quiet_step (fail))
    refine wpQuiet_nil ?_
    clear up_J0
    refine up_elim (fun w2 hb_w2 => ?_)
    clear hJc hJf
    go_upto_region 5 with (first | ((with_reducible refine (Start_c (HC.out.below hb_w2) 7 _ (by omega) (by omega)).mono ?_); rintro e w3 ⟨⟨x, rfl⟩, C2, G2⟩))
    have JJ := Lib.hid ((J0.below hb_w2).chg G2 (by simpa using n_bj_bc))
    have GG := Lib.hid (((Chg.refl [bj, bc] w).below hb_w2).trans G2 (by simp))
    have CC := Lib.hid C2
    clear J0 hb_w2 G2 C2
    have hJc := JJ.out.c
    have hJf := JJ.out.f
    go_wp2
    go_ret
    exact ⟨rfl, JJ.out.as (by simp [Jm.heard]), CC.out.as (by simp [Jm.heard]), GG.out⟩

theorem JOut_c {w : World} {bj bc : Nat} {s : Su} {j : Jm} {c : Ck} (hJ : JmAt w bj s bc j) (hC : CkAt w bc c) (i : Int) :
    Calls Tryz.prog 144 #[.pointer (some ⟨bj, 0, none⟩), .int .i64 i] w fun e w' => e = .returned (.int .u8 (j.out s c i).2.2) ∧ JmAt w' bj s bc (j.out s c i).1 ∧ CkAt w' bc (j.out s c i).2.1 ∧ Chg [bj, bc] w w' := by
  obtain ⟨own, their, due⟩ := j
  have n_bj_bc : bj ≠ bc := hJ.ne hC (by decide)
  have n_bc_bj : bc ≠ bj := fun e => n_bj_bc e.symm
  have HJ := Lib.hid hJ
  have HC := Lib.hid hC
  have hJc := hJ.c
  have hJf := hJ.f
  clear hJ hC
  by_cases i5 : i = 5
  · subst i5
    cases own
    · go_enter Tryz.func144, Tryz.ntmps144
      go_wp2
      go_ret
      exact ⟨rfl, HJ.out.as (by simp [Jm.out]), HC.out.as (by simp [Jm.out]), Chg.refl _ _⟩
    · go_enter Tryz.func144, Tryz.ntmps144
      go_wp2
      have J1 := (HJ.out.set 16 (.bool true))
      have C1 := (HC.out.far n_bj_bc 16 (.bool true))
      have G1 := ((Chg.refl [bj, bc] w).set (b := bj) (i := 16) (by simp) (.bool true))
      refine wp_region_up_tail 10 (by kernel_rfl) (by kernel_rfl) ?_
      simp only [List.take_succ_cons, List.take_zero, List.drop_succ_cons, List.drop_zero]
      have up_J1 := fun (g : Up _) => (Blk.below J1 g.ok).c
      repeat (go_big_quiet_step (fail))
      refine wpQuiet_nil ?_
      clear up_J1
      refine up_elim (fun w2 hb_w2 => ?_)
      go_wp2_with (first | ((with_reducible refine (Start_c (C1.below hb_w2) 5 _ (by omega) (by omega)).mono ?_); rintro e w3 ⟨⟨x, rfl⟩, C2, G2⟩))
      go_ret
      exact ⟨rfl, ((J1.below hb_w2).chg G2 (by simpa using n_bj_bc)).as (by simp [Jm.out]), C2.as (by simp [Jm.out]), (G1.below hb_w2).trans G2 (by simp)⟩
  · have k5 : (i == 5) = false := by simp [i5]
    by_cases i6 : i = 6
    · subst i6
      cases their
      all_goals
        go_enter Tryz.func144, Tryz.ntmps144
        go_wp2
        go_ret
        exact ⟨rfl, HJ.out.as (by simp [Jm.out]), HC.out.as (by simp [Jm.out]), Chg.refl _ _⟩
    · have k6 : (i == 6) = false := by simp [i6]
      go_enter Tryz.func144, Tryz.ntmps144
      go_wp2
      go_ret
      exact ⟨by simp [Jm.out, i5, i6], HJ.out.as (by simp [Jm.out, i5, i6]), HC.out.as (by simp [Jm.out, i5, i6]), Chg.refl _ _⟩
end Go.Proofs.YtcllbmjmefeknaaGreatK
