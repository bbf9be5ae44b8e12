/- The walks of package align. The walks of package align, continued: orders, statuses, units, timers. The walk of align.Unit: one more unit while it is proved. -/
import Derived.Test.YtcllbmjmefeknaaGreatJmm
import Derived.Test.YtcllbmjmefeknaaGreatM
import Derived.Test.YtcllbmjmefeknaaGreatBkt
namespace Go.Proofs.YtcllbmjmefeknaaGreatK
/-! ### The walks of package align. -/
section
open Go Go.RowKit
set_option linter.unusedVariables false
set_option maxHeartbeats 1000000
set_option maxRecDepth 100000
abbrev Al.cells (s : Su) (bc : Nat) (a : Al) : Array Value := #[.bool s.cyc, .int .i64 s.n1, .int .i64 s.n2, .int .i64 s.hd, .int .i64 s.oc, .int .i64 s.t0, .int .i64 s.t1, .int .i64 s.t2, .int .i64 s.t3, .int .i64 s.t4, .int .i64 s.t5, .int .i64 s.t6, .int .i64 s.t7, .pointer (some ⟨bc, 0, none⟩), .int .u8 a.st, .bool a.own, .bool a.their, .bool a.p.hurry, .int .i64 a.p.n, .int .i64 a.p.tries]
abbrev AlAt (w : World) (b : Nat) (s : Su) (bc : Nat) (a : Al) : Prop := Blk w b (a.cells s bc) 234

theorem AIsHurry_c {w : World} {ba bc : Nat} {s : Su} {a : Al} (hA : AlAt w ba s bc a) :
    Calls Tryz.prog 163 #[.pointer (some ⟨ba, 0, none⟩)] w fun e w' => e = .returned (.bool a.hurry) ∧ w = w' := by
  obtain ⟨st, own, their, p⟩ := a
  have hAc := hA.c
  clear hA
  cases own <;> cases their
  all_goals
    go_enter Tryz.func163, Tryz.ntmps163
    go_wp2
    go_ret
    exact ⟨rfl, rfl⟩

theorem ANear_c {w : World} {ba bc : Nat} {s : Su} {a : Al} {c : Ck} (hA : AlAt w ba s bc a) (hC : CkAt w bc c) :
    Calls Tryz.prog 194 #[.pointer (some ⟨ba, 0, none⟩)] w fun e w' => e = .returned (.tuple #[]) ∧ AlAt w' ba s bc (a.near s c).1 ∧ CkAt w' bc (a.near s c).2 ∧ Chg [ba, bc] w w' := by
  have n_ba_bc : ba ≠ bc := hA.ne hC (by decide)
  have n_bc_ba : bc ≠ ba := fun e => n_ba_bc e.symm
  have HA := Lib.hid hA
  have HC := Lib.hid hC
  have hAc := hA.c
  have hAf := hA.f
  clear hA hC
  go_enter Tryz.func194, Tryz.ntmps194
  have A1 := (HA.out.set 14 (.int .u8 2))
  have C1 := (HC.out.far n_ba_bc 14 (.int .u8 2))
  have G1 := ((Chg.refl [ba, bc] w).set (b := ba) (i := 14) (by simp) (.int .u8 2))
  have HS := Lib.hid (Stop_c (l := [0, 2, 4]) (n := 3) (cap := 3) (C1.alloc (.cells #[.int .i64 0, .int .i64 2, .int .i64 4] 3)) (Blk.newAt (n := w.heap.size) (by simp [World.setCell]) #[.int .i64 0, .int .i64 2, .int .i64 4] 3) (by simp) (by simp) rfl)
  go_upto_region 2 with (first | ((with_reducible refine HS.out.mono ?_); rintro e w3 ⟨rfl, C2, K2⟩))
  have A2 := (A1.alloc (.cells #[.int .i64 0, .int .i64 2, .int .i64 4] 3)).chg K2 (by simpa using n_ba_bc)
  have G2 := (G1.alloc (.cells #[.int .i64 0, .int .i64 2, .int .i64 4] 3)).trans K2 (by simp)
  clear HS K2 hAc hAf
  go_wp2
  refine wp_region_up_tail 10 (by kernel_rfl) (by kernel_rfl) ?_
  simp only [List.take_succ_cons, List.take_zero, List.drop_succ_cons, List.drop_zero]
  have up_A2 := fun (g : Up _) => (Blk.below A2 g.ok).c
  repeat (go_big_quiet_step (fail))
  refine wpQuiet_nil ?_
  clear up_A2
  refine up_elim (fun w4 hb_w4 => ?_)
  go_wp2_with (first | ((with_reducible refine (Start_c (C2.below hb_w4) 3 _ (by omega) (by omega)).mono ?_); rintro e w5 ⟨⟨x, rfl⟩, C3, K3⟩))
  have A3 := (A2.below hb_w4).chg K3 (by simpa using n_ba_bc)
  have G3 := (G2.below hb_w4).trans K3 (by simp)
  go_end0
  exact ⟨rfl, A3.as (by simp [Al.near]), C3, G3⟩

theorem AEnd_c {w : World} {ba bc : Nat} {s : Su} {a : Al} {c : Ck} (hA : AlAt w ba s bc a) (hC : CkAt w bc c) :
    Calls Tryz.prog 159 #[.pointer (some ⟨ba, 0, none⟩)] w fun e w' => e = .returned (.tuple #[]) ∧ AlAt w' ba s bc (a.end c).1 ∧ CkAt w' bc (a.end c).2 ∧ Chg [ba, bc] w w' := by
  have n_ba_bc : ba ≠ bc := hA.ne hC (by decide)
  have n_bc_ba : bc ≠ ba := fun e => n_ba_bc e.symm
  have HA := Lib.hid hA
  have HC := Lib.hid hC
  have hAc := hA.c
  have hAf := hA.f
  clear hA hC
  go_enter Tryz.func159, Tryz.ntmps159
  have A1 := ((HA.out.set 14 (.int .u8 0)).set 16 (.bool false))
  have C1 := ((HC.out.far n_ba_bc 14 (.int .u8 0)).far n_ba_bc 16 (.bool false))
  have G1 := (((Chg.refl [ba, bc] w).set (b := ba) (i := 14) (by simp) (.int .u8 0)).set (b := ba) (i := 16) (by simp) (.bool false))
  have HS := Lib.hid (Stop_c (l := [0, 2, 3, 4]) (n := 4) (cap := 4) (C1.alloc (.cells #[.int .i64 0, .int .i64 2, .int .i64 3, .int .i64 4] 3)) (Blk.newAt (n := w.heap.size) (by simp [World.setCell]) #[.int .i64 0, .int .i64 2, .int .i64 3, .int .i64 4] 3) (by simp) (by simp) rfl)
  go_wp2_with (first | ((with_reducible refine HS.out.mono ?_); rintro e w3 ⟨rfl, C2, K2⟩))
  have A2 := (A1.alloc (.cells #[.int .i64 0, .int .i64 2, .int .i64 3, .int .i64 4] 3)).chg K2 (by simpa using n_ba_bc)
  have G2 := (G1.alloc (.cells #[.int .i64 0, .int .i64 2, .int .i64 3, .int .i64 4] 3)).trans K2 (by simp)
  clear HS K2 hAc hAf
  go_end0
  exact ⟨rfl, A2.as (by simp [Al.end]), C2, G2⟩

theorem ABegin_c {w : World} {ba bc : Nat} {s : Su} {a : Al} {c : Ck} (hA : AlAt w ba s bc a) (hC : CkAt w bc c) :
    Calls Tryz.prog 158 #[.pointer (some ⟨ba, 0, none⟩)] w fun e w' => e = .returned (.tuple #[]) ∧ AlAt w' ba s bc (a.begin s c).1 ∧ CkAt w' bc (a.begin s c).2 ∧ Chg [ba, bc] w w' := by
  have n_ba_bc : ba ≠ bc := hA.ne hC (by decide)
  have n_bc_ba : bc ≠ ba := fun e => n_ba_bc e.symm
  have HA := Lib.hid hA
  have HC := Lib.hid hC
  have hAc := hA.c
  have hAf := hA.f
  clear hA hC
  go_enter Tryz.func158, Tryz.ntmps158
  have A1 := (((((HA.out.set 14 (.int .u8 1)).set 16 (.bool false)).set 17 (.bool false)).set 18 (.int .i64 0)).set 19 (.int .i64 0))
  have C1 := (((((HC.out.far n_ba_bc 14 (.int .u8 1)).far n_ba_bc 16 (.bool false)).far n_ba_bc 17 (.bool false)).far n_ba_bc 18 (.int .i64 0)).far n_ba_bc 19 (.int .i64 0))
  have G1 := ((((((Chg.refl [ba, bc] w).set (b := ba) (i := 14) (by simp) (.int .u8 1)).set (b := ba) (i := 16) (by simp) (.bool false)).set (b := ba) (i := 17) (by simp) (.bool false)).set (b := ba) (i := 18) (by simp) (.int .i64 0)).set (b := ba) (i := 19) (by simp) (.int .i64 0))
  have HS := Lib.hid (Stop_c (l := [0, 3, 4]) (n := 3) (cap := 3) (C1.alloc (.cells #[.int .i64 0, .int .i64 3, .int .i64 4] 3)) (Blk.newAt (n := w.heap.size) (by simp [World.setCell]) #[.int .i64 0, .int .i64 3, .int .i64 4] 3) (by simp) (by simp) rfl)
  go_upto_region 3 with (first | ((with_reducible refine HS.out.mono ?_); rintro e w3 ⟨rfl, C2, K2⟩))
  have A2 := (A1.alloc (.cells #[.int .i64 0, .int .i64 3, .int .i64 4] 3)).chg K2 (by simpa using n_ba_bc)
  have G2 := (G1.alloc (.cells #[.int .i64 0, .int .i64 3, .int .i64 4] 3)).trans K2 (by simp)
  clear HS K2 hAc hAf
  go_wp2
  refine wp_region_up_tail 10 (by kernel_rfl) (by kernel_rfl) ?_
  simp only [List.take_succ_cons, List.take_zero, List.drop_succ_cons, List.drop_zero]
  have up_A2 := fun (g : Up _) => (Blk.below A2 g.ok).c
  repeat (go_big_quiet_step (fail))
  refine wpQuiet_nil ?_
  clear up_A2
  refine up_elim (fun w4 hb_w4 => ?_)
  go_wp2_with (first | ((with_reducible refine (Start_c (C2.below hb_w4) 2 _ (by omega) (by omega)).mono ?_); rintro e w5 ⟨⟨x, rfl⟩, C3, K3⟩))
  have A3 := (A2.below hb_w4).chg K3 (by simpa using n_ba_bc)
  have G3 := (G2.below hb_w4).trans K3 (by simp)
  go_end0
  exact ⟨rfl, A3.as (by simp [Al.begin]), C3, G3⟩

theorem AProve_c {w : World} {ba bc : Nat} {s : Su} {a : Al} {c : Ck} (hA : AlAt w ba s bc a) (hC : CkAt w bc c) :
    Calls Tryz.prog 164 #[.pointer (some ⟨ba, 0, none⟩)] w fun e w' => e = .returned (.tuple #[]) ∧ AlAt w' ba s bc (a.prove s c).1 ∧ CkAt w' bc (a.prove s c).2 ∧ Chg [ba, bc] w w' := by
  obtain ⟨st, own, their, p⟩ := a
  have n_ba_bc : ba ≠ bc := hA.ne hC (by decide)
  have n_bc_ba : bc ≠ ba := fun e => n_ba_bc e.symm
  have HA := Lib.hid hA
  have HC := Lib.hid hC
  have hAc := hA.c
  have hAf := hA.f
  clear hA hC
  have hh : ∃ h, (own || their) = h := ⟨_, rfl⟩
  obtain ⟨h, hh⟩ := hh
  have HH := Lib.hid hh
  have CH : Hid (∀ {w' : World} {st' : Int} {p' : Pf}, AlAt w' ba s bc ⟨st', own, their, p'⟩ → Calls Tryz.prog 163 #[.pointer (some ⟨ba, 0, none⟩)] w' fun e w'' => e = .returned (.bool h) ∧ w' = w'') := fun hA => by have := AIsHurry_c hA; simpa [Al.hurry, hh] using this
  clear hh
  go_enter Tryz.func164, Tryz.ntmps164
  go_wp2
  have A1 := (HA.out.set 14 (.int .u8 3))
  have C1 := (HC.out.far n_ba_bc 14 (.int .u8 3))
  have G1 := ((Chg.refl [ba, bc] w).set (b := ba) (i := 14) (by simp) (.int .u8 3))
  have A1' : AlAt (w.setCell ⟨ba, 14, none⟩ (.int .u8 3)) ba s bc ⟨3, own, their, p⟩ := A1.as (by simp)
  have CU : Hid (∀ g : Up (w.setCell ⟨ba, 14, none⟩ (.int .u8 3)), Calls Tryz.prog 163 #[.pointer (some ⟨ba, 0, none⟩)] g.val fun e w'' => e = .returned (.bool h) ∧ ∃ g' : Up (w.setCell ⟨ba, 14, none⟩ (.int .u8 3)), w'' = g'.val) := fun g => Up.calls_same g (CH.out (A1'.below g.ok))
  refine wp_region_up_tail 9 (by kernel_rfl) (by kernel_rfl) ?_
  simp only [List.take_succ_cons, List.take_zero, List.drop_succ_cons, List.drop_zero]
  have up_A1' := fun (g : Up _) => (Blk.below A1' g.ok).c
  repeat (go_big_quiet_step (exact CU.out _))
  refine wpQuiet_nil ?_
  clear up_A1'
  refine up_elim (fun w2 hb_w2 => ?_)
  have A2 := A1'.below hb_w2
  have C2 := C1.below hb_w2
  have G2 := G1.below hb_w2
  clear A1 A1' C1 G1 CU hAc hAf
  have HA2 := Lib.hid A2
  have HC2 := Lib.hid C2
  have HG2 := Lib.hid G2
  have hAc := A2.c
  have hAf := A2.f
  clear A2 C2 G2
  go_upto_region 2 with (fail)
  have A3 := (((HA2.out.set 17 (.bool h)).set 18 (.int .i64 0)).set 19 (.int .i64 p.tries))
  have C3 := (((HC2.out.far n_ba_bc 17 (.bool h)).far n_ba_bc 18 (.int .i64 0)).far n_ba_bc 19 (.int .i64 p.tries))
  have G3 := (((HG2.out.set (b := ba) (i := 17) (by simp) (.bool h)).set (b := ba) (i := 18) (by simp) (.int .i64 0)).set (b := ba) (i := 19) (by simp) (.int .i64 p.tries))
  have A3' := A3.as (cs' := Al.cells s bc ⟨3, own, their, ⟨h, 0, p.tries⟩⟩) (by simp)
  clear A3
  have HS := Lib.hid (Stop_c (l := [0, 2, 3, 4]) (n := 4) (cap := 4) (C3.alloc (.cells #[.int .i64 0, .int .i64 2, .int .i64 3, .int .i64 4] 3)) (Blk.newAt (n := w2.heap.size) (by simp [World.setCell]) #[.int .i64 0, .int .i64 2, .int .i64 3, .int .i64 4] 3) (by simp) (by simp) rfl)
  go_upto_region 3 with (first | ((with_reducible refine HS.out.mono ?_); rintro e w4 ⟨rfl, C4, K4⟩))
  have A4 := (A3'.alloc (.cells #[.int .i64 0, .int .i64 2, .int .i64 3, .int .i64 4] 3)).chg K4 (by simpa using n_ba_bc)
  have G4 := (G3.alloc (.cells #[.int .i64 0, .int .i64 2, .int .i64 3, .int .i64 4] 3)).trans K4 (by simp)
  clear HS K4 hAc hAf
  have A4' : AlAt w4 ba s bc ⟨3, own, their, ⟨h, 0, p.tries⟩⟩ := A4
  have hAc := A4.c
  have hAf := A4.f
  cases h
  · go_wp2_with (first | ((with_reducible refine (CH.out A4').mono ?_); rintro e w5 ⟨rfl, rfl⟩))
    refine wp_region_up_tail 10 (by kernel_rfl) (by kernel_rfl) ?_
    simp only [List.take_succ_cons, List.take_zero, List.drop_succ_cons, List.drop_zero]
    have up_A4' := fun (g : Up _) => (Blk.below A4' g.ok).c
    repeat (go_big_quiet_step (fail))
    refine wpQuiet_nil ?_
    clear up_A4'
    refine up_elim (fun w6 hb_w6 => ?_)
    go_wp2_with (first | ((with_reducible refine (Start_c (C4.below hb_w6) 4 _ (by omega) (by omega)).mono ?_); rintro e w7 ⟨⟨x, rfl⟩, C5, K5⟩))
    have A5 := (A4'.below hb_w6).chg K5 (by simpa using n_ba_bc)
    have G5 := (G4.below hb_w6).trans K5 (by simp)
    go_end0
    exact ⟨rfl, A5.as (by simp [Al.prove, Al.hurry, HH.out]), by rw [Al.prove, if_neg (by simp [Al.hurry, HH.out])]; exact C5, G5⟩
  · go_wp2_with (first | ((with_reducible refine (CH.out A4').mono ?_); rintro e w5 ⟨rfl, rfl⟩))
    refine wp_region_up_tail 10 (by kernel_rfl) (by kernel_rfl) ?_
    simp only [List.take_succ_cons, List.take_zero, List.drop_succ_cons, List.drop_zero]
    have up_A4' := fun (g : Up _) => (Blk.below A4' g.ok).c
    repeat (go_big_quiet_step (fail))
    refine wpQuiet_nil ?_
    clear up_A4'
    refine up_elim (fun w6 hb_w6 => ?_)
    go_wp2_with (first | ((with_reducible refine (Start_c (C4.below hb_w6) 0 _ (by omega) (by omega)).mono ?_); rintro e w7 ⟨⟨x, rfl⟩, C5, K5⟩))
    have A5 := (A4'.below hb_w6).chg K5 (by simpa using n_ba_bc)
    have G5 := (G4.below hb_w6).trans K5 (by simp)
    go_end0
    exact ⟨rfl, A5.as (by simp [Al.prove, Al.hurry, HH.out]), by rw [Al.prove, if_pos (by simp [Al.hurry, HH.out])]; exact C5, G5⟩
end
/-! ### The walks of package align, continued: orders, statuses, units, timers. -/
section
open Go Go.RowKit
set_option linter.unusedVariables false
set_option maxHeartbeats 1000000
set_option maxRecDepth 100000

theorem AHurry_c {w : World} {ba bc : Nat} {s : Su} {a : Al} {c : Ck} (hA : AlAt w ba s bc a) (hC : CkAt w bc c) (on : Bool) :
    Calls Tryz.prog 129 #[.pointer (some ⟨ba, 0, none⟩), .bool on] w fun e w' => e = .returned (.tuple #[]) ∧ AlAt w' ba s bc (a.hurries s c on).1 ∧ CkAt w' bc (a.hurries s c on).2 ∧ Chg [ba, bc] w w' := by
  obtain ⟨st, own, their, p⟩ := a
  have n_ba_bc : ba ≠ bc := hA.ne hC (by decide)
  have n_bc_ba : bc ≠ ba := fun e => n_ba_bc e.symm
  have HA := Lib.hid hA
  have HC := Lib.hid hC
  have hAc := hA.c
  have hAf := hA.f
  clear hA hC
  by_cases s3 : st = 3
  · subst s3
    cases own <;> cases their <;> cases on
    · go_enter Tryz.func129, Tryz.ntmps129
      go_wp2_with (first | ((with_reducible refine (AIsHurry_c HA.out).mono ?_); rintro e w1 ⟨rfl, rfl⟩))
      have A1 := (HA.out.set 15 (.bool false))
      have C1 := (HC.out.far n_ba_bc 15 (.bool false))
      have G1 := ((Chg.refl [ba, bc] w).set (b := ba) (i := 15) (by simp) (.bool false))
      go_end0
      exact ⟨rfl, A1.as (by simp [Al.hurries, Al.hurry]), C1.as (by simp [Al.hurries, Al.hurry]), G1⟩
    · go_enter Tryz.func129, Tryz.ntmps129
      have A1 := (HA.out.set 15 (.bool true))
      have C1 := (HC.out.far n_ba_bc 15 (.bool true))
      have G1 := ((Chg.refl [ba, bc] w).set (b := ba) (i := 15) (by simp) (.bool true))
      have CP := Lib.hid (AProve_c (s := s) (a := ⟨3, true, false, p⟩) (A1.as (by simp)) C1)
      go_wp2_with (first | ((with_reducible refine (AIsHurry_c HA.out).mono ?_); rintro e w1 ⟨rfl, rfl⟩) | ((with_reducible refine CP.out.mono ?_); rintro e w5 ⟨rfl, A5, C5, K5⟩))
      go_end0
      exact ⟨rfl, A5, C5, G1.then K5⟩
    · go_enter Tryz.func129, Tryz.ntmps129
      go_wp2_with (first | ((with_reducible refine (AIsHurry_c HA.out).mono ?_); rintro e w1 ⟨rfl, rfl⟩))
      have A1 := (HA.out.set 15 (.bool false))
      have C1 := (HC.out.far n_ba_bc 15 (.bool false))
      have G1 := ((Chg.refl [ba, bc] w).set (b := ba) (i := 15) (by simp) (.bool false))
      go_end0
      exact ⟨rfl, A1.as (by simp [Al.hurries, Al.hurry]), C1.as (by simp [Al.hurries, Al.hurry]), G1⟩
    · go_enter Tryz.func129, Tryz.ntmps129
      go_wp2_with (first | ((with_reducible refine (AIsHurry_c HA.out).mono ?_); rintro e w1 ⟨rfl, rfl⟩))
      have A1 := (HA.out.set 15 (.bool true))
      have C1 := (HC.out.far n_ba_bc 15 (.bool true))
      have G1 := ((Chg.refl [ba, bc] w).set (b := ba) (i := 15) (by simp) (.bool true))
      go_end0
      exact ⟨rfl, A1.as (by simp [Al.hurries, Al.hurry]), C1.as (by simp [Al.hurries, Al.hurry]), G1⟩
    · go_enter Tryz.func129, Tryz.ntmps129
      go_wp2_with (first | ((with_reducible refine (AIsHurry_c HA.out).mono ?_); rintro e w1 ⟨rfl, rfl⟩))
      have A1 := (HA.out.set 15 (.bool false))
      have C1 := (HC.out.far n_ba_bc 15 (.bool false))
      have G1 := ((Chg.refl [ba, bc] w).set (b := ba) (i := 15) (by simp) (.bool false))
      go_end0
      exact ⟨rfl, A1.as (by simp [Al.hurries, Al.hurry]), C1.as (by simp [Al.hurries, Al.hurry]), G1⟩
    · go_enter Tryz.func129, Tryz.ntmps129
      go_wp2_with (first | ((with_reducible refine (AIsHurry_c HA.out).mono ?_); rintro e w1 ⟨rfl, rfl⟩))
      have A1 := (HA.out.set 15 (.bool true))
      have C1 := (HC.out.far n_ba_bc 15 (.bool true))
      have G1 := ((Chg.refl [ba, bc] w).set (b := ba) (i := 15) (by simp) (.bool true))
      go_end0
      exact ⟨rfl, A1.as (by simp [Al.hurries, Al.hurry]), C1.as (by simp [Al.hurries, Al.hurry]), G1⟩
    · go_enter Tryz.func129, Tryz.ntmps129
      go_wp2_with (first | ((with_reducible refine (AIsHurry_c HA.out).mono ?_); rintro e w1 ⟨rfl, rfl⟩))
      have A1 := (HA.out.set 15 (.bool false))
      have C1 := (HC.out.far n_ba_bc 15 (.bool false))
      have G1 := ((Chg.refl [ba, bc] w).set (b := ba) (i := 15) (by simp) (.bool false))
      go_end0
      exact ⟨rfl, A1.as (by simp [Al.hurries, Al.hurry]), C1.as (by simp [Al.hurries, Al.hurry]), G1⟩
    · go_enter Tryz.func129, Tryz.ntmps129
      go_wp2_with (first | ((with_reducible refine (AIsHurry_c HA.out).mono ?_); rintro e w1 ⟨rfl, rfl⟩))
      have A1 := (HA.out.set 15 (.bool true))
      have C1 := (HC.out.far n_ba_bc 15 (.bool true))
      have G1 := ((Chg.refl [ba, bc] w).set (b := ba) (i := 15) (by simp) (.bool true))
      go_end0
      exact ⟨rfl, A1.as (by simp [Al.hurries, Al.hurry]), C1.as (by simp [Al.hurries, Al.hurry]), G1⟩
  · have k3 : (st == 3) = false := by simp [s3]
    cases own <;> cases their <;> cases on
    · go_enter Tryz.func129, Tryz.ntmps129
      go_wp2_with (first | ((with_reducible refine (AIsHurry_c HA.out).mono ?_); rintro e w1 ⟨rfl, rfl⟩))
      have A1 := (HA.out.set 15 (.bool false))
      have C1 := (HC.out.far n_ba_bc 15 (.bool false))
      have G1 := ((Chg.refl [ba, bc] w).set (b := ba) (i := 15) (by simp) (.bool false))
      go_end0
      exact ⟨rfl, A1.as (by simp [Al.hurries, Al.hurry, s3]), C1.as (by simp [Al.hurries, Al.hurry, s3]), G1⟩
    · go_enter Tryz.func129, Tryz.ntmps129
      go_wp2_with (first | ((with_reducible refine (AIsHurry_c HA.out).mono ?_); rintro e w1 ⟨rfl, rfl⟩))
      have A1 := (HA.out.set 15 (.bool true))
      have C1 := (HC.out.far n_ba_bc 15 (.bool true))
      have G1 := ((Chg.refl [ba, bc] w).set (b := ba) (i := 15) (by simp) (.bool true))
      go_end0
      exact ⟨rfl, A1.as (by simp [Al.hurries, Al.hurry, s3]), C1.as (by simp [Al.hurries, Al.hurry, s3]), G1⟩
    · go_enter Tryz.func129, Tryz.ntmps129
      go_wp2_with (first | ((with_reducible refine (AIsHurry_c HA.out).mono ?_); rintro e w1 ⟨rfl, rfl⟩))
      have A1 := (HA.out.set 15 (.bool false))
      have C1 := (HC.out.far n_ba_bc 15 (.bool false))
      have G1 := ((Chg.refl [ba, bc] w).set (b := ba) (i := 15) (by simp) (.bool false))
      go_end0
      exact ⟨rfl, A1.as (by simp [Al.hurries, Al.hurry, s3]), C1.as (by simp [Al.hurries, Al.hurry, s3]), G1⟩
    · go_enter Tryz.func129, Tryz.ntmps129
      go_wp2_with (first | ((with_reducible refine (AIsHurry_c HA.out).mono ?_); rintro e w1 ⟨rfl, rfl⟩))
      have A1 := (HA.out.set 15 (.bool true))
      have C1 := (HC.out.far n_ba_bc 15 (.bool true))
      have G1 := ((Chg.refl [ba, bc] w).set (b := ba) (i := 15) (by simp) (.bool true))
      go_end0
      exact ⟨rfl, A1.as (by simp [Al.hurries, Al.hurry, s3]), C1.as (by simp [Al.hurries, Al.hurry, s3]), G1⟩
    · go_enter Tryz.func129, Tryz.ntmps129
      go_wp2_with (first | ((with_reducible refine (AIsHurry_c HA.out).mono ?_); rintro e w1 ⟨rfl, rfl⟩))
      have A1 := (HA.out.set 15 (.bool false))
      have C1 := (HC.out.far n_ba_bc 15 (.bool false))
      have G1 := ((Chg.refl [ba, bc] w).set (b := ba) (i := 15) (by simp) (.bool false))
      go_end0
      exact ⟨rfl, A1.as (by simp [Al.hurries, Al.hurry, s3]), C1.as (by simp [Al.hurries, Al.hurry, s3]), G1⟩
    · go_enter Tryz.func129, Tryz.ntmps129
      go_wp2_with (first | ((with_reducible refine (AIsHurry_c HA.out).mono ?_); rintro e w1 ⟨rfl, rfl⟩))
      have A1 := (HA.out.set 15 (.bool true))
      have C1 := (HC.out.far n_ba_bc 15 (.bool true))
      have G1 := ((Chg.refl [ba, bc] w).set (b := ba) (i := 15) (by simp) (.bool true))
      go_end0
      exact ⟨rfl, A1.as (by simp [Al.hurries, Al.hurry, s3]), C1.as (by simp [Al.hurries, Al.hurry, s3]), G1⟩
    · go_enter Tryz.func129, Tryz.ntmps129
      go_wp2_with (first | ((with_reducible refine (AIsHurry_c HA.out).mono ?_); rintro e w1 ⟨rfl, rfl⟩))
      have A1 := (HA.out.set 15 (.bool false))
      have C1 := (HC.out.far n_ba_bc 15 (.bool false))
      have G1 := ((Chg.refl [ba, bc] w).set (b := ba) (i := 15) (by simp) (.bool false))
      go_end0
      exact ⟨rfl, A1.as (by simp [Al.hurries, Al.hurry, s3]), C1.as (by simp [Al.hurries, Al.hurry, s3]), G1⟩
    · go_enter Tryz.func129, Tryz.ntmps129
      go_wp2_with (first | ((with_reducible refine (AIsHurry_c HA.out).mono ?_); rintro e w1 ⟨rfl, rfl⟩))
      have A1 := (HA.out.set 15 (.bool true))
      have C1 := (HC.out.far n_ba_bc 15 (.bool true))
      have G1 := ((Chg.refl [ba, bc] w).set (b := ba) (i := 15) (by simp) (.bool true))
      go_end0
      exact ⟨rfl, A1.as (by simp [Al.hurries, Al.hurry, s3]), C1.as (by simp [Al.hurries, Al.hurry, s3]), G1⟩

theorem ASends_c {w : World} {ba bc : Nat} {s : Su} {a : Al} (hA : AlAt w ba s bc a) :
    Calls Tryz.prog 153 #[.pointer (some ⟨ba, 0, none⟩)] w fun e w' => e = .returned (.int .u8 a.sends) ∧ w = w' := by
  obtain ⟨st, own, their, p⟩ := a
  have hAc := hA.c
  clear hA
  by_cases s0 : st = 0
  · subst s0
    go_enter Tryz.func153, Tryz.ntmps153
    go_wp2
    go_ret
    exact ⟨rfl, rfl⟩
  · have k0 : (st == 0) = false := by simp [s0]
    by_cases s1 : st = 1
    · subst s1
      go_enter Tryz.func153, Tryz.ntmps153
      go_wp2
      go_ret
      exact ⟨rfl, rfl⟩
    · have k1 : (st == 1) = false := by simp [s1]
      cases own
      all_goals
        go_enter Tryz.func153, Tryz.ntmps153
        go_wp2
        go_ret
        exact ⟨by simp [Al.sends, s0, s1], rfl⟩

theorem AOut_c {w : World} {ba bc : Nat} {s : Su} {a : Al} {c : Ck} (hA : AlAt w ba s bc a) (hC : CkAt w bc c) (i : Int) :
    Calls Tryz.prog 142 #[.pointer (some ⟨ba, 0, none⟩), .int .i64 i] w fun e w' => e = .returned (.tuple #[.bool (a.out c i).2.2.1, .int .u8 (a.out c i).2.2.2]) ∧ AlAt w' ba s bc (a.out c i).1 ∧ CkAt w' bc (a.out c i).2.1 ∧ Chg [ba, bc] w w' := by
  obtain ⟨st, own, their, p⟩ := a
  have n_ba_bc : ba ≠ bc := hA.ne hC (by decide)
  have n_bc_ba : bc ≠ ba := fun e => n_ba_bc e.symm
  have HA := Lib.hid hA
  have HC := Lib.hid hC
  have hAc := hA.c
  have hAf := hA.f
  clear hA hC
  by_cases i2 : i = 2
  · subst i2
    by_cases s1 : st = 1
    · subst s1
      go_enter Tryz.func142, Tryz.ntmps142
      go_wp2
      go_ret2
      exact ⟨by simp [Al.out], HA.out.as (by simp [Al.out]), HC.out.as (by simp [Al.out]), Chg.refl _ _⟩
    · have k1 : (st == 1) = false := by simp [s1]
      go_enter Tryz.func142, Tryz.ntmps142
      go_wp2
      go_ret2
      exact ⟨by simp [Al.out, s1], HA.out.as (by simp [Al.out, s1]), HC.out.as (by simp [Al.out, s1]), Chg.refl _ _⟩
  · have j2 : (i == 2) = false := by simp [i2]
    by_cases i3 : i = 3
    · subst i3
      by_cases s2 : st = 2
      · subst s2
        go_enter Tryz.func142, Tryz.ntmps142
        go_wp2
        go_ret2
        exact ⟨by simp [Al.out], HA.out.as (by simp [Al.out]), HC.out.as (by simp [Al.out]), Chg.refl _ _⟩
      · have k2 : (st == 2) = false := by simp [s2]
        go_enter Tryz.func142, Tryz.ntmps142
        go_wp2
        go_ret2
        exact ⟨by simp [Al.out, s2], HA.out.as (by simp [Al.out, s2]), HC.out.as (by simp [Al.out, s2]), Chg.refl _ _⟩
    · have j3 : (i == 3) = false := by simp [i3]
      by_cases i4 : i = 4
      · subst i4
        by_cases s3 : st = 3
        · subst s3
          have CE := Lib.hid (AEnd_c HA.out HC.out)
          go_enter Tryz.func142, Tryz.ntmps142
          go_wp2_with (first | ((with_reducible refine CE.out.mono ?_); rintro e w5 ⟨rfl, A5, C5, K5⟩))
          go_ret2
          exact ⟨rfl, A5, C5, K5⟩
        · have k3 : (st == 3) = false := by simp [s3]
          go_enter Tryz.func142, Tryz.ntmps142
          go_wp2
          go_ret2
          exact ⟨by simp [Al.out, s3], HA.out.as (by simp [Al.out, s3]), HC.out.as (by simp [Al.out, s3]), Chg.refl _ _⟩
      · have j4 : (i == 4) = false := by simp [i4]
        by_cases i0 : i = 0
        · subst i0
          by_cases s3 : st = 3
          · subst s3
            have CE := Lib.hid (AEnd_c HA.out HC.out)
            go_enter Tryz.func142, Tryz.ntmps142
            go_wp2_with (first | ((with_reducible refine CE.out.mono ?_); rintro e w5 ⟨rfl, A5, C5, K5⟩))
            go_ret2
            exact ⟨rfl, A5, C5, K5⟩
          · have k3 : (st == 3) = false := by simp [s3]
            go_enter Tryz.func142, Tryz.ntmps142
            go_wp2
            go_ret2
            exact ⟨by simp [Al.out, s3], HA.out.as (by simp [Al.out, s3]), HC.out.as (by simp [Al.out, s3]), Chg.refl _ _⟩
        · have j0 : (i == 0) = false := by simp [i0]
          go_enter Tryz.func142, Tryz.ntmps142
          go_wp2
          go_ret2
          exact ⟨by simp [Al.out, i0, i2, i3, i4], HA.out.as (by simp [Al.out, i0, i2, i3, i4]), HC.out.as (by simp [Al.out, i0, i2, i3, i4]), Chg.refl _ _⟩

theorem AHeard_c {w : World} {ba bc : Nat} {s : Su} {a : Al} {c : Ck} (hA : AlAt w ba s bc a) (hC : CkAt w bc c) (x : Int) (hst0 : 0 ≤ a.st) (hst1 : a.st ≤ 3) :
    Calls Tryz.prog 180 #[.pointer (some ⟨ba, 0, none⟩), .int .u8 x] w fun e w' => e = .returned (.int .u8 (a.heard s c x).2.2) ∧ AlAt w' ba s bc (a.heard s c x).1 ∧ CkAt w' bc (a.heard s c x).2.1 ∧ Chg [ba, bc] w w' := by
  obtain ⟨st, own, their, p⟩ := a
  dsimp only at hst0 hst1
  have n_ba_bc : ba ≠ bc := hA.ne hC (by decide)
  have n_bc_ba : bc ≠ ba := fun e => n_ba_bc e.symm
  have HA := Lib.hid hA
  have HC := Lib.hid hC
  have hAc := hA.c
  have hAf := hA.f
  clear hA hC
  have hx : x = 0 ∨ x = 1 ∨ x = 2 ∨ x = 3 ∨ (x ≠ 0 ∧ x ≠ 1 ∧ x ≠ 2 ∧ x ≠ 3) := by omega
  obtain h | h | h | h : st = 0 ∨ st = 1 ∨ st = 2 ∨ st = 3 := by omega
  · subst h
    obtain rfl | rfl | rfl | rfl | ⟨x0, x1, x2, x3⟩ := hx
    · have A1 := HA.out
      have C1 := HC.out
      have G1 := (Chg.refl [ba, bc] w)
      go_enter Tryz.func180, Tryz.ntmps180
      go_wp2_with (first | ((with_reducible refine (AIsHurry_c HA.out).mono ?_); rintro e w1 ⟨rfl, rfl⟩))
      go_ret
      exact ⟨by simp [Al.heard], A1.as (by simp [Al.heard]), C1.as (by simp [Al.heard]), G1⟩
    · have A1 := HA.out
      have C1 := HC.out
      have G1 := (Chg.refl [ba, bc] w)
      go_enter Tryz.func180, Tryz.ntmps180
      go_wp2_with (first | ((with_reducible refine (AIsHurry_c HA.out).mono ?_); rintro e w1 ⟨rfl, rfl⟩))
      go_ret
      exact ⟨by simp [Al.heard], A1.as (by simp [Al.heard]), C1.as (by simp [Al.heard]), G1⟩
    · have A1 := HA.out
      have C1 := HC.out
      have G1 := (Chg.refl [ba, bc] w)
      go_enter Tryz.func180, Tryz.ntmps180
      go_wp2_with (first | ((with_reducible refine (AIsHurry_c HA.out).mono ?_); rintro e w1 ⟨rfl, rfl⟩) | ((with_reducible refine (AIsHurry_c (a := ⟨0, own, true, p⟩) (A1.as (by simp))).mono ?_); rintro e w1 ⟨rfl, rfl⟩))
      go_ret
      exact ⟨by simp [Al.heard], A1.as (by simp [Al.heard]), C1.as (by simp [Al.heard]), G1⟩
    · have A1 := HA.out
      have C1 := HC.out
      have G1 := (Chg.refl [ba, bc] w)
      go_enter Tryz.func180, Tryz.ntmps180
      go_wp2_with (first | ((with_reducible refine (AIsHurry_c HA.out).mono ?_); rintro e w1 ⟨rfl, rfl⟩))
      go_ret
      exact ⟨by simp [Al.heard], A1.as (by simp [Al.heard]), C1.as (by simp [Al.heard]), G1⟩
    · have k0 : (x == 0) = false := by simp [x0]
      have k1 : (x == 1) = false := by simp [x1]
      have k2 : (x == 2) = false := by simp [x2]
      have k3 : (x == 3) = false := by simp [x3]
      have A1 := HA.out
      have C1 := HC.out
      have G1 := (Chg.refl [ba, bc] w)
      go_enter Tryz.func180, Tryz.ntmps180
      go_wp2_with (first | ((with_reducible refine (AIsHurry_c HA.out).mono ?_); rintro e w1 ⟨rfl, rfl⟩))
      go_ret
      exact ⟨by simp [Al.heard], A1.as (by simp [Al.heard]), C1.as (by simp [Al.heard]), G1⟩
  · subst h
    obtain rfl | rfl | rfl | rfl | ⟨x0, x1, x2, x3⟩ := hx
    · have A1 := HA.out
      have C1 := HC.out
      have G1 := (Chg.refl [ba, bc] w)
      have CP := Lib.hid (ANear_c (s := s) (a := ⟨1, own, their, p⟩) (A1) C1)
      go_enter Tryz.func180, Tryz.ntmps180
      go_wp2_with (first | ((with_reducible refine (AIsHurry_c HA.out).mono ?_); rintro e w1 ⟨rfl, rfl⟩) | ((with_reducible refine CP.out.mono ?_); rintro e w5 ⟨rfl, A5, C5, K5⟩))
      go_ret
      exact ⟨by simp [Al.heard, Al.hurry], A5.as (by simp [Al.heard]), C5.as (by simp [Al.heard]), G1.then K5⟩
    · have A1 := HA.out
      have C1 := HC.out
      have G1 := (Chg.refl [ba, bc] w)
      have CP := Lib.hid (ANear_c (s := s) (a := ⟨1, own, their, p⟩) (A1) C1)
      go_enter Tryz.func180, Tryz.ntmps180
      go_wp2_with (first | ((with_reducible refine (AIsHurry_c HA.out).mono ?_); rintro e w1 ⟨rfl, rfl⟩) | ((with_reducible refine CP.out.mono ?_); rintro e w5 ⟨rfl, A5, C5, K5⟩))
      go_ret
      exact ⟨by simp [Al.heard, Al.hurry], A5.as (by simp [Al.heard]), C5.as (by simp [Al.heard]), G1.then K5⟩
    · have A1 := (HA.out.set 16 (.bool true))
      have C1 := (HC.out.far n_ba_bc 16 (.bool true))
      have G1 := ((Chg.refl [ba, bc] w).set (b := ba) (i := 16) (by simp) (.bool true))
      have CP := Lib.hid (ANear_c (s := s) (a := ⟨1, own, true, p⟩) (A1.as (by simp)) C1)
      go_enter Tryz.func180, Tryz.ntmps180
      go_wp2_with (first | ((with_reducible refine (AIsHurry_c HA.out).mono ?_); rintro e w1 ⟨rfl, rfl⟩) | ((with_reducible refine CP.out.mono ?_); rintro e w5 ⟨rfl, A5, C5, K5⟩))
      go_ret
      exact ⟨by simp [Al.heard, Al.hurry], A5.as (by simp [Al.heard]), C5.as (by simp [Al.heard]), G1.then K5⟩
    · have A1 := HA.out
      have C1 := HC.out
      have G1 := (Chg.refl [ba, bc] w)
      go_enter Tryz.func180, Tryz.ntmps180
      go_wp2_with (first | ((with_reducible refine (AIsHurry_c HA.out).mono ?_); rintro e w1 ⟨rfl, rfl⟩))
      go_ret
      exact ⟨by simp [Al.heard, Al.hurry], A1.as (by simp [Al.heard, Al.hurry]), C1.as (by simp [Al.heard, Al.hurry]), G1⟩
    · have k0 : (x == 0) = false := by simp [x0]
      have k1 : (x == 1) = false := by simp [x1]
      have k2 : (x == 2) = false := by simp [x2]
      have k3 : (x == 3) = false := by simp [x3]
      have A1 := HA.out
      have C1 := HC.out
      have G1 := (Chg.refl [ba, bc] w)
      go_enter Tryz.func180, Tryz.ntmps180
      go_wp2_with (first | ((with_reducible refine (AIsHurry_c HA.out).mono ?_); rintro e w1 ⟨rfl, rfl⟩))
      go_ret
      exact ⟨by simp [Al.heard, Al.hurry, x0, x1, x2, x3], A1.as (by simp [Al.heard, Al.hurry, x0, x1, x2, x3]), C1.as (by simp [Al.heard, Al.hurry, x0, x1, x2, x3]), G1⟩
  · subst h
    obtain rfl | rfl | rfl | rfl | ⟨x0, x1, x2, x3⟩ := hx
    · have A1 := HA.out
      have C1 := HC.out
      have G1 := (Chg.refl [ba, bc] w)
      go_enter Tryz.func180, Tryz.ntmps180
      go_wp2_with (first | ((with_reducible refine (AIsHurry_c HA.out).mono ?_); rintro e w1 ⟨rfl, rfl⟩))
      go_ret
      exact ⟨by simp [Al.heard, Al.hurry], A1.as (by simp [Al.heard, Al.hurry]), C1.as (by simp [Al.heard, Al.hurry]), G1⟩
    · have A1 := (((HA.out.set 17 (.bool false)).set 18 (.int .i64 0)).set 19 (.int .i64 0))
      have C1 := (((HC.out.far n_ba_bc 17 (.bool false)).far n_ba_bc 18 (.int .i64 0)).far n_ba_bc 19 (.int .i64 0))
      have G1 := ((((Chg.refl [ba, bc] w).set (b := ba) (i := 17) (by simp) (.bool false)).set (b := ba) (i := 18) (by simp) (.int .i64 0)).set (b := ba) (i := 19) (by simp) (.int .i64 0))
      have CP := Lib.hid (AProve_c (s := s) (a := ⟨2, own, their, ⟨false, 0, 0⟩⟩) (A1.as (by simp)) C1)
      go_enter Tryz.func180, Tryz.ntmps180
      go_wp2_with (first | ((with_reducible refine (AIsHurry_c HA.out).mono ?_); rintro e w1 ⟨rfl, rfl⟩) | ((with_reducible refine CP.out.mono ?_); rintro e w5 ⟨rfl, A5, C5, K5⟩))
      go_ret
      exact ⟨by simp [Al.heard, Al.hurry], A5.as (by simp [Al.heard]), C5.as (by simp [Al.heard]), G1.then K5⟩
    · have A1 := ((((HA.out.set 16 (.bool true)).set 17 (.bool false)).set 18 (.int .i64 0)).set 19 (.int .i64 0))
      have C1 := ((((HC.out.far n_ba_bc 16 (.bool true)).far n_ba_bc 17 (.bool false)).far n_ba_bc 18 (.int .i64 0)).far n_ba_bc 19 (.int .i64 0))
      have G1 := (((((Chg.refl [ba, bc] w).set (b := ba) (i := 16) (by simp) (.bool true)).set (b := ba) (i := 17) (by simp) (.bool false)).set (b := ba) (i := 18) (by simp) (.int .i64 0)).set (b := ba) (i := 19) (by simp) (.int .i64 0))
      have CP := Lib.hid (AProve_c (s := s) (a := ⟨2, own, true, ⟨false, 0, 0⟩⟩) (A1.as (by simp)) C1)
      go_enter Tryz.func180, Tryz.ntmps180
      go_wp2_with (first | ((with_reducible refine (AIsHurry_c HA.out).mono ?_); rintro e w1 ⟨rfl, rfl⟩) | ((with_reducible refine CP.out.mono ?_); rintro e w5 ⟨rfl, A5, C5, K5⟩))
      go_ret
      exact ⟨by simp [Al.heard, Al.hurry], A5.as (by simp [Al.heard]), C5.as (by simp [Al.heard]), G1.then K5⟩
    · have A1 := HA.out
      have C1 := HC.out
      have G1 := (Chg.refl [ba, bc] w)
      go_enter Tryz.func180, Tryz.ntmps180
      go_wp2_with (first | ((with_reducible refine (AIsHurry_c HA.out).mono ?_); rintro e w1 ⟨rfl, rfl⟩))
      go_ret
      exact ⟨by simp [Al.heard, Al.hurry], A1.as (by simp [Al.heard]), C1.as (by simp [Al.heard]), G1⟩
    · have k0 : (x == 0) = false := by simp [x0]
      have k1 : (x == 1) = false := by simp [x1]
      have k2 : (x == 2) = false := by simp [x2]
      have k3 : (x == 3) = false := by simp [x3]
      have A1 := HA.out
      have C1 := HC.out
      have G1 := (Chg.refl [ba, bc] w)
      go_enter Tryz.func180, Tryz.ntmps180
      go_wp2_with (first | ((with_reducible refine (AIsHurry_c HA.out).mono ?_); rintro e w1 ⟨rfl, rfl⟩))
      go_ret
      exact ⟨by simp [Al.heard, Al.hurry, x0, x1, x2, x3], A1.as (by simp [Al.heard, Al.hurry, x0, x1, x2, x3]), C1.as (by simp [Al.heard, Al.hurry, x0, x1, x2, x3]), G1⟩
  · subst h
    obtain rfl | rfl | rfl | rfl | ⟨x0, x1, x2, x3⟩ := hx
    · cases own <;> cases their
      · have A1 := HA.out
        have C1 := HC.out
        have G1 := (Chg.refl [ba, bc] w)
        have CP := Lib.hid (ANear_c (s := s) (a := ⟨3, false, false, p⟩) (A1) C1)
        go_enter Tryz.func180, Tryz.ntmps180
        go_wp2_with (first | ((with_reducible refine (AIsHurry_c HA.out).mono ?_); rintro e w1 ⟨rfl, rfl⟩) | ((with_reducible refine CP.out.mono ?_); rintro e w5 ⟨rfl, A5, C5, K5⟩))
        go_ret
        exact ⟨by simp [Al.heard, Al.hurry], A5.as (by simp [Al.heard]), C5.as (by simp [Al.heard]), G1.then K5⟩
      · have A1 := HA.out
        have C1 := HC.out
        have G1 := (Chg.refl [ba, bc] w)
        have CP := Lib.hid (ANear_c (s := s) (a := ⟨3, false, true, p⟩) (A1) C1)
        go_enter Tryz.func180, Tryz.ntmps180
        go_wp2_with (first | ((with_reducible refine (AIsHurry_c HA.out).mono ?_); rintro e w1 ⟨rfl, rfl⟩) | ((with_reducible refine CP.out.mono ?_); rintro e w5 ⟨rfl, A5, C5, K5⟩))
        go_ret
        exact ⟨by simp [Al.heard, Al.hurry], A5.as (by simp [Al.heard]), C5.as (by simp [Al.heard]), G1.then K5⟩
      · have A1 := HA.out
        have C1 := HC.out
        have G1 := (Chg.refl [ba, bc] w)
        have CP := Lib.hid (ANear_c (s := s) (a := ⟨3, true, false, p⟩) (A1) C1)
        go_enter Tryz.func180, Tryz.ntmps180
        go_wp2_with (first | ((with_reducible refine (AIsHurry_c HA.out).mono ?_); rintro e w1 ⟨rfl, rfl⟩) | ((with_reducible refine CP.out.mono ?_); rintro e w5 ⟨rfl, A5, C5, K5⟩))
        go_ret
        exact ⟨by simp [Al.heard, Al.hurry], A5.as (by simp [Al.heard]), C5.as (by simp [Al.heard]), G1.then K5⟩
      · have A1 := HA.out
        have C1 := HC.out
        have G1 := (Chg.refl [ba, bc] w)
        have CP := Lib.hid (ANear_c (s := s) (a := ⟨3, true, true, p⟩) (A1) C1)
        go_enter Tryz.func180, Tryz.ntmps180
        go_wp2_with (first | ((with_reducible refine (AIsHurry_c HA.out).mono ?_); rintro e w1 ⟨rfl, rfl⟩) | ((with_reducible refine CP.out.mono ?_); rintro e w5 ⟨rfl, A5, C5, K5⟩))
        go_ret
        exact ⟨by simp [Al.heard, Al.hurry], A5.as (by simp [Al.heard]), C5.as (by simp [Al.heard]), G1.then K5⟩
    · cases own <;> cases their
      · have A1 := HA.out
        have C1 := HC.out
        have G1 := (Chg.refl [ba, bc] w)
        go_enter Tryz.func180, Tryz.ntmps180
        go_wp2_with (first | ((with_reducible refine (AIsHurry_c HA.out).mono ?_); rintro e w1 ⟨rfl, rfl⟩))
        go_ret
        exact ⟨by simp [Al.heard, Al.hurry], A1.as (by simp [Al.heard, Al.hurry]), C1.as (by simp [Al.heard, Al.hurry]), G1⟩
      · have A1 := HA.out
        have C1 := HC.out
        have G1 := (Chg.refl [ba, bc] w)
        go_enter Tryz.func180, Tryz.ntmps180
        go_wp2_with (first | ((with_reducible refine (AIsHurry_c HA.out).mono ?_); rintro e w1 ⟨rfl, rfl⟩))
        go_ret
        exact ⟨by simp [Al.heard, Al.hurry], A1.as (by simp [Al.heard, Al.hurry]), C1.as (by simp [Al.heard, Al.hurry]), G1⟩
      · have A1 := HA.out
        have C1 := HC.out
        have G1 := (Chg.refl [ba, bc] w)
        go_enter Tryz.func180, Tryz.ntmps180
        go_wp2_with (first | ((with_reducible refine (AIsHurry_c HA.out).mono ?_); rintro e w1 ⟨rfl, rfl⟩))
        go_ret
        exact ⟨by simp [Al.heard, Al.hurry], A1.as (by simp [Al.heard, Al.hurry]), C1.as (by simp [Al.heard, Al.hurry]), G1⟩
      · have A1 := HA.out
        have C1 := HC.out
        have G1 := (Chg.refl [ba, bc] w)
        go_enter Tryz.func180, Tryz.ntmps180
        go_wp2_with (first | ((with_reducible refine (AIsHurry_c HA.out).mono ?_); rintro e w1 ⟨rfl, rfl⟩))
        go_ret
        exact ⟨by simp [Al.heard, Al.hurry], A1.as (by simp [Al.heard, Al.hurry]), C1.as (by simp [Al.heard, Al.hurry]), G1⟩
    · cases own <;> cases their
      · have A1 := (HA.out.set 16 (.bool true))
        have C1 := (HC.out.far n_ba_bc 16 (.bool true))
        have G1 := ((Chg.refl [ba, bc] w).set (b := ba) (i := 16) (by simp) (.bool true))
        have CP := Lib.hid (AProve_c (s := s) (a := ⟨3, false, true, p⟩) (A1.as (by simp)) C1)
        have CH1 : Hid (Calls Tryz.prog 163 #[.pointer (some ⟨ba, 0, none⟩)] w fun e w' => e = .returned (.bool false) ∧ w = w') := AIsHurry_c HA.out
        have CH2 : Hid (Calls Tryz.prog 163 #[.pointer (some ⟨ba, 0, none⟩)] (w.setCell ⟨ba, 16, none⟩ (.bool true)) fun e w' => e = .returned (.bool true) ∧ (w.setCell ⟨ba, 16, none⟩ (.bool true)) = w') := AIsHurry_c (s := s) (bc := bc) (a := ⟨3, false, true, p⟩) (A1.as (by simp))
        go_enter Tryz.func180, Tryz.ntmps180
        go_wp2_with (first | ((with_reducible refine CH1.out.mono ?_); rintro e w1 ⟨rfl, rfl⟩) | ((with_reducible refine CH2.out.mono ?_); rintro e w1 ⟨rfl, rfl⟩) | ((with_reducible refine CP.out.mono ?_); rintro e w5 ⟨rfl, A5, C5, K5⟩))
        go_ret
        exact ⟨by simp [Al.heard, Al.hurry], A5.as (by simp [Al.heard, Al.hurry]), C5.as (by simp [Al.heard, Al.hurry]), G1.then K5⟩
      · have A1 := (HA.out.set 16 (.bool true))
        have C1 := (HC.out.far n_ba_bc 16 (.bool true))
        have G1 := ((Chg.refl [ba, bc] w).set (b := ba) (i := 16) (by simp) (.bool true))
        go_enter Tryz.func180, Tryz.ntmps180
        go_wp2_with (first | ((with_reducible refine (AIsHurry_c HA.out).mono ?_); rintro e w1 ⟨rfl, rfl⟩) | ((with_reducible refine (AIsHurry_c (a := ⟨3, false, true, p⟩) (A1.as (by simp))).mono ?_); rintro e w1 ⟨rfl, rfl⟩))
        go_ret
        exact ⟨by simp [Al.heard, Al.hurry], A1.as (by simp [Al.heard, Al.hurry]), C1.as (by simp [Al.heard, Al.hurry]), G1⟩
      · have A1 := (HA.out.set 16 (.bool true))
        have C1 := (HC.out.far n_ba_bc 16 (.bool true))
        have G1 := ((Chg.refl [ba, bc] w).set (b := ba) (i := 16) (by simp) (.bool true))
        go_enter Tryz.func180, Tryz.ntmps180
        go_wp2_with (first | ((with_reducible refine (AIsHurry_c HA.out).mono ?_); rintro e w1 ⟨rfl, rfl⟩) | ((with_reducible refine (AIsHurry_c (a := ⟨3, true, true, p⟩) (A1.as (by simp))).mono ?_); rintro e w1 ⟨rfl, rfl⟩))
        go_ret
        exact ⟨by simp [Al.heard, Al.hurry], A1.as (by simp [Al.heard, Al.hurry]), C1.as (by simp [Al.heard, Al.hurry]), G1⟩
      · have A1 := (HA.out.set 16 (.bool true))
        have C1 := (HC.out.far n_ba_bc 16 (.bool true))
        have G1 := ((Chg.refl [ba, bc] w).set (b := ba) (i := 16) (by simp) (.bool true))
        go_enter Tryz.func180, Tryz.ntmps180
        go_wp2_with (first | ((with_reducible refine (AIsHurry_c HA.out).mono ?_); rintro e w1 ⟨rfl, rfl⟩) | ((with_reducible refine (AIsHurry_c (a := ⟨3, true, true, p⟩) (A1.as (by simp))).mono ?_); rintro e w1 ⟨rfl, rfl⟩))
        go_ret
        exact ⟨by simp [Al.heard, Al.hurry], A1.as (by simp [Al.heard, Al.hurry]), C1.as (by simp [Al.heard, Al.hurry]), G1⟩
    · cases own <;> cases their
      · have A1 := HA.out
        have C1 := HC.out
        have G1 := (Chg.refl [ba, bc] w)
        go_enter Tryz.func180, Tryz.ntmps180
        go_wp2_with (first | ((with_reducible refine (AIsHurry_c HA.out).mono ?_); rintro e w1 ⟨rfl, rfl⟩))
        go_ret
        exact ⟨by simp [Al.heard, Al.hurry], A1.as (by simp [Al.heard]), C1.as (by simp [Al.heard]), G1⟩
      · have A1 := HA.out
        have C1 := HC.out
        have G1 := (Chg.refl [ba, bc] w)
        go_enter Tryz.func180, Tryz.ntmps180
        go_wp2_with (first | ((with_reducible refine (AIsHurry_c HA.out).mono ?_); rintro e w1 ⟨rfl, rfl⟩))
        go_ret
        exact ⟨by simp [Al.heard, Al.hurry], A1.as (by simp [Al.heard]), C1.as (by simp [Al.heard]), G1⟩
      · have A1 := HA.out
        have C1 := HC.out
        have G1 := (Chg.refl [ba, bc] w)
        go_enter Tryz.func180, Tryz.ntmps180
        go_wp2_with (first | ((with_reducible refine (AIsHurry_c HA.out).mono ?_); rintro e w1 ⟨rfl, rfl⟩))
        go_ret
        exact ⟨by simp [Al.heard, Al.hurry], A1.as (by simp [Al.heard]), C1.as (by simp [Al.heard]), G1⟩
      · have A1 := HA.out
        have C1 := HC.out
        have G1 := (Chg.refl [ba, bc] w)
        go_enter Tryz.func180, Tryz.ntmps180
        go_wp2_with (first | ((with_reducible refine (AIsHurry_c HA.out).mono ?_); rintro e w1 ⟨rfl, rfl⟩))
        go_ret
        exact ⟨by simp [Al.heard, Al.hurry], A1.as (by simp [Al.heard]), C1.as (by simp [Al.heard]), G1⟩
    · have k0 : (x == 0) = false := by simp [x0]
      have k1 : (x == 1) = false := by simp [x1]
      have k2 : (x == 2) = false := by simp [x2]
      have k3 : (x == 3) = false := by simp [x3]
      cases own <;> cases their
      · have A1 := HA.out
        have C1 := HC.out
        have G1 := (Chg.refl [ba, bc] w)
        go_enter Tryz.func180, Tryz.ntmps180
        go_wp2_with (first | ((with_reducible refine (AIsHurry_c HA.out).mono ?_); rintro e w1 ⟨rfl, rfl⟩))
        go_ret
        exact ⟨by simp [Al.heard, Al.hurry, x0, x1, x2, x3], A1.as (by simp [Al.heard, Al.hurry, x0, x1, x2, x3]), C1.as (by simp [Al.heard, Al.hurry, x0, x1, x2, x3]), G1⟩
      · have A1 := HA.out
        have C1 := HC.out
        have G1 := (Chg.refl [ba, bc] w)
        go_enter Tryz.func180, Tryz.ntmps180
        go_wp2_with (first | ((with_reducible refine (AIsHurry_c HA.out).mono ?_); rintro e w1 ⟨rfl, rfl⟩))
        go_ret
        exact ⟨by simp [Al.heard, Al.hurry, x0, x1, x2, x3], A1.as (by simp [Al.heard, Al.hurry, x0, x1, x2, x3]), C1.as (by simp [Al.heard, Al.hurry, x0, x1, x2, x3]), G1⟩
      · have A1 := HA.out
        have C1 := HC.out
        have G1 := (Chg.refl [ba, bc] w)
        go_enter Tryz.func180, Tryz.ntmps180
        go_wp2_with (first | ((with_reducible refine (AIsHurry_c HA.out).mono ?_); rintro e w1 ⟨rfl, rfl⟩))
        go_ret
        exact ⟨by simp [Al.heard, Al.hurry, x0, x1, x2, x3], A1.as (by simp [Al.heard, Al.hurry, x0, x1, x2, x3]), C1.as (by simp [Al.heard, Al.hurry, x0, x1, x2, x3]), G1⟩
      · have A1 := HA.out
        have C1 := HC.out
        have G1 := (Chg.refl [ba, bc] w)
        go_enter Tryz.func180, Tryz.ntmps180
        go_wp2_with (first | ((with_reducible refine (AIsHurry_c HA.out).mono ?_); rintro e w1 ⟨rfl, rfl⟩))
        go_ret
        exact ⟨by simp [Al.heard, Al.hurry, x0, x1, x2, x3], A1.as (by simp [Al.heard, Al.hurry, x0, x1, x2, x3]), C1.as (by simp [Al.heard, Al.hurry, x0, x1, x2, x3]), G1⟩
end
/-! ### The walk of align.Unit: one more unit while it is proved. -/
section
open Go Go.RowKit
set_option linter.unusedVariables false
set_option maxHeartbeats 1000000
set_option maxRecDepth 100000

theorem AUnit_c {w : World} {ba bc : Nat} {s : Su} {a : Al} {c : Ck} (hA : AlAt w ba s bc a) (hC : CkAt w bc c) (wrong : Bool) (hp : a.p.ok) :
    Calls Tryz.prog 178 #[.pointer (some ⟨ba, 0, none⟩), .bool wrong] w fun e w' => e = .returned (.int .u8 (a.unit s c wrong).2.2) ∧ AlAt w' ba s bc (a.unit s c wrong).1 ∧ CkAt w' bc (a.unit s c wrong).2.1 ∧ Chg [ba, bc] w w' := by
  obtain ⟨st, own, their, p⟩ := a
  dsimp only at hp
  have n_ba_bc : ba ≠ bc := hA.ne hC (by decide)
  have n_bc_ba : bc ≠ ba := fun e => n_ba_bc e.symm
  have HA := Lib.hid hA
  have HC := Lib.hid hC
  have hAc := hA.c
  have hAf := hA.f
  clear hA hC
  by_cases s3 : st = 3
  · subst s3
    obtain ⟨q, hq⟩ : ∃ q, p.unit wrong = q := ⟨_, rfl⟩
    obtain ⟨o, ho⟩ : ∃ o, p.over wrong = o := ⟨_, rfl⟩
    obtain ⟨n, hn⟩ : ∃ n, p.anew wrong = n := ⟨_, rfl⟩
    have CU : Hid (∀ w : World, Calls Tryz.prog 193 #[p.v, .bool wrong] w fun e w' => e = .returned (.tuple #[q.v, .bool n, .bool o]) ∧ Below w.heap.size w w') := fun w => by rw [← hq, ← ho, ← hn]; exact ProofUnit_c p wrong w hp
    have HQ := Lib.hid hq
    have HO := Lib.hid ho
    have HN := Lib.hid hn
    clear hq ho hn hp
    obtain ⟨qh, qn, qt⟩ := q
    go_enter Tryz.func178, Tryz.ntmps178
    go_upto_region 4 with (first | ((with_reducible refine (CU.out _).mono ?_); rintro e w2 ⟨rfl, hb2⟩))
    clear hAc hAf
    have A2 := (HA.out.below hb2).alloc (.cells #[.bool qh, .int .i64 qn, .int .i64 qt] 232)
    have C2 := (HC.out.below hb2).alloc (.cells #[.bool qh, .int .i64 qn, .int .i64 qt] 232)
    have G2 := ((Chg.refl [ba, bc] w).below hb2).alloc (.cells #[.bool qh, .int .i64 qn, .int .i64 qt] 232)
    have B2 := Blk.new w2 #[.bool qh, .int .i64 qn, .int .i64 qt] 232
    have nba : ba ≠ w2.heap.size := fun e => by have := (HA.out.below hb2).lt; omega
    have nab : w2.heap.size ≠ ba := fun e => nba e.symm
    clear hb2
    generalize w2.alloc (.cells #[.bool qh, .int .i64 qn, .int .i64 qt] 232) = W at A2 C2 G2 B2 ⊢
    generalize w2.heap.size = bp at B2 nba nab ⊢
    have hAc := A2.c
    have hAf := A2.f
    have hBc := B2.c
    have A3 := (((A2.set 17 (.bool qh)).set 18 (.int .i64 qn)).set 19 (.int .i64 qt))
    have C3 := (((C2.far n_ba_bc 17 (.bool qh)).far n_ba_bc 18 (.int .i64 qn)).far n_ba_bc 19 (.int .i64 qt))
    have G3 := (((G2.set (b := ba) (i := 17) (by simp) (.bool qh)).set (b := ba) (i := 18) (by simp) (.int .i64 qn)).set (b := ba) (i := 19) (by simp) (.int .i64 qt))
    have A3' := A3.as (cs' := Al.cells s bc ⟨3, own, their, ⟨qh, qn, qt⟩⟩) (by simp)
    have CP := Lib.hid (AProve_c (s := s) (a := ⟨3, own, their, ⟨qh, qn, qt⟩⟩) A3' C3)
    have HA3 := Lib.hid A3'
    have HC3 := Lib.hid C3
    have HG3 := Lib.hid G3
    clear A2 C2 G2 A3 A3' C3 G3 B2
    cases o
    · cases n
      · go_wp2
        go_ret
        exact ⟨by simp [Al.unit, HO.out, HN.out], HA3.out.as (by simp [Al.unit, HO.out, HN.out, HQ.out]), HC3.out.as (by simp [Al.unit, HO.out, HN.out]), HG3.out⟩
      · go_wp2_with (first | ((with_reducible refine CP.out.mono ?_); rintro e w5 ⟨rfl, A5, C5, K5⟩))
        go_ret
        exact ⟨by simp [Al.unit, HO.out, HN.out], A5.as (by simp [Al.unit, HO.out, HN.out, HQ.out]), C5.as (by simp [Al.unit, HO.out, HN.out, HQ.out]), HG3.out.then K5⟩
    · go_wp2
      go_ret
      exact ⟨by simp [Al.unit, HO.out], HA3.out.as (by simp [Al.unit, HO.out, HQ.out]), HC3.out.as (by simp [Al.unit, HO.out]), HG3.out⟩
  · have k3 : (st == 3) = false := by simp [s3]
    go_enter Tryz.func178, Tryz.ntmps178
    go_wp2
    go_ret
    exact ⟨by simp [Al.unit, s3], HA.out.as (by simp [Al.unit, s3]), HC.out.as (by simp [Al.unit, s3]), Chg.refl _ _⟩
end
end Go.Proofs.YtcllbmjmefeknaaGreatK
