/- The walks of package align. -/
import Derived.Test.YtdffinnnjcgfcaaGreatJmm
import Derived.Test.YtdffinnnjcgfcaaGreatM2
namespace Go.Proofs.YtdffinnnjcgfcaaGreatK
open Go Go.RowKit
set_option linter.unusedVariables false
set_option maxHeartbeats 1000000
set_option maxRecDepth 100000
abbrev Al.cells (s : Su) (bc : Nat) (a : Al) : Array Value := #[.bool s.cyc, .int .i64 s.n1, .int .i64 s.n2, .int .i64 s.hd, .int .i64 s.oc, .int .i64 s.t0, .int .i64 s.t1, .int .i64 s.t2, .int .i64 s.t3, .int .i64 s.t4, .int .i64 s.t5, .int .i64 s.t6, .int .i64 s.t7, .pointer (some ⟨bc, 0, none⟩), .int .u8 a.st, .bool a.own, .bool a.their, .bool a.p.hurry, .int .i64 a.p.n, .int .i64 a.p.tries]
abbrev AlAt (w : World) (b : Nat) (s : Su) (bc : Nat) (a : Al) : Prop := Blk w b (a.cells s bc) 162

theorem AIsHurry_c {w : World} {ba bc : Nat} {s : Su} {a : Al} (hA : AlAt w ba s bc a) :
    Calls Tryz.prog 107 #[.pointer (some ⟨ba, 0, none⟩)] w fun e w' => e = .returned (.bool a.hurry) ∧ w = w' := by
  obtain ⟨st, own, their, p⟩ := a
  have hAc := hA.c
  clear hA
  cases own <;> cases their
  all_goals
    go_enter Tryz.func107, Tryz.ntmps107
    go_wp2
    go_ret
    exact ⟨rfl, rfl⟩

theorem ANear_c {w : World} {ba bc : Nat} {s : Su} {a : Al} {c : Ck} (hA : AlAt w ba s bc a) (hC : CkAt w bc c) :
    Calls Tryz.prog 144 #[.pointer (some ⟨ba, 0, none⟩)] w fun e w' => e = .returned (.tuple #[]) ∧ AlAt w' ba s bc (a.near s c).1 ∧ CkAt w' bc (a.near s c).2 ∧ Chg [ba, bc] w w' := by
  have n_ba_bc : ba ≠ bc := hA.ne hC (by decide)
  have n_bc_ba : bc ≠ ba := fun e => n_ba_bc e.symm
  have HA := Lib.hid hA
  have HC := Lib.hid hC
  have hAc := hA.c
  have hAf := hA.f
  clear hA hC
  go_enter Tryz.func144, Tryz.ntmps144
  have A1 := (HA.out.set 14 (.int .u8 2))
  have C1 := (HC.out.far n_ba_bc 14 (.int .u8 2))
  have G1 := ((Chg.refl [ba, bc] w).set (b := ba) (i := 14) (by simp) (.int .u8 2))
  have HS := Lib.hid (Stop_c (l := [0, 2, 4]) (n := 3) (cap := 3) (C1.alloc (.cells #[.int .i64 0, .int .i64 2, .int .i64 4] 3)) (Blk.newAt (n := w.heap.size) (by simp [World.setCell]) #[.int .i64 0, .int .i64 2, .int .i64 4] 3) (by simp) (by simp) rfl)
  go_upto_region 2 with (first | ((with_reducible refine HS.out.mono ?_); rintro e w3 ⟨rfl, C2, K2⟩))
  have A2 := (A1.alloc (.cells #[.int .i64 0, .int .i64 2, .int .i64 4] 3)).chg K2 (by simpa using n_ba_bc)
  have G2 := (G1.alloc (.cells #[.int .i64 0, .int .i64 2, .int .i64 4] 3)).trans K2 (by simp)
  clear HS K2 hAc hAf
  go_wp2
  refine wp_region_up_tail 10 (by kernel_rfl) (by kernel_rfl) ?_
  simp only [List.take_succ_cons, List.take_zero, List.drop_succ_cons, List.drop_zero]
  have up_A2 := fun (g : Up _) => (Blk.below A2 g.ok).c
  repeat (go_big_quiet_step (fail))
  refine wpQuiet_nil ?_
  clear up_A2
  refine up_elim (fun w4 hb_w4 => ?_)
  go_wp2_with (first | ((with_reducible refine (Start_c (C2.below hb_w4) 3 _ (by omega) (by omega)).mono ?_); rintro e w5 ⟨⟨x, rfl⟩, C3, K3⟩))
  have A3 := (A2.below hb_w4).chg K3 (by simpa using n_ba_bc)
  have G3 := (G2.below hb_w4).trans K3 (by simp)
  go_end0
  exact ⟨rfl, A3.as (by simp [Al.near]), C3, G3⟩

theorem AEnd_c {w : World} {ba bc : Nat} {s : Su} {a : Al} {c : Ck} (hA : AlAt w ba s bc a) (hC : CkAt w bc c) :
    Calls Tryz.prog 92 #[.pointer (some ⟨ba, 0, none⟩)] w fun e w' => e = .returned (.tuple #[]) ∧ AlAt w' ba s bc (a.end c).1 ∧ CkAt w' bc (a.end c).2 ∧ Chg [ba, bc] w w' := by
  have n_ba_bc : ba ≠ bc := hA.ne hC (by decide)
  have n_bc_ba : bc ≠ ba := fun e => n_ba_bc e.symm
  have HA := Lib.hid hA
  have HC := Lib.hid hC
  have hAc := hA.c
  have hAf := hA.f
  clear hA hC
  go_enter Tryz.func92, Tryz.ntmps92
  have A1 := ((HA.out.set 14 (.int .u8 0)).set 16 (.bool false))
  have C1 := ((HC.out.far n_ba_bc 14 (.int .u8 0)).far n_ba_bc 16 (.bool false))
  have G1 := (((Chg.refl [ba, bc] w).set (b := ba) (i := 14) (by simp) (.int .u8 0)).set (b := ba) (i := 16) (by simp) (.bool false))
  have HS := Lib.hid (Stop_c (l := [0, 2, 3, 4]) (n := 4) (cap := 4) (C1.alloc (.cells #[.int .i64 0, .int .i64 2, .int .i64 3, .int .i64 4] 3)) (Blk.newAt (n := w.heap.size) (by simp [World.setCell]) #[.int .i64 0, .int .i64 2, .int .i64 3, .int .i64 4] 3) (by simp) (by simp) rfl)
  go_wp2_with (first | ((with_reducible refine HS.out.mono ?_); rintro e w3 ⟨rfl, C2, K2⟩))
  have A2 := (A1.alloc (.cells #[.int .i64 0, .int .i64 2, .int .i64 3, .int .i64 4] 3)).chg K2 (by simpa using n_ba_bc)
  have G2 := (G1.alloc (.cells #[.int .i64 0, .int .i64 2, .int .i64 3, .int .i64 4] 3)).trans K2 (by simp)
  clear HS K2 hAc hAf
  go_end0
  exact ⟨rfl, A2.as (by simp [Al.end]), C2, G2⟩

theorem ABegin_c {w : World} {ba bc : Nat} {s : Su} {a : Al} {c : Ck} (hA : AlAt w ba s bc a) (hC : CkAt w bc c) :
    Calls Tryz.prog 106 #[.pointer (some ⟨ba, 0, none⟩)] w fun e w' => e = .returned (.tuple #[]) ∧ AlAt w' ba s bc (a.begin s c).1 ∧ CkAt w' bc (a.begin s c).2 ∧ Chg [ba, bc] w w' := by
  have n_ba_bc : ba ≠ bc := hA.ne hC (by decide)
  have n_bc_ba : bc ≠ ba := fun e => n_ba_bc e.symm
  have HA := Lib.hid hA
  have HC := Lib.hid hC
  have hAc := hA.c
  have hAf := hA.f
  clear hA hC
  go_enter Tryz.func106, Tryz.ntmps106
  have A1 := (((((HA.out.set 14 (.int .u8 1)).set 16 (.bool false)).set 17 (.bool false)).set 18 (.int .i64 0)).set 19 (.int .i64 0))
  have C1 := (((((HC.out.far n_ba_bc 14 (.int .u8 1)).far n_ba_bc 16 (.bool false)).far n_ba_bc 17 (.bool false)).far n_ba_bc 18 (.int .i64 0)).far n_ba_bc 19 (.int .i64 0))
  have G1 := ((((((Chg.refl [ba, bc] w).set (b := ba) (i := 14) (by simp) (.int .u8 1)).set (b := ba) (i := 16) (by simp) (.bool false)).set (b := ba) (i := 17) (by simp) (.bool false)).set (b := ba) (i := 18) (by simp) (.int .i64 0)).set (b := ba) (i := 19) (by simp) (.int .i64 0))
  have HS := Lib.hid (Stop_c (l := [0, 3, 4]) (n := 3) (cap := 3) (C1.alloc (.cells #[.int .i64 0, .int .i64 3, .int .i64 4] 3)) (Blk.newAt (n := w.heap.size) (by simp [World.setCell]) #[.int .i64 0, .int .i64 3, .int .i64 4] 3) (by simp) (by simp) rfl)
  go_upto_region 3 with (first | ((with_reducible refine HS.out.mono ?_); rintro e w3 ⟨rfl, C2, K2⟩))
  have A2 := (A1.alloc (.cells #[.int .i64 0, .int .i64 3, .int .i64 4] 3)).chg K2 (by simpa using n_ba_bc)
  have G2 := (G1.alloc (.cells #[.int .i64 0, .int .i64 3, .int .i64 4] 3)).trans K2 (by simp)
  clear HS K2 hAc hAf
  go_wp2
  refine wp_region_up_tail 10 (by kernel_rfl) (by kernel_rfl) ?_
  simp only [List.take_succ_cons, List.take_zero, List.drop_succ_cons, List.drop_zero]
  have up_A2 := fun (g : Up _) => (Blk.below A2 g.ok).c
  repeat (go_big_quiet_step (fail))
  refine wpQuiet_nil ?_
  clear up_A2
  refine up_elim (fun w4 hb_w4 => ?_)
  go_wp2_with (first | ((with_reducible refine (Start_c (C2.below hb_w4) 2 _ (by omega) (by omega)).mono ?_); rintro e w5 ⟨⟨x, rfl⟩, C3, K3⟩))
  have A3 := (A2.below hb_w4).chg K3 (by simpa using n_ba_bc)
  have G3 := (G2.below hb_w4).trans K3 (by simp)
  go_end0
  exact ⟨rfl, A3.as (by simp [Al.begin]), C3, G3⟩

theorem AProve_c {w : World} {ba bc : Nat} {s : Su} {a : Al} {c : Ck} (hA : AlAt w ba s bc a) (hC : CkAt w bc c) :
    Calls Tryz.prog 108 #[.pointer (some ⟨ba, 0, none⟩)] w fun e w' => e = .returned (.tuple #[]) ∧ AlAt w' ba s bc (a.prove s c).1 ∧ CkAt w' bc (a.prove s c).2 ∧ Chg [ba, bc] w w' := by
  obtain ⟨st, own, their, p⟩ := a
  have n_ba_bc : ba ≠ bc := hA.ne hC (by decide)
  have n_bc_ba : bc ≠ ba := fun e => n_ba_bc e.symm
  have HA := Lib.hid hA
  have HC := Lib.hid hC
  have hAc := hA.c
  have hAf := hA.f
  clear hA hC
  have hh : ∃ h, (own || their) = h := ⟨_, rfl⟩
  obtain ⟨h, hh⟩ := hh
  have HH := Lib.hid hh
  have CH : Hid (∀ {w' : World} {st' : Int} {p' : Pf}, AlAt w' ba s bc ⟨st', own, their, p'⟩ → Calls Tryz.prog 107 #[.pointer (some ⟨ba, 0, none⟩)] w' fun e w'' => e = .returned (.bool h) ∧ w' = w'') := fun hA => by have := AIsHurry_c hA; simpa [Al.hurry, hh] using this
  clear hh
  go_enter Tryz.func108, Tryz.ntmps108
  go_wp2
  have A1 := (HA.out.set 14 (.int .u8 3))
  have C1 := (HC.out.far n_ba_bc 14 (.int .u8 3))
  have G1 := ((Chg.refl [ba, bc] w).set (b := ba) (i := 14) (by simp) (.int .u8 3))
  have A1' : AlAt (w.setCell ⟨ba, 14, none⟩ (.int .u8 3)) ba s bc ⟨3, own, their, p⟩ := A1.as (by simp)
  have CU : Hid (∀ g : Up (w.setCell ⟨ba, 14, none⟩ (.int .u8 3)), Calls Tryz.prog 107 #[.pointer (some ⟨ba, 0, none⟩)] g.val fun e w'' => e = .returned (.bool h) ∧ ∃ g' : Up (w.setCell ⟨ba, 14, none⟩ (.int .u8 3)), w'' = g'.val) := fun g => Up.calls_same g (CH.out (A1'.below g.ok))
  refine wp_region_up_tail 9 (by kernel_rfl) (by kernel_rfl) ?_
  simp only [List.take_succ_cons, List.take_zero, List.drop_succ_cons, List.drop_zero]
  have up_A1' := fun (g : Up _) => (Blk.below A1' g.ok).c
  repeat (go_big_quiet_step (exact CU.out _))
  refine wpQuiet_nil ?_
  clear up_A1'
  refine up_elim (fun w2 hb_w2 => ?_)
  have A2 := A1'.below hb_w2
  have C2 := C1.below hb_w2
  have G2 := G1.below hb_w2
  clear A1 A1' C1 G1 CU hAc hAf
  have HA2 := Lib.hid A2
  have HC2 := Lib.hid C2
  have HG2 := Lib.hid G2
  have hAc := A2.c
  have hAf := A2.f
  clear A2 C2 G2
  go_upto_region 2 with (fail)
  have A3 := (((HA2.out.set 17 (.bool h)).set 18 (.int .i64 0)).set 19 (.int .i64 p.tries))
  have C3 := (((HC2.out.far n_ba_bc 17 (.bool h)).far n_ba_bc 18 (.int .i64 0)).far n_ba_bc 19 (.int .i64 p.tries))
  have G3 := (((HG2.out.set (b := ba) (i := 17) (by simp) (.bool h)).set (b := ba) (i := 18) (by simp) (.int .i64 0)).set (b := ba) (i := 19) (by simp) (.int .i64 p.tries))
  have A3' := A3.as (cs' := Al.cells s bc ⟨3, own, their, ⟨h, 0, p.tries⟩⟩) (by simp)
  clear A3
  have HS := Lib.hid (Stop_c (l := [0, 2, 3, 4]) (n := 4) (cap := 4) (C3.alloc (.cells #[.int .i64 0, .int .i64 2, .int .i64 3, .int .i64 4] 3)) (Blk.newAt (n := w2.heap.size) (by simp [World.setCell]) #[.int .i64 0, .int .i64 2, .int .i64 3, .int .i64 4] 3) (by simp) (by simp) rfl)
  go_upto_region 3 with (first | ((with_reducible refine HS.out.mono ?_); rintro e w4 ⟨rfl, C4, K4⟩))
  have A4 := (A3'.alloc (.cells #[.int .i64 0, .int .i64 2, .int .i64 3, .int .i64 4] 3)).chg K4 (by simpa using n_ba_bc)
  have G4 := (G3.alloc (.cells #[.int .i64 0, .int .i64 2, .int .i64 3, .int .i64 4] 3)).trans K4 (by simp)
  clear HS K4 hAc hAf
  have A4' : AlAt w4 ba s bc ⟨3, own, their, ⟨h, 0, p.tries⟩⟩ := A4
  have hAc := A4.c
  have hAf := A4.f
  cases h
  · go_wp2_with (first | ((with_reducible refine (CH.out A4').mono ?_); rintro e w5 ⟨rfl, rfl⟩))
    refine wp_region_up_tail 10 (by kernel_rfl) (by kernel_rfl) ?_
    simp only [List.take_succ_cons, List.take_zero, List.drop_succ_cons, List.drop_zero]
    have up_A4' := fun (g : Up _) => (Blk.below A4' g.ok).c
    repeat (go_big_quiet_step (fail))
    refine wpQuiet_nil ?_
    clear up_A4'
    refine up_elim (fun w6 hb_w6 => ?_)
    go_wp2_with (first | ((with_reducible refine (Start_c (C4.below hb_w6) 4 _ (by omega) (by omega)).mono ?_); rintro e w7 ⟨⟨x, rfl⟩, C5, K5⟩))
    have A5 := (A4'.below hb_w6).chg K5 (by simpa using n_ba_bc)
    have G5 := (G4.below hb_w6).trans K5 (by simp)
    go_end0
    exact ⟨rfl, A5.as (by simp [Al.prove, Al.hurry, HH.out]), by rw [Al.prove, if_neg (by simp [Al.hurry, HH.out])]; exact C5, G5⟩
  · go_wp2_with (first | ((with_reducible refine (CH.out A4').mono ?_); rintro e w5 ⟨rfl, rfl⟩))
    refine wp_region_up_tail 10 (by kernel_rfl) (by kernel_rfl) ?_
    simp only [List.take_succ_cons, List.take_zero, List.drop_succ_cons, List.drop_zero]
    have up_A4' := fun (g : Up _) => (Blk.below A4' g.ok).c
    repeat (go_big_quiet_step (fail))
    refine wpQuiet_nil ?_
    clear up_A4'
    refine up_elim (fun w6 hb_w6 => ?_)
    go_wp2_with (first | ((with_reducible refine (Start_c (C4.below hb_w6) 0 _ (by omega) (by omega)).mono ?_); rintro e w7 ⟨⟨x, rfl⟩, C5, K5⟩))
    have A5 := (A4'.below hb_w6).chg K5 (by simpa using n_ba_bc)
    have G5 := (G4.below hb_w6).trans K5 (by simp)
    go_end0
    exact ⟨rfl, A5.as (by simp [Al.prove, Al.hurry, HH.out]), by rw [Al.prove, if_pos (by simp [Al.hurry, HH.out])]; exact C5, G5⟩
end Go.Proofs.YtdffinnnjcgfcaaGreatK
