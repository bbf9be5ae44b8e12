/- The walks of package align, continued: orders, statuses, units, timers. -/
import Derived.Test.YtdffinnnjcgfcaaGreatAln
namespace Go.Proofs.YtdffinnnjcgfcaaGreatK
open Go Go.RowKit
set_option linter.unusedVariables false
set_option maxHeartbeats 1000000
set_option maxRecDepth 100000

theorem AHurry_c {w : World} {ba bc : Nat} {s : Su} {a : Al} {c : Ck} (hA : AlAt w ba s bc a) (hC : CkAt w bc c) (on : Bool) :
    Calls Tryz.prog 70 #[.pointer (some ⟨ba, 0, none⟩), .bool on] w fun e w' => e = .returned (.tuple #[]) ∧ AlAt w' ba s bc (a.hurries s c on).1 ∧ CkAt w' bc (a.hurries s c on).2 ∧ Chg [ba, bc] w w' := by
  obtain ⟨st, own, their, p⟩ := a
  have n_ba_bc : ba ≠ bc := hA.ne hC (by decide)
  have n_bc_ba : bc ≠ ba := fun e => n_ba_bc e.symm
  have HA := Lib.hid hA
  have HC := Lib.hid hC
  have hAc := hA.c
  have hAf := hA.f
  clear hA hC
  by_cases s3 : st = 3
  · subst s3
    cases own <;> cases their <;> cases on
    · go_enter Tryz.func70, Tryz.ntmps70
      go_wp2_with (first | ((with_reducible refine (AIsHurry_c HA.out).mono ?_); rintro e w1 ⟨rfl, rfl⟩))
      have A1 := (HA.out.set 15 (.bool false))
      have C1 := (HC.out.far n_ba_bc 15 (.bool false))
      have G1 := ((Chg.refl [ba, bc] w).set (b := ba) (i := 15) (by simp) (.bool false))
      go_end0
      exact ⟨rfl, A1.as (by simp [Al.hurries, Al.hurry]), C1.as (by simp [Al.hurries, Al.hurry]), G1⟩
    · go_enter Tryz.func70, Tryz.ntmps70
      have A1 := (HA.out.set 15 (.bool true))
      have C1 := (HC.out.far n_ba_bc 15 (.bool true))
      have G1 := ((Chg.refl [ba, bc] w).set (b := ba) (i := 15) (by simp) (.bool true))
      have CP := Lib.hid (AProve_c (s := s) (a := ⟨3, true, false, p⟩) (A1.as (by simp)) C1)
      go_wp2_with (first | ((with_reducible refine (AIsHurry_c HA.out).mono ?_); rintro e w1 ⟨rfl, rfl⟩) | ((with_reducible refine CP.out.mono ?_); rintro e w5 ⟨rfl, A5, C5, K5⟩))
      go_end0
      exact ⟨rfl, A5, C5, G1.then K5⟩
    · go_enter Tryz.func70, Tryz.ntmps70
      go_wp2_with (first | ((with_reducible refine (AIsHurry_c HA.out).mono ?_); rintro e w1 ⟨rfl, rfl⟩))
      have A1 := (HA.out.set 15 (.bool false))
      have C1 := (HC.out.far n_ba_bc 15 (.bool false))
      have G1 := ((Chg.refl [ba, bc] w).set (b := ba) (i := 15) (by simp) (.bool false))
      go_end0
      exact ⟨rfl, A1.as (by simp [Al.hurries, Al.hurry]), C1.as (by simp [Al.hurries, Al.hurry]), G1⟩
    · go_enter Tryz.func70, Tryz.ntmps70
      go_wp2_with (first | ((with_reducible refine (AIsHurry_c HA.out).mono ?_); rintro e w1 ⟨rfl, rfl⟩))
      have A1 := (HA.out.set 15 (.bool true))
      have C1 := (HC.out.far n_ba_bc 15 (.bool true))
      have G1 := ((Chg.refl [ba, bc] w).set (b := ba) (i := 15) (by simp) (.bool true))
      go_end0
      exact ⟨rfl, A1.as (by simp [Al.hurries, Al.hurry]), C1.as (by simp [Al.hurries, Al.hurry]), G1⟩
    · go_enter Tryz.func70, Tryz.ntmps70
      go_wp2_with (first | ((with_reducible refine (AIsHurry_c HA.out).mono ?_); rintro e w1 ⟨rfl, rfl⟩))
      have A1 := (HA.out.set 15 (.bool false))
      have C1 := (HC.out.far n_ba_bc 15 (.bool false))
      have G1 := ((Chg.refl [ba, bc] w).set (b := ba) (i := 15) (by simp) (.bool false))
      go_end0
      exact ⟨rfl, A1.as (by simp [Al.hurries, Al.hurry]), C1.as (by simp [Al.hurries, Al.hurry]), G1⟩
    · go_enter Tryz.func70, Tryz.ntmps70
      go_wp2_with (first | ((with_reducible refine (AIsHurry_c HA.out).mono ?_); rintro e w1 ⟨rfl, rfl⟩))
      have A1 := (HA.out.set 15 (.bool true))
      have C1 := (HC.out.far n_ba_bc 15 (.bool true))
      have G1 := ((Chg.refl [ba, bc] w).set (b := ba) (i := 15) (by simp) (.bool true))
      go_end0
      exact ⟨rfl, A1.as (by simp [Al.hurries, Al.hurry]), C1.as (by simp [Al.hurries, Al.hurry]), G1⟩
    · go_enter Tryz.func70, Tryz.ntmps70
      go_wp2_with (first | ((with_reducible refine (AIsHurry_c HA.out).mono ?_); rintro e w1 ⟨rfl, rfl⟩))
      have A1 := (HA.out.set 15 (.bool false))
      have C1 := (HC.out.far n_ba_bc 15 (.bool false))
      have G1 := ((Chg.refl [ba, bc] w).set (b := ba) (i := 15) (by simp) (.bool false))
      go_end0
      exact ⟨rfl, A1.as (by simp [Al.hurries, Al.hurry]), C1.as (by simp [Al.hurries, Al.hurry]), G1⟩
    · go_enter Tryz.func70, Tryz.ntmps70
      go_wp2_with (first | ((with_reducible refine (AIsHurry_c HA.out).mono ?_); rintro e w1 ⟨rfl, rfl⟩))
      have A1 := (HA.out.set 15 (.bool true))
      have C1 := (HC.out.far n_ba_bc 15 (.bool true))
      have G1 := ((Chg.refl [ba, bc] w).set (b := ba) (i := 15) (by simp) (.bool true))
      go_end0
      exact ⟨rfl, A1.as (by simp [Al.hurries, Al.hurry]), C1.as (by simp [Al.hurries, Al.hurry]), G1⟩
  · have k3 : (st == 3) = false := by simp [s3]
    cases own <;> cases their <;> cases on
    · go_enter Tryz.func70, Tryz.ntmps70
      go_wp2_with (first | ((with_reducible refine (AIsHurry_c HA.out).mono ?_); rintro e w1 ⟨rfl, rfl⟩))
      have A1 := (HA.out.set 15 (.bool false))
      have C1 := (HC.out.far n_ba_bc 15 (.bool false))
      have G1 := ((Chg.refl [ba, bc] w).set (b := ba) (i := 15) (by simp) (.bool false))
      go_end0
      exact ⟨rfl, A1.as (by simp [Al.hurries, Al.hurry, s3]), C1.as (by simp [Al.hurries, Al.hurry, s3]), G1⟩
    · go_enter Tryz.func70, Tryz.ntmps70
      go_wp2_with (first | ((with_reducible refine (AIsHurry_c HA.out).mono ?_); rintro e w1 ⟨rfl, rfl⟩))
      have A1 := (HA.out.set 15 (.bool true))
      have C1 := (HC.out.far n_ba_bc 15 (.bool true))
      have G1 := ((Chg.refl [ba, bc] w).set (b := ba) (i := 15) (by simp) (.bool true))
      go_end0
      exact ⟨rfl, A1.as (by simp [Al.hurries, Al.hurry, s3]), C1.as (by simp [Al.hurries, Al.hurry, s3]), G1⟩
    · go_enter Tryz.func70, Tryz.ntmps70
      go_wp2_with (first | ((with_reducible refine (AIsHurry_c HA.out).mono ?_); rintro e w1 ⟨rfl, rfl⟩))
      have A1 := (HA.out.set 15 (.bool false))
      have C1 := (HC.out.far n_ba_bc 15 (.bool false))
      have G1 := ((Chg.refl [ba, bc] w).set (b := ba) (i := 15) (by simp) (.bool false))
      go_end0
      exact ⟨rfl, A1.as (by simp [Al.hurries, Al.hurry, s3]), C1.as (by simp [Al.hurries, Al.hurry, s3]), G1⟩
    · go_enter Tryz.func70, Tryz.ntmps70
      go_wp2_with (first | ((with_reducible refine (AIsHurry_c HA.out).mono ?_); rintro e w1 ⟨rfl, rfl⟩))
      have A1 := (HA.out.set 15 (.bool true))
      have C1 := (HC.out.far n_ba_bc 15 (.bool true))
      have G1 := ((Chg.refl [ba, bc] w).set (b := ba) (i := 15) (by simp) (.bool true))
      go_end0
      exact ⟨rfl, A1.as (by simp [Al.hurries, Al.hurry, s3]), C1.as (by simp [Al.hurries, Al.hurry, s3]), G1⟩
    · go_enter Tryz.func70, Tryz.ntmps70
      go_wp2_with (first | ((with_reducible refine (AIsHurry_c HA.out).mono ?_); rintro e w1 ⟨rfl, rfl⟩))
      have A1 := (HA.out.set 15 (.bool false))
      have C1 := (HC.out.far n_ba_bc 15 (.bool false))
      have G1 := ((Chg.refl [ba, bc] w).set (b := ba) (i := 15) (by simp) (.bool false))
      go_end0
      exact ⟨rfl, A1.as (by simp [Al.hurries, Al.hurry, s3]), C1.as (by simp [Al.hurries, Al.hurry, s3]), G1⟩
    · go_enter Tryz.func70, Tryz.ntmps70
      go_wp2_with (first | ((with_reducible refine (AIsHurry_c HA.out).mono ?_); rintro e w1 ⟨rfl, rfl⟩))
      have A1 := (HA.out.set 15 (.bool true))
      have C1 := (HC.out.far n_ba_bc 15 (.bool true))
      have G1 := ((Chg.refl [ba, bc] w).set (b := ba) (i := 15) (by simp) (.bool true))
      go_end0
      exact ⟨rfl, A1.as (by simp [Al.hurries, Al.hurry, s3]), C1.as (by simp [Al.hurries, Al.hurry, s3]), G1⟩
    · go_enter Tryz.func70, Tryz.ntmps70
      go_wp2_with (first | ((with_reducible refine (AIsHurry_c HA.out).mono ?_); rintro e w1 ⟨rfl, rfl⟩))
      have A1 := (HA.out.set 15 (.bool false))
      have C1 := (HC.out.far n_ba_bc 15 (.bool false))
      have G1 := ((Chg.refl [ba, bc] w).set (b := ba) (i := 15) (by simp) (.bool false))
      go_end0
      exact ⟨rfl, A1.as (by simp [Al.hurries, Al.hurry, s3]), C1.as (by simp [Al.hurries, Al.hurry, s3]), G1⟩
    · go_enter Tryz.func70, Tryz.ntmps70
      go_wp2_with (first | ((with_reducible refine (AIsHurry_c HA.out).mono ?_); rintro e w1 ⟨rfl, rfl⟩))
      have A1 := (HA.out.set 15 (.bool true))
      have C1 := (HC.out.far n_ba_bc 15 (.bool true))
      have G1 := ((Chg.refl [ba, bc] w).set (b := ba) (i := 15) (by simp) (.bool true))
      go_end0
      exact ⟨rfl, A1.as (by simp [Al.hurries, Al.hurry, s3]), C1.as (by simp [Al.hurries, Al.hurry, s3]), G1⟩

theorem ASends_c {w : World} {ba bc : Nat} {s : Su} {a : Al} (hA : AlAt w ba s bc a) :
    Calls Tryz.prog 79 #[.pointer (some ⟨ba, 0, none⟩)] w fun e w' => e = .returned (.int .u8 a.sends) ∧ w = w' := by
  obtain ⟨st, own, their, p⟩ := a
  have hAc := hA.c
  clear hA
  by_cases s0 : st = 0
  · subst s0
    go_enter Tryz.func79, Tryz.ntmps79
    go_wp2
    go_ret
    exact ⟨rfl, rfl⟩
  · have k0 : (st == 0) = false := by simp [s0]
    by_cases s1 : st = 1
    · subst s1
      go_enter Tryz.func79, Tryz.ntmps79
      go_wp2
      go_ret
      exact ⟨rfl, rfl⟩
    · have k1 : (st == 1) = false := by simp [s1]
      cases own
      all_goals
        go_enter Tryz.func79, Tryz.ntmps79
        go_wp2
        go_ret
        exact ⟨by simp [Al.sends, s0, s1], rfl⟩

theorem AOut_c {w : World} {ba bc : Nat} {s : Su} {a : Al} {c : Ck} (hA : AlAt w ba s bc a) (hC : CkAt w bc c) (i : Int) :
    Calls Tryz.prog 115 #[.pointer (some ⟨ba, 0, none⟩), .int .i64 i] w fun e w' => e = .returned (.tuple #[.bool (a.out c i).2.2.1, .int .u8 (a.out c i).2.2.2]) ∧ AlAt w' ba s bc (a.out c i).1 ∧ CkAt w' bc (a.out c i).2.1 ∧ Chg [ba, bc] w w' := by
  obtain ⟨st, own, their, p⟩ := a
  have n_ba_bc : ba ≠ bc := hA.ne hC (by decide)
  have n_bc_ba : bc ≠ ba := fun e => n_ba_bc e.symm
  have HA := Lib.hid hA
  have HC := Lib.hid hC
  have hAc := hA.c
  have hAf := hA.f
  clear hA hC
  by_cases i2 : i = 2
  · subst i2
    by_cases s1 : st = 1
    · subst s1
      go_enter Tryz.func115, Tryz.ntmps115
      go_wp2
      go_ret2
      exact ⟨by simp [Al.out], HA.out.as (by simp [Al.out]), HC.out.as (by simp [Al.out]), Chg.refl _ _⟩
    · have k1 : (st == 1) = false := by simp [s1]
      go_enter Tryz.func115, Tryz.ntmps115
      go_wp2
      go_ret2
      exact ⟨by simp [Al.out, s1], HA.out.as (by simp [Al.out, s1]), HC.out.as (by simp [Al.out, s1]), Chg.refl _ _⟩
  · have j2 : (i == 2) = false := by simp [i2]
    by_cases i3 : i = 3
    · subst i3
      by_cases s2 : st = 2
      · subst s2
        go_enter Tryz.func115, Tryz.ntmps115
        go_wp2
        go_ret2
        exact ⟨by simp [Al.out], HA.out.as (by simp [Al.out]), HC.out.as (by simp [Al.out]), Chg.refl _ _⟩
      · have k2 : (st == 2) = false := by simp [s2]
        go_enter Tryz.func115, Tryz.ntmps115
        go_wp2
        go_ret2
        exact ⟨by simp [Al.out, s2], HA.out.as (by simp [Al.out, s2]), HC.out.as (by simp [Al.out, s2]), Chg.refl _ _⟩
    · have j3 : (i == 3) = false := by simp [i3]
      by_cases i4 : i = 4
      · subst i4
        by_cases s3 : st = 3
        · subst s3
          have CE := Lib.hid (AEnd_c HA.out HC.out)
          go_enter Tryz.func115, Tryz.ntmps115
          go_wp2_with (first | ((with_reducible refine CE.out.mono ?_); rintro e w5 ⟨rfl, A5, C5, K5⟩))
          go_ret2
          exact ⟨rfl, A5, C5, K5⟩
        · have k3 : (st == 3) = false := by simp [s3]
          go_enter Tryz.func115, Tryz.ntmps115
          go_wp2
          go_ret2
          exact ⟨by simp [Al.out, s3], HA.out.as (by simp [Al.out, s3]), HC.out.as (by simp [Al.out, s3]), Chg.refl _ _⟩
      · have j4 : (i == 4) = false := by simp [i4]
        by_cases i0 : i = 0
        · subst i0
          by_cases s3 : st = 3
          · subst s3
            have CE := Lib.hid (AEnd_c HA.out HC.out)
            go_enter Tryz.func115, Tryz.ntmps115
            go_wp2_with (first | ((with_reducible refine CE.out.mono ?_); rintro e w5 ⟨rfl, A5, C5, K5⟩))
            go_ret2
            exact ⟨rfl, A5, C5, K5⟩
          · have k3 : (st == 3) = false := by simp [s3]
            go_enter Tryz.func115, Tryz.ntmps115
            go_wp2
            go_ret2
            exact ⟨by simp [Al.out, s3], HA.out.as (by simp [Al.out, s3]), HC.out.as (by simp [Al.out, s3]), Chg.refl _ _⟩
        · have j0 : (i == 0) = false := by simp [i0]
          go_enter Tryz.func115, Tryz.ntmps115
          go_wp2
          go_ret2
          exact ⟨by simp [Al.out, i0, i2, i3, i4], HA.out.as (by simp [Al.out, i0, i2, i3, i4]), HC.out.as (by simp [Al.out, i0, i2, i3, i4]), Chg.refl _ _⟩

theorem AHeard_c {w : World} {ba bc : Nat} {s : Su} {a : Al} {c : Ck} (hA : AlAt w ba s bc a) (hC : CkAt w bc c) (x : Int) (hst0 : 0 ≤ a.st) (hst1 : a.st ≤ 3) :
    Calls Tryz.prog 120 #[.pointer (some ⟨ba, 0, none⟩), .int .u8 x] w fun e w' => e = .returned (.int .u8 (a.heard s c x).2.2) ∧ AlAt w' ba s bc (a.heard s c x).1 ∧ CkAt w' bc (a.heard s c x).2.1 ∧ Chg [ba, bc] w w' := by
  obtain ⟨st, own, their, p⟩ := a
  dsimp only at hst0 hst1
  have n_ba_bc : ba ≠ bc := hA.ne hC (by decide)
  have n_bc_ba : bc ≠ ba := fun e => n_ba_bc e.symm
  have HA := Lib.hid hA
  have HC := Lib.hid hC
  have hAc := hA.c
  have hAf := hA.f
  clear hA hC
  have hx : x = 0 ∨ x = 1 ∨ x = 2 ∨ x = 3 ∨ (x ≠ 0 ∧ x ≠ 1 ∧ x ≠ 2 ∧ x ≠ 3) := by omega
  obtain h | h | h | h : st = 0 ∨ st = 1 ∨ st = 2 ∨ st = 3 := by omega
  · subst h
    obtain rfl | rfl | rfl | rfl | ⟨x0, x1, x2, x3⟩ := hx
    · have A1 := HA.out
      have C1 := HC.out
      have G1 := (Chg.refl [ba, bc] w)
      go_enter Tryz.func120, Tryz.ntmps120
      go_wp2_with (first | ((with_reducible refine (AIsHurry_c HA.out).mono ?_); rintro e w1 ⟨rfl, rfl⟩))
      go_ret
      exact ⟨by simp [Al.heard], A1.as (by simp [Al.heard]), C1.as (by simp [Al.heard]), G1⟩
    · have A1 := HA.out
      have C1 := HC.out
      have G1 := (Chg.refl [ba, bc] w)
      go_enter Tryz.func120, Tryz.ntmps120
      go_wp2_with (first | ((with_reducible refine (AIsHurry_c HA.out).mono ?_); rintro e w1 ⟨rfl, rfl⟩))
      go_ret
      exact ⟨by simp [Al.heard], A1.as (by simp [Al.heard]), C1.as (by simp [Al.heard]), G1⟩
    · have A1 := HA.out
      have C1 := HC.out
      have G1 := (Chg.refl [ba, bc] w)
      go_enter Tryz.func120, Tryz.ntmps120
      go_wp2_with (first | ((with_reducible refine (AIsHurry_c HA.out).mono ?_); rintro e w1 ⟨rfl, rfl⟩) | ((with_reducible refine (AIsHurry_c (a := ⟨0, own, true, p⟩) (A1.as (by simp))).mono ?_); rintro e w1 ⟨rfl, rfl⟩))
      go_ret
      exact ⟨by simp [Al.heard], A1.as (by simp [Al.heard]), C1.as (by simp [Al.heard]), G1⟩
    · have A1 := HA.out
      have C1 := HC.out
      have G1 := (Chg.refl [ba, bc] w)
      go_enter Tryz.func120, Tryz.ntmps120
      go_wp2_with (first | ((with_reducible refine (AIsHurry_c HA.out).mono ?_); rintro e w1 ⟨rfl, rfl⟩))
      go_ret
      exact ⟨by simp [Al.heard], A1.as (by simp [Al.heard]), C1.as (by simp [Al.heard]), G1⟩
    · have k0 : (x == 0) = false := by simp [x0]
      have k1 : (x == 1) = false := by simp [x1]
      have k2 : (x == 2) = false := by simp [x2]
      have k3 : (x == 3) = false := by simp [x3]
      have A1 := HA.out
      have C1 := HC.out
      have G1 := (Chg.refl [ba, bc] w)
      go_enter Tryz.func120, Tryz.ntmps120
      go_wp2_with (first | ((with_reducible refine (AIsHurry_c HA.out).mono ?_); rintro e w1 ⟨rfl, rfl⟩))
      go_ret
      exact ⟨by simp [Al.heard], A1.as (by simp [Al.heard]), C1.as (by simp [Al.heard]), G1⟩
  · subst h
    obtain rfl | rfl | rfl | rfl | ⟨x0, x1, x2, x3⟩ := hx
    · have A1 := HA.out
      have C1 := HC.out
      have G1 := (Chg.refl [ba, bc] w)
      have CP := Lib.hid (ANear_c (s := s) (a := ⟨1, own, their, p⟩) (A1) C1)
      go_enter Tryz.func120, Tryz.ntmps120
      go_wp2_with (first | ((with_reducible refine (AIsHurry_c HA.out).mono ?_); rintro e w1 ⟨rfl, rfl⟩) | ((with_reducible refine CP.out.mono ?_); rintro e w5 ⟨rfl, A5, C5, K5⟩))
      go_ret
      exact ⟨by simp [Al.heard, Al.hurry], A5.as (by simp [Al.heard]), C5.as (by simp [Al.heard]), G1.then K5⟩
    · have A1 := HA.out
      have C1 := HC.out
      have G1 := (Chg.refl [ba, bc] w)
      have CP := Lib.hid (ANear_c (s := s) (a := ⟨1, own, their, p⟩) (A1) C1)
      go_enter Tryz.func120, Tryz.ntmps120
      go_wp2_with (first | ((with_reducible refine (AIsHurry_c HA.out).mono ?_); rintro e w1 ⟨rfl, rfl⟩) | ((with_reducible refine CP.out.mono ?_); rintro e w5 ⟨rfl, A5, C5, K5⟩))
      go_ret
      exact ⟨by simp [Al.heard, Al.hurry], A5.as (by simp [Al.heard]), C5.as (by simp [Al.heard]), G1.then K5⟩
    · have A1 := (HA.out.set 16 (.bool true))
      have C1 := (HC.out.far n_ba_bc 16 (.bool true))
      have G1 := ((Chg.refl [ba, bc] w).set (b := ba) (i := 16) (by simp) (.bool true))
      have CP := Lib.hid (ANear_c (s := s) (a := ⟨1, own, true, p⟩) (A1.as (by simp)) C1)
      go_enter Tryz.func120, Tryz.ntmps120
      go_wp2_with (first | ((with_reducible refine (AIsHurry_c HA.out).mono ?_); rintro e w1 ⟨rfl, rfl⟩) | ((with_reducible refine CP.out.mono ?_); rintro e w5 ⟨rfl, A5, C5, K5⟩))
      go_ret
      exact ⟨by simp [Al.heard, Al.hurry], A5.as (by simp [Al.heard]), C5.as (by simp [Al.heard]), G1.then K5⟩
    · have A1 := HA.out
      have C1 := HC.out
      have G1 := (Chg.refl [ba, bc] w)
      go_enter Tryz.func120, Tryz.ntmps120
      go_wp2_with (first | ((with_reducible refine (AIsHurry_c HA.out).mono ?_); rintro e w1 ⟨rfl, rfl⟩))
      go_ret
      exact ⟨by simp [Al.heard, Al.hurry], A1.as (by simp [Al.heard, Al.hurry]), C1.as (by simp [Al.heard, Al.hurry]), G1⟩
    · have k0 : (x == 0) = false := by simp [x0]
      have k1 : (x == 1) = false := by simp [x1]
      have k2 : (x == 2) = false := by simp [x2]
      have k3 : (x == 3) = false := by simp [x3]
      have A1 := HA.out
      have C1 := HC.out
      have G1 := (Chg.refl [ba, bc] w)
      go_enter Tryz.func120, Tryz.ntmps120
      go_wp2_with (first | ((with_reducible refine (AIsHurry_c HA.out).mono ?_); rintro e w1 ⟨rfl, rfl⟩))
      go_ret
      exact ⟨by simp [Al.heard, Al.hurry, x0, x1, x2, x3], A1.as (by simp [Al.heard, Al.hurry, x0, x1, x2, x3]), C1.as (by simp [Al.heard, Al.hurry, x0, x1, x2, x3]), G1⟩
  · subst h
    obtain rfl | rfl | rfl | rfl | ⟨x0, x1, x2, x3⟩ := hx
    · have A1 := HA.out
      have C1 := HC.out
      have G1 := (Chg.refl [ba, bc] w)
      go_enter Tryz.func120, Tryz.ntmps120
      go_wp2_with (first | ((with_reducible refine (AIsHurry_c HA.out).mono ?_); rintro e w1 ⟨rfl, rfl⟩))
      go_ret
      exact ⟨by simp [Al.heard, Al.hurry], A1.as (by simp [Al.heard, Al.hurry]), C1.as (by simp [Al.heard, Al.hurry]), G1⟩
    · have A1 := (((HA.out.set 17 (.bool false)).set 18 (.int .i64 0)).set 19 (.int .i64 0))
      have C1 := (((HC.out.far n_ba_bc 17 (.bool false)).far n_ba_bc 18 (.int .i64 0)).far n_ba_bc 19 (.int .i64 0))
      have G1 := ((((Chg.refl [ba, bc] w).set (b := ba) (i := 17) (by simp) (.bool false)).set (b := ba) (i := 18) (by simp) (.int .i64 0)).set (b := ba) (i := 19) (by simp) (.int .i64 0))
      have CP := Lib.hid (AProve_c (s := s) (a := ⟨2, own, their, ⟨false, 0, 0⟩⟩) (A1.as (by simp)) C1)
      go_enter Tryz.func120, Tryz.ntmps120
      go_wp2_with (first | ((with_reducible refine (AIsHurry_c HA.out).mono ?_); rintro e w1 ⟨rfl, rfl⟩) | ((with_reducible refine CP.out.mono ?_); rintro e w5 ⟨rfl, A5, C5, K5⟩))
      go_ret
      exact ⟨by simp [Al.heard, Al.hurry], A5.as (by simp [Al.heard]), C5.as (by simp [Al.heard]), G1.then K5⟩
    · have A1 := ((((HA.out.set 16 (.bool true)).set 17 (.bool false)).set 18 (.int .i64 0)).set 19 (.int .i64 0))
      have C1 := ((((HC.out.far n_ba_bc 16 (.bool true)).far n_ba_bc 17 (.bool false)).far n_ba_bc 18 (.int .i64 0)).far n_ba_bc 19 (.int .i64 0))
      have G1 := (((((Chg.refl [ba, bc] w).set (b := ba) (i := 16) (by simp) (.bool true)).set (b := ba) (i := 17) (by simp) (.bool false)).set (b := ba) (i := 18) (by simp) (.int .i64 0)).set (b := ba) (i := 19) (by simp) (.int .i64 0))
      have CP := Lib.hid (AProve_c (s := s) (a := ⟨2, own, true, ⟨false, 0, 0⟩⟩) (A1.as (by simp)) C1)
      go_enter Tryz.func120, Tryz.ntmps120
      go_wp2_with (first | ((with_reducible refine (AIsHurry_c HA.out).mono ?_); rintro e w1 ⟨rfl, rfl⟩) | ((with_reducible refine CP.out.mono ?_); rintro e w5 ⟨rfl, A5, C5, K5⟩))
      go_ret
      exact ⟨by simp [Al.heard, Al.hurry], A5.as (by simp [Al.heard]), C5.as (by simp [Al.heard]), G1.then K5⟩
    · have A1 := HA.out
      have C1 := HC.out
      have G1 := (Chg.refl [ba, bc] w)
      go_enter Tryz.func120, Tryz.ntmps120
      go_wp2_with (first | ((with_reducible refine (AIsHurry_c HA.out).mono ?_); rintro e w1 ⟨rfl, rfl⟩))
      go_ret
      exact ⟨by simp [Al.heard, Al.hurry], A1.as (by simp [Al.heard]), C1.as (by simp [Al.heard]), G1⟩
    · have k0 : (x == 0) = false := by simp [x0]
      have k1 : (x == 1) = false := by simp [x1]
      have k2 : (x == 2) = false := by simp [x2]
      have k3 : (x == 3) = false := by simp [x3]
      have A1 := HA.out
      have C1 := HC.out
      have G1 := (Chg.refl [ba, bc] w)
      go_enter Tryz.func120, Tryz.ntmps120
      go_wp2_with (first | ((with_reducible refine (AIsHurry_c HA.out).mono ?_); rintro e w1 ⟨rfl, rfl⟩))
      go_ret
      exact ⟨by simp [Al.heard, Al.hurry, x0, x1, x2, x3], A1.as (by simp [Al.heard, Al.hurry, x0, x1, x2, x3]), C1.as (by simp [Al.heard, Al.hurry, x0, x1, x2, x3]), G1⟩
  · subst h
    obtain rfl | rfl | rfl | rfl | ⟨x0, x1, x2, x3⟩ := hx
    · cases own <;> cases their
      · have A1 := HA.out
        have C1 := HC.out
        have G1 := (Chg.refl [ba, bc] w)
        have CP := Lib.hid (ANear_c (s := s) (a := ⟨3, false, false, p⟩) (A1) C1)
        go_enter Tryz.func120, Tryz.ntmps120
        go_wp2_with (first | ((with_reducible refine (AIsHurry_c HA.out).mono ?_); rintro e w1 ⟨rfl, rfl⟩) | ((with_reducible refine CP.out.mono ?_); rintro e w5 ⟨rfl, A5, C5, K5⟩))
        go_ret
        exact ⟨by simp [Al.heard, Al.hurry], A5.as (by simp [Al.heard]), C5.as (by simp [Al.heard]), G1.then K5⟩
      · have A1 := HA.out
        have C1 := HC.out
        have G1 := (Chg.refl [ba, bc] w)
        have CP := Lib.hid (ANear_c (s := s) (a := ⟨3, false, true, p⟩) (A1) C1)
        go_enter Tryz.func120, Tryz.ntmps120
        go_wp2_with (first | ((with_reducible refine (AIsHurry_c HA.out).mono ?_); rintro e w1 ⟨rfl, rfl⟩) | ((with_reducible refine CP.out.mono ?_); rintro e w5 ⟨rfl, A5, C5, K5⟩))
        go_ret
        exact ⟨by simp [Al.heard, Al.hurry], A5.as (by simp [Al.heard]), C5.as (by simp [Al.heard]), G1.then K5⟩
      · have A1 := HA.out
        have C1 := HC.out
        have G1 := (Chg.refl [ba, bc] w)
        have CP := Lib.hid (ANear_c (s := s) (a := ⟨3, true, false, p⟩) (A1) C1)
        go_enter Tryz.func120, Tryz.ntmps120
        go_wp2_with (first | ((with_reducible refine (AIsHurry_c HA.out).mono ?_); rintro e w1 ⟨rfl, rfl⟩) | ((with_reducible refine CP.out.mono ?_); rintro e w5 ⟨rfl, A5, C5, K5⟩))
        go_ret
        exact ⟨by simp [Al.heard, Al.hurry], A5.as (by simp [Al.heard]), C5.as (by simp [Al.heard]), G1.then K5⟩
      · have A1 := HA.out
        have C1 := HC.out
        have G1 := (Chg.refl [ba, bc] w)
        have CP := Lib.hid (ANear_c (s := s) (a := ⟨3, true, true, p⟩) (A1) C1)
        go_enter Tryz.func120, Tryz.ntmps120
        go_wp2_with (first | ((with_reducible refine (AIsHurry_c HA.out).mono ?_); rintro e w1 ⟨rfl, rfl⟩) | ((with_reducible refine CP.out.mono ?_); rintro e w5 ⟨rfl, A5, C5, K5⟩))
        go_ret
        exact ⟨by simp [Al.heard, Al.hurry], A5.as (by simp [Al.heard]), C5.as (by simp [Al.heard]), G1.then K5⟩
    · cases own <;> cases their
      · have A1 := HA.out
        have C1 := HC.out
        have G1 := (Chg.refl [ba, bc] w)
        go_enter Tryz.func120, Tryz.ntmps120
        go_wp2_with (first | ((with_reducible refine (AIsHurry_c HA.out).mono ?_); rintro e w1 ⟨rfl, rfl⟩))
        go_ret
        exact ⟨by simp [Al.heard, Al.hurry], A1.as (by simp [Al.heard, Al.hurry]), C1.as (by simp [Al.heard, Al.hurry]), G1⟩
      · have A1 := HA.out
        have C1 := HC.out
        have G1 := (Chg.refl [ba, bc] w)
        go_enter Tryz.func120, Tryz.ntmps120
        go_wp2_with (first | ((with_reducible refine (AIsHurry_c HA.out).mono ?_); rintro e w1 ⟨rfl, rfl⟩))
        go_ret
        exact ⟨by simp [Al.heard, Al.hurry], A1.as (by simp [Al.heard, Al.hurry]), C1.as (by simp [Al.heard, Al.hurry]), G1⟩
      · have A1 := HA.out
        have C1 := HC.out
        have G1 := (Chg.refl [ba, bc] w)
        go_enter Tryz.func120, Tryz.ntmps120
        go_wp2_with (first | ((with_reducible refine (AIsHurry_c HA.out).mono ?_); rintro e w1 ⟨rfl, rfl⟩))
        go_ret
        exact ⟨by simp [Al.heard, Al.hurry], A1.as (by simp [Al.heard, Al.hurry]), C1.as (by simp [Al.heard, Al.hurry]), G1⟩
      · have A1 := HA.out
        have C1 := HC.out
        have G1 := (Chg.refl [ba, bc] w)
        go_enter Tryz.func120, Tryz.ntmps120
        go_wp2_with (first | ((with_reducible refine (AIsHurry_c HA.out).mono ?_); rintro e w1 ⟨rfl, rfl⟩))
        go_ret
        exact ⟨by simp [Al.heard, Al.hurry], A1.as (by simp [Al.heard, Al.hurry]), C1.as (by simp [Al.heard, Al.hurry]), G1⟩
    · cases own <;> cases their
      · have A1 := (HA.out.set 16 (.bool true))
        have C1 := (HC.out.far n_ba_bc 16 (.bool true))
        have G1 := ((Chg.refl [ba, bc] w).set (b := ba) (i := 16) (by simp) (.bool true))
        have CP := Lib.hid (AProve_c (s := s) (a := ⟨3, false, true, p⟩) (A1.as (by simp)) C1)
        have CH1 : Hid (Calls Tryz.prog 107 #[.pointer (some ⟨ba, 0, none⟩)] w fun e w' => e = .returned (.bool false) ∧ w = w') := AIsHurry_c HA.out
        have CH2 : Hid (Calls Tryz.prog 107 #[.pointer (some ⟨ba, 0, none⟩)] (w.setCell ⟨ba, 16, none⟩ (.bool true)) fun e w' => e = .returned (.bool true) ∧ (w.setCell ⟨ba, 16, none⟩ (.bool true)) = w') := AIsHurry_c (s := s) (bc := bc) (a := ⟨3, false, true, p⟩) (A1.as (by simp))
        go_enter Tryz.func120, Tryz.ntmps120
        go_wp2_with (first | ((with_reducible refine CH1.out.mono ?_); rintro e w1 ⟨rfl, rfl⟩) | ((with_reducible refine CH2.out.mono ?_); rintro e w1 ⟨rfl, rfl⟩) | ((with_reducible refine CP.out.mono ?_); rintro e w5 ⟨rfl, A5, C5, K5⟩))
        go_ret
        exact ⟨by simp [Al.heard, Al.hurry], A5.as (by simp [Al.heard, Al.hurry]), C5.as (by simp [Al.heard, Al.hurry]), G1.then K5⟩
      · have A1 := (HA.out.set 16 (.bool true))
        have C1 := (HC.out.far n_ba_bc 16 (.bool true))
        have G1 := ((Chg.refl [ba, bc] w).set (b := ba) (i := 16) (by simp) (.bool true))
        go_enter Tryz.func120, Tryz.ntmps120
        go_wp2_with (first | ((with_reducible refine (AIsHurry_c HA.out).mono ?_); rintro e w1 ⟨rfl, rfl⟩) | ((with_reducible refine (AIsHurry_c (a := ⟨3, false, true, p⟩) (A1.as (by simp))).mono ?_); rintro e w1 ⟨rfl, rfl⟩))
        go_ret
        exact ⟨by simp [Al.heard, Al.hurry], A1.as (by simp [Al.heard, Al.hurry]), C1.as (by simp [Al.heard, Al.hurry]), G1⟩
      · have A1 := (HA.out.set 16 (.bool true))
        have C1 := (HC.out.far n_ba_bc 16 (.bool true))
        have G1 := ((Chg.refl [ba, bc] w).set (b := ba) (i := 16) (by simp) (.bool true))
        go_enter Tryz.func120, Tryz.ntmps120
        go_wp2_with (first | ((with_reducible refine (AIsHurry_c HA.out).mono ?_); rintro e w1 ⟨rfl, rfl⟩) | ((with_reducible refine (AIsHurry_c (a := ⟨3, true, true, p⟩) (A1.as (by simp))).mono ?_); rintro e w1 ⟨rfl, rfl⟩))
        go_ret
        exact ⟨by simp [Al.heard, Al.hurry], A1.as (by simp [Al.heard, Al.hurry]), C1.as (by simp [Al.heard, Al.hurry]), G1⟩
      · have A1 := (HA.out.set 16 (.bool true))
        have C1 := (HC.out.far n_ba_bc 16 (.bool true))
        have G1 := ((Chg.refl [ba, bc] w).set (b := ba) (i := 16) (by simp) (.bool true))
        go_enter Tryz.func120, Tryz.ntmps120
        go_wp2_with (first | ((with_reducible refine (AIsHurry_c HA.out).mono ?_); rintro e w1 ⟨rfl, rfl⟩) | ((with_reducible refine (AIsHurry_c (a := ⟨3, true, true, p⟩) (A1.as (by simp))).mono ?_); rintro e w1 ⟨rfl, rfl⟩))
        go_ret
        exact ⟨by simp [Al.heard, Al.hurry], A1.as (by simp [Al.heard, Al.hurry]), C1.as (by simp [Al.heard, Al.hurry]), G1⟩
    · cases own <;> cases their
      · have A1 := HA.out
        have C1 := HC.out
        have G1 := (Chg.refl [ba, bc] w)
        go_enter Tryz.func120, Tryz.ntmps120
        go_wp2_with (first | ((with_reducible refine (AIsHurry_c HA.out).mono ?_); rintro e w1 ⟨rfl, rfl⟩))
        go_ret
        exact ⟨by simp [Al.heard, Al.hurry], A1.as (by simp [Al.heard]), C1.as (by simp [Al.heard]), G1⟩
      · have A1 := HA.out
        have C1 := HC.out
        have G1 := (Chg.refl [ba, bc] w)
        go_enter Tryz.func120, Tryz.ntmps120
        go_wp2_with (first | ((with_reducible refine (AIsHurry_c HA.out).mono ?_); rintro e w1 ⟨rfl, rfl⟩))
        go_ret
        exact ⟨by simp [Al.heard, Al.hurry], A1.as (by simp [Al.heard]), C1.as (by simp [Al.heard]), G1⟩
      · have A1 := HA.out
        have C1 := HC.out
        have G1 := (Chg.refl [ba, bc] w)
        go_enter Tryz.func120, Tryz.ntmps120
        go_wp2_with (first | ((with_reducible refine (AIsHurry_c HA.out).mono ?_); rintro e w1 ⟨rfl, rfl⟩))
        go_ret
        exact ⟨by simp [Al.heard, Al.hurry], A1.as (by simp [Al.heard]), C1.as (by simp [Al.heard]), G1⟩
      · have A1 := HA.out
        have C1 := HC.out
        have G1 := (Chg.refl [ba, bc] w)
        go_enter Tryz.func120, Tryz.ntmps120
        go_wp2_with (first | ((with_reducible refine (AIsHurry_c HA.out).mono ?_); rintro e w1 ⟨rfl, rfl⟩))
        go_ret
        exact ⟨by simp [Al.heard, Al.hurry], A1.as (by simp [Al.heard]), C1.as (by simp [Al.heard]), G1⟩
    · have k0 : (x == 0) = false := by simp [x0]
      have k1 : (x == 1) = false := by simp [x1]
      have k2 : (x == 2) = false := by simp [x2]
      have k3 : (x == 3) = false := by simp [x3]
      cases own <;> cases their
      · have A1 := HA.out
        have C1 := HC.out
        have G1 := (Chg.refl [ba, bc] w)
        go_enter Tryz.func120, Tryz.ntmps120
        go_wp2_with (first | ((with_reducible refine (AIsHurry_c HA.out).mono ?_); rintro e w1 ⟨rfl, rfl⟩))
        go_ret
        exact ⟨by simp [Al.heard, Al.hurry, x0, x1, x2, x3], A1.as (by simp [Al.heard, Al.hurry, x0, x1, x2, x3]), C1.as (by simp [Al.heard, Al.hurry, x0, x1, x2, x3]), G1⟩
      · have A1 := HA.out
        have C1 := HC.out
        have G1 := (Chg.refl [ba, bc] w)
        go_enter Tryz.func120, Tryz.ntmps120
        go_wp2_with (first | ((with_reducible refine (AIsHurry_c HA.out).mono ?_); rintro e w1 ⟨rfl, rfl⟩))
        go_ret
        exact ⟨by simp [Al.heard, Al.hurry, x0, x1, x2, x3], A1.as (by simp [Al.heard, Al.hurry, x0, x1, x2, x3]), C1.as (by simp [Al.heard, Al.hurry, x0, x1, x2, x3]), G1⟩
      · have A1 := HA.out
        have C1 := HC.out
        have G1 := (Chg.refl [ba, bc] w)
        go_enter Tryz.func120, Tryz.ntmps120
        go_wp2_with (first | ((with_reducible refine (AIsHurry_c HA.out).mono ?_); rintro e w1 ⟨rfl, rfl⟩))
        go_ret
        exact ⟨by simp [Al.heard, Al.hurry, x0, x1, x2, x3], A1.as (by simp [Al.heard, Al.hurry, x0, x1, x2, x3]), C1.as (by simp [Al.heard, Al.hurry, x0, x1, x2, x3]), G1⟩
      · have A1 := HA.out
        have C1 := HC.out
        have G1 := (Chg.refl [ba, bc] w)
        go_enter Tryz.func120, Tryz.ntmps120
        go_wp2_with (first | ((with_reducible refine (AIsHurry_c HA.out).mono ?_); rintro e w1 ⟨rfl, rfl⟩))
        go_ret
        exact ⟨by simp [Al.heard, Al.hurry, x0, x1, x2, x3], A1.as (by simp [Al.heard, Al.hurry, x0, x1, x2, x3]), C1.as (by simp [Al.heard, Al.hurry, x0, x1, x2, x3]), G1⟩
end Go.Proofs.YtdffinnnjcgfcaaGreatK
