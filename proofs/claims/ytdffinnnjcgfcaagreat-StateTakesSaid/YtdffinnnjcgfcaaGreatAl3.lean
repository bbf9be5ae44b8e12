/- The walk of align.Unit: one more unit while it is proved. -/
import Derived.Test.YtdffinnnjcgfcaaGreatAl2
import Derived.Test.YtdffinnnjcgfcaaGreatBk2
namespace Go.Proofs.YtdffinnnjcgfcaaGreatK
open Go Go.RowKit
set_option linter.unusedVariables false
set_option maxHeartbeats 1000000
set_option maxRecDepth 100000

theorem AUnit_c {w : World} {ba bc : Nat} {s : Su} {a : Al} {c : Ck} (hA : AlAt w ba s bc a) (hC : CkAt w bc c) (wrong : Bool) (hp : a.p.ok) :
    Calls Tryz.prog 118 #[.pointer (some ⟨ba, 0, none⟩), .bool wrong] w fun e w' => e = .returned (.int .u8 (a.unit s c wrong).2.2) ∧ AlAt w' ba s bc (a.unit s c wrong).1 ∧ CkAt w' bc (a.unit s c wrong).2.1 ∧ Chg [ba, bc] w w' := by
  obtain ⟨st, own, their, p⟩ := a
  dsimp only at hp
  have n_ba_bc : ba ≠ bc := hA.ne hC (by decide)
  have n_bc_ba : bc ≠ ba := fun e => n_ba_bc e.symm
  have HA := Lib.hid hA
  have HC := Lib.hid hC
  have hAc := hA.c
  have hAf := hA.f
  clear hA hC
  by_cases s3 : st = 3
  · subst s3
    obtain ⟨q, hq⟩ : ∃ q, p.unit wrong = q := ⟨_, rfl⟩
    obtain ⟨o, ho⟩ : ∃ o, p.over wrong = o := ⟨_, rfl⟩
    obtain ⟨n, hn⟩ : ∃ n, p.anew wrong = n := ⟨_, rfl⟩
    have CU : Hid (∀ w : World, Calls Tryz.prog 143 #[p.v, .bool wrong] w fun e w' => e = .returned (.tuple #[q.v, .bool n, .bool o]) ∧ Below w.heap.size w w') := fun w => by rw [← hq, ← ho, ← hn]; exact ProofUnit_c p wrong w hp
    have HQ := Lib.hid hq
    have HO := Lib.hid ho
    have HN := Lib.hid hn
    clear hq ho hn hp
    obtain ⟨qh, qn, qt⟩ := q
    go_enter Tryz.func118, Tryz.ntmps118
    go_upto_region 4 with (first | ((with_reducible refine (CU.out _).mono ?_); rintro e w2 ⟨rfl, hb2⟩))
    clear hAc hAf
    have A2 := (HA.out.below hb2).alloc (.cells #[.bool qh, .int .i64 qn, .int .i64 qt] 160)
    have C2 := (HC.out.below hb2).alloc (.cells #[.bool qh, .int .i64 qn, .int .i64 qt] 160)
    have G2 := ((Chg.refl [ba, bc] w).below hb2).alloc (.cells #[.bool qh, .int .i64 qn, .int .i64 qt] 160)
    have B2 := Blk.new w2 #[.bool qh, .int .i64 qn, .int .i64 qt] 160
    have nba : ba ≠ w2.heap.size := fun e => by have := (HA.out.below hb2).lt; omega
    have nab : w2.heap.size ≠ ba := fun e => nba e.symm
    clear hb2
    generalize w2.alloc (.cells #[.bool qh, .int .i64 qn, .int .i64 qt] 160) = W at A2 C2 G2 B2 ⊢
    generalize w2.heap.size = bp at B2 nba nab ⊢
    have hAc := A2.c
    have hAf := A2.f
    have hBc := B2.c
    have A3 := (((A2.set 17 (.bool qh)).set 18 (.int .i64 qn)).set 19 (.int .i64 qt))
    have C3 := (((C2.far n_ba_bc 17 (.bool qh)).far n_ba_bc 18 (.int .i64 qn)).far n_ba_bc 19 (.int .i64 qt))
    have G3 := (((G2.set (b := ba) (i := 17) (by simp) (.bool qh)).set (b := ba) (i := 18) (by simp) (.int .i64 qn)).set (b := ba) (i := 19) (by simp) (.int .i64 qt))
    have A3' := A3.as (cs' := Al.cells s bc ⟨3, own, their, ⟨qh, qn, qt⟩⟩) (by simp)
    have CP := Lib.hid (AProve_c (s := s) (a := ⟨3, own, their, ⟨qh, qn, qt⟩⟩) A3' C3)
    have HA3 := Lib.hid A3'
    have HC3 := Lib.hid C3
    have HG3 := Lib.hid G3
    clear A2 C2 G2 A3 A3' C3 G3 B2
    cases o
    · cases n
      · go_wp2
        go_ret
        exact ⟨by simp [Al.unit, HO.out, HN.out], HA3.out.as (by simp [Al.unit, HO.out, HN.out, HQ.out]), HC3.out.as (by simp [Al.unit, HO.out, HN.out]), HG3.out⟩
      · go_wp2_with (first | ((with_reducible refine CP.out.mono ?_); rintro e w5 ⟨rfl, A5, C5, K5⟩))
        go_ret
        exact ⟨by simp [Al.unit, HO.out, HN.out], A5.as (by simp [Al.unit, HO.out, HN.out, HQ.out]), C5.as (by simp [Al.unit, HO.out, HN.out, HQ.out]), HG3.out.then K5⟩
    · go_wp2
      go_ret
      exact ⟨by simp [Al.unit, HO.out], HA3.out.as (by simp [Al.unit, HO.out, HQ.out]), HC3.out.as (by simp [Al.unit, HO.out]), HG3.out⟩
  · have k3 : (st == 3) = false := by simp [s3]
    go_enter Tryz.func118, Tryz.ntmps118
    go_wp2
    go_ret
    exact ⟨by simp [Al.unit, s3], HA.out.as (by simp [Al.unit, s3]), HC.out.as (by simp [Al.unit, s3]), Chg.refl _ _⟩
end Go.Proofs.YtdffinnnjcgfcaaGreatK
