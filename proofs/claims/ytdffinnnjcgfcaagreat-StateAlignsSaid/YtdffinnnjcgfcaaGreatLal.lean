/- StateAligns: a link that is started comes into line, is proved, is ready, and serves; or fails when its time is over. -/
import Derived.Test.YtdffinnnjcgfcaaGreatLw2
namespace Go.Proofs.YtdffinnnjcgfcaaGreatK
open Go Go.RowKit
set_option linter.unusedVariables false
set_option maxHeartbeats 2000000
set_option maxRecDepth 100000
def alX (c h : Bool) : St := ((if h then ((born c).order 3 []).1 else born c).order 1 []).1
def alA (c h : Bool) : St := (alX c h).hear (lk 0)
def alB (c h : Bool) : St := (alA c h).hear (lk 1)
def alP (h : Bool) : Nat := if h then 5 else 10
def alC (c h : Bool) : St := (alB c h).ticks (alP h)
theorem al0 (c h : Bool) : ((alX c h).ticks 60).S = 0 ∧ ((alX c h).ticks 60).told = [⟨2, 7, []⟩] := by cases c <;> cases h <;> exact ⟨by kernel_rfl, by kernel_rfl⟩
theorem al1_all (c h : Bool) : ((List.range 60).all fun t => decide (((alX c h).ticks t).hear (lk 0) = alA c h)) = true := by cases c <;> cases h <;> kernel_rfl
theorem al1 (c h : Bool) {t : Nat} (ht : t < 60) : ((alX c h).ticks t).hear (lk 0) = alA c h := of_decide_eq_true (List.all_eq_true.1 (al1_all c h) t (List.mem_range.2 ht))
theorem al2 (c h : Bool) : ((alA c h).ticks 50).S = 0 ∧ ((alA c h).ticks 50).told = [⟨2, 7, []⟩] := by cases c <;> cases h <;> exact ⟨by kernel_rfl, by kernel_rfl⟩
theorem al3_all (c h : Bool) : ((List.range 50).all fun t => decide (((alA c h).ticks t).hear (lk 1) = alB c h)) = true := by cases c <;> cases h <;> kernel_rfl
theorem al3 (c h : Bool) {t : Nat} (ht : t < 50) : ((alA c h).ticks t).hear (lk 1) = alB c h := of_decide_eq_true (List.all_eq_true.1 (al3_all c h) t (List.mem_range.2 ht))
theorem al4 (c h : Bool) : ((alB c h).ticks (alP h - 1)).S = 1 := by cases c <;> cases h <;> kernel_rfl
theorem al5 (c h : Bool) : (alC c h).S = 2 := by cases c <;> cases h <;> kernel_rfl
theorem al6 (c h : Bool) : ((alC c h).ticks 40).S = 0 ∧ ((alC c h).ticks 40).told = [⟨2, 6, []⟩] := by cases c <;> cases h <;> exact ⟨by kernel_rfl, by kernel_rfl⟩
theorem al7_all (c h : Bool) : ((List.range 40).all fun t => decide ((((alC c h).ticks t).hear fl).S = 4) && decide ((((alC c h).ticks t).hear fl).told = [⟨1, 0, []⟩]) && decide ((((alC c h).ticks t).hear fl).c.get 1 = 0)) = true := by cases c <;> cases h <;> kernel_rfl
theorem al7 (c h : Bool) {t : Nat} (ht : t < 40) : (((alC c h).ticks t).hear fl).S = 4 ∧ (((alC c h).ticks t).hear fl).told = [⟨1, 0, []⟩] ∧ (((alC c h).ticks t).hear fl).c.get 1 = 0 := by
  have := List.all_eq_true.1 (al7_all c h) t (List.mem_range.2 ht)
  simp only [Bool.and_eq_true, decide_eq_true_eq] at this
  exact ⟨this.1.1, this.1.2, this.2⟩
theorem wait_k {w0 w : World} {b : Nat} {x : St} {m : Int} (V : Lk w0 w b x m) (n : Int) (k : Nat) (hn : n = k) (hm : m + 8 * n ≤ 700000) (h0 : 0 ≤ m) :
    Calls Tryz.prog 37 #[.pointer (some ⟨b, 0, none⟩), .int .i64 n] w fun e w' => e = .returned (.tuple #[]) ∧ Lk w0 w' b (x.ticks k) (m + 8 * n) ∧ Kp w w' := by
  subst hn
  have HV := Lib.hid V
  clear V
  go_enter Tryz.func37, Tryz.ntmps37
  go_wp2
  go_loopw [4] (fun i wr => ∃ t : Nat, t ≤ k ∧ i = .int .i64 t ∧ Lk w0 wr b (x.ticks t) (m + 8 * t) ∧ Kp w wr) (fun i _ => k - (intOf i).toNat)
  case atStart => exact ⟨0, by omega, rfl, ⟨HV.out.v, HV.out.k, HV.out.f.le (by omega)⟩, Kp.below (bl_refl _)⟩
  case round =>
    obtain ⟨t, hk, rfl, V9, K9⟩ := hrel
    have V := Lib.hid V9
    have K := Lib.hid K9
    clear V9 K9
    by_cases hlt : t < k
    · have hlt' : (t : Int) < k := by omega
      have HT := Lib.hid (V.out.tick (by omega))
      go_wp2_with (first | ((with_reducible refine HT.out.mono ?_); rintro e w8 ⟨rfl, V1, K1⟩; have Vf := Lib.hid V1; have Kf := Lib.hid K1; clear V1 K1))
      go_roundw
      case rel => exact ⟨t + 1, by omega, by go_num, ⟨Vf.out.v, Vf.out.k, Vf.out.f.le (by omega)⟩, K.out.trans Kf.out⟩
      case measure => simp [intOf]; omega
    · obtain rfl : t = k := by omega
      go_wp2
      go_end0
      exact ⟨rfl, V.out, K.out⟩
end Go.Proofs.YtdffinnnjcgfcaaGreatK
