/- StateErrors: the facts on plain data. -/
import Derived.Test.YtdffinnnjcgfcaaGreatM7
namespace Go.Proofs.YtdffinnnjcgfcaaGreatK
open Go Go.RowKit
set_option maxHeartbeats 1000000
set_option maxRecDepth 100000
/-- A link that serves, with a leak. -/
def srvL (c : Bool) (L : Le) : St := { served c with leak := L }
/-- It has failed. -/
def srvF (c : Bool) : St := (served c).fail 1
theorem srvL_zero (c : Bool) : srvL c ⟨0, 0⟩ = served c := by cases c <;> kernel_rfl
theorem srvL_S (c : Bool) (L : Le) : (srvL c L).S = 4 := by cases c <;> kernel_rfl
theorem srvL_leak (c : Bool) (L : Le) : (srvL c L).leak = L := by kernel_rfl
theorem srvL_fails (c : Bool) (L : Le) : (srvL c L).fails = 0 := by cases c <;> kernel_rfl
theorem srvF_S (c : Bool) : (srvF c).S = 0 := by cases c <;> kernel_rfl
theorem srvF_told (c : Bool) : (srvF c).told = [⟨2, 1, []⟩] := by cases c <;> kernel_rfl
theorem srvF_count (c b : Bool) : (srvF c).count b = srvF c := by cases c <;> cases b <;> kernel_rfl
theorem srvF_hear (c : Bool) : (srvF c).hear fl = srvF c := by cases c <;> kernel_rfl
theorem srvL_setL (c : Bool) (L M : Le) : (srvL c L).setL M = srvL c M := by kernel_rfl
theorem srvL_fail (c : Bool) (L : Le) : (srvL c L).fail 1 = srvF c := by cases c <;> kernel_rfl
theorem srvL_heard (c : Bool) (L : Le) : (srvL c L).heard fl = srvL c L := by cases c <;> kernel_rfl
theorem srvL_count (c : Bool) (L : Le) (b : Bool) : (srvL c L).count b = if L.bad b = true then srvF c else srvL c (L.unit b) := by
  unfold St.count
  have h := srvL_S c L
  rw [h, if_neg (by decide), if_neg (by decide), srvL_leak, srvL_setL, srvL_fail]
theorem srvL_hear (c : Bool) (L : Le) (hn : L.n ≤ 63) : (srvL c L).hear fl = srvL c (L.unit false) := by
  have h : L.bad false = false := by
    unfold Le.bad Le.unit Le.age
    simp only [Bool.false_eq_true, if_false, decide_eq_false_iff_not]
    split
    · split <;> dsimp only <;> omega
    · omega
  unfold St.hear
  rw [srvL_count, h]
  exact srvL_heard c _
theorem unit_false_n (L : Le) : (L.unit false).n ≤ L.n := by
  unfold Le.unit Le.age
  simp only [Bool.false_eq_true, if_false]
  split
  · split <;> dsimp only <;> omega
  · omega
theorem unit_false_0 {L : Le} (h : 0 ≤ L.n) (h1 : 0 ≤ L.seen ∧ L.seen ≤ 255) : 0 ≤ (L.unit false).n ∧ 0 ≤ (L.unit false).seen ∧ (L.unit false).seen ≤ 255 := by
  unfold Le.unit Le.age
  simp only [Bool.false_eq_true, if_false]
  split
  · split <;> dsimp only <;> omega
  · omega
/-- What may be behind any units, right or wrong. -/
inductive ErA (c : Bool) : St → Prop
  | on (L : Le) (h0 : 0 ≤ L.n) (h1 : L.n ≤ 63) (h2 : 0 ≤ L.seen) (h3 : L.seen ≤ 255) : ErA c (srvL c L)
  | off : ErA c (srvF c)
theorem unit_true (L : Le) : L.unit true = ⟨L.age.n + 1, if L.age.n = 0 then 0 else L.age.seen⟩ := rfl
theorem ErA.damage {c : Bool} {x : St} (h : ErA c x) : ErA c (x.count true) := by
  cases h with
  | off => rw [srvF_count]; exact .off
  | on L h0 h1 h2 h3 =>
    rw [srvL_count]
    by_cases hb : L.bad true = true
    · rw [if_pos hb]; exact .off
    · rw [if_neg hb]
      unfold Le.bad at hb
      simp only [decide_eq_true_eq, Int.not_le] at hb
      refine .on _ ?_ (by omega) ?_ ?_
      all_goals
        unfold Le.unit Le.age
        simp only [if_true]
        by_cases p : 0 < L.n
        · rw [if_pos p]
          by_cases q : 255 ≤ L.seen
          · rw [if_pos q]; (try dsimp only); first | omega | (split <;> omega)
          · rw [if_neg q]; (try dsimp only); first | omega | (split <;> omega)
        · rw [if_neg p]; (try dsimp only); first | omega | (split <;> omega)
theorem ErA.hear {c : Bool} {x : St} (h : ErA c x) : ErA c (x.hear fl) := by
  cases h with
  | off => rw [srvF_hear]; exact .off
  | on L h0 h1 h2 h3 =>
    rw [srvL_hear c L h1]
    have a := unit_false_n L
    have b := unit_false_0 h0 ⟨h2, h3⟩
    exact .on _ b.1 (by omega) b.2.1 b.2.2
/-- What is behind so many wrong ones, one behind the other. -/
inductive ErB (c : Bool) (j : Int) : St → Prop
  | on (L : Le) (h1 : L.n ≤ 63) (h2 : 0 ≤ L.seen) (h3 : L.seen ≤ 255) (h : j + 1 ≤ L.n ∨ (j ≤ L.n ∧ ((L.n = 0 ∧ j = 0) ∨ (0 < L.n ∧ L.seen < j)))) : ErB c j (srvL c L)
  | off : ErB c j (srvF c)
theorem ErA.b {c : Bool} {x : St} (h : ErA c x) : ErB c 0 x := by
  cases h with
  | off => exact .off
  | on L h0 h1 h2 h3 => exact .on L h1 h2 h3 (by omega)
theorem ErB.damage {c : Bool} {j : Int} {x : St} (h : ErB c j x) (h0 : 0 ≤ j) (hj : j ≤ 63) : ErB c (j + 1) (x.count true) := by
  cases h with
  | off => rw [srvF_count]; exact .off
  | on L h1 h2 h3 h =>
    rw [srvL_count]
    by_cases hb : L.bad true = true
    · rw [if_pos hb]; exact .off
    · rw [if_neg hb]
      unfold Le.bad at hb
      simp only [decide_eq_true_eq, Int.not_le] at hb
      have key : 0 ≤ (L.unit true).seen ∧ (L.unit true).seen ≤ 255 ∧ (j + 1 + 1 ≤ (L.unit true).n ∨ (j + 1 ≤ (L.unit true).n ∧ (((L.unit true).n = 0 ∧ j + 1 = 0) ∨ (0 < (L.unit true).n ∧ (L.unit true).seen < j + 1)))) := by
        clear hb
        unfold Le.unit Le.age
        simp only [if_true]
        by_cases p : 0 < L.n
        · rw [if_pos p]
          by_cases q : 255 ≤ L.seen
          · rw [if_pos q]; (try dsimp only); first | omega | (split <;> omega)
          · rw [if_neg q]; (try dsimp only); first | omega | (split <;> omega)
        · rw [if_neg p]; (try dsimp only); first | omega | (split <;> omega)
      exact .on _ (by omega) key.1 key.2.1 key.2.2
theorem ErB.last {c : Bool} {x : St} (h : ErB c 64 x) : x = srvF c := by
  cases h with
  | off => rfl
  | on L h1 h2 h3 h => omega
/-- One wrong among so many. -/
def leakAt (K i : Nat) : Le := if i = 0 then ⟨0, 0⟩ else if (i - 1) % K ≤ 255 then ⟨1, ((i - 1) % K : Nat)⟩ else ⟨0, 0⟩
theorem leakAt_n (K i : Nat) : 0 ≤ (leakAt K i).n ∧ (leakAt K i).n ≤ 1 := by
  unfold leakAt
  split
  · simp
  · split <;> simp
theorem leakAt_bad {K i : Nat} (b : Bool) : (leakAt K i).bad b = false := by
  have h := leakAt_n K i
  unfold Le.bad Le.unit Le.age
  generalize leakAt K i = L at h
  rw [decide_eq_false_iff_not]
  by_cases p : 0 < L.n
  · by_cases q : 255 ≤ L.seen
    · cases b <;> simp [p, q] <;> omega
    · cases b <;> simp [p, q] <;> omega
  · cases b <;> simp [p] <;> omega
theorem leakAt_wrong {K i : Nat} (hK : 256 ≤ K) (h : i % K = 0) : (leakAt K i).unit true = leakAt K (i + 1) := by
  have e1 : leakAt K (i + 1) = ⟨1, 0⟩ := by unfold leakAt; simp [h]
  rw [e1]
  by_cases h0 : i = 0
  · subst h0; rfl
  · have hm : (i - 1) % K = K - 1 := by
      obtain ⟨q, rfl⟩ : ∃ q, i = K * q := ⟨i / K, by have := Nat.div_add_mod i K; omega⟩
      obtain ⟨q', rfl⟩ : ∃ q', q = q' + 1 := ⟨q - 1, by have : q ≠ 0 := fun e => h0 (by simp [e]); omega⟩
      rw [Nat.mul_succ, show K * q' + K - 1 = (K - 1) + K * q' by omega, Nat.add_mul_mod_self_left, Nat.mod_eq_of_lt (by omega)]
    unfold leakAt
    rw [if_neg h0, hm]
    by_cases hk : K = 256
    · subst hk; rfl
    · rw [if_neg (by omega)]; rfl
theorem leakAt_right {K i : Nat} (hK : 256 ≤ K) (h : i % K ≠ 0) : (leakAt K i).unit false = leakAt K (i + 1) := by
  have h0 : i ≠ 0 := fun e => h (by simp [e])
  have hl := Nat.mod_lt i (show 0 < K by omega)
  have hm : (i - 1) % K = i % K - 1 := by
    have hd := Nat.div_add_mod i K
    rw [show i - 1 = (i % K - 1) + K * (i / K) by omega, Nat.add_mul_mod_self_left, Nat.mod_eq_of_lt (by omega)]
  unfold leakAt
  rw [if_neg h0, if_neg (show ¬ i + 1 = 0 by omega), hm, Nat.add_sub_cancel]
  obtain ⟨r, hr⟩ : ∃ r, i % K = r := ⟨_, rfl⟩
  rw [hr] at hl h ⊢
  clear hr hm
  by_cases p : r - 1 ≤ 255
  · rw [if_pos p]
    by_cases q : r ≤ 255
    · rw [if_pos q]
      unfold Le.unit Le.age
      simp only [Bool.false_eq_true, if_false]
      rw [if_pos (by decide), if_neg (by simp; omega)]
      simp; omega
    · rw [if_neg q]
      have : r = 256 := by omega
      subst this
      rfl
  · rw [if_neg p, if_neg (by omega)]; rfl
end Go.Proofs.YtdffinnnjcgfcaaGreatK
