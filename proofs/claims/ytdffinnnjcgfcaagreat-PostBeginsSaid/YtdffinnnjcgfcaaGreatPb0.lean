/- The walk of setup.Check over any setup; post.New; a nil terminal. -/
import Derived.Test.YtdffinnnjcgfcaaGreatTe8
import Derived.DeepKeys
namespace Go.Proofs.YtdffinnnjcgfcaaGreatK
open Go Go.RowKit
set_option linter.unusedVariables false
set_option maxHeartbeats 20000000
set_option maxRecDepth 100000
def inS (n a b : Int) : Bool := decide (a ≤ n) && decide (n ≤ b)
theorem SWithin_c (n a b : Int) (w : World) : Calls Tryz.prog 97 #[.int .i64 n, .int .i64 a, .int .i64 b] w fun e w' => e = .returned (.bool (inS n a b)) ∧ w = w' := by
  by_cases h1 : a ≤ n
  · by_cases h2 : n ≤ b
    · rw [show inS n a b = true by simp [inS, h1, h2]]
      go_enter Tryz.func97, Tryz.ntmps97
      go_wp2
      go_ret
      exact ⟨rfl, rfl⟩
    · rw [show inS n a b = false by simp [inS, h2]]
      go_enter Tryz.func97, Tryz.ntmps97
      go_wp2
      go_ret
      exact ⟨rfl, rfl⟩
  · rw [show inS n a b = false by simp [inS, h1]]
    go_enter Tryz.func97, Tryz.ntmps97
    go_wp2
    go_ret
    exact ⟨rfl, rfl⟩
def Su.ts (s : Su) : List Int := [s.t0, s.t1, s.t2, s.t3, s.t4, s.t5, s.t6, s.t7]
def timesS (l : List Int) : Bool := l.all fun t => inS t 1 4294967296
def chkS (s : Su) : Int :=
  if timesS s.ts = false then 1
  else if (!inS s.n1 1 127 || !inS s.n2 1 1048576) = true then 1
  else if (!inS s.hd 1 512 || !inS s.oc 273 1048576) = true then 1
  else if (decide (s.t4 < s.t0) || decide (s.t6 ≤ s.t5)) = true then 10 else 0
theorem Check_c (s : Su) (w : World) : Calls Tryz.prog 54 #[s.v] w fun e w' => e = .returned (.int .i64 (chkS s)) ∧ Below w.heap.size w w' := by
  have HW := Lib.hid SWithin_c
  obtain ⟨R, hR⟩ : ∃ R, chkS s = R := ⟨_, rfl⟩
  rw [hR]
  have HRR := Lib.hid hR
  clear hR
  obtain ⟨cyc, n1, n2, hd, oc, t0, t1, t2, t3, t4, t5, t6, t7⟩ := s
  go_enter Tryz.func54, Tryz.ntmps54
  go_wp2
  generalize hO : w.alloc _ = w1
  have HB : Below w.heap.size w w1 := by rw [← hO]; exact bl_alloc (bl_refl w) _
  have hN : Blk w1 w.heap.size #[.bool cyc, .int .i64 n1, .int .i64 n2, .int .i64 hd, .int .i64 oc, .int .i64 t0, .int .i64 t1, .int .i64 t2, .int .i64 t3, .int .i64 t4, .int .i64 t5, .int .i64 t6, .int .i64 t7] 37 := by rw [← hO]; exact Blk.new w _ _
  clear hO
  have hc := hN.c
  go_loopw [7] (fun i wr => ∃ k : Nat, k ≤ 8 ∧ i = .int .i64 k ∧ wr = w1 ∧ timesS ([t0, t1, t2, t3, t4, t5, t6, t7].take k) = true) (fun i _ => 8 - (intOf i).toNat)
  case atStart => exact ⟨0, by omega, rfl, rfl, rfl⟩
  case round =>
    obtain ⟨k, hk, rfl, rfl, hts⟩ := hrel
    by_cases hlt : k < 8
    · have hlt' : (k : Int) < 8 := by omega
      have hi : ∃ t : Int, (Instr.index 35 (.agg #[Value.int .i64 t0, .int .i64 t1, .int .i64 t2, .int .i64 t3, .int .i64 t4, .int .i64 t5, .int .i64 t6, .int .i64 t7]) (.int .i64 k)).run Tryz.prog wr = .ok (.int .i64 t) wr ∧ [t0, t1, t2, t3, t4, t5, t6, t7][k]? = some t := by
        rcases (by omega : k = 0 ∨ k = 1 ∨ k = 2 ∨ k = 3 ∨ k = 4 ∨ k = 5 ∨ k = 6 ∨ k = 7) with rfl | rfl | rfl | rfl | rfl | rfl | rfl | rfl
        · exact ⟨t0, by kernel_rfl, rfl⟩
        · exact ⟨t1, by kernel_rfl, rfl⟩
        · exact ⟨t2, by kernel_rfl, rfl⟩
        · exact ⟨t3, by kernel_rfl, rfl⟩
        · exact ⟨t4, by kernel_rfl, rfl⟩
        · exact ⟨t5, by kernel_rfl, rfl⟩
        · exact ⟨t6, by kernel_rfl, rfl⟩
        · exact ⟨t7, by kernel_rfl, rfl⟩
      obtain ⟨t, ht, hkt⟩ := hi
      have HK := Lib.hid hkt
      have HTS := Lib.hid hts
      have hwt := HW.out t 1 4294967296 wr
      obtain ⟨q, hq⟩ : ∃ q, inS t 1 4294967296 = q := ⟨_, rfl⟩
      rw [hq] at hwt
      have HWT := Lib.hid hwt
      have HQ := Lib.hid hq
      clear hkt hts hwt hq
      cases q with
      | true =>
        go_wp2_with (first | ((with_reducible refine HWT.out.mono ?_); rintro e w2 ⟨rfl, rfl⟩))
        go_roundw
        case rel => exact ⟨k + 1, by omega, by go_num, trivial, by
          rw [List.take_add_one, HK.out]
          have h1 := HTS.out
          have h2 := HQ.out
          unfold timesS at h1 ⊢
          rw [List.all_append, h1]
          simp [h2]⟩
        case measure => simp [intOf]; omega
      | false =>
        go_wp2_with (first | ((with_reducible refine HWT.out.mono ?_); rintro e w2 ⟨rfl, rfl⟩))
        go_ret
        have h1 : R = 1 := by
          rw [← HRR.out]
          unfold chkS
          have h2 : timesS (Su.ts ⟨cyc, n1, n2, hd, oc, t0, t1, t2, t3, t4, t5, t6, t7⟩) = false := by
            unfold timesS
            rw [List.all_eq_false]
            exact ⟨t, List.mem_of_getElem? HK.out, by rw [HQ.out]; simp⟩
          rw [if_pos h2]
        exact ⟨by rw [h1]; rfl, HB⟩
    · have hk9 : k = 8 := by omega
      have e8 : (k : Int) = 8 := by omega
      rw [e8]
      subst hk9
      clear e8
      have hall : timesS (Su.ts ⟨cyc, n1, n2, hd, oc, t0, t1, t2, t3, t4, t5, t6, t7⟩) = true := hts
      have hRR := HRR.out
      unfold chkS at hRR
      rw [if_neg (by rw [hall]; simp)] at hRR
      dsimp only at hRR
      have W1 := Lib.hid (HW.out n1 1 127 wr)
      have W2 := Lib.hid (HW.out n2 1 1048576 wr)
      have W3 := Lib.hid (HW.out hd 1 512 wr)
      have W4 := Lib.hid (HW.out oc 273 1048576 wr)
      generalize inS n1 1 127 = q1 at hRR W1
      generalize inS n2 1 1048576 = q2 at hRR W2
      generalize inS hd 1 512 = q3 at hRR W3
      generalize inS oc 273 1048576 = q4 at hRR W4
      clear hall hts HW
      have fin : ∀ r : Int, R = r → R = r := fun _ h => h
      cases q1 <;> cases q2 <;> cases q3 <;> cases q4 <;> by_cases h5 : t4 < t0 <;> by_cases h6 : t6 ≤ t5 <;> simp only [h5, h6, decide_true, decide_false, Bool.not_true, Bool.not_false, Bool.or_true, Bool.or_false, if_true, Bool.false_eq_true, if_false] at hRR <;> subst hRR
      all_goals
        go_wp2_with (first
          | ((with_reducible refine W1.out.mono ?_); rintro e w2 ⟨rfl, rfl⟩)
          | ((with_reducible refine W2.out.mono ?_); rintro e w2 ⟨rfl, rfl⟩)
          | ((with_reducible refine W3.out.mono ?_); rintro e w2 ⟨rfl, rfl⟩)
          | ((with_reducible refine W4.out.mono ?_); rintro e w2 ⟨rfl, rfl⟩))
        go_ret
        exact ⟨rfl, HB⟩
end Go.Proofs.YtdffinnnjcgfcaaGreatK
