/- The walks of score.Prefix and score.Whole. The walks of score.Whole, and of the reference's SameAll over lists that may differ; lists that are joined. The walk of ScorePrefixes. -/
import Derived.Test.YtcllbmjmefeknaaGreatSc5
namespace Go.Proofs.YtcllbmjmefeknaaGreatK
/-! ### The walks of score.Prefix and score.Whole. -/
section
open Go Go.RowKit
set_option linter.unusedVariables false
set_option maxHeartbeats 40000000
set_option maxRecDepth 100000
theorem StrEq_c {w : World} {v1 v2 : Value} {p q : Oct} (h1 : BytV w v1 p) (h2 : BytV w v2 q) : Calls Tryz.prog 83 #[v1, v2] w fun e w' => e = .returned (.bool (decide (p = q))) ∧ w = w' := by
  have e1 := conv_back h1
  have e2 := conv_back h2
  have hs : ((strOfNums p).toList == (strOfNums q).toList) = decide (p = q) := by
    by_cases h : p = q
    · subst h; rw [decide_eq_true rfl]; exact beq_iff_eq.2 rfl
    · rw [decide_eq_false h]; exact beq_eq_false_iff_ne.2 (fun e => h (strNums_inj h1.2 h2.2 e))
  obtain ⟨a1, c1, rfl, _⟩ := h1.shape
  obtain ⟨a2, c2, rfl, _⟩ := h2.shape
  generalize strOfNums p = s1 at *
  generalize strOfNums q = s2 at *
  generalize decide (p = q) = d at hs ⊢
  clear h1 h2
  go_enter Tryz.func83, Tryz.ntmps83
  go_wp2
  go_ret
  exact ⟨rfl, rfl⟩
theorem EqF_c {w : World} {v1 v2 : Value} {a b : List Oct} (h1 : MsgV w v1 a) (h2 : MsgV w v2 b) (hl : a.length ≤ 100000) :
    Calls Tryz.prog 82 #[v1, v2, .func (.func 83) #[] #[]] w fun e w' => e = .returned (.bool (decide (a = b))) ∧ w = w' := by
  have H1 := Lib.hid h1
  have H2 := Lib.hid h2
  obtain ⟨a1, c1, rfl, _⟩ := h1.shape
  obtain ⟨a2, c2, rfl, _⟩ := h2.shape
  obtain ⟨n1, hn1⟩ : ∃ n, a.length = n := ⟨_, rfl⟩
  obtain ⟨n2, hn2⟩ : ∃ n, b.length = n := ⟨_, rfl⟩
  have HN1 := Lib.hid hn1
  have HN2 := Lib.hid hn2
  rw [hn1] at hl H1 ⊢
  rw [hn2] at H2 ⊢
  clear h1 h2
  by_cases hnn : n1 = n2
  · subst hnn
    obtain ⟨d, hd⟩ : ∃ d, decide (a = b) = d := ⟨_, rfl⟩
    have HD := Lib.hid hd
    rw [hd]
    have hbe : ¬ ((n1 : Int) ≠ n1) := by omega
    clear hn1 hn2 hd
    go_enter Tryz.func82, Tryz.ntmps82
    go_wp2
    go_loopw [17] (fun i wr => ∃ k : Nat, k ≤ n1 ∧ i = .int .i64 k ∧ wr = w ∧ a.take k = b.take k) (fun i _ => n1 - (intOf i).toNat)
    case atStart => exact ⟨0, by omega, rfl, by first | rfl | trivial, by simp⟩
    case round =>
      obtain ⟨k, hk, rfl, rfl, hab⟩ := hrel
      by_cases hlt : k < n1
      · have hlt' : (k : Int) < n1 := by omega
        obtain ⟨p, hp⟩ : ∃ p, a[k]? = some p := ⟨_, List.getElem?_eq_getElem (by rw [HN1.out]; exact hlt)⟩
        obtain ⟨q, hq⟩ : ∃ q, b[k]? = some q := ⟨_, List.getElem?_eq_getElem (by rw [HN2.out]; exact hlt)⟩
        obtain ⟨b1, o1, u1, m1, d1, rfl, g1, y1⟩ := MsgV.nth H1.out hp
        obtain ⟨b2, o2, u2, m2, d2, rfl, g2, y2⟩ := MsgV.nth H2.out hq
        have HS := StrEq_c y1 y2
        by_cases hpq : p = q
        · rw [decide_eq_true hpq] at HS
          have HS := Lib.hid HS
          have HT := Lib.hid (show a.take (k + 1) = b.take (k + 1) from by rw [List.take_add_one, List.take_add_one, hab, hp, hq, hpq])
          clear y1 y2 hp hq hpq
          go_wp2_with (first | ((with_reducible refine HS.out.mono ?_); rintro e w5 ⟨rfl, rfl⟩))
          go_roundw
          case rel => exact ⟨k + 1, by omega, by go_num, by first | rfl | trivial, HT.out⟩
          case measure => simp [intOf]; omega
        · rw [decide_eq_false hpq] at HS
          have HS := Lib.hid HS
          have hne : d = false := by rw [← HD.out]; exact decide_eq_false (fun e => hpq (by subst e; rw [hp] at hq; exact Option.some.inj hq))
          subst hne
          clear y1 y2 hp hq hpq
          go_wp2_with (first | ((with_reducible refine HS.out.mono ?_); rintro e w5 ⟨rfl, rfl⟩))
          go_ret
          first | exact ⟨rfl, rfl⟩ | exact ⟨trivial, rfl⟩ | exact ⟨rfl, trivial⟩
      · obtain rfl : k = n1 := by omega
        have hnl : ¬ ((k : Int) < k) := by omega
        rw [List.take_of_length_le (by rw [HN1.out]; exact Nat.le_refl _), List.take_of_length_le (by rw [HN2.out]; exact Nat.le_refl _)] at hab
        have hne : d = true := by rw [← HD.out]; exact decide_eq_true hab
        subst hne
        go_wp2
        go_ret
        first | exact ⟨rfl, rfl⟩ | exact ⟨trivial, rfl⟩ | exact ⟨rfl, trivial⟩
  · have hd : decide (a = b) = false := decide_eq_false (fun e => hnn (by rw [← hn1, ← hn2, e]))
    rw [hd]
    have hbn : ((n1 : Int) == n2) = false := beq_eq_false_iff_ne.2 (by omega)
    have hbm : ¬ (n1 : Int) = n2 := by omega
    clear hn1 hn2 hd
    go_enter Tryz.func82, Tryz.ntmps82
    go_wp2
    go_ret
    first | exact ⟨rfl, rfl⟩ | exact ⟨trivial, rfl⟩ | exact ⟨rfl, trivial⟩
theorem MsgV.cut1 {w : World} {a : Option Addr} {n cap : Nat} {xs : List Oct} (h : MsgV w (.slice a n cap) xs) (k : Nat) (hk : k ≤ xs.length) : MsgV w (.slice (if cap = k then a else a.map (fun x => x.add k)) (n - k) (cap - k)) (xs.drop k) := by
  obtain ⟨vs, R, M⟩ := h.reads
  refine ⟨vs.drop k, ⟨by have := R.1; simp at this ⊢; omega, ?_⟩, fun j x hx => ?_⟩
  · rcases R.2 with ⟨e, h0⟩ | ⟨b, off, cap', cs, e, h1, h2, h3, h4, h5⟩
    · simp only [Value.slice.injEq] at e
      obtain ⟨rfl, rfl, rfl⟩ := e
      refine .inl ⟨by simp, by rw [List.length_drop]; omega⟩
    · simp only [Value.slice.injEq] at e
      obtain ⟨rfl, rfl, rfl⟩ := e
      by_cases hc : cap = k
      · have : xs.drop k = [] := List.drop_eq_nil_of_le (by omega)
        rw [if_pos hc, this]
        refine .inr ⟨b, off, cap - k, cs, by simp; omega, by simp, by omega, h3, by omega, fun j u hu => ?_⟩
        rw [List.drop_eq_nil_of_le (by have := R.1; omega)] at hu
        simp at hu
      · rw [if_neg hc]
        refine .inr ⟨b, off + k, cap - k, cs, by simp [Addr.add, List.length_drop], by rw [List.length_drop]; omega, by omega, h3, by omega, fun j u hu => ?_⟩
        rw [List.getElem?_drop] at hu
        rw [show off + k + j = off + (k + j) by omega]
        exact h5 _ u hu
  · rw [List.getElem?_drop] at hx ⊢
    exact M.2 _ x hx
theorem MsgV.take1 {w : World} {a : Option Addr} {n cap : Nat} {xs : List Oct} (h : MsgV w (.slice a n cap) xs) (k : Nat) (hk : k ≤ xs.length) : MsgV w (.slice a k cap) (xs.take k) := by
  obtain ⟨vs, R, M⟩ := h.reads
  have hl : (xs.take k).length = k := by rw [List.length_take]; omega
  refine ⟨vs.take k, ⟨by have := R.1; rw [List.length_take, hl]; omega, ?_⟩, fun j x hx => ?_⟩
  · rcases R.2 with ⟨e, h0⟩ | ⟨b, off, cap', cs, e, h1, h2, h3, h4, h5⟩
    · simp only [Value.slice.injEq] at e
      obtain ⟨rfl, rfl, rfl⟩ := e
      have : k = 0 := by omega
      subst this
      exact .inl ⟨rfl, by simp⟩
    · simp only [Value.slice.injEq] at e
      obtain ⟨rfl, rfl, rfl⟩ := e
      refine .inr ⟨b, off, cap, cs, by rw [hl], by rw [hl]; omega, h2, h3, h4, fun j u hu => ?_⟩
      rw [List.getElem?_take] at hu
      split at hu
      · exact h5 j u hu
      · cases hu
  · rw [List.getElem?_take] at hx ⊢
    split at hx
    · rename_i hjk
      rw [if_pos hjk]
      exact M.2 j x hx
    · cases hx
theorem Prefix_c {w : World} {v1 v2 : Value} {a b : List Oct} (h1 : MsgV w v1 a) (h2 : MsgV w v2 b) (hl : a.length ≤ 100000) :
    Calls Tryz.prog 38 #[v1, v2] w fun e w' => e = .returned (.bool (decide (a <+: b))) ∧ w = w' := by
  have H1 := Lib.hid h1
  have H2 := Lib.hid h2
  obtain ⟨a1, c1, rfl, _⟩ := h1.shape
  obtain ⟨a2, c2, rfl, hc2⟩ := h2.shape
  obtain ⟨n1, hn1⟩ : ∃ n, a.length = n := ⟨_, rfl⟩
  obtain ⟨n2, hn2⟩ : ∃ n, b.length = n := ⟨_, rfl⟩
  rw [hn2] at hc2
  by_cases hle : n1 ≤ n2
  · have hle' : (n1 : Int) ≤ n2 := by omega
    have hcc : n1 ≤ c2 := by omega
    have hcc' : (n1 : Int) ≤ c2 := by omega
    have HT := EqF_c h1 (MsgV.take1 h2 n1 (by omega)) hl
    have ed : decide (a = b.take n1) = decide (a <+: b) := by
      rw [← hn1]
      exact decide_eq_decide.2 ⟨fun e => by rw [e]; exact List.take_prefix _ _, fun e => List.prefix_iff_eq_take.1 e⟩
    rw [ed] at HT
    rw [hn1] at HT ⊢
    rw [hn2]
    have HT := Lib.hid HT
    generalize decide (a <+: b) = d at HT ⊢
    clear h1 h2 hn1 hn2 ed
    go_enter Tryz.func38, Tryz.ntmps38
    go_wp2_with (first | ((with_reducible refine HT.out.mono ?_); rintro e w5 ⟨rfl, rfl⟩))
    go_ret
    exact ⟨rfl, rfl⟩
  · have hle' : ¬ (n1 : Int) ≤ n2 := by omega
    have ed : decide (a <+: b) = false := decide_eq_false (fun e => by have := e.length_le; omega)
    rw [ed, hn1, hn2]
    clear h1 h2 hn1 hn2 ed
    go_enter Tryz.func38, Tryz.ntmps38
    go_wp2
    go_ret
    exact ⟨rfl, rfl⟩
end
/-! ### The walks of score.Whole, and of the reference's SameAll over lists that may differ; lists that are joined. -/
section
open Go Go.RowKit
set_option linter.unusedVariables false
set_option maxHeartbeats 40000000
set_option maxRecDepth 100000
theorem Whole_c {w : World} {v1 v2 v3 : Value} {a b c : List Oct} (h1 : MsgV w v1 a) (h2 : MsgV w v2 b) (h3 : MsgV w v3 c) (l1 : a.length ≤ 100000) (l2 : b.length ≤ 100000) :
    Calls Tryz.prog 39 #[v1, v2, v3] w fun e w' => e = .returned (.bool (decide (a ++ b = c))) ∧ w = w' := by
  have HP1 := Prefix_c h1 h3 l1
  obtain ⟨a1, c1, rfl, _⟩ := h1.shape
  obtain ⟨a2, c2, rfl, _⟩ := h2.shape
  obtain ⟨a3, c3, rfl, hc3⟩ := h3.shape
  obtain ⟨n1, hn1⟩ : ∃ n, a.length = n := ⟨_, rfl⟩
  obtain ⟨n2, hn2⟩ : ∃ n, b.length = n := ⟨_, rfl⟩
  obtain ⟨n3, hn3⟩ : ∃ n, c.length = n := ⟨_, rfl⟩
  have hb1 : n1 ≤ 100000 := by omega
  have hb2 : n2 ≤ 100000 := by omega
  by_cases hl : n1 + n2 = n3
  · have hb3 : n3 ≤ 200000 := by omega
    have HP2 := Prefix_c h2 (MsgV.cut1 h3 n1 (by omega)) l2
    rw [hn1, hn3] at HP1
    rw [hn2, hn3] at HP2
    rw [hn1, hn2, hn3]
    rw [hn3] at hc3
    have e12 : ((n1 : Int) + n2 == n3) = true := beq_iff_eq.2 (by omega)
    have e12' : (n1 : Int) + n2 = n3 := by omega
    have e13 : (n1 + n2 == n3) = true := beq_iff_eq.2 hl
    have e14 : ((n1 : Int) + n2 = n3) = True := eq_true e12'
    have hle : n1 ≤ n3 := by omega
    have hle' : (n1 : Int) ≤ n3 := by omega
    have hcc : n3 ≤ c3 := hc3
    by_cases hp : a <+: c
    · rw [decide_eq_true hp] at HP1
      have ed : decide (b <+: c.drop n1) = decide (a ++ b = c) := by
        refine decide_eq_decide.2 ⟨fun h => ?_, fun h => ?_⟩
        · have e1 : b = c.drop n1 := h.eq_of_length (by rw [List.length_drop]; omega)
          have e2 : a = c.take n1 := by rw [← hn1]; exact List.prefix_iff_eq_take.1 hp
          rw [e1, e2, List.take_append_drop]
        · rw [← h, ← hn1, List.drop_left]
          exact List.prefix_refl _
      rw [ed] at HP2
      have HP1 := Lib.hid HP1
      have HP2 := Lib.hid HP2
      generalize decide (a ++ b = c) = d at HP2 ⊢
      clear h1 h2 h3 hn1 hn2 hn3 hp ed
      go_enter Tryz.func39, Tryz.ntmps39
      go_wp2_with (first
        | ((with_reducible refine HP1.out.mono ?_); rintro e w5 ⟨rfl, rfl⟩)
        | ((with_reducible refine HP2.out.mono ?_); rintro e w5 ⟨rfl, rfl⟩))
      all_goals
        go_ret
        first | exact ⟨rfl, rfl⟩ | exact ⟨rfl, trivial⟩
    · rw [decide_eq_false hp] at HP1
      have ed : decide (a ++ b = c) = false := decide_eq_false (fun e => hp ⟨b, e⟩)
      rw [ed]
      have HP1 := Lib.hid HP1
      clear h1 h2 h3 hn1 hn2 hn3 hp ed HP2
      go_enter Tryz.func39, Tryz.ntmps39
      go_wp2_with (first
        | ((with_reducible refine HP1.out.mono ?_); rintro e w5 ⟨rfl, rfl⟩))
      all_goals
        go_ret
        first | exact ⟨rfl, rfl⟩ | exact ⟨rfl, trivial⟩
  · have ed : decide (a ++ b = c) = false := decide_eq_false (fun e => hl (by rw [← hn1, ← hn2, ← hn3, ← e, List.length_append]))
    rw [ed, hn1, hn2, hn3]
    have e12 : ((n1 : Int) + n2 == n3) = false := beq_eq_false_iff_ne.2 (by omega)
    have e12' : ¬ (n1 : Int) + n2 = n3 := by omega
    have e13 : (n1 + n2 == n3) = false := beq_eq_false_iff_ne.2 hl
    have e14 : ((n1 : Int) + n2 = n3) = False := eq_false e12'
    clear h1 h2 h3 hn1 hn2 hn3 ed HP1
    go_enter Tryz.func39, Tryz.ntmps39
    go_wp2
    all_goals
      go_ret
      first | exact ⟨rfl, rfl⟩ | exact ⟨rfl, trivial⟩
theorem SameAny_c {w : World} {v1 v2 : Value} {a b : List Oct} (h1 : MsgV w v1 a) (h2 : MsgV w v2 b) (hl : a.length ≤ 100000) :
    Calls Tryz.prog 40 #[v1, v2] w fun e w' => e = .returned (.bool (decide (a = b))) ∧ Below w.heap.size w w' := by
  have H1 := Lib.hid h1
  have H2 := Lib.hid h2
  obtain ⟨a1, c1, rfl, _⟩ := h1.shape
  obtain ⟨a2, c2, rfl, _⟩ := h2.shape
  obtain ⟨n1, hn1⟩ : ∃ n, a.length = n := ⟨_, rfl⟩
  obtain ⟨n2, hn2⟩ : ∃ n, b.length = n := ⟨_, rfl⟩
  have HN1 := Lib.hid hn1
  have HN2 := Lib.hid hn2
  rw [hn1] at hl H1 ⊢
  rw [hn2] at H2 ⊢
  clear h1 h2
  by_cases hnn : n1 = n2
  · subst hnn
    obtain ⟨d, hd⟩ : ∃ d, decide (a = b) = d := ⟨_, rfl⟩
    have HD := Lib.hid hd
    rw [hd]
    clear hn1 hn2 hd
    go_enter Tryz.func40, Tryz.ntmps40
    go_wp2
    go_loopw [5] (fun i wr => ∃ k : Nat, k ≤ n1 ∧ i = .int .i64 k ∧ Below w.heap.size w wr ∧ a.take k = b.take k) (fun i _ => n1 - (intOf i).toNat)
    case atStart => exact ⟨0, by omega, rfl, bl_refl w, by simp⟩
    case round =>
      obtain ⟨k, hk, rfl, BB, hab⟩ := hrel
      have HB := Lib.hid BB
      clear BB
      by_cases hlt : k < n1
      · have hlt' : (k : Int) < n1 := by omega
        obtain ⟨p, hp⟩ : ∃ p, a[k]? = some p := ⟨_, List.getElem?_eq_getElem (by rw [HN1.out]; exact hlt)⟩
        obtain ⟨q, hq⟩ : ∃ q, b[k]? = some q := ⟨_, List.getElem?_eq_getElem (by rw [HN2.out]; exact hlt)⟩
        obtain ⟨b1, o1, u1, m1, d1, rfl, g1, y1⟩ := MsgV.nth H1.out hp
        obtain ⟨b2, o2, u2, m2, d2, rfl, g2, y2⟩ := MsgV.nth H2.out hq
        have Y1 := Lib.hid (Byt.below y1 HB.out)
        have Y2 := Lib.hid (Byt.below y2 HB.out)
        have up_1 := fun g : Up wr => below_cell g.ok (below_cell HB.out g1)
        have up_2 := fun g : Up wr => below_cell g.ok (below_cell HB.out g2)
        have up_c1 := fun g : Up wr => conv_back (Byt.below Y1.out g.ok)
        have up_c2 := fun g : Up wr => conv_back (Byt.below Y2.out g.ok)
        obtain ⟨s1, hs1⟩ : ∃ str, strOfNums p = str := ⟨_, rfl⟩
        obtain ⟨s2, hs2⟩ : ∃ str, strOfNums q = str := ⟨_, rfl⟩
        rw [hs1] at up_c1
        rw [hs2] at up_c2
        by_cases hpq : p = q
        · have e12 : s1 = s2 := by rw [← hs1, ← hs2, hpq]
          subst e12
          have HT := Lib.hid (show a.take (k + 1) = b.take (k + 1) from by rw [List.take_add_one, List.take_add_one, hab, hp, hq, hpq])
          clear y1 y2 hp hq hpq hs1 hs2 g1 g2
          go_upto_region 6 with fail
          refine wp_region_up (by kernel_rfl) (by kernel_rfl) ?_
          repeat (go_big_quiet_step (fail))
          refine wpQuiet_nil ?_
          clear up_1 up_2 up_c1 up_c2
          refine up_elim (fun w6 hb6 => ?_)
          go_wp2
          go_roundw
          case rel => exact ⟨k + 1, by omega, by go_num, bl_then HB.out hb6, HT.out⟩
          case measure => simp [intOf]; omega
        · have hst : (s1.toList == s2.toList) = false := beq_eq_false_iff_ne.2 (fun e => hpq (strNums_inj Y1.out.2 Y2.out.2 (by rw [hs1, hs2, e])))
          have hne : d = false := by rw [← HD.out]; exact decide_eq_false (fun e => hpq (by subst e; rw [hp] at hq; exact Option.some.inj hq))
          subst hne
          clear y1 y2 hp hq hpq hs1 hs2 g1 g2
          go_upto_region 6 with fail
          refine wp_region_up (by kernel_rfl) (by kernel_rfl) ?_
          repeat (go_big_quiet_step (fail))
          refine wpQuiet_nil ?_
          clear up_1 up_2 up_c1 up_c2
          refine up_elim (fun w6 hb6 => ?_)
          go_wp2
          go_ret
          exact ⟨rfl, bl_then HB.out hb6⟩
      · obtain rfl : k = n1 := by omega
        have hnl : ¬ ((k : Int) < k) := by omega
        rw [List.take_of_length_le (by rw [HN1.out]; exact Nat.le_refl _), List.take_of_length_le (by rw [HN2.out]; exact Nat.le_refl _)] at hab
        have hne : d = true := by rw [← HD.out]; exact decide_eq_true hab
        subst hne
        go_wp2
        go_ret
        exact ⟨rfl, HB.out⟩
  · have hd : decide (a = b) = false := decide_eq_false (fun e => hnn (by rw [← hn1, ← hn2, e]))
    rw [hd]
    have hbn : ((n1 : Int) == n2) = false := beq_eq_false_iff_ne.2 (by omega)
    have hbm : ¬ (n1 : Int) = n2 := by omega
    clear hn1 hn2 hd
    go_enter Tryz.func40, Tryz.ntmps40
    go_wp2
    go_ret
    exact ⟨rfl, bl_refl w⟩
end
/-! ### The walk of ScorePrefixes. -/
section
open Go Go.RowKit
set_option linter.unusedVariables false
set_option maxHeartbeats 40000000
set_option maxRecDepth 100000
theorem Msgs.app {w w1 : World} {u8 by_ : TypeId} {v' : Value} {xs ys : List Oct} {F : List Nat} {vs us : List Value} (hv : ∀ (j : Nat) (x : List Int), xs[j]? = some x → ∃ u, vs[j]? = some u ∧ Byt w u8 u x) (hl : vs.length = xs.length)
    (hy : ∀ (j : Nat) (x : List Int), ys[j]? = some x → ∃ u, us[j]? = some u ∧ Byt w u8 u x) (hF : Off w u8 F) (hc : Chg F w w1) (hr : Row w1 by_ 1 v' (xs.length + ys.length) (vs ++ us)) : Msgs w1 u8 by_ v' (xs ++ ys) := by
  refine ⟨vs ++ us, by rw [List.length_append]; exact hr, fun j x hx => ?_⟩
  by_cases hj : j < xs.length
  · rw [List.getElem?_append_left hj] at hx
    obtain ⟨u', h1, h2⟩ := hv j x hx
    exact ⟨u', by rw [List.getElem?_append_left (by omega)]; exact h1, h2.stay hF hc⟩
  · rw [List.getElem?_append_right (by omega)] at hx
    obtain ⟨u', h1, h2⟩ := hy _ x hx
    exact ⟨u', by rw [List.getElem?_append_right (by omega), hl]; exact h1, h2.stay hF hc⟩
/-- At an append of a list that is not empty, in a walk. -/
theorem wpList_msgs {ops : Array Oper} {rest : List Oper} {o : Oper} {a : Act} {Q : Exit → Act → World → Prop} (w : World) (hgd : o.guard = none) (s x : Operand) (t : TypeId)
    (ho : o.op = .call { callee := .builtin .append, args := #[s, x], argTypes := #[t, t] }) (ht : Tryz.prog.underlying t = some (.slice 25))
    (v : Value) (xs : List Oct) (hs : a.eval s = v) (hm : MsgV w v xs) (av : Option Addr) (m c : Nat) (ys : List Oct) (hx : a.eval x = .slice av m c) (hy : MsgV w (.slice av m c) ys) (h0 : 0 < m) (hl : xs.length ≤ 100000) (hl2 : ys.length ≤ 100000)
    (h : ∀ v' w', MsgV w' v' (xs ++ ys) → Chg (own v) w w' → (∀ b ∈ own v', b ∈ own v ∨ w.heap.size ≤ b) → wpList Tryz.prog ops Q rest (a.put o.dst v') w') : wpList Tryz.prog ops Q (o :: rest) a w := by
  obtain ⟨vs, R, M⟩ := hm
  obtain ⟨us, R2, M2⟩ := hy
  have off := (Typed.row R).off (t := 5) (by decide)
  rcases R2.2 with ⟨e, h9⟩ | ⟨b, of_, cap, cs, e, e1, e2, K, e4, e5⟩
  · simp only [Value.slice.injEq] at e
    omega
  · simp only [Value.slice.injEq] at e
    obtain ⟨rfl, rfl, rfl⟩ := e
    exact wpList_row_append w hgd s x t ho 25 Tryz.t25 (.slice none 0 0) 1 24 ht rfl rfl rfl rfl rfl (by decide) v xs.length vs hs R ⟨b, of_, none⟩ ys.length c us hx R2.1
      (fun j u hu => by rw [Addr.add_lit, K.c]; exact e5 j u hu) (fun u hu => by
        obtain ⟨j, hj, rfl⟩ := List.getElem_of_mem hu
        have hj2 : j < ys.length := by have := R2.1; omega
        obtain ⟨u', h1, h2⟩ := M2 j _ (List.getElem?_eq_getElem hj2)
        rw [List.getElem?_eq_getElem hj] at h1
        obtain ⟨au, cu, e, _⟩ := h2.1.shape
        rw [Option.some.inj h1, e]
        simp [Value.oneCell']) h0 (by simp [maxLen]; omega) (by omega)
      (fun v' w' R' C O => h v' w' (Msgs.app M (by have := R.1; omega) M2 off C R') C O)
/-- At an append of a list that is empty. -/
theorem wpList_msgs0 {ops : Array Oper} {rest : List Oper} {o : Oper} {a : Act} {Q : Exit → Act → World → Prop} (w : World) (hgd : o.guard = none) (s x : Operand) (t : TypeId)
    (ho : o.op = .call { callee := .builtin .append, args := #[s, x], argTypes := #[t, t] }) (ht : Tryz.prog.underlying t = some (.slice 25))
    (v : Value) (xs : List Oct) (hs : a.eval s = v) (hm : MsgV w v xs) (av : Option Addr) (c : Nat) (hx : a.eval x = .slice av 0 c)
    (h : wpList Tryz.prog ops Q rest (a.put o.dst v) w) : wpList Tryz.prog ops Q (o :: rest) a w := by
  obtain ⟨vs, R, M⟩ := hm
  have hrun : (Builtin.append_ #[t, t] o.type #[v, .slice av 0 c]).run Tryz.prog w = .ok v w := by
    have hi : Tryz.prog.info? 25 = some Tryz.t25 := rfl
    rcases R.2 with ⟨e, h9⟩ | ⟨b, of_, cap, cs, e, e1, e2, K, e4, e5⟩
    · subst e
      cases av <;> simp [Builtin.append_, run_underlying ht, sizeOf, typeInfo, hi, Builtin.lenOf, Builtin.firstCells, loadCells, loadCellsFrom]
    · subst e
      cases av <;> simp [Builtin.append_, run_underlying ht, sizeOf, typeInfo, hi, Builtin.lenOf, Builtin.firstCells, e1, storeCells, loadCells, loadCellsFrom]
  refine wpList_plain hgd fun K hK => ?_
  unfold Oper.wp
  simp [execOp, ho, resolve, invoke, builtin, hs, hx, hrun, Result.andThen]
  exact hK _ _ h
theorem lstO_nth {xs : Oct} {k : Nat} {p : Oct} (h : (lstO xs)[k]? = some p) : ∃ x, p = [x] := by
  unfold lstO at h
  rw [List.getElem?_map] at h
  obtain ⟨x, _, e⟩ := Option.map_eq_some_iff.1 h
  exact ⟨_, e.symm⟩
theorem ScorePrefixes_w (v1 : Value) (xs : Oct) (v2 : Value) (ys : Oct) (v3 : Value) (zs : Oct) (W : World) (h1 : BytI W [] v1 xs) (_l1 : xs.length ≤ maxLen) (h2 : BytI W [] v2 ys) (_l2 : ys.length ≤ maxLen) (h3 : BytI W [] v3 zs) (_l3 : zs.length ≤ maxLen) :
    Calls Tryz.prog 7 #[v1, v2, v3] W fun e W' => e = .returned (.bool true) ∧ Below W.heap.size W W' := by
  have HL1 := Lib.hid (Lists_c h1)
  have HL2 := Lib.hid (fun w (hb : Below W.heap.size W w) => Lists_c (h2.below hb))
  have HL3 := Lib.hid (fun w (hb : Below W.heap.size W w) => Lists_c (h3.below hb))
  obtain ⟨a1, c1, rfl, _⟩ := h1.shape
  obtain ⟨a2, c2, rfl, _⟩ := h2.shape
  obtain ⟨a3, c3, rfl, _⟩ := h3.shape
  have AW := Lib.hid (fun w => SAwake_c w)
  have HA1 := Lib.hid (fun (k : Nat) (p : Oct) (h : (lstO xs)[k]? = some p) => lstO_nth h)
  have HA2 := Lib.hid (fun (k : Nat) (p : Oct) (h : (lstO ys)[k]? = some p) => lstO_nth h)
  have la := lstO_len xs
  have lb := lstO_len ys
  have lc := lstO_len zs
  generalize lstO xs = A at *
  generalize lstO ys = B at *
  generalize lstO zs = C at *
  generalize xs.length = n1 at *
  generalize ys.length = n2 at *
  generalize zs.length = n3 at *
  clear h1 h2 h3 _l1 _l2 _l3
  obtain ⟨na, hna⟩ : ∃ n, A.length = n := ⟨_, rfl⟩
  obtain ⟨nb, hnb⟩ : ∃ n, B.length = n := ⟨_, rfl⟩
  have HNA := Lib.hid hna
  have HNB := Lib.hid hnb
  rw [hna] at la
  rw [hnb] at lb
  go_enter Tryz.func7, Tryz.ntmps7
  go_upto_region 4 with (first
    | ((with_reducible refine HL1.out.mono ?_); rintro e w2 ⟨va, rfl, A2⟩; have A2h := Lib.hid A2; have HLB := Lib.hid (HL2.out _ A2.bel); clear A2)
    | ((with_reducible refine HLB.out.mono ?_); rintro e w3 ⟨vb, rfl, A3⟩; have A3h := Lib.hid A3; have HLC := Lib.hid (HL3.out _ (bl_then A2h.out.bel A3.bel)); clear A3)
    | ((with_reducible refine HLC.out.mono ?_); rintro e w4 ⟨vc, rfl, A4⟩; have A4h := Lib.hid A4; clear A4))
  have BW := Lib.hid (bl_then (bl_then A2h.out.bel A3h.out.bel) A4h.out.bel)
  have MA := Lib.hid (show MsgV w4 va A from Msgs.below A2h.out.ms (bl_then A3h.out.bel A4h.out.bel))
  have MB := Lib.hid (show MsgV w4 vb B from Msgs.below A3h.out.ms A4h.out.bel)
  have MC := Lib.hid (show MsgV w4 vc C from A4h.out.ms)
  obtain ⟨ava, cva, eva, _⟩ := MsgV.shape MA.out
  obtain ⟨avb, cvb, evb, _⟩ := MsgV.shape MB.out
  obtain ⟨avc, cvc, evc, _⟩ := MsgV.shape MC.out
  rw [hna] at eva
  rw [hnb] at evb
  subst eva evb evc
  clear hna hnb
  have hdd : decide ((na : Int) ≤ nb) = decide (na ≤ nb) := by simp
  go_upto_region 5 with fail
  go_wp2
  go_loopw [10, 11] (fun bg i wr => ∃ k : Nat, k ≤ na ∧ i = .int .i64 k ∧ bg = .bool (decide (na ≤ nb ∧ A.take k = B.take k)) ∧ Below w4.heap.size w4 wr) (fun _ i _ => na - (intOf i).toNat)
  case atStart => exact ⟨0, by omega, rfl, by simp, bl_refl w4⟩
  case round =>
    obtain ⟨k, hk, rfl, rfl, BB⟩ := hrel
    have HB := Lib.hid BB
    by_cases hlt : k < na ∧ (na ≤ nb ∧ A.take k = B.take k)
    · obtain ⟨hlt, hle, hab⟩ := hlt
      have hlt' : (k : Int) < na := by omega
      have hltb : k < nb := by omega
      have hltb' : (k : Int) < nb := by omega
      rw [decide_eq_true (⟨hle, hab⟩ : na ≤ nb ∧ A.take k = B.take k)]
      obtain ⟨p, hp⟩ : ∃ p, A[k]? = some p := ⟨_, List.getElem?_eq_getElem (by rw [HNA.out]; exact hlt)⟩
      obtain ⟨q, hq⟩ : ∃ q, B[k]? = some q := ⟨_, List.getElem?_eq_getElem (by rw [HNB.out]; exact hltb)⟩
      obtain ⟨x, rfl⟩ := HA1.out k p hp
      obtain ⟨y, rfl⟩ := HA2.out k q hq
      obtain ⟨b1, o1, u1, m1, d1, rfl, g1, y1⟩ := MsgV.nth MA.out hp
      obtain ⟨b2, o2, u2, m2, d2, rfl, g2, y2⟩ := MsgV.nth MB.out hq
      obtain ⟨rfl, e1, f1, rfl, q1⟩ := BytV.first y1
      obtain ⟨rfl, e2, f2, rfl, q2⟩ := BytV.first y2
      have up_1 := fun g : Up wr => below_cell g.ok (below_cell HB.out g1)
      have up_2 := fun g : Up wr => below_cell g.ok (below_cell HB.out q1)
      have up_3 := fun g : Up wr => below_cell g.ok (below_cell HB.out g2)
      have up_4 := fun g : Up wr => below_cell g.ok (below_cell HB.out q2)
      have hd : decide (na ≤ nb ∧ A.take (k + 1) = B.take (k + 1)) = (x == y) := by
        rw [List.take_add_one, List.take_add_one, hab, hp, hq]
        by_cases hxy : x = y
        · rw [hxy, beq_iff_eq.2 rfl]; exact decide_eq_true ⟨hle, rfl⟩
        · rw [beq_eq_false_iff_ne.2 hxy]; exact decide_eq_false (fun e => hxy (by simpa using e.2))
      have HD := Lib.hid hd
      clear y1 y2 hp hq hd g1 g2 q1 q2 BB
      go_upto_region 8 with fail
      refine wp_region_up (by kernel_rfl) (by kernel_rfl) ?_
      repeat (go_big_quiet_step (fail))
      refine wpQuiet_nil ?_
      clear up_1 up_2 up_3 up_4
      refine up_elim (fun w6 hb6 => ?_)
      go_wp2
      go_roundw
      case rel => exact ⟨k + 1, by omega, by go_num, by rw [HD.out], bl_then HB.out hb6⟩
      case measure => simp [intOf]; omega
    · have hdp : decide (na ≤ nb ∧ A.take k = B.take k) = decide (A <+: B) := by
        refine decide_eq_decide.2 ⟨fun ⟨q1, q2⟩ => ?_, fun e => ⟨by have := e.length_le; have := HNA.out; have := HNB.out; omega, ?_⟩⟩
        · have hkk : ¬ k < na := fun q => hlt ⟨q, q1, q2⟩
          have : k = na := by omega
          rw [this, List.take_of_length_le (by rw [HNA.out]; exact Nat.le_refl _)] at q2
          rw [q2]
          exact List.take_prefix _ _
        · obtain ⟨r, rfl⟩ := e
          rw [List.take_append_of_le_length (by rw [HNA.out]; exact hk)]
      have hstop : ((k : Int) < na → decide (A <+: B) = false) := fun q => by
        rw [← hdp]
        exact decide_eq_false (fun e => hlt ⟨by omega, e⟩)
      rw [hdp]
      obtain ⟨bg, hbg⟩ : ∃ bg, decide (A <+: B) = bg := ⟨_, rfl⟩
      rw [hbg] at hstop ⊢
      have HBG := Lib.hid hbg
      have m4a := Lib.hid (show MsgV wr _ A from Msgs.below MA.out BB)
      have m4b := Lib.hid (show MsgV wr _ B from Msgs.below MB.out BB)
      have m4c := Lib.hid (show MsgV wr _ C from Msgs.below MC.out BB)
      have hcs : (¬ (k : Int) < na) ∨ ((k : Int) < na ∧ bg = false) := by
        by_cases q : (k : Int) < na
        · exact .inr ⟨q, hstop q⟩
        · exact .inl q
      clear hdp hstop hbg BB hlt
      by_cases hna0 : 0 < na
      · rcases hcs with hcs | ⟨hcs, rfl⟩
        all_goals
          by_cases hnb0 : 0 < nb
          ·
            go_upto_region 10 with (first
              | (at_builtin; refine wpList_msgs _ rfl (.const (.slice none 0 0)) (.tmp 46) 46 rfl Tryz.underlying46 _ [] rfl MsgV.nil _ _ _ A rfl m4a.out hna0 (by simp) (by have := HNA.out; omega) ?_; intro v6 w6 R6 C6 O6; have AXa := Lib.hid ((AccM.nil wr).grow (by simpa using R6) C6 O6); clear R6 C6 O6)
              | (at_builtin; refine wpList_msgs _ rfl (.tmp 47) (.tmp 48) 46 rfl Tryz.underlying46 _ A rfl AXa.out.ms _ _ _ B rfl (Msgs.below m4b.out AXa.out.bel) hnb0 (by have := HNA.out; simp; try omega) (by have := HNB.out; omega) ?_; intro v7 w7 R7 C7 O7; have AXb := Lib.hid (AXa.out.grow R7 C7 O7); clear R7 C7 O7))
            have AX := AXb
            have BK := Lib.hid (bl_then BW.out (bl_then HB.out AX.out.bel))
            have QA := Lib.hid (show MsgV _ _ A from Msgs.below m4a.out AX.out.bel)
            have QB := Lib.hid (show MsgV _ _ B from Msgs.below m4b.out AX.out.bel)
            have QC := Lib.hid (show MsgV _ _ C from Msgs.below m4c.out AX.out.bel)
            obtain ⟨AB, hAB⟩ : ∃ AB, A ++ B = AB := ⟨_, rfl⟩
            rw [hAB] at AX
            have HAB := Lib.hid hAB
            obtain ⟨axv, cxv, exv, _⟩ := MsgV.shape AX.out.ms
            obtain ⟨nab, hnab⟩ : ∃ n, AB.length = n := ⟨_, rfl⟩
            rw [hnab] at exv
            have lAB : AB.length ≤ 100000 := by rw [← hAB, List.length_append]; have := HNA.out; have := HNB.out; omega
            have lA : A.length ≤ 100000 := by have := HNA.out; omega
            have lB : B.length ≤ 100000 := by have := HNB.out; omega
            obtain ⟨dC, hdC⟩ : ∃ d, decide (AB = C) = d := ⟨_, rfl⟩
            have HDC := Lib.hid hdC
            clear hnab hdC hAB
            first | subst exv | skip
            go_wp2_with (first
              | ((with_reducible refine (AW.out _).mono ?_); rintro e w8 ⟨rfl, b8⟩; (have X1 := Prefix_c (Msgs.below QA.out b8) (Msgs.below QB.out b8) lA); rw [HBG.out] at X1; (have X1 := Lib.hid X1); (have X2 := Prefix_c (Msgs.below QA.out b8) (Msgs.below AX.out.ms b8) lA); rw [decide_eq_true (HAB.out ▸ List.prefix_append A B : A <+: AB)] at X2; (have X2 := Lib.hid X2); (have X3 := Whole_c (Msgs.below QA.out b8) (Msgs.below QB.out b8) (Msgs.below AX.out.ms b8) lA lB); rw [decide_eq_true HAB.out] at X3; (have X3 := Lib.hid X3); (have X4 := Whole_c (Msgs.below QA.out b8) (Msgs.below QB.out b8) (Msgs.below QC.out b8) lA lB); rw [HAB.out, HDC.out] at X4; (have X4 := Lib.hid X4); (have X5 := SameAny_c (Msgs.below AX.out.ms b8) (Msgs.below QC.out b8) lAB); rw [HDC.out] at X5; (have X5 := Lib.hid X5); have B8 := Lib.hid b8; clear b8)
              | ((with_reducible refine X1.out.mono ?_); rintro e w9 ⟨rfl, rfl⟩)
              | ((with_reducible refine X2.out.mono ?_); rintro e w9 ⟨rfl, rfl⟩)
              | ((with_reducible refine X3.out.mono ?_); rintro e w9 ⟨rfl, rfl⟩)
              | ((with_reducible refine X4.out.mono ?_); rintro e w9 ⟨rfl, rfl⟩)
              | ((with_reducible refine X5.out.mono ?_); rintro e w9 ⟨rfl, b9⟩; have B9 := Lib.hid b9; clear b9))
            go_ret
            exact ⟨by first | rfl | simp, bl_then BK.out (bl_then B8.out B9.out)⟩
          · obtain rfl : nb = 0 := by omega
            have hB0 : B = [] := List.length_eq_zero_iff.1 HNB.out
            go_upto_region 10 with (first
              | (at_builtin; refine wpList_msgs _ rfl (.const (.slice none 0 0)) (.tmp 46) 46 rfl Tryz.underlying46 _ [] rfl MsgV.nil _ _ _ A rfl m4a.out hna0 (by simp) (by have := HNA.out; omega) ?_; intro v6 w6 R6 C6 O6; have AXa := Lib.hid ((AccM.nil wr).grow (by simpa using R6) C6 O6); clear R6 C6 O6)
              | (at_builtin; refine wpList_msgs0 _ rfl (.tmp 47) (.tmp 48) 46 rfl Tryz.underlying46 _ A rfl AXa.out.ms _ _ rfl ?_))
            have AX := Lib.hid (show AccM wr _ _ (A ++ B) from by rw [hB0, List.append_nil]; exact AXa.out)
            have BK := Lib.hid (bl_then BW.out (bl_then HB.out AX.out.bel))
            have QA := Lib.hid (show MsgV _ _ A from Msgs.below m4a.out AX.out.bel)
            have QB := Lib.hid (show MsgV _ _ B from Msgs.below m4b.out AX.out.bel)
            have QC := Lib.hid (show MsgV _ _ C from Msgs.below m4c.out AX.out.bel)
            obtain ⟨AB, hAB⟩ : ∃ AB, A ++ B = AB := ⟨_, rfl⟩
            rw [hAB] at AX
            have HAB := Lib.hid hAB
            obtain ⟨axv, cxv, exv, _⟩ := MsgV.shape AX.out.ms
            obtain ⟨nab, hnab⟩ : ∃ n, AB.length = n := ⟨_, rfl⟩
            rw [hnab] at exv
            have lAB : AB.length ≤ 100000 := by rw [← hAB, List.length_append]; have := HNA.out; have := HNB.out; omega
            have lA : A.length ≤ 100000 := by have := HNA.out; omega
            have lB : B.length ≤ 100000 := by have := HNB.out; omega
            obtain ⟨dC, hdC⟩ : ∃ d, decide (AB = C) = d := ⟨_, rfl⟩
            have HDC := Lib.hid hdC
            clear hnab hdC hAB
            first | subst exv | skip
            go_wp2_with (first
              | ((with_reducible refine (AW.out _).mono ?_); rintro e w8 ⟨rfl, b8⟩; (have X1 := Prefix_c (Msgs.below QA.out b8) (Msgs.below QB.out b8) lA); rw [HBG.out] at X1; (have X1 := Lib.hid X1); (have X2 := Prefix_c (Msgs.below QA.out b8) (Msgs.below AX.out.ms b8) lA); rw [decide_eq_true (HAB.out ▸ List.prefix_append A B : A <+: AB)] at X2; (have X2 := Lib.hid X2); (have X3 := Whole_c (Msgs.below QA.out b8) (Msgs.below QB.out b8) (Msgs.below AX.out.ms b8) lA lB); rw [decide_eq_true HAB.out] at X3; (have X3 := Lib.hid X3); (have X4 := Whole_c (Msgs.below QA.out b8) (Msgs.below QB.out b8) (Msgs.below QC.out b8) lA lB); rw [HAB.out, HDC.out] at X4; (have X4 := Lib.hid X4); (have X5 := SameAny_c (Msgs.below AX.out.ms b8) (Msgs.below QC.out b8) lAB); rw [HDC.out] at X5; (have X5 := Lib.hid X5); have B8 := Lib.hid b8; clear b8)
              | ((with_reducible refine X1.out.mono ?_); rintro e w9 ⟨rfl, rfl⟩)
              | ((with_reducible refine X2.out.mono ?_); rintro e w9 ⟨rfl, rfl⟩)
              | ((with_reducible refine X3.out.mono ?_); rintro e w9 ⟨rfl, rfl⟩)
              | ((with_reducible refine X4.out.mono ?_); rintro e w9 ⟨rfl, rfl⟩)
              | ((with_reducible refine X5.out.mono ?_); rintro e w9 ⟨rfl, b9⟩; have B9 := Lib.hid b9; clear b9))
            go_ret
            exact ⟨by first | rfl | simp, bl_then BK.out (bl_then B8.out B9.out)⟩
      · obtain rfl : na = 0 := by omega
        replace hcs := hcs.resolve_right (fun h9 => by omega)
        have hA0 : A = [] := List.length_eq_zero_iff.1 HNA.out
        by_cases hnb0 : 0 < nb
        ·
          go_upto_region 10 with (first
            | (at_builtin; refine wpList_msgs0 _ rfl (.const (.slice none 0 0)) (.tmp 46) 46 rfl Tryz.underlying46 _ [] rfl MsgV.nil _ _ rfl ?_)
            | (at_builtin; refine wpList_msgs _ rfl (.tmp 47) (.tmp 48) 46 rfl Tryz.underlying46 _ [] rfl (AccM.nil wr).ms _ _ _ B rfl m4b.out hnb0 (by have := HNA.out; simp; try omega) (by have := HNB.out; omega) ?_; intro v7 w7 R7 C7 O7; have AXb := Lib.hid ((AccM.nil wr).grow R7 C7 O7); clear R7 C7 O7))
          have AX := Lib.hid (show AccM wr _ _ (A ++ B) from by rw [hA0]; exact AXb.out)
          have BK := Lib.hid (bl_then BW.out (bl_then HB.out AX.out.bel))
          have QA := Lib.hid (show MsgV _ _ A from Msgs.below m4a.out AX.out.bel)
          have QB := Lib.hid (show MsgV _ _ B from Msgs.below m4b.out AX.out.bel)
          have QC := Lib.hid (show MsgV _ _ C from Msgs.below m4c.out AX.out.bel)
          obtain ⟨AB, hAB⟩ : ∃ AB, A ++ B = AB := ⟨_, rfl⟩
          rw [hAB] at AX
          have HAB := Lib.hid hAB
          obtain ⟨axv, cxv, exv, _⟩ := MsgV.shape AX.out.ms
          obtain ⟨nab, hnab⟩ : ∃ n, AB.length = n := ⟨_, rfl⟩
          rw [hnab] at exv
          have lAB : AB.length ≤ 100000 := by rw [← hAB, List.length_append]; have := HNA.out; have := HNB.out; omega
          have lA : A.length ≤ 100000 := by have := HNA.out; omega
          have lB : B.length ≤ 100000 := by have := HNB.out; omega
          obtain ⟨dC, hdC⟩ : ∃ d, decide (AB = C) = d := ⟨_, rfl⟩
          have HDC := Lib.hid hdC
          clear hnab hdC hAB
          first | subst exv | skip
          go_wp2_with (first
            | ((with_reducible refine (AW.out _).mono ?_); rintro e w8 ⟨rfl, b8⟩; (have X1 := Prefix_c (Msgs.below QA.out b8) (Msgs.below QB.out b8) lA); rw [HBG.out] at X1; (have X1 := Lib.hid X1); (have X2 := Prefix_c (Msgs.below QA.out b8) (Msgs.below AX.out.ms b8) lA); rw [decide_eq_true (HAB.out ▸ List.prefix_append A B : A <+: AB)] at X2; (have X2 := Lib.hid X2); (have X3 := Whole_c (Msgs.below QA.out b8) (Msgs.below QB.out b8) (Msgs.below AX.out.ms b8) lA lB); rw [decide_eq_true HAB.out] at X3; (have X3 := Lib.hid X3); (have X4 := Whole_c (Msgs.below QA.out b8) (Msgs.below QB.out b8) (Msgs.below QC.out b8) lA lB); rw [HAB.out, HDC.out] at X4; (have X4 := Lib.hid X4); (have X5 := SameAny_c (Msgs.below AX.out.ms b8) (Msgs.below QC.out b8) lAB); rw [HDC.out] at X5; (have X5 := Lib.hid X5); have B8 := Lib.hid b8; clear b8)
            | ((with_reducible refine X1.out.mono ?_); rintro e w9 ⟨rfl, rfl⟩)
            | ((with_reducible refine X2.out.mono ?_); rintro e w9 ⟨rfl, rfl⟩)
            | ((with_reducible refine X3.out.mono ?_); rintro e w9 ⟨rfl, rfl⟩)
            | ((with_reducible refine X4.out.mono ?_); rintro e w9 ⟨rfl, rfl⟩)
            | ((with_reducible refine X5.out.mono ?_); rintro e w9 ⟨rfl, b9⟩; have B9 := Lib.hid b9; clear b9))
          go_ret
          exact ⟨by first | rfl | simp, bl_then BK.out (bl_then B8.out B9.out)⟩
        · obtain rfl : nb = 0 := by omega
          have hB0 : B = [] := List.length_eq_zero_iff.1 HNB.out
          go_upto_region 10 with (first
            | (at_builtin; refine wpList_msgs0 _ rfl (.const (.slice none 0 0)) (.tmp 46) 46 rfl Tryz.underlying46 _ [] rfl MsgV.nil _ _ rfl ?_)
            | (at_builtin; refine wpList_msgs0 _ rfl (.tmp 47) (.tmp 48) 46 rfl Tryz.underlying46 _ [] rfl MsgV.nil _ _ rfl ?_))
          have AX := Lib.hid (show AccM wr wr (.slice none 0 0) (A ++ B) from by rw [hA0, hB0]; exact AccM.nil wr)
          have BK := Lib.hid (bl_then BW.out (bl_then HB.out AX.out.bel))
          have QA := Lib.hid (show MsgV _ _ A from Msgs.below m4a.out AX.out.bel)
          have QB := Lib.hid (show MsgV _ _ B from Msgs.below m4b.out AX.out.bel)
          have QC := Lib.hid (show MsgV _ _ C from Msgs.below m4c.out AX.out.bel)
          obtain ⟨AB, hAB⟩ : ∃ AB, A ++ B = AB := ⟨_, rfl⟩
          rw [hAB] at AX
          have HAB := Lib.hid hAB
          obtain ⟨axv, cxv, exv, _⟩ := MsgV.shape AX.out.ms
          obtain ⟨nab, hnab⟩ : ∃ n, AB.length = n := ⟨_, rfl⟩
          rw [hnab] at exv
          have lAB : AB.length ≤ 100000 := by rw [← hAB, List.length_append]; have := HNA.out; have := HNB.out; omega
          have lA : A.length ≤ 100000 := by have := HNA.out; omega
          have lB : B.length ≤ 100000 := by have := HNB.out; omega
          obtain ⟨dC, hdC⟩ : ∃ d, decide (AB = C) = d := ⟨_, rfl⟩
          have HDC := Lib.hid hdC
          clear hnab hdC hAB
          first | subst exv | skip
          go_wp2_with (first
            | ((with_reducible refine (AW.out _).mono ?_); rintro e w8 ⟨rfl, b8⟩; (have X1 := Prefix_c (Msgs.below QA.out b8) (Msgs.below QB.out b8) lA); rw [HBG.out] at X1; (have X1 := Lib.hid X1); (have X2 := Prefix_c (Msgs.below QA.out b8) (Msgs.below AX.out.ms b8) lA); rw [decide_eq_true (HAB.out ▸ List.prefix_append A B : A <+: AB)] at X2; (have X2 := Lib.hid X2); (have X3 := Whole_c (Msgs.below QA.out b8) (Msgs.below QB.out b8) (Msgs.below AX.out.ms b8) lA lB); rw [decide_eq_true HAB.out] at X3; (have X3 := Lib.hid X3); (have X4 := Whole_c (Msgs.below QA.out b8) (Msgs.below QB.out b8) (Msgs.below QC.out b8) lA lB); rw [HAB.out, HDC.out] at X4; (have X4 := Lib.hid X4); (have X5 := SameAny_c (Msgs.below AX.out.ms b8) (Msgs.below QC.out b8) lAB); rw [HDC.out] at X5; (have X5 := Lib.hid X5); have B8 := Lib.hid b8; clear b8)
            | ((with_reducible refine X1.out.mono ?_); rintro e w9 ⟨rfl, rfl⟩)
            | ((with_reducible refine X2.out.mono ?_); rintro e w9 ⟨rfl, rfl⟩)
            | ((with_reducible refine X3.out.mono ?_); rintro e w9 ⟨rfl, rfl⟩)
            | ((with_reducible refine X4.out.mono ?_); rintro e w9 ⟨rfl, rfl⟩)
            | ((with_reducible refine X5.out.mono ?_); rintro e w9 ⟨rfl, b9⟩; have B9 := Lib.hid b9; clear b9))
          go_ret
          exact ⟨by first | rfl | simp, bl_then BK.out (bl_then B8.out B9.out)⟩
end
end Go.Proofs.YtcllbmjmefeknaaGreatK
