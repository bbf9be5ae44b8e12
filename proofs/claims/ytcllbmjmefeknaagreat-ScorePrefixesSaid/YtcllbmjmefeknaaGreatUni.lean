/- A region that draws its order, of which some operations were taken already: then a head that is quiet in a class of worlds, in any order, and a tail in one forced order. The walks of unit.bit, unit.Right, unit.body. The walk of unit.Encode. The walk of unit.Decode. unit.Decode, of octets of any length. -/
import Derived.Test.YtcllbmjmefeknaaGreatCore
import Derived.Test.YtcllbmjmefeknaaGreatBt1
namespace Go.Proofs.YtcllbmjmefeknaaGreatK
/-! ### A region that draws its order, of which some operations were taken already: then a head that is quiet in a class of worlds, in any order, and a tail in one forced order. -/
section
open Go Go.RowKit
set_option linter.unusedVariables false
set_option linter.unusedVariables false
section
variable {P : Program} {ops : Array Oper} {md : Region.Mode} {C : World → Prop}
/-- Operations by their places. -/
def pickO (ops : Array Oper) (hs : List Nat) : List Oper := hs.filterMap fun k => ops[k]?
def sink0 (md : Region.Mode) (ops : Array Oper) (L0 : Array Bool) (n : Nat) : Bool :=
  (List.range n).all fun i => L0.getD i false || (List.range (n + 1)).any fun j => decide (i < j) && !L0.getD j false && Region.waitsFor md ops j i
def chain0 (md : Region.Mode) (ops : Array Oper) (L0 : Array Bool) (n : Nat) : Bool :=
  (List.range ops.size).all fun t => decide (t ≤ n) || L0.getD t false || (List.range t).any fun p => decide (n ≤ p) && !L0.getD p false && Region.waitsFor md ops t p
def closed0 (md : Region.Mode) (ops : Array Oper) (L0 : Array Bool) : Bool :=
  (List.range ops.size).all fun j => !L0.getD j false || (List.range ops.size).all fun i => !Region.waitsFor md ops j i || L0.getD i false
def range0 (ops : Array Oper) : Bool := ops.toList.all fun o => o.after.toList.all fun e => decide (e.on < ops.size)
structure Inv0 (md : Region.Mode) (ops : Array Oper) (L0 : Array Bool) (n : Nat) (listed : Array Bool) : Prop where
  size : listed.size = ops.size
  closed : ∀ j oj, ops[j]? = some oj → listed.getD j false = true → ∀ e ∈ oj.after, Region.binds md e = true → listed.getD e.on false = true
  tail : ∀ t, n ≤ t → t < ops.size → L0.getD t false = false → listed.getD t true = false
  base : ∀ t, L0.getD t false = true → listed.getD t false = true
theorem getD_tf {listed : Array Bool} {t : Nat} (h : listed.getD t false = true) : listed.getD t true = true := by
  rcases Nat.lt_or_ge t listed.size with h' | h'
  · simp [h'] at h ⊢; exact h
  · simp [Array.getElem?_eq_none h'] at h
theorem Inv0.set {n i : Nat} {L0 listed : Array Bool} (inv : Inv0 md ops L0 n listed) (hi : i ∈ Region.ready md ops listed) (hin : i < n) : Inv0 md ops L0 n (listed.setIfInBounds i true) := by
  obtain ⟨_, oi, hoi, hall⟩ := mem_ready.1 hi
  refine ⟨by simp [inv.size], fun j oj hj hl e he hb => ?_, fun t ht ht' h0 => by rw [getD_set_ne true (by omega)]; exact inv.tail t ht ht' h0, fun t h0 => getD_set_true (inv.base t h0)⟩
  by_cases hij : i = j
  · subst hij
    have : oj = oi := Option.some.inj (hj.symm.trans hoi)
    subst this
    exact getD_set_true (hall e he hb)
  · rw [getD_set_ne false hij] at hl
    exact getD_set_true (inv.closed j oj hj hl e he hb)
theorem waits0 {n : Nat} {L0 listed : Array Bool} (hs : sink0 md ops L0 n = true) (hc : chain0 md ops L0 n = true) (hn : n < ops.size) (inv : Inv0 md ops L0 n listed) :
    ∀ (d i : Nat), n - i = d → i < n → listed.getD i true = false → ∀ t, n ≤ t → t ∉ Region.ready md ops listed := by
  intro d
  induction d using Nat.strongRecOn with
  | _ d ih =>
    intro i hd hi hun t ht hr
    obtain ⟨hunt, ot, hot, hall⟩ := mem_ready.1 hr
    have htlt : t < ops.size := (Array.getElem?_eq_some_iff.1 hot).1
    have ht0 : L0.getD t false = false := by
      cases h : L0.getD t false with
      | false => rfl
      | true => have := getD_tf (inv.base t h); rw [hunt] at this; cases this
    by_cases htn : t = n
    · subst htn
      have h1 := List.all_eq_true.1 hs i (List.mem_range.2 hi)
      simp only [Bool.or_eq_true] at h1
      rcases h1 with h1 | h1
      · have := getD_tf (inv.base i h1); rw [hun] at this; cases this
      · obtain ⟨j, hj, hj2⟩ := List.any_eq_true.1 h1
        simp only [Bool.and_eq_true, decide_eq_true_eq] at hj2
        obtain ⟨⟨hij, hj0⟩, hw⟩ := hj2
        obtain ⟨oj, hoj, e, he, hb, hon⟩ := Region.waitsFor_spec hw
        have hjle : j ≤ t := by have := List.mem_range.1 hj; omega
        by_cases hjt : j = t
        · subst hjt
          have : oj = ot := Option.some.inj (hoj.symm.trans hot)
          subst this
          have h2 := hall e he hb
          rw [hon, getD_both hun] at h2
          cases h2
        · cases hl : listed.getD j false with
          | true =>
            have h2 := inv.closed j oj hoj hl e he hb
            rw [hon, getD_both hun] at h2
            cases h2
          | false =>
            have hjs : j < listed.size := by rw [inv.size]; omega
            exact ih (t - j) (by omega) j rfl (by omega) (getD_in hjs hl) t (Nat.le_refl _) hr
    · have h1 := List.all_eq_true.1 hc t (List.mem_range.2 htlt)
      simp only [Bool.or_eq_true, decide_eq_true_eq] at h1
      rcases h1 with (h1 | h1) | h1
      · omega
      · rw [ht0] at h1; cases h1
      · obtain ⟨p, hp, hp2⟩ := List.any_eq_true.1 h1
        simp only [Bool.and_eq_true, decide_eq_true_eq, Bool.not_eq_true'] at hp2
        obtain ⟨⟨hnp, hp0⟩, hw⟩ := hp2
        obtain ⟨o', ho', e, he, hb, hon⟩ := Region.waitsFor_spec hw
        have : o' = ot := Option.some.inj (ho'.symm.trans hot)
        subst this
        have h2 := hall e he hb
        have hpt : p < t := List.mem_range.1 hp
        rw [hon, getD_both (inv.tail p hnp (by omega) hp0)] at h2
        cases h2
theorem first0 {n i : Nat} {oi : Oper} {v : Value} {L0 : Array Bool} {L : Array Bool → Act → Prop} (hi : ops[i]? = some oi) (hsel : ∀ (j : Nat) (o : Oper) cs b, ops[j]? = some o → o.op ≠ .select cs b)
    (hs : sink0 md ops L0 n = true) (hc : chain0 md ops L0 n = true) (hn : n < ops.size) (hin : i < n)
    (hdone : ∀ listed a, L listed a → ∀ j ∈ Region.ready md ops listed, n ≤ j) :
    ∀ (f : Nat) (listed : Array Bool) (a : Act), Inv0 md ops L0 n listed →
      (∀ j oj, ops[j]? = some oj → j ≠ i → listed.getD j true = false → (∀ e ∈ oj.after, Region.binds md e = true → e.on ≠ i) → oi.apart ops oj = true) →
      i ∈ Region.ready md ops listed → YieldsIn P ops C oi v a →
      wpAnyLQ P md ops C n L f (listed.setIfInBounds i true) (a.put oi.dst v) → wpAnyLQ P md ops C n L (f + 1) listed a := by
  intro f
  induction f with
  | zero =>
    intro listed a inv _ hr hy H
    have hun := (mem_ready.1 hr).1
    refine ⟨fun h => (by rw [h] at hr; cases hr), fun j hj => ?_⟩
    have hjn : j < n := by
      rcases Nat.lt_or_ge j n with h | h
      · exact h
      · exact absurd hj (waits0 hs hc hn inv _ i rfl hin hun j h)
    refine ⟨hjn, ?_⟩
    by_cases hji : j = i
    · subst hji; exact hy.qOp hi H
    · have := hdone _ _ H j (ready_mono hj hji)
      omega
  | succ f ih =>
    intro listed a inv hfree hr hy H
    have hun := (mem_ready.1 hr).1
    refine ⟨fun h => (by rw [h] at hr; cases hr), fun j hj => ?_⟩
    have hjn : j < n := by
      rcases Nat.lt_or_ge j n with h | h
      · exact h
      · exact absurd hj (waits0 hs hc hn inv _ i rfl hin hun j h)
    refine ⟨hjn, ?_⟩
    by_cases hji : j = i
    · subst hji; exact hy.qOp hi H
    · have h1 := (H.2 j (ready_mono hj hji)).2
      obtain ⟨hjun, oj, hoj, hall⟩ := mem_ready.1 hj
      have hnot : ∀ e ∈ oj.after, Region.binds md e = true → e.on ≠ i := fun e he hb heq => by
        have h1 := hall e he hb
        rw [heq, getD_both hun] at h1
        cases h1
      have h2 := qOp_put hoj (hfree j oj hoj hji hjun hnot) (fun cs b => hsel i oi cs b hi) (fun cs b => hsel j oj cs b hoj) hy h1
      have hfree' : ∀ k ok, ops[k]? = some ok → k ≠ i → (listed.setIfInBounds j true).getD k true = false →
          (∀ e ∈ ok.after, Region.binds md e = true → e.on ≠ i) → oi.apart ops ok = true := fun k ok hk hki hun hno => by
        refine hfree k ok hk hki ?_ hno
        by_cases hjk : j = k
        · subst hjk; exact hjun
        · rw [getD_set_ne true hjk] at hun; exact hun
      refine qOp_mono (fun a' h3 => ih (listed.setIfInBounds j true) a' (inv.set hj hjn) hfree' (ready_mono hr (Ne.symm hji)) h3.1 ?_) h2
      rw [Array.setIfInBounds_comm _ _ hji]
      exact h3.2
/-- The tail's order is forced. -/
def seq0 (md : Region.Mode) (ops : Array Oper) : List Nat → Array Bool → Bool
  | [], listed => (Region.ready md ops listed).isEmpty
  | k :: ts, listed => decide (Region.ready md ops listed = [k]) && decide (k < ops.size) && seq0 md ops ts (listed.setIfInBounds k true)
theorem wpAny_of_seq0 {Q' : Exit → Act → World → Prop} : ∀ (ts : List Nat) (listed : Array Bool) (a : Act) (w : World),
    seq0 md ops ts listed = true → wpList P ops Q' (pickO ops ts) a w → wpAny P md ops Q' ts.length listed a w
  | [], _, _, _, hB, h => ⟨by simpa [seq0] using hB, h⟩
  | k :: ts, listed, a, w, hB, h => by
    simp only [seq0, Bool.and_eq_true, decide_eq_true_eq] at hB
    obtain ⟨⟨h1, h2⟩, h3⟩ := hB
    have h0 : ops[k]? = some ops[k] := Array.getElem?_eq_getElem h2
    refine ⟨fun h4 => (by rw [h1] at h4; cases h4), fun i hi => ?_⟩
    rw [h1] at hi
    have hik : i = k := by simpa using hi
    subst hik
    have hp : pickO ops (i :: ts) = ops[i] :: pickO ops ts := by simp [pickO, h0]
    rw [hp] at h
    have hw : wpOp P ops Q' i (wpList P ops Q' (pickO ops ts)) a w := by unfold wpOp; simp only [h0]; exact h
    exact wpOp_mono (fun a' w' h' => wpAny_of_seq0 ts _ a' w' h3 h') hw
/-- The head, in the order in which its operations stand. -/
def lex0 (md : Region.Mode) (ops : Array Oper) (n : Nat) (ts : List Nat) : List Nat → Array Bool → Bool
  | [], listed => seq0 md ops ts listed && (Region.ready md ops listed).all fun j => decide (n ≤ j)
  | k :: hs, listed => decide (k < n) && decide (k < ops.size) && (Region.ready md ops listed).contains k && Region.free md ops listed k && lex0 md ops n ts hs (listed.setIfInBounds k true)
theorem wpAnyLQ_lex0 {n : Nat} {L0 : Array Bool} {ts : List Nat} {Lq : Act → Prop} (hsel : Region.noSelect ops = true) (hs : sink0 md ops L0 n = true) (hc : chain0 md ops L0 n = true) (hn : n < ops.size) :
    ∀ (l : List Nat) (listed : Array Bool) (a : Act), Inv0 md ops L0 n listed → lex0 md ops n ts l listed = true → wpQuiet P ops C Lq (pickO ops l) a →
    wpAnyLQ P md ops C n (fun listed' a' => (seq0 md ops ts listed' = true ∧ (Region.ready md ops listed').all (fun j => decide (n ≤ j)) = true) ∧ Lq a') l.length listed a
  | [], listed, a, _, hB, h => ⟨by simpa [lex0] using hB, h⟩
  | k :: l, listed, a, inv, hB, h => by
    simp only [lex0, Bool.and_eq_true, decide_eq_true_eq] at hB
    obtain ⟨⟨⟨⟨hkn, hks⟩, hr⟩, hf⟩, hB'⟩ := hB
    have h0 : ops[k]? = some ops[k] := Array.getElem?_eq_getElem hks
    have hr' : k ∈ Region.ready md ops listed := by simpa using hr
    have hp : pickO ops (k :: l) = ops[k] :: pickO ops l := by simp [pickO, h0]
    rw [hp] at h
    have hst : qOp P ops C k (wpQuiet P ops C Lq (pickO ops l)) a := by unfold qOp; simp only [h0]; exact h
    obtain ⟨v, hy, hK⟩ := yieldsIn_of_qOp h0 hst
    exact first0 h0 (Region.noSelect_spec hsel) hs hc hn hkn (fun listed' a' hL j hj => by
      have := List.all_eq_true.1 hL.1.2 j hj
      simpa using this) l.length listed a inv (Region.free_spec h0 hf) hr' hy
      (wpAnyLQ_lex0 hsel hs hc hn l _ _ (inv.set hr' hkn) hB' hK)
def pickB (md : Region.Mode) (ops : Array Oper) (L0 : Array Bool) (n : Nat) (hs ts : List Nat) : Bool :=
  Region.noSelect ops && decide (n < ops.size) && decide (L0.size = ops.size) && sink0 md ops L0 n && chain0 md ops L0 n && closed0 md ops L0 && range0 ops && lex0 md ops n ts hs L0
/-- From where some operations are listed already. The head's and the tail's operations are given as lists, too. -/
theorem wpAny_pick {Q : Exit → Act → World → Prop} {L0 : Array Bool} {a : Act} {w : World} (n : Nat) (hs ts : List Nat) (l1 l2 : List Oper) (hB : pickB md ops L0 n hs ts = true) (e1 : pickO ops hs = l1) (e2 : pickO ops ts = l2) (hC : C w)
    (h : wpQuiet P ops C (fun a' => ∀ w', C w' → wpList P ops Q l2 a' w') l1 a) : wpAny P md ops Q (hs.length + ts.length) L0 a w := by
  subst e1 e2
  simp only [pickB, Bool.and_eq_true, decide_eq_true_eq] at hB
  obtain ⟨⟨⟨⟨⟨⟨⟨hsel, hn⟩, hsz⟩, hsi⟩, hch⟩, hcl⟩, hrg⟩, hlex⟩ := hB
  have inv0 : Inv0 md ops L0 n L0 := ⟨hsz, fun j oj hj hl e he hb => by
    have hjs : j < ops.size := (Array.getElem?_eq_some_iff.1 hj).1
    have h1 := List.all_eq_true.1 hcl j (List.mem_range.2 hjs)
    rw [hl] at h1
    simp only [Bool.not_true, Bool.false_or] at h1
    by_cases hes : e.on < ops.size
    · have h2 := List.all_eq_true.1 h1 e.on (List.mem_range.2 hes)
      have hw : Region.waitsFor md ops j e.on = true := by
        unfold Region.waitsFor
        rw [hj]
        exact Array.any_eq_true'.2 ⟨e, he, by simp [hb]⟩
      rw [hw] at h2
      simpa using h2
    · have h2 := List.all_eq_true.1 hrg oj (by rw [← Array.mem_def]; exact Array.mem_of_getElem? hj)
      have h3 := List.all_eq_true.1 h2 e (by rw [← Array.mem_def]; exact he)
      simp only [decide_eq_true_eq] at h3
      exact absurd h3 hes, fun t _ ht h0 => getD_in (by rw [hsz]; exact ht) h0, fun t h0 => h0⟩
  have H := wpAnyLQ_lex0 (ts := ts) hsel hsi hch hn hs L0 a inv0 hlex h
  exact wpAny_of_headQ (Q' := Q) (g := ts.length) (fun listed a' w' hw' hL => wpAny_of_seq0 ts listed a' w' hL.1.1 (hL.2 w' hw')) _ _ _ _ hC H
/-- .. of the operations of a region that is written as a list. -/
theorem wpAny_pickL {Q : Exit → Act → World → Prop} {L0 : Array Bool} {a : Act} {w : World} {l : List Oper} (n : Nat) (hs ts : List Nat) (f1 f2 : List Oper → List Oper) (hB : pickB md l.toArray L0 n hs ts = true) (e1 : pickO l.toArray hs = f1 l) (e2 : pickO l.toArray ts = f2 l) (hC : C w)
    (h : wpQuiet P l.toArray C (fun a' => ∀ w', C w' → wpList P l.toArray Q (f2 l) a' w') (f1 l) a) : wpAny P md l.toArray Q (hs.length + ts.length) L0 a w :=
  wpAny_pick n hs ts _ _ hB e1 e2 hC h
end
end
/-! ### The walks of unit.bit, unit.Right, unit.body. -/
section
open Go Go.RowKit
set_option linter.unusedVariables false
set_option maxHeartbeats 2000000
set_option maxRecDepth 100000
def bitU (n : Int) (on : Bool) : Int := if on then n % 128 + 128 else n % 128
theorem Bit_c {w : World} (n : Int) (on : Bool) (h0 : 0 ≤ n) (h1 : n ≤ 255) : Calls Tryz.prog 151 #[.int .u8 n, .bool on] w fun e w' => e = .returned (.int .u8 (bitU n on)) ∧ w = w' := by
  obtain ⟨k, hk⟩ : ∃ k : Nat, n % 128 = k := ⟨(n % 128).toNat, by omega⟩
  have k1 : k < 2 ^ 7 := by have : (k : Int) < 128 := by omega
                            omega
  have hor : bits .or .u8 (n % 128) 128 = n % 128 + 128 := by
    have h := or8 k 7 k1 (by decide)
    rw [hk]
    exact h
  clear hk k1
  cases on
  all_goals
    unfold bitU
    go_enter Tryz.func151, Tryz.ntmps151
    go_wp2
    go_ret
    exact ⟨rfl, rfl⟩
def rightU (u : Un) : Int :=
  if 128 ≤ u.bsn ∨ 128 ≤ u.fsn ∨ 2 < u.kind ∨ (u.kind = 1 ∧ 7 < u.status) then 1
  else if u.kind = 2 ∧ u.info.length < 3 then 5 else if u.kind = 2 ∧ 273 < u.info.length then 6 else 0
theorem URight_c {w : World} {F : List Nat} {u : Un} {vi : Value} (hu : u.ok) (hv : BytI w F vi u.info) :
    Calls Tryz.prog 149 #[u.v vi] w fun e w' => e = .returned (.int .i64 (rightU u)) ∧ Below w.heap.size w w' := by
  obtain ⟨a, cap, rfl, hcap⟩ := hv.shape
  have hb := hu.bsn
  have hf := hu.fsn
  have hkk := hu.kind
  have hss := hu.status
  have hli := hu.info
  clear hv hu
  obtain ⟨bsn, fsn, bib, fib, kind, status, wide, info⟩ := u
  dsimp only at hb hf hkk hss hli hcap ⊢
  obtain ⟨n, hn⟩ : ∃ n, info.length = n := ⟨_, rfl⟩
  unfold rightU
  dsimp only
  simp only [hn]
  rw [hn] at hli hcap
  clear hn
  by_cases c1 : 128 ≤ bsn
  · rw [if_pos (.inl c1)]
    go_enter Tryz.func149, Tryz.ntmps149
    go_wp2
    go_ret
    exact ⟨rfl, bl_alloc (bl_refl w) _⟩
  by_cases c2 : 128 ≤ fsn
  · rw [if_pos (.inr (.inl c2))]
    go_enter Tryz.func149, Tryz.ntmps149
    go_wp2
    go_ret
    exact ⟨rfl, bl_alloc (bl_refl w) _⟩
  by_cases c3 : 2 < kind
  · rw [if_pos (.inr (.inr (.inl c3)))]
    go_enter Tryz.func149, Tryz.ntmps149
    go_wp2
    go_ret
    exact ⟨rfl, bl_alloc (bl_refl w) _⟩
  by_cases c4 : kind = 1
  · subst c4
    by_cases c5 : 7 < status
    · rw [if_pos (.inr (.inr (.inr ⟨rfl, c5⟩)))]
      go_enter Tryz.func149, Tryz.ntmps149
      go_wp2
      go_ret
      exact ⟨rfl, bl_alloc (bl_refl w) _⟩
    · rw [if_neg (by omega), if_neg (by omega), if_neg (by omega)]
      go_enter Tryz.func149, Tryz.ntmps149
      go_wp2
      go_ret
      exact ⟨rfl, bl_alloc (bl_refl w) _⟩
  by_cases c6 : kind = 2
  · subst c6
    rw [if_neg (by omega)]
    by_cases c7 : n < 3
    · have c7' : (n : Int) < 3 := by omega
      rw [if_pos ⟨rfl, c7⟩]
      go_enter Tryz.func149, Tryz.ntmps149
      go_wp2
      go_ret
      exact ⟨rfl, bl_alloc (bl_refl w) _⟩
    · have c7' : ¬ (n : Int) < 3 := by omega
      rw [if_neg (by omega)]
      by_cases c8 : 273 < n
      · have c8' : (273 : Int) < n := by omega
        rw [if_pos ⟨rfl, c8⟩]
        go_enter Tryz.func149, Tryz.ntmps149
        go_wp2
        go_ret
        exact ⟨rfl, bl_alloc (bl_refl w) _⟩
      · have c8' : ¬ (273 : Int) < n := by omega
        rw [if_neg (by omega)]
        go_enter Tryz.func149, Tryz.ntmps149
        go_wp2
        go_ret
        exact ⟨rfl, bl_alloc (bl_refl w) _⟩
  · have k1 : (kind == 1) = false := beq_eq_false_iff_ne.2 c4
    have k2 : (kind == 2) = false := beq_eq_false_iff_ne.2 c6
    rw [if_neg (by omega), if_neg (by omega), if_neg (by omega)]
    go_enter Tryz.func149, Tryz.ntmps149
    go_wp2
    go_ret
    exact ⟨rfl, bl_alloc (bl_refl w) _⟩
def bodyU (u : Un) : Oct := if u.kind = 1 then (if u.wide then [u.status, 0] else [u.status]) else if u.kind = 2 then u.info else []
theorem Body_c {w : World} {u : Un} {vi : Value} (hu : u.ok) (hv : BytI w [] vi u.info) :
    Calls Tryz.prog 150 #[u.v vi] w fun e w' => ∃ v, e = .returned v ∧ BytI w' [] v (bodyU u) ∧ Below w.heap.size w w' := by
  have HV := Lib.hid hv
  obtain ⟨a, cap, rfl, hcap⟩ := hv.shape
  have hss := hu.status
  clear hv hu
  obtain ⟨bsn, fsn, bib, fib, kind, status, wide, info⟩ := u
  dsimp only at hss hcap HV ⊢
  unfold bodyU
  dsimp only
  have AB := Lib.hid (bl_alloc (bl_refl w) (.cells #[.int .u8 bsn, .int .u8 fsn, .bool bib, .bool fib, .int .u8 kind, .int .u8 status, .bool wide, .slice a info.length cap] 188))
  by_cases c4 : kind = 1
  · subst c4
    rw [if_pos rfl]
    cases wide with
    | true =>
      go_enter Tryz.func150, Tryz.ntmps150
      go_wp2
      go_ret
      exact ⟨_, rfl, (by
        have h9 := (byt_new2 (w := w.alloc (.cells #[.int .u8 bsn, .int .u8 fsn, .bool bib, .bool fib, .int .u8 1, .int .u8 status, .bool true, .slice a info.length cap] 188)) status 0 hss (by decide)).i0
        simpa using h9), bl_alloc AB.out _⟩
    | false =>
      go_enter Tryz.func150, Tryz.ntmps150
      go_wp2
      go_ret
      exact ⟨_, rfl, (by
        have h9 := (byt_new1 (w := w.alloc (.cells #[.int .u8 bsn, .int .u8 fsn, .bool bib, .bool fib, .int .u8 1, .int .u8 status, .bool false, .slice a info.length cap] 188)) status hss).i0
        simpa using h9), bl_alloc AB.out _⟩
  · rw [if_neg c4]
    have k1 : (kind == 1) = false := beq_eq_false_iff_ne.2 c4
    by_cases c6 : kind = 2
    · subst c6
      rw [if_pos rfl]
      go_enter Tryz.func150, Tryz.ntmps150
      go_wp2
      go_ret
      exact ⟨_, rfl, HV.out.below AB.out, AB.out⟩
    · rw [if_neg c6]
      have k2 : (kind == 2) = false := beq_eq_false_iff_ne.2 c6
      go_enter Tryz.func150, Tryz.ntmps150
      go_wp2
      go_ret
      exact ⟨_, rfl, byt_nil.i0, AB.out⟩
end
/-! ### The walk of unit.Encode. -/
section
open Go Go.RowKit
set_option linter.unusedVariables false
set_option maxHeartbeats 60000000
set_option maxRecDepth 100000
/-- At an append of octets to others, in a region that draws. -/
theorem step_byt {ops : Array Oper} {o : Oper} {a : Act} {K : Act → World → Prop} {Q : Exit → Act → World → Prop} {E : Prop} (w : World) (hgd : o.guard = none) (s x : Operand) (t : TypeId)
    (ho : o.op = .call { callee := .builtin .append, args := #[s, x], argTypes := #[t, t] }) (ht : Tryz.prog.underlying t = some (.slice 5)) {F : List Nat}
    (v u : Value) (xs ys : Oct) (hs : a.eval s = v) (hx : a.eval x = u) (hv : BytV w v xs) (hu : BytI w F u ys) (hl : xs.length + ys.length ≤ 1000000)
    (h : ∀ v' w', BytV w' v' (xs ++ ys) → Chg (own v) w w' → (∀ b ∈ own v', b ∈ own v ∨ w.heap.size ≤ b) → K (a.put o.dst v') w') :
    if Region.wanted o (yielded ops a.tmps) = true then Oper.wp Tryz.prog o a w K Q else E := by
  have hw : Region.wanted o (yielded ops a.tmps) = true := by simp [Region.wanted, hgd]
  rw [if_pos hw]
  obtain ⟨v', w', hrun, h2, h3, h4⟩ := run_byt_append w t o.type ht hv hu hl
  unfold Oper.wp execOp
  simp only [ho, resolve, invoke, builtin, Sem.run_bind, Sem.run_pure, Result.andThen_ok, List.map_toArray, List.map_cons, List.map_nil, hs, hx, hrun]
  exact h v' w' h2 h3 h4
def lenU (u : Un) : Int := if 63 < (bodyU u).length then 63 else (bodyU u).length
def encU (u : Un) : Oct := [bitU u.bsn u.bib, bitU u.fsn u.fib, lenU u] ++ bodyU u
theorem bodyU_len {u : Un} (h : u.info.length ≤ 1000) : (bodyU u).length ≤ 1000 := by
  unfold bodyU
  split
  · split <;> simp
  · split
    · exact h
    · simp
theorem Encode_c {w : World} {u : Un} {vi : Value} (hu : u.ok) (hv : BytI w [] vi u.info) :
    Calls Tryz.prog 124 #[u.v vi] w fun e w' => ∃ v, e = .returned (.tuple #[v, .int .i64 (rightU u)]) ∧ AccO w w' v (if rightU u = 0 then encU u else []) := by
  obtain ⟨a, cap, rfl, hcap⟩ := hv.shape
  have hb := hu.bsn
  have hf := hu.fsn
  have AB := Lib.hid (bl_alloc (bl_refl w) (.cells #[.int .u8 u.bsn, .int .u8 u.fsn, .bool u.bib, .bool u.fib, .int .u8 u.kind, .int .u8 u.status, .bool u.wide, .slice a u.info.length cap] 188))
  have N1 := Lib.hid (Blk.new w #[.int .u8 u.bsn, .int .u8 u.fsn, .bool u.bib, .bool u.fib, .int .u8 u.kind, .int .u8 u.status, .bool u.wide, .slice a u.info.length cap] 188)
  have HV := Lib.hid (hv.below AB.out)
  have HR := Lib.hid (URight_c hu HV.out)
  have HU := Lib.hid hu
  have HB := Lib.hid (fun (w2 : World) (b2 : Below (w.alloc (.cells #[.int .u8 u.bsn, .int .u8 u.fsn, .bool u.bib, .bool u.fib, .int .u8 u.kind, .int .u8 u.status, .bool u.wide, .slice a u.info.length cap] 188)).heap.size (w.alloc (.cells #[.int .u8 u.bsn, .int .u8 u.fsn, .bool u.bib, .bool u.fib, .int .u8 u.kind, .int .u8 u.status, .bool u.wide, .slice a u.info.length cap] 188)) w2) => Body_c (w := w2) hu (HV.out.below b2))
  have bl := bodyU_len hu.info
  have el : encU u = [bitU u.bsn u.bib, bitU u.fsn u.fib, lenU u] ++ bodyU u := rfl
  rw [el]
  clear el hu hv
  have G1 := Lib.hid (fun w => Bit_c (w := w) u.bsn u.bib hb.1 hb.2)
  have G2 := Lib.hid (fun w => Bit_c (w := w) u.fsn u.fib hf.1 hf.2)
  have r1 : 0 ≤ bitU u.bsn u.bib ∧ bitU u.bsn u.bib ≤ 255 := by unfold bitU; split <;> omega
  have r2 : 0 ≤ bitU u.fsn u.fib ∧ bitU u.fsn u.fib ≤ 255 := by unfold bitU; split <;> omega
  unfold lenU
  generalize rightU u = e at HR ⊢
  generalize bitU u.bsn u.bib = x1 at G1 r1 ⊢
  generalize bitU u.fsn u.fib = x2 at G2 r2 ⊢
  generalize bodyU u = p at HB bl ⊢
  obtain ⟨bsn, fsn, bib, fib, kind, status, wide, info⟩ := u
  dsimp only at *
  by_cases he : e = 0
  · subst he
    rw [if_pos rfl]
    by_cases h63 : 63 < p.length
    · rw [if_pos h63]
      have h63' : (63 : Int) < p.length := by omega
      go_enter Tryz.func124, Tryz.ntmps124
      go_upto_region 5 with (first
        | ((with_reducible refine HR.out.mono ?_); rintro e w2 ⟨rfl, b2⟩; have HB2 := Lib.hid (HB.out w2 b2); have N2 := Lib.hid (N1.out.below b2); have n2c := N2.out.c; have B2 := Lib.hid (bl_then AB.out b2); clear b2)
        | ((with_reducible refine HB2.out.mono ?_); rintro e w3 ⟨v3, rfl, y3, b3⟩; (obtain ⟨a3, c3, rfl, _⟩ := y3.shape); have Y3 := Lib.hid y3; have N3 := Lib.hid (N2.out.below b3); have n3c := N3.out.c; have B3 := Lib.hid (bl_then B2.out b3); clear b3 y3))
      have CU1 := Lib.hid (fun g : Up w3 => Up.calls_same g (G1.out g.val))
      have CU2 := Lib.hid (fun g : Up w3 => Up.calls_same g (G2.out g.val))
      refine wp_region_any (by kernel_rfl) ?_
      show wpAny _ _ _ _ 19 _ _ _
      refine wpAny_take (i := 15) (v := ?v) rfl (by kernel_rfl) (by kernel_rfl) (by kernel_rfl) (fun _ _ _ h => h) (Or.inl ⟨by rfl, ?hy⟩) ?_
      case hy =>
        intro w
        go_simp
        with_reducible rfl
      refine wpAny_pickL (C := fun w' => ∃ g : Up w3, w' = g.1) 14 [0, 1, 2, 3, 4, 5, 6, 7, 8, 9, 10, 11, 12, 13] [14, 16, 17, 18] (fun l => l.take 14) (fun l => (l.drop 14).eraseIdx 1) (by kernel_rfl) (by kernel_rfl) (by kernel_rfl) ⟨⟨_, (Below.refl _ w3).drew⟩, rfl⟩ ?_
      simp only [List.take_succ_cons, List.take_zero, List.drop_succ_cons, List.drop_zero, List.eraseIdx_cons_succ, List.eraseIdx_cons_zero, Act.put, List.getElem_toArray, List.getElem_cons_succ, List.getElem_cons_zero, List.setIfInBounds_toArray, List.set_cons_succ, List.set_cons_zero]
      have up_n3 := fun (g : Up w3) => (Blk.below N3.out g.ok).c
      repeat (go_big_quiet_step (first | (with_reducible exact CU1.out _) | (with_reducible exact CU2.out _)))
      refine wpQuiet_nil ?_
      clear up_n3
      refine up_elim (fun w4 hb4 => ?_)
      have Y4 := Lib.hid (Y3.out.below (bl_then hb4 (bl_alloc (bl_refl w4) (.cells #[.int .u8 x1, .int .u8 x2, .int .u8 63] 5))))
      have A5 := Lib.hid (show AccO w (w4.alloc (.cells #[.int .u8 x1, .int .u8 x2, .int .u8 63] 5)) (.slice (some ⟨w4.heap.size, 0, none⟩) 3 3) [x1, x2, 63] from ⟨bl_alloc (bl_then B3.out hb4) _, byt_new3 (w := w4) r1 r2 (by omega), fun g hg => by
        obtain rfl : g = w4.heap.size := by simpa [own, Value.ownBlock] using hg
        exact Nat.le_trans B3.out.size hb4.size⟩)
      go_wp2_with (first
        | (at_builtin; refine wpList_byt _ rfl (.tmp 27) (.tmp 28) 25 rfl Tryz.underlying25 _ _ [x1, x2, 63] p rfl rfl A5.out.byt Y4.out (by simp; omega) ?_; intro v6 w6 R6 C6 O6; have A6 := Lib.hid (A5.out.grow R6 C6 O6); clear R6 C6 O6))
      go_ret2
      exact ⟨_, rfl, A6.out⟩
    · rw [if_neg h63]
      have p255 : (p.length : Int) ≤ 255 := by omega
      have h63' : ¬ (63 : Int) < p.length := by omega
      go_enter Tryz.func124, Tryz.ntmps124
      go_upto_region 5 with (first
        | ((with_reducible refine HR.out.mono ?_); rintro e w2 ⟨rfl, b2⟩; have HB2 := Lib.hid (HB.out w2 b2); have N2 := Lib.hid (N1.out.below b2); have n2c := N2.out.c; have B2 := Lib.hid (bl_then AB.out b2); clear b2)
        | ((with_reducible refine HB2.out.mono ?_); rintro e w3 ⟨v3, rfl, y3, b3⟩; (obtain ⟨a3, c3, rfl, _⟩ := y3.shape); have Y3 := Lib.hid y3; have N3 := Lib.hid (N2.out.below b3); have n3c := N3.out.c; have B3 := Lib.hid (bl_then B2.out b3); clear b3 y3))
      have CU1 := Lib.hid (fun g : Up w3 => Up.calls_same g (G1.out g.val))
      have CU2 := Lib.hid (fun g : Up w3 => Up.calls_same g (G2.out g.val))
      refine wp_region_any (by kernel_rfl) ?_
      show wpAny _ _ _ _ 19 _ _ _
      refine wpAny_take (i := 15) (v := ?v2) rfl (by kernel_rfl) (by kernel_rfl) (by kernel_rfl) (fun _ _ _ h => h) (Or.inl ⟨by rfl, ?hy2⟩) ?_
      case hy2 =>
        intro w
        go_simp
        with_reducible rfl
      refine wpAny_pickL (C := fun w' => ∃ g : Up w3, w' = g.1) 14 [0, 1, 2, 3, 4, 5, 6, 7, 8, 9, 10, 11, 12, 13] [14, 16, 17, 18] (fun l => l.take 14) (fun l => (l.drop 14).eraseIdx 1) (by kernel_rfl) (by kernel_rfl) (by kernel_rfl) ⟨⟨_, (Below.refl _ w3).drew⟩, rfl⟩ ?_
      simp only [List.take_succ_cons, List.take_zero, List.drop_succ_cons, List.drop_zero, List.eraseIdx_cons_succ, List.eraseIdx_cons_zero, Act.put, List.getElem_toArray, List.getElem_cons_succ, List.getElem_cons_zero, List.setIfInBounds_toArray, List.set_cons_succ, List.set_cons_zero]
      have up_n3 := fun (g : Up w3) => (Blk.below N3.out g.ok).c
      repeat (go_big_quiet_step (first | (with_reducible exact CU1.out _) | (with_reducible exact CU2.out _)))
      refine wpQuiet_nil ?_
      clear up_n3
      refine up_elim (fun w4 hb4 => ?_)
      have Y4 := Lib.hid (Y3.out.below (bl_then hb4 (bl_alloc (bl_refl w4) (.cells #[.int .u8 x1, .int .u8 x2, .int .u8 (p.length : Int)] 5))))
      have A5 := Lib.hid (show AccO w (w4.alloc (.cells #[.int .u8 x1, .int .u8 x2, .int .u8 (p.length : Int)] 5)) (.slice (some ⟨w4.heap.size, 0, none⟩) 3 3) [x1, x2, (p.length : Int)] from ⟨bl_alloc (bl_then B3.out hb4) _, byt_new3 (w := w4) r1 r2 (by omega), fun g hg => by
        obtain rfl : g = w4.heap.size := by simpa [own, Value.ownBlock] using hg
        exact Nat.le_trans B3.out.size hb4.size⟩)
      go_wp2_with (first
        | (at_builtin; refine wpList_byt _ rfl (.tmp 27) (.tmp 28) 25 rfl Tryz.underlying25 _ _ [x1, x2, (p.length : Int)] p rfl rfl A5.out.byt Y4.out (by simp; omega) ?_; intro v6 w6 R6 C6 O6; have A6 := Lib.hid (A5.out.grow R6 C6 O6); clear R6 C6 O6))
      go_ret2
      exact ⟨_, rfl, A6.out⟩
  · rw [if_neg he]
    have he' : (e != 0) = true := by simpa using he
    go_enter Tryz.func124, Tryz.ntmps124
    go_wp2_with (first
      | ((with_reducible refine HR.out.mono ?_); rintro e w2 ⟨rfl, b2⟩; have B2 := Lib.hid (bl_then AB.out b2); clear b2))
    go_ret2
    exact ⟨_, rfl, B2.out, byt_nil, by simp [own, Value.ownBlock]⟩
end
/-! ### The walk of unit.Decode. -/
section
open Go Go.RowKit
set_option linter.unusedVariables false
set_option maxHeartbeats 20000000
set_option maxRecDepth 100000
/-- What is read of a unit's octets, and the error's number. -/
def decU (p : Oct) : Un × Int :=
  if p.length < 3 then (Un.nil, 5) else if 276 < p.length then (Un.nil, 6)
  else if p.getD 2 0 % 64 ≠ (if 63 < p.length - 3 then 63 else ((p.length - 3 : Nat) : Int)) then (Un.nil, 4)
  else if p.length = 3 then (⟨p.getD 0 0 % 128, p.getD 1 0 % 128, decide (128 ≤ p.getD 0 0), decide (128 ≤ p.getD 1 0), 0, 0, false, []⟩, 0)
  else if p.length ≤ 5 then (⟨p.getD 0 0 % 128, p.getD 1 0 % 128, decide (128 ≤ p.getD 0 0), decide (128 ≤ p.getD 1 0), 1, p.getD 3 0 % 8, decide (p.length = 5), []⟩, 0)
  else (⟨p.getD 0 0 % 128, p.getD 1 0 % 128, decide (128 ≤ p.getD 0 0), decide (128 ≤ p.getD 1 0), 2, 0, false, p.drop 3⟩, 0)
theorem Decode_short {w : World} {v : Value} {p : Oct} (h : BytI w [] v p) (hl : p.length < 3 ∨ 276 < p.length) (hm : p.length ≤ 100000) :
    Calls Tryz.prog 94 #[v] w fun e w' => ∃ vi, e = .returned (.tuple #[(decU p).1.v vi, .int .i64 (decU p).2]) ∧ BytV w' vi (decU p).1.info ∧ Below w.heap.size w w' := by
  obtain ⟨a, cap, rfl, hcap⟩ := h.shape
  clear h
  unfold decU
  obtain ⟨n, hn⟩ : ∃ n, p.length = n := ⟨_, rfl⟩
  simp only [hn]
  rw [hn] at hl hm hcap
  clear hn
  have AB := Lib.hid (bl_alloc (bl_refl w) (.cells #[.int .u8 0, .int .u8 0, .bool false, .bool false, .int .u8 0, .int .u8 0, .bool false, .slice none 0 0] 188))
  by_cases h3 : n < 3
  · have h3' : (n : Int) < 3 := by omega
    rw [if_pos h3]
    go_enter Tryz.func94, Tryz.ntmps94
    go_wp2
    refine bodyPost_ret (res_ct rfl Un.laid rfl (Blk.new w #[.int .u8 0, .int .u8 0, .bool false, .bool false, .int .u8 0, .int .u8 0, .bool false, .slice none 0 0] 188) rfl) rfl ⟨nil0, rfl, byt_nil, AB.out⟩
  · have h3' : ¬ (n : Int) < 3 := by omega
    have h2 : 276 < n := by omega
    have h2' : (276 : Int) < n := by omega
    rw [if_neg h3, if_pos h2]
    go_enter Tryz.func94, Tryz.ntmps94
    go_wp2
    refine bodyPost_ret (res_ct rfl Un.laid rfl (Blk.new w #[.int .u8 0, .int .u8 0, .bool false, .bool false, .int .u8 0, .int .u8 0, .bool false, .slice none 0 0] 188) rfl) rfl ⟨nil0, rfl, byt_nil, AB.out⟩
theorem BytI.drop {w : World} {bl off n cap : Nat} {p : Oct} (h : BytI w [] (.slice (some ⟨bl, off, none⟩) n cap) p) (hn : p.length = n) (k : Nat) (hk : k ≤ n) (hb : bl < w.heap.size) : BytI w [] (.slice (some ⟨bl, off + k, none⟩) (n - k) (cap - k)) (p.drop k) := by
  refine ⟨?_, fun x hx => h.2 x (List.mem_of_mem_drop hx)⟩
  obtain ⟨a', c', e, hc⟩ := h.shape
  simp only [Value.slice.injEq] at e
  obtain ⟨_, _, rfl⟩ := e
  refine .inr (.inr ⟨bl, off + k, cap - k, by rw [List.length_drop, hn], by rw [List.length_drop]; omega, hb, by simp, fun j u hu => ?_⟩)
  rw [List.map_drop, List.getElem?_drop, List.getElem?_map] at hu
  obtain ⟨x, hx, rfl⟩ := Option.map_eq_some_iff.1 hu
  obtain ⟨⟨bl', off', e', hcell⟩, _⟩ := h.at (k + j) x hx
  simp only [Option.some.injEq, Addr.mk.injEq, and_true] at e'
  obtain ⟨rfl, rfl⟩ := e'
  rw [show off + k + j = off + (k + j) by omega]
  exact hcell
theorem Decode_long {w : World} {v : Value} {p : Oct} (h : BytI w [] v p) (h3 : 3 ≤ p.length) (h2 : p.length ≤ 276) :
    Calls Tryz.prog 94 #[v] w fun e w' => ∃ vi, e = .returned (.tuple #[(decU p).1.v vi, .int .i64 (decU p).2]) ∧ BytV w' vi (decU p).1.info ∧ Below w.heap.size w w' := by
  have H := Lib.hid h
  obtain ⟨a, cap, rfl, hcap⟩ := h.shape
  obtain ⟨x0, hx0⟩ : ∃ x, p[0]? = some x := ⟨_, List.getElem?_eq_getElem (by omega)⟩
  obtain ⟨x1, hx1⟩ : ∃ x, p[1]? = some x := ⟨_, List.getElem?_eq_getElem (by omega)⟩
  obtain ⟨x2, hx2⟩ : ∃ x, p[2]? = some x := ⟨_, List.getElem?_eq_getElem (by omega)⟩
  obtain ⟨⟨bl, off, rfl, hc0⟩, r0⟩ := h.at 0 x0 hx0
  obtain ⟨⟨bl', off', e', hc1⟩, r1⟩ := h.at 1 x1 hx1
  simp only [Option.some.injEq, Addr.mk.injEq, and_true] at e'
  obtain ⟨rfl, rfl⟩ := e'
  obtain ⟨⟨bl', off', e', hc2⟩, r2⟩ := h.at 2 x2 hx2
  simp only [Option.some.injEq, Addr.mk.injEq, and_true] at e'
  obtain ⟨rfl, rfl⟩ := e'
  rw [Nat.add_zero] at hc0
  have hbl : bl < w.heap.size := by
    rcases Nat.lt_or_ge bl w.heap.size with h | h
    · exact h
    · simp [World.cell?, Array.getElem?_eq_none h] at hc0
  unfold decU
  rw [if_neg (by omega), if_neg (by omega)]
  rw [show p.getD 0 0 = x0 from by simp [List.getD_eq_getElem?_getD, hx0], show p.getD 1 0 = x1 from by simp [List.getD_eq_getElem?_getD, hx1], show p.getD 2 0 = x2 from by simp [List.getD_eq_getElem?_getD, hx2]]
  obtain ⟨n, hn⟩ : ∃ n, p.length = n := ⟨_, rfl⟩
  simp only [hn]
  rw [hn] at h3 h2 hcap
  have HN := Lib.hid hn
  clear h hn hx0 hx1 hx2
  have h3' : ¬ (n : Int) < 3 := by omega
  have h2' : ¬ (276 : Int) < n := by omega
  have h0n : 0 < n := by omega
  have h1n : 1 < n := by omega
  go_enter Tryz.func94, Tryz.ntmps94
  have AB := Lib.hid (bl_alloc (bl_refl w) (.cells #[.int .u8 0, .int .u8 0, .bool false, .bool false, .int .u8 0, .int .u8 0, .bool false, .slice none 0 0] 188))
  go_upto_region 5 with (fail)
  have k0 := below_cell (bl_drew AB.out) hc0
  have k1 := below_cell (bl_drew AB.out) hc1
  have tm0 : x0.tmod 128 = x0 % 128 := Int.tmod_eq_emod_of_nonneg r0.1
  have tm1 : x1.tmod 128 = x1 % 128 := Int.tmod_eq_emod_of_nonneg r1.1
  have a63 : bits .and .u8 x2 63 = x2 % 64 := bits_mask .u8 8 (by decide) wraps_u8 6 (by decide) x2 r2.1 (by omega)
  have n2n : 2 < n := by omega
  have n3i : (3 : Int) ≤ n := by omega
  have h1i : (1 : Int) < n := by omega
  have h2i : (2 : Int) < n := by omega
  go_region_held3 (fun w' => w'.cell? ⟨bl, off, none⟩ = some (.int .u8 x0) ∧ w'.cell? ⟨bl, off + 1, none⟩ = some (.int .u8 x1)) (first | exact ⟨k0, k1⟩ | go_keep) (first | (fail))
  go_upto_region 6 with (fail)
  obtain ⟨L, rfl⟩ : ∃ L, n = L + 3 := ⟨n - 3, by omega⟩
  have B5 : Below w.heap.size w ((w.alloc (.cells #[.int .u8 0, .int .u8 0, .bool false, .bool false, .int .u8 0, .int .u8 0, .bool false, .slice none 0 0] 188)).alloc (.cells #[.int .u8 (x0 % 128), .int .u8 (x1 % 128), .bool (decide (128 ≤ x0)), .bool (decide (128 ≤ x1)), .int .u8 0, .int .u8 0, .bool false, .slice none 0 0] 188)).drew := bl_drew (bl_alloc AB.out _)
  have NR : Blk ((w.alloc (.cells #[.int .u8 0, .int .u8 0, .bool false, .bool false, .int .u8 0, .int .u8 0, .bool false, .slice none 0 0] 188)).alloc (.cells #[.int .u8 (x0 % 128), .int .u8 (x1 % 128), .bool (decide (128 ≤ x0)), .bool (decide (128 ≤ x1)), .int .u8 0, .int .u8 0, .bool false, .slice none 0 0] 188)).drew w.heap.size #[.int .u8 0, .int .u8 0, .bool false, .bool false, .int .u8 0, .int .u8 0, .bool false, .slice none 0 0] 188 := ((Blk.new w _ _).alloc _).drew
  have NU : Blk ((w.alloc (.cells #[.int .u8 0, .int .u8 0, .bool false, .bool false, .int .u8 0, .int .u8 0, .bool false, .slice none 0 0] 188)).alloc (.cells #[.int .u8 (x0 % 128), .int .u8 (x1 % 128), .bool (decide (128 ≤ x0)), .bool (decide (128 ≤ x1)), .int .u8 0, .int .u8 0, .bool false, .slice none 0 0] 188)).drew (w.heap.size + 1) #[.int .u8 (x0 % 128), .int .u8 (x1 % 128), .bool (decide (128 ≤ x0)), .bool (decide (128 ≤ x1)), .int .u8 0, .int .u8 0, .bool false, .slice none 0 0] 188 := (Blk.newAt (by simp) _ _).drew
  generalize ((w.alloc (.cells #[.int .u8 0, .int .u8 0, .bool false, .bool false, .int .u8 0, .int .u8 0, .bool false, .slice none 0 0] 188)).alloc (.cells #[.int .u8 (x0 % 128), .int .u8 (x1 % 128), .bool (decide (128 ≤ x0)), .bool (decide (128 ≤ x1)), .int .u8 0, .int .u8 0, .bool false, .slice none 0 0] 188)).drew = w5 at B5 NR NU
  have k2 := below_cell B5 hc2
  have up_k := fun (g : Up w5) => below_cell g.ok k2
  clear k0 k1
  by_cases hcp : cap = 3
  · have hL : L = 0 := by omega
    subst hL hcp
    refine wp_region_up (by kernel_rfl) (by kernel_rfl) ?_
    repeat (go_big_quiet_step (fail))
    refine wpQuiet_nil ?_
    clear up_k
    refine up_elim (fun w6 hb6 => ?_)
    have R6 := Lib.hid (NR.below hb6)
    have U6 := Lib.hid (NU.below hb6)
    have B6 := Lib.hid (bl_then B5 hb6)
    have r6c := R6.out.c
    have r6f := R6.out.f
    have u6c := U6.out.c
    have u6f := U6.out.f
    by_cases hx : x2 % 64 = 0
    · go_wp2
      refine bodyPost_ret (res_ct rfl Un.laid rfl (R6.out.all8 _ _ _ _ _ _ _ _) rfl) rfl ⟨nil0, ?_, ?_, bl_all8 B6.out (Nat.le_refl _) _ _ _ _ _ _ _ _⟩
      · rfl
      · exact byt_nil
    · go_wp2
      refine bodyPost_ret (res_ct rfl Un.laid rfl (R6.out.all8 _ _ _ _ _ _ _ _) rfl) rfl ⟨nil0, ?_, ?_, bl_all8 B6.out (Nat.le_refl _) _ _ _ _ _ _ _ _⟩
      · simp [Un.nil]
      · exact byt_nil
  · have H' := Lib.hid (HN.out ▸ H.out)
    refine wp_region_up (by kernel_rfl) (by kernel_rfl) ?_
    repeat (go_big_quiet_step (fail))
    refine wpQuiet_nil ?_
    clear up_k
    refine up_elim (fun w6 hb6 => ?_)
    have R6 := Lib.hid (NR.below hb6)
    have U6 := Lib.hid (NU.below hb6)
    have B6 := Lib.hid (bl_then B5 hb6)
    have r6c := R6.out.c
    have r6f := R6.out.f
    have u6c := U6.out.c
    have u6f := U6.out.f
    have H6 := Lib.hid (H'.out.below B6.out)
    by_cases h63 : 63 < L
    · have h63' : (63 : Int) < L := by omega
      have h0 : ¬ L = 0 := by omega
      have h2 : ¬ L + 3 ≤ 5 := by omega
      by_cases hx : x2 % 64 = 63
      · have HC := Lib.hid (Clone_c (F := []) (H6.out.drop HN.out 3 (by omega) (Nat.lt_of_lt_of_le hbl B6.out.size)) (by rw [List.length_drop, HN.out]; omega))
        have kn0 : ((L : Int) == 0) = false := beq_eq_false_iff_ne.2 (by omega)
        have kn1 : ((L : Int) == 1) = false := beq_eq_false_iff_ne.2 (by omega)
        have kn2 : ((L : Int) == 2) = false := beq_eq_false_iff_ne.2 (by omega)
        simp only [Nat.add_sub_cancel] at HC
        go_wp2_with (first
          | ((with_reducible refine HC.out.mono ?_); rintro e w7 ⟨v7, rfl, y7, b7, o7⟩; (obtain ⟨a7, c7, ev, _⟩ := y7.1.shape); (rw [List.length_drop, HN.out, Nat.add_sub_cancel] at ev); subst ev; have Y7 := Lib.hid y7; have R7 := Lib.hid (R6.out.below b7); have U7 := Lib.hid (U6.out.below b7); have B7 := Lib.hid (bl_then B6.out b7); have r7c := R7.out.c; have r7f := R7.out.f; have u7c := U7.out.c; have u7f := U7.out.f; clear y7 b7 o7))
        have hne : w.heap.size + 1 ≠ w.heap.size := by omega
        have hoff : Off w7 5 [w.heap.size + 1, w.heap.size] := fun g hg => by
          simp only [List.mem_cons, List.not_mem_nil, or_false] at hg
          rcases hg with rfl | rfl
          · exact ⟨_, _, U7.out, by decide⟩
          · exact ⟨_, _, R7.out, by decide⟩
        refine bodyPost_ret (res_ct rfl Un.laid rfl (((R7.out.far hne 4 _).far hne 7 _).all8 _ _ _ _ _ _ _ _) rfl) rfl ⟨_, rfl, Byt.stay Y7.out hoff (((((((((((Chg.refl [w.heap.size + 1, w.heap.size] w7).set (b := w.heap.size + 1) (i := 4) (by simp) _).set (b := w.heap.size + 1) (i := 7) (by simp) _).set (b := w.heap.size) (i := 0) (by simp) _).set (b := w.heap.size) (i := 1) (by simp) _).set (b := w.heap.size) (i := 2) (by simp) _).set (b := w.heap.size) (i := 3) (by simp) _).set (b := w.heap.size) (i := 4) (by simp) _).set (b := w.heap.size) (i := 5) (by simp) _).set (b := w.heap.size) (i := 6) (by simp) _).set (b := w.heap.size) (i := 7) (by simp) _), bl_all8 (bl_set (bl_set B7.out (by omega) _) (by omega) _) (Nat.le_refl _) _ _ _ _ _ _ _ _⟩
      · go_wp2
        refine bodyPost_ret (res_ct rfl Un.laid rfl (R6.out.all8 _ _ _ _ _ _ _ _) rfl) rfl ⟨nil0, ?_, ?_, bl_all8 B6.out (Nat.le_refl _) _ _ _ _ _ _ _ _⟩
        · simp [Un.nil]
        · exact byt_nil
    · have h63' : ¬ (63 : Int) < L := by omega
      by_cases hx : x2 % 64 = L
      · by_cases L0 : L = 0
        · subst L0
          go_wp2
          refine bodyPost_ret (res_ct rfl Un.laid rfl (R6.out.all8 _ _ _ _ _ _ _ _) rfl) rfl ⟨nil0, ?_, ?_, bl_all8 B6.out (Nat.le_refl _) _ _ _ _ _ _ _ _⟩
          · rfl
          · exact byt_nil
        by_cases L1 : L = 1
        · subst L1
          have hlen := HN.out
          obtain ⟨x3, hx3⟩ : ∃ x, p[3]? = some x := ⟨_, List.getElem?_eq_getElem (by omega)⟩
          obtain ⟨⟨bl', off', e', hc3⟩, r3⟩ := H'.out.at 3 x3 hx3
          simp only [Option.some.injEq, Addr.mk.injEq, and_true] at e'
          obtain ⟨rfl, rfl⟩ := e'
          have k63 := below_cell B6.out hc3
          have a7 : bits .and .u8 x3 7 = x3 % 8 := bits_mask .u8 8 (by decide) wraps_u8 3 (by decide) x3 r3.1 (by omega)
          have g3 : p.getD 3 0 = x3 := by simp [List.getD_eq_getElem?_getD, hx3]
          have G3 := Lib.hid g3
          clear g3 hx3 hlen
          have nb1 : bl ≠ w.heap.size + 1 := by omega
          have nb2 : w.heap.size + 1 ≠ bl := by omega
          go_upto_region 14 with (fail)
          have k64 := below_cell (bl_drew (bl_refl w6)) k63
          have ud := U6.out.drew.c
          have udf := U6.out.drew.f
          go_region_held3 (fun w' => w'.cell? ⟨bl, off + 3, none⟩ = some (.int .u8 x3)) (first | exact k64 | go_keep) (first | (fail))
          have hne : w.heap.size + 1 ≠ w.heap.size := by omega
          have U7 := ((((U6.out.set 4 (.int .u8 1)).set 5 (.int .u8 (x3 % 8))).set 6 (.bool false)).drew).as (cs' := #[.int .u8 (x0 % 128), .int .u8 (x1 % 128), .bool (decide (128 ≤ x0)), .bool (decide (128 ≤ x1)), .int .u8 1, .int .u8 (x3 % 8), .bool false, .slice none 0 0]) (by simp)
          have R7 := (((R6.out.far hne 4 (.int .u8 1)).far hne 5 (.int .u8 (x3 % 8))).far hne 6 (.bool false)).drew
          have B7 := bl_drew (bl_set (bl_set (bl_set B6.out (b := w.heap.size + 1) (i := 4) (by omega) (.int .u8 1)) (b := w.heap.size + 1) (i := 5) (by omega) (.int .u8 (x3 % 8))) (b := w.heap.size + 1) (i := 6) (by omega) (.bool false))
          generalize (((w6.setCell ⟨w.heap.size + 1, 4, none⟩ (.int .u8 1)).setCell ⟨w.heap.size + 1, 5, none⟩ (.int .u8 (x3 % 8))).setCell ⟨w.heap.size + 1, 6, none⟩ (.bool false)).drew = w7 at U7 R7 B7 ⊢
          have HR7 := Lib.hid R7
          have HB7 := Lib.hid B7
          have u7c := U7.c
          have r7c := R7.c
          have r7f := R7.f
          clear U7 R7 B7
          go_wp2
          refine bodyPost_ret (res_ct rfl Un.laid rfl (HR7.out.all8 _ _ _ _ _ _ _ _) rfl) rfl ⟨nil0, ?_, byt_nil, bl_all8 HB7.out (Nat.le_refl _) _ _ _ _ _ _ _ _⟩
          have g4 : p[3]?.getD 0 = x3 := by have := G3.out; simpa [List.getD_eq_getElem?_getD] using this
          rw [g4]
          rfl
        by_cases L2 : L = 2
        · subst L2
          have hlen := HN.out
          obtain ⟨x3, hx3⟩ : ∃ x, p[3]? = some x := ⟨_, List.getElem?_eq_getElem (by omega)⟩
          obtain ⟨⟨bl', off', e', hc3⟩, r3⟩ := H'.out.at 3 x3 hx3
          simp only [Option.some.injEq, Addr.mk.injEq, and_true] at e'
          obtain ⟨rfl, rfl⟩ := e'
          have k63 := below_cell B6.out hc3
          have a7 : bits .and .u8 x3 7 = x3 % 8 := bits_mask .u8 8 (by decide) wraps_u8 3 (by decide) x3 r3.1 (by omega)
          have g3 : p.getD 3 0 = x3 := by simp [List.getD_eq_getElem?_getD, hx3]
          have G3 := Lib.hid g3
          clear g3 hx3 hlen
          have nb1 : bl ≠ w.heap.size + 1 := by omega
          have nb2 : w.heap.size + 1 ≠ bl := by omega
          go_upto_region 14 with (fail)
          have k64 := below_cell (bl_drew (bl_refl w6)) k63
          have ud := U6.out.drew.c
          have udf := U6.out.drew.f
          go_region_held3 (fun w' => w'.cell? ⟨bl, off + 3, none⟩ = some (.int .u8 x3)) (first | exact k64 | go_keep) (first | (fail))
          have hne : w.heap.size + 1 ≠ w.heap.size := by omega
          have U7 := ((((U6.out.set 4 (.int .u8 1)).set 5 (.int .u8 (x3 % 8))).set 6 (.bool true)).drew).as (cs' := #[.int .u8 (x0 % 128), .int .u8 (x1 % 128), .bool (decide (128 ≤ x0)), .bool (decide (128 ≤ x1)), .int .u8 1, .int .u8 (x3 % 8), .bool true, .slice none 0 0]) (by simp)
          have R7 := (((R6.out.far hne 4 (.int .u8 1)).far hne 5 (.int .u8 (x3 % 8))).far hne 6 (.bool true)).drew
          have B7 := bl_drew (bl_set (bl_set (bl_set B6.out (b := w.heap.size + 1) (i := 4) (by omega) (.int .u8 1)) (b := w.heap.size + 1) (i := 5) (by omega) (.int .u8 (x3 % 8))) (b := w.heap.size + 1) (i := 6) (by omega) (.bool true))
          generalize (((w6.setCell ⟨w.heap.size + 1, 4, none⟩ (.int .u8 1)).setCell ⟨w.heap.size + 1, 5, none⟩ (.int .u8 (x3 % 8))).setCell ⟨w.heap.size + 1, 6, none⟩ (.bool true)).drew = w7 at U7 R7 B7 ⊢
          have HR7 := Lib.hid R7
          have HB7 := Lib.hid B7
          have u7c := U7.c
          have r7c := R7.c
          have r7f := R7.f
          clear U7 R7 B7
          go_wp2
          refine bodyPost_ret (res_ct rfl Un.laid rfl (HR7.out.all8 _ _ _ _ _ _ _ _) rfl) rfl ⟨nil0, ?_, byt_nil, bl_all8 HB7.out (Nat.le_refl _) _ _ _ _ _ _ _ _⟩
          have g4 : p[3]?.getD 0 = x3 := by have := G3.out; simpa [List.getD_eq_getElem?_getD] using this
          rw [g4]
          rfl
        · have h0 : ¬ L = 0 := L0
          have h2 : ¬ L + 3 ≤ 5 := by omega
          have HC := Lib.hid (Clone_c (F := []) (H6.out.drop HN.out 3 (by omega) (Nat.lt_of_lt_of_le hbl B6.out.size)) (by rw [List.length_drop, HN.out]; omega))
          have kn0 : ((L : Int) == 0) = false := beq_eq_false_iff_ne.2 (by omega)
          have kn1 : ((L : Int) == 1) = false := beq_eq_false_iff_ne.2 (by omega)
          have kn2 : ((L : Int) == 2) = false := beq_eq_false_iff_ne.2 (by omega)
          simp only [Nat.add_sub_cancel] at HC
          go_wp2_with (first
            | ((with_reducible refine HC.out.mono ?_); rintro e w7 ⟨v7, rfl, y7, b7, o7⟩; (obtain ⟨a7, c7, ev, _⟩ := y7.1.shape); (rw [List.length_drop, HN.out, Nat.add_sub_cancel] at ev); subst ev; have Y7 := Lib.hid y7; have R7 := Lib.hid (R6.out.below b7); have U7 := Lib.hid (U6.out.below b7); have B7 := Lib.hid (bl_then B6.out b7); have r7c := R7.out.c; have r7f := R7.out.f; have u7c := U7.out.c; have u7f := U7.out.f; clear y7 b7 o7))
          have hne : w.heap.size + 1 ≠ w.heap.size := by omega
          have hoff : Off w7 5 [w.heap.size + 1, w.heap.size] := fun g hg => by
            simp only [List.mem_cons, List.not_mem_nil, or_false] at hg
            rcases hg with rfl | rfl
            · exact ⟨_, _, U7.out, by decide⟩
            · exact ⟨_, _, R7.out, by decide⟩
          refine bodyPost_ret (res_ct rfl Un.laid rfl (((R7.out.far hne 4 _).far hne 7 _).all8 _ _ _ _ _ _ _ _) rfl) rfl ⟨_, rfl, Byt.stay Y7.out hoff (((((((((((Chg.refl [w.heap.size + 1, w.heap.size] w7).set (b := w.heap.size + 1) (i := 4) (by simp) _).set (b := w.heap.size + 1) (i := 7) (by simp) _).set (b := w.heap.size) (i := 0) (by simp) _).set (b := w.heap.size) (i := 1) (by simp) _).set (b := w.heap.size) (i := 2) (by simp) _).set (b := w.heap.size) (i := 3) (by simp) _).set (b := w.heap.size) (i := 4) (by simp) _).set (b := w.heap.size) (i := 5) (by simp) _).set (b := w.heap.size) (i := 6) (by simp) _).set (b := w.heap.size) (i := 7) (by simp) _), bl_all8 (bl_set (bl_set B7.out (by omega) _) (by omega) _) (Nat.le_refl _) _ _ _ _ _ _ _ _⟩
      · have hx' : (x2 % 64 == (L : Int)) = false := beq_eq_false_iff_ne.2 hx
        go_wp2
        refine bodyPost_ret (res_ct rfl Un.laid rfl (R6.out.all8 _ _ _ _ _ _ _ _) rfl) rfl ⟨nil0, ?_, ?_, bl_all8 B6.out (Nat.le_refl _) _ _ _ _ _ _ _ _⟩
        · simp [Un.nil]
        · exact byt_nil
end
/-! ### unit.Decode, of octets of any length. -/
section
open Go Go.RowKit
set_option linter.unusedVariables false
theorem Decode_c {w : World} {v : Value} {p : Oct} (h : BytI w [] v p) (hm : p.length ≤ 100000) :
    Calls Tryz.prog 94 #[v] w fun e w' => ∃ vi, e = .returned (.tuple #[(decU p).1.v vi, .int .i64 (decU p).2]) ∧ BytV w' vi (decU p).1.info ∧ Below w.heap.size w w' := by
  by_cases h1 : p.length < 3 ∨ 276 < p.length
  · exact Decode_short h h1 hm
  · exact Decode_long h (by omega) (by omega)
end
end Go.Proofs.YtcllbmjmefeknaaGreatK
