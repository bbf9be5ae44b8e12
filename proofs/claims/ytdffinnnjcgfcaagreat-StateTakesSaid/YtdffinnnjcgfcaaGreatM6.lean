/- What holds of a link all the time: its numbers stay in bounds. -/
import Derived.Test.YtdffinnnjcgfcaaGreatM5
namespace Go.Proofs.YtdffinnnjcgfcaaGreatK
open Go Go.RowKit
theorem ite_p {α : Type} (P : α → Prop) {p : Prop} [Decidable p] {a b : α} (ha : p → P a) (hb : ¬ p → P b) : P (if p then a else b) := by
  split
  · exact ha ‹_›
  · exact hb ‹_›
theorem Bs.ok_zero : Bs.zero.ok := ⟨by decide, by decide⟩
theorem Bs.ok_next {h : Ho} {x : Bs} (hk : h.ok) (hx : x.ok) : (Bs.next h x).1.ok ∧ (Bs.next h x).2.1.ok := by
  have h1 := hk.sent
  have h2 := hx.again
  have hn : ∀ y : Bs, y.ok → (Bs.new h y).1.ok ∧ (Bs.new h y).2.1.ok := by
    intro y hy
    unfold Bs.new
    split
    · exact ⟨Ho.ok_send hk, hy⟩
    · exact ⟨Ho.ok_send hk, hy⟩
  unfold Bs.next
  split
  · split
    · refine ⟨hk, hx.last, ?_⟩
      dsimp only
      split <;> omega
    · exact hn _ ⟨hx.last, by dsimp only; omega⟩
  · exact hn _ hx
theorem Bs.ok_answer {h : Ho} {x : Bs} (hk : h.ok) (hx : x.ok) (u : Un) : (Bs.answer h x u).1.ok ∧ (Bs.answer h x u).2.1.ok := by
  have h2 := hx.again
  unfold Bs.answer
  split
  · rename_i hn
    have h3 := Ho.gap_le hk hn
    have e : (h.free u.bsn).2.1 = h.gap u.bsn := by simp [Ho.free, hn]
    rw [← e] at h3
    refine ⟨Ho.ok_free hk _, ?_⟩
    generalize (h.free u.bsn).2.1 = k at *
    generalize ((h.free u.bsn).1.sent.length : Int) = n
    have a1 : (x.see false).ok := ⟨hx.last, hx.again⟩
    have a2 : ((x.see false).back k).ok := by
      unfold Bs.back
      split
      · exact ⟨a1.last, by have := a1.again; dsimp only; omega⟩
      · exact a1
    have a3 : (((x.see false).back k).over n).ok := by
      unfold Bs.over
      split
      · exact ⟨a2.last, by dsimp only; omega⟩
      · exact a2
    unfold Bs.turn
    split
    · exact a3
    · refine ⟨a3.last, ?_⟩
      dsimp only
      split <;> decide
  · split
    · exact ⟨hk, hx.last, hx.again⟩
    · exact ⟨hk, hx.last, hx.again⟩
theorem Bs.ok_take {x : Bs} (hx : x.ok) (u : Un) : (x.take u).1.ok := by
  have h1 := hx.last
  unfold Bs.take
  repeat' split
  all_goals exact ⟨by first | exact hx.last | (dsimp only; omega), hx.again⟩
theorem Ho.at_lt {h : Ho} {i : Int} (e : (h.at i).2.2 = 0) : 0 ≤ i ∧ i < h.sent.length := by
  unfold Ho.at at e
  split at e
  · assumption
  · exact absurd e (by decide)
theorem Cy.ok_push {h : Ho} {x : Cy} (hx : x.ok) : (x.push h).ok := by
  unfold Cy.push
  split
  · exact ⟨hx.n1, hx.n2, hx.last, hx.at_⟩
  · exact hx
theorem Cy.ok_wind {h : Ho} {x : Cy} (hx : x.ok) : (x.wind h).ok := by
  unfold Cy.wind
  split
  · exact ⟨hx.n1, hx.n2, hx.last, by dsimp only; omega⟩
  · exact hx
theorem Cy.ok_next {h : Ho} {x : Cy} (hk : h.ok) (hx : x.ok) : (Cy.next h x).1.ok ∧ (Cy.next h x).2.1.ok := by
  have h1 := hk.sent
  have h2 := Cy.ok_push (h := h) hx
  have h3 := Cy.ok_wind (h := h) h2
  unfold Cy.next
  split
  · exact ⟨Ho.ok_send hk, h2⟩
  · unfold Cy.old
    split
    · rename_i he
      have := Ho.at_lt he
      exact ⟨hk, h3.n1, h3.n2, h3.last, by dsimp only; omega⟩
    · exact ⟨hk, h3⟩
theorem Cy.ok_answer {h : Ho} {x : Cy} (hk : h.ok) (hx : x.ok) (u : Un) : (Cy.answer h x u).1.ok ∧ (Cy.answer h x u).2.1.ok := by
  have h2 := hx.at_
  unfold Cy.answer
  split
  · rename_i hn
    have h3 := Ho.gap_le hk hn
    have e : (h.free u.bsn).2.1 = h.gap u.bsn := by simp [Ho.free, hn]
    rw [← e] at h3
    exact ⟨Ho.ok_free hk _, hx.n1, hx.n2, hx.last, by dsimp only; omega⟩
  · split
    · exact ⟨hk, hx.n1, hx.n2, hx.last, hx.at_⟩
    · exact ⟨hk, hx.n1, hx.n2, hx.last, hx.at_⟩
theorem Cy.ok_take {x : Cy} (hx : x.ok) (u : Un) : (x.take u).1.ok := by
  unfold Cy.take
  split
  · exact ⟨hx.n1, hx.n2, by dsimp only; omega, hx.at_⟩
  · exact hx
theorem Wy.ok_next {h : Ho} {x : Wy} (hk : h.ok) (hx : x.ok) : (x.next h).1.ok ∧ (x.next h).2.1.ok := by
  cases x
  · exact Bs.ok_next hk hx
  · exact Cy.ok_next hk hx
theorem Wy.ok_answer {h : Ho} {x : Wy} (hk : h.ok) (hx : x.ok) (u : Un) : (x.answer h u).1.ok ∧ (x.answer h u).2.1.ok := by
  cases x
  · exact Bs.ok_answer hk hx u
  · exact Cy.ok_answer hk hx u
theorem Wy.ok_take {x : Wy} (hx : x.ok) (u : Un) : (x.take u).1.ok := by
  cases x
  · exact Bs.ok_take hx u
  · exact Cy.ok_take hx u
theorem Wy.ok_reset {x : Wy} (hx : x.ok) : x.reset.ok := by
  cases x
  · exact Bs.ok_zero
  · exact ⟨hx.n1, hx.n2, by simp only [Cy.reset]; omega, by simp only [Cy.reset]; omega⟩
/-! ### Coming into line -/
structure Al.ok (a : Al) : Prop where
  st : 0 ≤ a.st ∧ a.st ≤ 3
  n : 0 ≤ a.p.n ∧ a.p.n ≤ 3
  tries : 0 ≤ a.p.tries ∧ a.p.tries ≤ 5
  on : a.st ≠ 0 → a.p.tries ≤ 4
theorem Al.ok.p {a : Al} (h : a.ok) : a.p.ok := ⟨h.n.1, by have := h.n.2; omega, h.tries.1, by have := h.tries.2; omega⟩
theorem Al.ok_end {a : Al} (hn : 0 ≤ a.p.n ∧ a.p.n ≤ 3) (ht : 0 ≤ a.p.tries ∧ a.p.tries ≤ 5) (c : Ck) : (a.end c).1.ok := ⟨by simp [Al.end], hn, ht, fun h => absurd rfl h⟩
theorem Al.ok_begin (s : Su) (a : Al) (c : Ck) : (a.begin s c).1.ok := ⟨by simp [Al.begin], by simp [Al.begin], by simp [Al.begin], by simp [Al.begin]⟩
theorem Al.ok_prove {a : Al} (s : Su) (c : Ck) (h : 0 ≤ a.p.tries ∧ a.p.tries ≤ 4) : (a.prove s c).1.ok := ⟨by simp [Al.prove], by simp [Al.prove], by simp only [Al.prove]; omega, fun _ => h.2⟩
theorem Al.ok_near {a : Al} (s : Su) (c : Ck) (hn : 0 ≤ a.p.n ∧ a.p.n ≤ 3) (h : 0 ≤ a.p.tries ∧ a.p.tries ≤ 4) : (a.near s c).1.ok := ⟨by simp [Al.near], hn, by simp only [Al.near]; omega, fun _ => h.2⟩
theorem Al.ok_hurries {a : Al} (h : a.ok) (s : Su) (c : Ck) (on : Bool) : (a.hurries s c on).1.ok := by
  unfold Al.hurries
  split
  · rename_i h3
    exact Al.ok_prove _ _ ⟨h.tries.1, h.on (by omega)⟩
  · exact ⟨h.st, h.n, h.tries, h.on⟩
theorem Al.ok_heard {a : Al} (h : a.ok) (s : Su) (c : Ck) (x : Int) : (a.heard s c x).1.ok := by
  unfold Al.heard
  split
  · exact h
  rename_i h0
  have ht : 0 ≤ a.p.tries ∧ a.p.tries ≤ 4 := ⟨h.tries.1, h.on h0⟩
  extract_lets a1
  have e1 : a1.st = a.st ∧ a1.p = a.p := by simp only [a1]; split <;> exact ⟨rfl, rfl⟩
  have o1 : a1.ok := ⟨e1.1 ▸ h.st, e1.2 ▸ h.n, e1.2 ▸ h.tries, by rw [e1.1, e1.2]; exact h.on⟩
  have n1 : 0 ≤ a1.p.n ∧ a1.p.n ≤ 3 := e1.2 ▸ h.n
  have t1 : 0 ≤ a1.p.tries ∧ a1.p.tries ≤ 4 := e1.2 ▸ ht
  repeat' split
  all_goals first
    | exact o1
    | exact Al.ok_near s c n1 t1
    | exact Al.ok_prove s c t1
    | exact Al.ok_prove s c ⟨Int.le_refl 0, (by decide : (0 : Int) ≤ 4)⟩
theorem Al.ok_out {a : Al} (h : a.ok) (c : Ck) (i : Int) : (a.out c i).1.ok := by
  unfold Al.out
  repeat' split
  all_goals first | exact h | exact Al.ok_end h.n h.tries c
theorem Al.unit_ok {a : Al} (h : a.ok) (s : Su) (c : Ck) (wrong : Bool) : (0 ≤ (a.unit s c wrong).1.p.n ∧ (a.unit s c wrong).1.p.n ≤ 3) ∧ (0 ≤ (a.unit s c wrong).1.p.tries ∧ (a.unit s c wrong).1.p.tries ≤ 5) ∧ ((a.unit s c wrong).2.2 = 0 → (a.unit s c wrong).1.ok) := by
  by_cases h3 : a.st = 3
  · have ht : 0 ≤ a.p.tries ∧ a.p.tries ≤ 4 := ⟨h.tries.1, h.on (by omega)⟩
    have hn := h.n
    have hm : a.p.most ≤ 4 := by unfold Pf.most; split <;> decide
    have hs : 0 ≤ a.p.seen wrong := by unfold Pf.seen; split <;> omega
    by_cases hw : a.p.anew wrong = true
    · have hu : a.p.unit wrong = ⟨a.p.hurry, 0, a.p.tries + 1⟩ := by unfold Pf.unit; rw [if_pos hw]
      unfold Al.unit
      rw [if_pos h3]
      dsimp only
      by_cases ho : a.p.over wrong = true
      · rw [if_pos ho]
        dsimp only
        rw [hu]
        exact ⟨by dsimp only; omega, by dsimp only; omega, fun h => absurd h (by decide)⟩
      · rw [if_neg ho, if_pos hw]
        have : ¬ (5 ≤ a.p.tries + 1) := fun h5 => ho (by simp [Pf.over, hw, h5])
        have hk := Al.ok_prove (a := ⟨a.st, a.own, a.their, a.p.unit wrong⟩) s c (by rw [hu]; dsimp only; omega)
        exact ⟨hk.n, hk.tries, fun _ => hk⟩
    · have hu : a.p.unit wrong = ⟨a.p.hurry, a.p.seen wrong, a.p.tries⟩ := by unfold Pf.unit; rw [if_neg hw]
      have ho : ¬ a.p.over wrong = true := by simp [Pf.over, hw]
      have hl : a.p.seen wrong < a.p.most := by
        unfold Pf.anew at hw
        simp only [decide_eq_true_eq] at hw
        omega
      unfold Al.unit
      rw [if_pos h3]
      dsimp only
      rw [if_neg ho, if_neg hw]
      dsimp only
      have hk : (⟨a.st, a.own, a.their, a.p.unit wrong⟩ : Al).ok := ⟨h.st, by rw [hu]; dsimp only; omega, by rw [hu]; dsimp only; omega, fun _ => by rw [hu]; exact ht.2⟩
      exact ⟨hk.n, hk.tries, fun _ => hk⟩
  · have e : a.unit s c wrong = (a, c, 0) := by unfold Al.unit; rw [if_neg h3]
    rw [e]
    exact ⟨h.n, h.tries, fun _ => h⟩
theorem Al.c_begin {c : Ck} (h : c.ok) (s : Su) (a : Al) : (a.begin s c).2.ok := Ck.ok_start (Ck.ok_stop h _) _ _
theorem Al.c_end {c : Ck} (h : c.ok) (a : Al) : (a.end c).2.ok := Ck.ok_stop h _
theorem Al.c_prove {c : Ck} (h : c.ok) (s : Su) (a : Al) : (a.prove s c).2.ok := by
  unfold Al.prove
  dsimp only
  split
  · exact Ck.ok_start (Ck.ok_stop h _) _ _
  · exact Ck.ok_start (Ck.ok_stop h _) _ _
theorem Al.c_near {c : Ck} (h : c.ok) (s : Su) (a : Al) : (a.near s c).2.ok := Ck.ok_start (Ck.ok_stop h _) _ _
theorem Al.c_hurries {c : Ck} (h : c.ok) (s : Su) (a : Al) (on : Bool) : (a.hurries s c on).2.ok := by
  unfold Al.hurries
  split
  · exact Al.c_prove h _ _
  · exact h
theorem Al.c_heard {c : Ck} (h : c.ok) (s : Su) (a : Al) (x : Int) : (a.heard s c x).2.1.ok := by
  unfold Al.heard
  split
  · exact h
  extract_lets a1
  repeat' split
  all_goals first | exact h | exact Al.c_near h s a1 | exact Al.c_prove h s _
theorem Al.c_unit {c : Ck} (h : c.ok) (s : Su) (a : Al) (wrong : Bool) : (a.unit s c wrong).2.1.ok := by
  unfold Al.unit
  dsimp only
  repeat' split
  all_goals first | exact h | exact Al.c_prove h _ _
theorem Al.c_out {c : Ck} (h : c.ok) (a : Al) (i : Int) : (a.out c i).2.1.ok := by
  unfold Al.out
  repeat' split
  all_goals first | exact h | exact Al.c_end h a
theorem Jm.c_begin {c : Ck} (h : c.ok) (s : Su) (j : Jm) : (j.begin s c).2.ok := by
  unfold Jm.begin
  split
  · exact h
  · exact Ck.ok_start h _ _
theorem Jm.c_heard {c : Ck} (h : c.ok) (s : Su) (j : Jm) (w : Bool) : (j.heard s c w).2.1.ok := by
  have h1 : (if w = true then c.start 7 s.t7 else c).ok := by
    split
    · exact Ck.ok_start h _ _
    · exact h
  unfold Jm.heard
  dsimp only
  split
  · exact h1
  · exact Ck.ok_start h1 _ _
theorem Jm.c_out {c : Ck} (h : c.ok) (s : Su) (j : Jm) (i : Int) : (j.out s c i).2.1.ok := by
  unfold Jm.out
  repeat' split
  all_goals first | exact h | exact Ck.ok_start h _ _
/-! ### A link -/
structure St.ok (x : St) : Prop where
  h : x.h.ok
  w : x.w.ok
  a : x.a.ok
  leak : x.leak.ok
  c : x.c.ok
  S : 0 ≤ x.S ∧ x.S ≤ 5
theorem Le.ok_zero : (⟨0, 0⟩ : Le).ok := by unfold Le.ok; decide
theorem Le.ok_unit {l : Le} (h : l.ok) (w : Bool) (hb : l.bad w = false) : (l.unit w).ok := by
  obtain ⟨n, seen⟩ := l
  obtain ⟨h0, h1, h2, h3⟩ := h
  unfold Le.bad at hb
  simp only [decide_eq_false_iff_not] at hb
  dsimp only at h0 h1 h2 h3
  unfold Le.unit Le.age at hb ⊢
  dsimp only at hb ⊢
  unfold Le.ok
  cases w
  all_goals
    simp only [if_true, Bool.false_eq_true, if_false] at hb ⊢
    repeat' split
    all_goals first | omega | (simp_all; done) | (simp_all; omega)
theorem St.ok_new {s : Su} (h1 : s.hd ≤ 512) (h2 : s.oc ≤ 1048576) (h3 : s.n1 ≤ 1000000) (h4 : s.n2 ≤ 10000000) : (St.new s).ok := by
  refine ⟨Ho.ok_none h1 h2, ?_, ⟨by simp [St.new], by simp [St.new], by simp [St.new], by simp [St.new]⟩, Le.ok_zero, Ck.ok_none, by simp [St.new]⟩
  show (Wy.of s).ok
  unfold Wy.of
  split
  · exact ⟨by simp only [Cy.zero]; omega, by simp only [Cy.zero]; omega, by simp [Cy.zero], by simp [Cy.zero]⟩
  · exact Bs.ok_zero
theorem St.ok_tell {x : St} (h : x.ok) (t : To) : (x.tell t).ok := ⟨h.h, h.w, h.a, h.leak, h.c, h.S⟩
theorem St.fail_ok {x : St} (hh : x.h.ok) (hw : x.w.ok) (hn : 0 ≤ x.a.p.n ∧ x.a.p.n ≤ 3) (ht : 0 ≤ x.a.p.tries ∧ x.a.p.tries ≤ 5) (h0 : x.S ≠ 0) (why : Int) : (x.fail why).ok := by
  unfold St.fail
  rw [if_neg h0]
  exact ⟨hh, hw, Al.ok_end hn ht x.c, Le.ok_zero, Ck.ok_none, by dsimp only; omega⟩
theorem St.ok_fail {x : St} (h : x.ok) (why : Int) : (x.fail why).ok := by
  by_cases h0 : x.S = 0
  · unfold St.fail; rw [if_pos h0]; exact h
  · exact St.fail_ok h.h h.w h.a.n h.a.tries h0 why
theorem St.ok_begin {x : St} (h : x.ok) : x.begin.ok := ⟨Ho.ok_clear h.h, Wy.ok_reset h.w, Al.ok_begin x.s x.a x.c, Le.ok_zero, Al.c_begin h.c x.s x.a, by simp [St.begin]⟩
theorem St.ok_halt {x : St} (h : x.ok) : x.halt.ok := ⟨h.h, h.w, h.a, h.leak, Ck.ok_stop (Ck.ok_stop h.c _) _, by simp [St.halt]⟩
theorem St.ok_S {x : St} (h : x.ok) {i : Int} (h0 : 0 ≤ i) (h1 : i ≤ 5) : ({ x with S := i } : St).ok := ⟨h.h, h.w, h.a, h.leak, h.c, h0, h1⟩
theorem St.ok_wait {x : St} (h : x.ok) (anew : Bool) : (x.wait anew).ok := by
  unfold St.wait
  repeat' split
  · exact ⟨h.h, h.w, h.a, h.leak, Ck.ok_stop h.c _, h.S⟩
  · exact ⟨h.h, h.w, h.a, h.leak, Ck.ok_start h.c _ _, h.S⟩
  · exact h
theorem St.ok_resume {x : St} (h : x.ok) : x.resume.ok := by
  unfold St.resume
  split
  · exact St.ok_wait (St.ok_S h (by decide) (by decide)) _
  · exact h
theorem St.ok_setO {x : St} (h : x.ok) (o : Oa) : (x.setO o).ok := ⟨h.h, h.w, h.a, h.leak, h.c, h.S⟩
theorem St.ok_turn {x : St} (h : x.ok) (out : Bool) : (x.turn out).ok := by
  unfold St.turn
  repeat' split
  · exact St.ok_halt h
  · exact St.ok_resume h
  · exact St.ok_S h (by decide) (by decide)
  · exact St.ok_S h (by decide) (by decide)
  · exact h
theorem St.ok_here {x : St} (h : x.ok) (out : Bool) : (x.here out).ok := by
  unfold St.here
  split
  · exact h
  · exact St.ok_turn (St.ok_setO h _) _
theorem St.ok_setA {x : St} (h : x.ok) {r : Al × Ck} (ha : r.1.ok) (hc : r.2.ok) : (x.setA r).ok := ⟨h.h, h.w, ha, h.leak, hc, h.S⟩
theorem St.ok_setJ {x : St} (h : x.ok) {r : Jm × Ck} (hc : r.2.ok) : (x.setJ r).ok := ⟨h.h, h.w, h.a, h.leak, hc, h.S⟩
theorem St.ok_setH {x : St} (h : x.ok) {o : Ho} (ho : o.ok) : (x.setH o).ok := ⟨ho, h.w, h.a, h.leak, h.c, h.S⟩
theorem St.ok_setW {x : St} (h : x.ok) {w : Wy} (hw : w.ok) : (x.setW w).ok := ⟨h.h, hw, h.a, h.leak, h.c, h.S⟩
theorem St.ok_order {x : St} (h : x.ok) (k : Int) (p : Oct) : (x.order k p).1.ok := by
  unfold St.order
  repeat' with_reducible refine ite_p (fun r : St × Int => r.1.ok) (fun _ => ?_) (fun _ => ?_)
  all_goals first
    | exact h
    | exact St.ok_begin h
    | exact St.ok_fail h _
    | exact St.ok_setA h (Al.ok_hurries h.a _ _ _) (Al.c_hurries h.c _ _ _)
    | exact St.ok_setH h (Ho.ok_put h.h _)
    | exact St.ok_here h _
    | exact St.ok_setH h (Ho.ok_flush h.h)
    | exact St.ok_resume (St.ok_setO h _)
    | exact St.ok_setJ h (Jm.c_begin h.c _ _)
    | exact St.ok_setJ (r := x.j.end x.c) h (Ck.ok_stop h.c _)
theorem St.ok_aligned {x : St} (h : x.ok) : x.aligned.ok := ⟨h.h, h.w, h.a, h.leak, Ck.ok_start h.c _ _, by simp only [St.aligned]; split <;> decide⟩
theorem St.ok_out {x : St} (h : x.ok) (i : Int) : (x.out i).ok := by
  have ha : ∀ i, (x.setA ((x.a.out x.c i).1, (x.a.out x.c i).2.1)).ok := fun i => St.ok_setA h (Al.ok_out h.a _ _) (Al.c_out h.c _ _)
  have hj : ∀ i, (x.setJ ((x.j.out x.s x.c i).1, (x.j.out x.s x.c i).2.1)).ok := fun i => St.ok_setJ h (Jm.c_out h.c _ _ _)
  unfold St.out
  repeat' split
  all_goals first
    | exact h
    | exact St.ok_aligned (ha _)
    | exact ha _
    | exact St.ok_fail (ha _) _
    | exact St.ok_fail h _
    | exact hj _
    | exact St.ok_fail (hj _) _
theorem St.ok_outs (l : List Int) : ∀ {x : St}, x.ok → (l.foldl St.out x).ok := by
  induction l with
  | nil => exact fun h => h
  | cons i l ih => exact fun h => ih (St.ok_out h i)
theorem St.ok_tick {x : St} (h : x.ok) : x.tick.ok := St.ok_outs _ ⟨h.h, h.w, h.a, h.leak, Ck.ok_tick h.c, h.S⟩
theorem St.ok_served {x : St} (h : x.ok) : x.served.ok := ⟨h.h, h.w, h.a, h.leak, Ck.ok_stop h.c _, by simp [St.served]⟩
theorem St.ok_serve {x : St} (h : x.ok) : x.serve.ok := by
  unfold St.serve
  split
  · exact St.ok_halt (St.ok_served h)
  · exact St.ok_served h
theorem St.ok_woken {x : St} (h : x.ok) : x.woken.ok := by
  unfold St.woken
  split
  · exact St.ok_serve h
  · exact h
theorem St.ok_count {x : St} (h : x.ok) (wrong : Bool) : (x.count wrong).ok := by
  unfold St.count
  split
  · exact h
  rename_i h0
  split
  · obtain ⟨u1, u2, u3⟩ := Al.unit_ok h.a x.s x.c wrong
    split
    · rename_i h2
      exact St.ok_setA h (u3 h2) (Al.c_unit h.c _ _ _)
    · exact St.fail_ok (x := x.setA ((x.a.unit x.s x.c wrong).1, (x.a.unit x.s x.c wrong).2.1)) h.h h.w u1 u2 h0 _
  · split
    · exact St.fail_ok (x := x.setL (x.leak.unit wrong)) h.h h.w h.a.n h.a.tries h0 _
    · rename_i hb
      exact ⟨h.h, h.w, h.a, Le.ok_unit h.leak _ (by simpa using hb), h.c, h.S⟩
theorem St.ok_remote {x : St} (h : x.ok) (out : Bool) : (x.remote out).ok := by
  have hw := St.ok_woken h
  unfold St.remote
  repeat' split
  all_goals first
    | exact St.ok_setO hw _
    | exact St.ok_halt (St.ok_tell (St.ok_setO hw _) _)
    | exact St.ok_tell (St.ok_setO hw _) _
    | exact St.ok_resume (St.ok_tell (St.ok_setO hw _) _)
theorem St.ok_status {x : St} (h : x.ok) (i : Int) : (x.status i).ok := by
  have ha : (x.setA ((x.a.heard x.s x.c i).1, (x.a.heard x.s x.c i).2.1)).ok := St.ok_setA h (Al.ok_heard h.a _ _ _) (Al.c_heard h.c _ _ _)
  have hj : ∀ b, (x.setJ ((x.j.heard x.s x.c b).1, (x.j.heard x.s x.c b).2.1)).ok := fun b => St.ok_setJ h (Jm.c_heard h.c _ _ _)
  unfold St.status
  repeat' split
  all_goals first
    | exact ha
    | exact St.ok_fail ha _
    | exact St.ok_fail h _
    | exact St.ok_remote h _
    | exact St.ok_tell (hj _) _
    | exact hj _
    | exact h
theorem St.ok_takes {x : St} (h : x.ok) (u : Un) : (x.takes u).ok := by
  have hw := St.ok_setW h (Wy.ok_take h.w u)
  unfold St.takes
  repeat' split
  all_goals first
    | exact h
    | exact St.ok_tell hw _
    | exact hw
    | exact St.ok_fail hw _
theorem St.ok_freed {x : St} (h : x.ok) (k : Int) : (x.freed k).ok := by
  unfold St.freed
  split
  · exact St.ok_wait h _
  · exact h
theorem St.ok_jammed {x : St} (h : x.ok) (k : Int) : (x.jammed k).ok := by
  unfold St.jammed
  split
  · exact St.ok_tell (St.ok_setJ h (Ck.ok_stop h.c _)) _
  · exact h
theorem St.ok_answered {x : St} (h : x.ok) (u : Un) : ((x.setH (x.w.answer x.h u).1).setW (x.w.answer x.h u).2.1).ok := by
  have ⟨a1, a2⟩ := Wy.ok_answer h.h h.w u
  exact St.ok_setW (St.ok_setH h a1) a2
theorem St.ok_answers {x : St} (h : x.ok) (u : Un) : (x.answers u).ok := by
  have h1 := St.ok_answered h u
  unfold St.answers
  split
  · exact St.ok_takes (St.ok_jammed (St.ok_freed h1 _) _) _
  · exact St.ok_fail h1 _
theorem St.ok_ordinary {x : St} (h : x.ok) (u : Un) : (x.ordinary u).ok := by
  unfold St.ordinary
  refine St.ok_answers ?_ u
  split
  · exact St.ok_remote (St.ok_woken h) _
  · exact St.ok_woken h
theorem St.ok_heard {x : St} (h : x.ok) (u : Un) : (x.heard u).ok := by
  unfold St.heard
  repeat' split
  all_goals first
    | exact h
    | exact St.ok_status h _
    | exact St.ok_ordinary h _
theorem St.ok_hear {x : St} (h : x.ok) (u : Un) : (x.hear u).ok := St.ok_heard (St.ok_count h _) u
theorem St.ok_next {x : St} (h : x.ok) : (x.next).1.ok := by
  have ⟨a1, a2⟩ := Wy.ok_next h.h h.w
  unfold St.next
  repeat' split
  all_goals first
    | exact h
    | exact ⟨h.h, h.w, h.a, h.leak, h.c, h.S⟩
    | exact St.ok_wait (St.ok_setW (St.ok_setH h a1) a2) _
/-! ### How much is told -/
def St.few (x : St) (n : Int) : Prop := (x.told.length : Int) ≤ n ∧ 0 ≤ x.fails ∧ x.fails ≤ n
theorem St.few.le {x : St} {n m : Int} (h : x.few n) (hm : n ≤ m) : x.few m := ⟨by have := h.1; omega, h.2.1, by have := h.2.2; omega⟩
theorem St.few_tell {x : St} {n : Int} (h : x.few n) (t : To) : (x.tell t).few (n + 1) := ⟨by have := h.1; simp [St.tell]; omega, h.2.1, by have := h.2.2; simp only [St.tell]; omega⟩
theorem St.few_fail {x : St} {n : Int} (h : x.few n) (why : Int) : (x.fail why).few (n + 1) := by
  unfold St.fail
  split
  · exact h.le (by omega)
  · exact ⟨by have := h.1; simp; omega, by have := h.2.1; dsimp only; omega, by have := h.2.2; dsimp only; omega⟩
theorem St.few_wait {x : St} {n : Int} (h : x.few n) (anew : Bool) : (x.wait anew).few n := by
  unfold St.wait
  repeat' split
  all_goals exact h
theorem St.few_resume {x : St} {n : Int} (h : x.few n) : x.resume.few n := by
  unfold St.resume
  split
  · exact St.few_wait (x := { x with S := 4 }) h false
  · exact h
theorem St.few_turn {x : St} {n : Int} (h : x.few n) (out : Bool) : (x.turn out).few n := by
  unfold St.turn
  repeat' split
  all_goals first | exact h | exact St.few_resume h
theorem St.few_here {x : St} {n : Int} (h : x.few n) (out : Bool) : (x.here out).few n := by
  unfold St.here
  split
  · exact h
  · exact St.few_turn (x := x.setO (x.o.local out)) h out
theorem St.few_order {x : St} {n : Int} (h : x.few n) (k : Int) (p : Oct) : (x.order k p).1.few (n + 1) := by
  have h1 : x.few (n + 1) := h.le (by omega)
  unfold St.order
  have h2 : (x.setO x.o.continue).few (n + 1) := h1
  repeat' with_reducible refine ite_p (fun r : St × Int => r.1.few (n + 1)) (fun _ => ?_) (fun _ => ?_)
  all_goals dsimp only
  all_goals first
    | (with_reducible exact h1)
    | (with_reducible exact St.few_fail h _)
    | (with_reducible exact St.few_here h1 _)
    | (with_reducible exact St.few_resume h2)
    | exact h1
theorem St.few_out {x : St} {n : Int} (h : x.few n) (i : Int) : (x.out i).few (n + 1) := by
  unfold St.out
  repeat' split
  all_goals first
    | exact h.le (by omega)
    | exact St.few_fail h _
    | exact St.few_fail (x := x.setA ((x.a.out x.c i).1, (x.a.out x.c i).2.1)) h _
    | exact St.few_fail (x := x.setJ ((x.j.out x.s x.c i).1, (x.j.out x.s x.c i).2.1)) h _
theorem St.few_outs (l : List Int) : ∀ {x : St} {n : Int}, x.few n → (l.foldl St.out x).few (n + l.length) := by
  induction l with
  | nil => exact fun h => by simpa using h
  | cons i l ih => exact fun h => (ih (St.few_out h i)).le (by simp; omega)
theorem Ck.rang_len (c : Ck) : c.rang.length ≤ 8 := by
  unfold Ck.rang
  simp only [List.length_append]
  have : ∀ (p : Prop) [Decidable p] (i : Int), (if p then [i] else []).length ≤ 1 := by intro p _ i; split <;> simp
  have h0 := this (c.c0 = 1) 0
  have h1 := this (c.c1 = 1) 1
  have h2 := this (c.c2 = 1) 2
  have h3 := this (c.c3 = 1) 3
  have h4 := this (c.c4 = 1) 4
  have h5 := this (c.c5 = 1) 5
  have h6 := this (c.c6 = 1) 6
  have h7 := this (c.c7 = 1) 7
  omega
theorem St.few_tick {x : St} {n : Int} (h : x.few n) : x.tick.few (n + 8) := by
  have h1 := St.few_outs x.c.rang (x := { x with c := x.c.tick }) (n := n) h
  have h2 := Ck.rang_len x.c
  exact h1.le (by omega)
theorem St.few_serve {x : St} {n : Int} (h : x.few n) : x.serve.few (n + 1) := by
  have : x.served.few (n + 1) := St.few_tell h ⟨1, 0, []⟩
  unfold St.serve
  split
  · exact this
  · exact this
theorem St.few_woken {x : St} {n : Int} (h : x.few n) : x.woken.few (n + 1) := by
  unfold St.woken
  split
  · exact St.few_serve h
  · exact h.le (by omega)
theorem St.few_count {x : St} {n : Int} (h : x.few n) (wrong : Bool) : (x.count wrong).few (n + 1) := by
  unfold St.count
  repeat' split
  all_goals first
    | exact h.le (by omega)
    | exact St.few_fail (x := x.setA ((x.a.unit x.s x.c wrong).1, (x.a.unit x.s x.c wrong).2.1)) h _
    | exact St.few_fail (x := x.setL (x.leak.unit wrong)) h _
theorem St.few_remote {x : St} {n : Int} (h : x.few n) (out : Bool) : (x.remote out).few (n + 2) := by
  have hw := St.few_woken h
  have ht : ∀ t, ((x.woken.setO (x.woken.o.remote out)).tell t).few (n + 2) := fun t => (St.few_tell (x := x.woken.setO (x.woken.o.remote out)) hw t).le (by omega)
  unfold St.remote
  repeat' split
  all_goals first
    | exact hw.le (by omega)
    | exact ht _
    | exact St.few_resume (ht _)
theorem St.few_status {x : St} {n : Int} (h : x.few n) (i : Int) : (x.status i).few (n + 2) := by
  unfold St.status
  repeat' split
  all_goals first
    | exact h.le (by omega)
    | exact (St.few_fail h _).le (by omega)
    | exact (St.few_fail (x := x.setA ((x.a.heard x.s x.c i).1, (x.a.heard x.s x.c i).2.1)) h _).le (by omega)
    | exact St.few_remote h _
    | exact (St.few_tell (x := x.setJ ((x.j.heard x.s x.c (decide (0 < x.h.sent.length))).1, (x.j.heard x.s x.c (decide (0 < x.h.sent.length))).2.1)) h _).le (by omega)
theorem St.few_takes {x : St} {n : Int} (h : x.few n) (u : Un) : (x.takes u).few (n + 1) := by
  unfold St.takes
  repeat' split
  all_goals first
    | exact h.le (by omega)
    | exact St.few_tell (x := x.setW (x.w.take u).1) h _
    | exact St.few_fail (x := x.setW (x.w.take u).1) h _
theorem St.few_freed {x : St} {n : Int} (h : x.few n) (k : Int) : (x.freed k).few n := by
  unfold St.freed
  split
  · exact St.few_wait h _
  · exact h
theorem St.few_jammed {x : St} {n : Int} (h : x.few n) (k : Int) : (x.jammed k).few (n + 1) := by
  unfold St.jammed
  split
  · exact St.few_tell (x := x.setJ (⟨x.j.own, false, x.j.due⟩, x.c.stop [6])) h _
  · exact h.le (by omega)
theorem St.few_answers {x : St} {n : Int} (h : x.few n) (u : Un) : (x.answers u).few (n + 2) := by
  have h1 : ((x.setH (x.w.answer x.h u).1).setW (x.w.answer x.h u).2.1).few n := h
  unfold St.answers
  split
  · exact (St.few_takes (St.few_jammed (St.few_freed h1 _) _) _).le (by omega)
  · exact (St.few_fail h1 _).le (by omega)
theorem St.few_ordinary {x : St} {n : Int} (h : x.few n) (u : Un) : (x.ordinary u).few (n + 5) := by
  unfold St.ordinary
  split
  · exact (St.few_answers (St.few_remote (St.few_woken h) _) _).le (by omega)
  · exact (St.few_answers (St.few_woken h) _).le (by omega)
theorem St.few_heard {x : St} {n : Int} (h : x.few n) (u : Un) : (x.heard u).few (n + 5) := by
  unfold St.heard
  repeat' split
  all_goals first
    | exact h.le (by omega)
    | exact (St.few_status h _).le (by omega)
    | exact St.few_ordinary h _
theorem St.few_hear {x : St} {n : Int} (h : x.few n) (u : Un) : (x.hear u).few (n + 6) := (St.few_heard (St.few_count h _) u).le (by omega)
theorem St.few_next {x : St} {n : Int} (h : x.few n) : (x.next).1.few n := by
  unfold St.next
  repeat' split
  all_goals first
    | exact h
    | exact St.few_wait (x := (x.setH (x.w.next x.h).1).setW (x.w.next x.h).2.1) h _
end Go.Proofs.YtdffinnnjcgfcaaGreatK
