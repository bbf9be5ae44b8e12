/- A link that serves, sends, takes and is answered, on plain data (layer 18's laws). -/
import Derived.Test.YtcllbmjmefeknaaGreatM
namespace Go.Proofs.YtcllbmjmefeknaaGreatK
open Go Go.RowKit
set_option maxHeartbeats 1000000
set_option maxRecDepth 100000
def usualS (cyc : Bool) : Su := ⟨cyc, 8, 300, 16, 600, 600, 12000, 8000, 4000, 1200, 100, 4000, 6000⟩
def bornU (c : Bool) : St := St.new (usualS c)
abbrev fl1 : Un := ⟨127, 127, true, true, 0, 1, false, []⟩
def upU (c : Bool) : St := (((bornU c).order 1 []).1.hear (lk 1)).hear (lk 1)
def srvU (c : Bool) : St := ((upU c).ticks 1300).hear fl1
theorem srvU_eq (c : Bool) : srvU c = ⟨usualS c, 4, Ck.none, ⟨0, false, false, ⟨false, 0, 0⟩⟩, ⟨false, false, false⟩, Ho.none 16 600, Wy.of (usualS c), ⟨false, false, false⟩, ⟨0, 0⟩, [⟨1, 0, []⟩], 0⟩ := by cases c <;> kernel_rfl
/-- Neither method waits for anything to be sent again. -/
def Wy.calm : Wy → Prop
  | .bs x => x.fib = true ∧ x.bib = true
  | .cy _ => True
/-- A link that serves, holds these messages, and has taken so many. -/
structure Sv (x : St) (l : List Oct) (f t : Int) : Prop where
  S : x.S = 4
  j : x.j = ⟨false, false, false⟩
  o : x.o = ⟨false, false, false⟩
  leak : x.leak = ⟨0, 0⟩
  all : x.h.sent ++ x.h.next = l
  first : x.h.first = f
  most : x.h.most = 16
  oc : x.h.oc = 600
  last : x.w.last = t
  calm : x.w.calm
theorem srvU_sv (c : Bool) : Sv (srvU c) [] 0 127 := by
  rw [srvU_eq]
  cases c <;> exact ⟨rfl, rfl, rfl, rfl, rfl, rfl, rfl, rfl, rfl, by first | trivial | exact ⟨rfl, rfl⟩⟩
theorem Sv.wait {x : St} {l : List Oct} {f t : Int} (h : Sv x l f t) (b : Bool) : Sv (x.wait b) l f t := by
  unfold St.wait
  repeat' split
  all_goals exact ⟨h.S, h.j, h.o, h.leak, h.all, h.first, h.most, h.oc, h.last, h.calm⟩
theorem octs_three : ∀ {l : List Oct}, (∀ p ∈ l, p.length = 3) → octs l = 3 * l.length
  | [], _ => rfl
  | p :: l, h => by rw [octs_cons, octs_three (fun q hq => h q (by simp [hq])), h p (by simp), List.length_cons]; omega
theorem Sv.put {x : St} {l : List Oct} {f t : Int} (h : Sv x l f t) (hl : l.length < 16) (h3 : ∀ p ∈ l, p.length = 3) {p : Oct} (hp : p.length = 3) : (x.order 5 p).2 = 0 ∧ Sv (x.order 5 p).1 (l ++ [p]) f t ∧ (x.order 5 p).1.h.sent = x.h.sent := by
  have e : x.h.put p = ({ x.h with next := x.h.next ++ [p] }, 0) := by
    have h1 := h.all
    have h2 : x.h.sent.length + x.h.next.length = l.length := by rw [← h1, List.length_append]
    have h4 : octs x.h.sent + octs x.h.next = 3 * l.length := by rw [← octs_append, h1, octs_three h3]
    unfold Ho.put
    rw [if_neg (by omega), if_neg (by omega), if_neg]
    unfold Ho.octets
    rw [h.most, h.oc]
    omega
  have e2 : x.order 5 p = (x.setH { x.h with next := x.h.next ++ [p] }, 0) := by
    unfold St.order
    rw [if_neg (by decide), if_neg (by decide), if_neg (by decide), if_neg (by decide), if_pos rfl, if_pos (by simp [St.serves, h.S]), e]
  rw [e2]
  exact ⟨rfl, ⟨h.S, h.j, h.o, h.leak, by show x.h.sent ++ (x.h.next ++ [p]) = _; rw [← List.append_assoc, h.all], h.first, h.most, h.oc, h.last, h.calm⟩, rfl⟩
theorem Ho.send_all (h : Ho) : h.send.1.sent ++ h.send.1.next = h.sent ++ h.next ∧ h.send.1.first = h.first ∧ h.send.1.most = h.most ∧ h.send.1.oc = h.oc := by
  unfold Ho.send
  split
  · exact ⟨rfl, rfl, rfl, rfl⟩
  · rename_i p r e
    split
    · exact ⟨rfl, rfl, rfl, rfl⟩
    · exact ⟨by rw [e]; simp, rfl, rfl, rfl⟩
theorem Wy.next_all (w : Wy) (h : Ho) (hc : w.calm) : ((w.next h).1.sent ++ (w.next h).1.next = h.sent ++ h.next ∧ (w.next h).1.first = h.first ∧ (w.next h).1.most = h.most ∧ (w.next h).1.oc = h.oc) ∧ (w.next h).2.1.last = w.last ∧ (w.next h).2.1.calm := by
  have hs := Ho.send_all h
  cases w with
  | bs x =>
    show ((Bs.next h x).1.sent ++ (Bs.next h x).1.next = h.sent ++ h.next ∧ (Bs.next h x).1.first = h.first ∧ (Bs.next h x).1.most = h.most ∧ (Bs.next h x).1.oc = h.oc) ∧ (Bs.next h x).2.1.last = x.last ∧ (Bs.next h x).2.1.fib = true ∧ (Bs.next h x).2.1.bib = true
    have hn : ∀ y : Bs, y.last = x.last → y.fib = true → y.bib = true → ((Bs.new h y).1.sent ++ (Bs.new h y).1.next = h.sent ++ h.next ∧ (Bs.new h y).1.first = h.first ∧ (Bs.new h y).1.most = h.most ∧ (Bs.new h y).1.oc = h.oc) ∧ (Bs.new h y).2.1.last = x.last ∧ (Bs.new h y).2.1.fib = true ∧ (Bs.new h y).2.1.bib = true := fun y e1 e2 e3 => by
      unfold Bs.new
      split <;> exact ⟨hs, e1, e2, e3⟩
    unfold Bs.next
    repeat' split
    all_goals first
      | exact hn _ rfl hc.1 hc.2
      | exact ⟨⟨rfl, rfl, rfl, rfl⟩, rfl, hc.1, hc.2⟩
  | cy x =>
    show ((Cy.next h x).1.sent ++ (Cy.next h x).1.next = h.sent ++ h.next ∧ (Cy.next h x).1.first = h.first ∧ (Cy.next h x).1.most = h.most ∧ (Cy.next h x).1.oc = h.oc) ∧ (Cy.next h x).2.1.last = x.last ∧ True
    have hp : (x.push h).last = x.last := by unfold Cy.push; split <;> rfl
    have hw : ∀ y : Cy, (y.wind h).last = y.last := fun y => by unfold Cy.wind; split <;> rfl
    unfold Cy.next
    split
    · exact ⟨hs, hp, trivial⟩
    · unfold Cy.old
      split
      · exact ⟨⟨rfl, rfl, rfl, rfl⟩, (hw _).trans hp, trivial⟩
      · exact ⟨⟨rfl, rfl, rfl, rfl⟩, (hw _).trans hp, trivial⟩
theorem Sv.next {x : St} {l : List Oct} {f t : Int} (h : Sv x l f t) : Sv x.next.1 l f t := by
  have hn := Wy.next_all x.w x.h h.calm
  unfold St.next
  rw [if_neg (by rw [h.S]; decide), if_neg (by rw [h.S]; decide), if_pos h.S, if_neg (by rw [h.j]; decide)]
  exact Sv.wait (x := (x.setH (x.w.next x.h).1).setW (x.w.next x.h).2.1) ⟨h.S, h.j, h.o, h.leak, hn.1.1.trans h.all, hn.1.2.1.trans h.first, hn.1.2.2.1.trans h.most, hn.1.2.2.2.trans h.oc, hn.2.1.trans h.last, hn.2.2⟩ false
theorem Ho.knows_prev (h : Ho) : h.knows h.prev = true ∧ h.gap h.prev = 0 := by
  unfold Ho.knows Ho.gap Ho.prev
  simp only [Bool.and_eq_true, decide_eq_true_eq]
  omega
theorem Bs.turn_same {x : Bs} {b : Bool} (h : b = x.fib) (n : Int) : x.turn b n = x := by unfold Bs.turn; rw [if_pos h]
theorem Bs.over_all (x : Bs) (n : Int) : (x.over n).last = x.last ∧ (x.over n).fib = x.fib ∧ (x.over n).bib = x.bib := by unfold Bs.over; split <;> exact ⟨rfl, rfl, rfl⟩
theorem Bs.back_all (x : Bs) (n : Int) : (x.back n).last = x.last ∧ (x.back n).fib = x.fib ∧ (x.back n).bib = x.bib := by unfold Bs.back; split <;> exact ⟨rfl, rfl, rfl⟩
theorem Wy.answer_calm (w : Wy) (h : Ho) (u : Un) (hn : h.knows u.bsn = true) (hb : u.bib = true) (hc : w.calm) :
    (w.answer h u).1 = (h.free u.bsn).1 ∧ (w.answer h u).2.1.last = w.last ∧ (w.answer h u).2.1.calm ∧ (w.answer h u).2.2.1 = (h.free u.bsn).2.1 ∧ (w.answer h u).2.2.2 = 0 := by
  cases w with
  | bs q =>
    have e : Bs.answer h q u = ((h.free u.bsn).1, (((q.see false).back (h.free u.bsn).2.1).over (h.free u.bsn).1.sent.length).turn u.bib (h.free u.bsn).1.sent.length, (h.free u.bsn).2.1, 0) := by unfold Bs.answer; rw [if_pos hn]
    have o := Bs.over_all ((q.see false).back (h.free u.bsn).2.1) (h.free u.bsn).1.sent.length
    have k := Bs.back_all (q.see false) (h.free u.bsn).2.1
    rw [Bs.turn_same (by rw [hb, o.2.1, k.2.1]; exact hc.1.symm)] at e
    show (Bs.answer h q u).1 = _ ∧ (Bs.answer h q u).2.1.last = q.last ∧ ((Bs.answer h q u).2.1.fib = true ∧ (Bs.answer h q u).2.1.bib = true) ∧ (Bs.answer h q u).2.2.1 = _ ∧ (Bs.answer h q u).2.2.2 = 0
    rw [e]
    exact ⟨rfl, o.1.trans k.1, ⟨(o.2.1.trans k.2.1).trans hc.1, (o.2.2.trans k.2.2).trans hc.2⟩, rfl, rfl⟩
  | cy q =>
    have e : Cy.answer h q u = ((h.free u.bsn).1, { q.see false with at_ := max 0 (q.at_ - (h.free u.bsn).2.1) }, (h.free u.bsn).2.1, 0) := by unfold Cy.answer; rw [if_pos hn]
    show (Cy.answer h q u).1 = _ ∧ (Cy.answer h q u).2.1.last = q.last ∧ True ∧ (Cy.answer h q u).2.2.1 = _ ∧ (Cy.answer h q u).2.2.2 = 0
    rw [e]
    exact ⟨rfl, rfl, trivial, rfl, rfl⟩
theorem Wy.take_got (w : Wy) (u : Un) (hk : u.kind = 2) (hf : u.fib = true) (hn : u.fsn = (w.last + 1) % 128) (hc : w.calm) :
    (w.take u).1.last = (w.last + 1) % 128 ∧ (w.take u).1.calm ∧ (w.take u).2.1 = u.info ∧ (w.take u).2.2.1 = true ∧ (w.take u).2.2.2 = 0 := by
  cases w with
  | bs q =>
    have e : q.take u = ({ q.sei false with last := (q.last + 1) % 128, asked := false }, u.info, true, 0) := by unfold Bs.take; rw [if_pos (hf.trans hc.2.symm), if_pos ⟨hk, hn⟩]
    show (q.take u).1.last = (q.last + 1) % 128 ∧ ((q.take u).1.fib = true ∧ (q.take u).1.bib = true) ∧ (q.take u).2.1 = _ ∧ (q.take u).2.2.1 = true ∧ (q.take u).2.2.2 = 0
    rw [e]
    exact ⟨rfl, hc, rfl, rfl, rfl⟩
  | cy q =>
    have e : q.take u = ({ q with last := u.fsn }, u.info, true, 0) := by unfold Cy.take; rw [if_pos ⟨hk, hn⟩]
    show (q.take u).1.last = (q.last + 1) % 128 ∧ True ∧ (q.take u).2.1 = _ ∧ (q.take u).2.2.1 = true ∧ (q.take u).2.2.2 = 0
    rw [e]
    exact ⟨hn, trivial, rfl, rfl, rfl⟩
theorem Wy.take_old (w : Wy) (u : Un) (hk : u.kind ≠ 2) (hf : u.fib = true) (hn : u.fsn = w.last) (hc : w.calm) :
    (w.take u).1.last = w.last ∧ (w.take u).1.calm ∧ (w.take u).2.2.1 = false ∧ (w.take u).2.2.2 = 0 := by
  cases w with
  | bs q =>
    have e : q.take u = ({ q.sei false with asked := false }, [], false, 0) := by unfold Bs.take; rw [if_pos (hf.trans hc.2.symm), if_neg (fun e => hk e.1), if_pos (show u.fsn = q.last from hn)]
    show (q.take u).1.last = q.last ∧ ((q.take u).1.fib = true ∧ (q.take u).1.bib = true) ∧ (q.take u).2.2.1 = false ∧ (q.take u).2.2.2 = 0
    rw [e]
    exact ⟨rfl, hc, rfl, rfl⟩
  | cy q =>
    have e : q.take u = (q, [], false, 0) := by unfold Cy.take; rw [if_neg (fun e => hk e.1)]
    show (q.take u).1.last = q.last ∧ True ∧ (q.take u).2.2.1 = false ∧ (q.take u).2.2.2 = 0
    rw [e]
    exact ⟨rfl, trivial, rfl, rfl⟩
/-- An answer, and a unit that is taken or not. -/
theorem Sv.hear {x : St} {l : List Oct} {f t : Int} (h : Sv x l f t) {u : Un} (hk : u.kind ≠ 1) (hb : u.bib = true) (hf : u.fib = true) (hn : x.h.knows u.bsn = true) (hg : (x.h.gap u.bsn).toNat ≤ x.h.sent.length)
    (hu : (u.kind = 2 ∧ u.fsn = (t + 1) % 128) ∨ (u.kind ≠ 2 ∧ u.fsn = t)) : Sv (x.hear u) (l.drop (x.h.gap u.bsn).toNat) ((u.bsn + 1) % 128) (if u.kind = 2 then (t + 1) % 128 else t) ∧ (x.hear u).h.sent = x.h.sent.drop (x.h.gap u.bsn).toNat := by
  have hc : x.count false = x := by
    unfold St.count
    rw [if_neg (by rw [h.S]; decide), if_neg (by rw [h.S]; decide), h.leak, if_neg (by decide)]
    have : x.setL (Le.unit ⟨0, 0⟩ false) = x.setL x.leak := by rw [h.leak]; rfl
    rw [this]; rfl
  have hw : x.woken = x := by unfold St.woken; rw [if_neg (by rw [h.S]; decide)]
  have ho : x.ordinary u = x.answers u := by
    unfold St.ordinary
    rw [hw, if_neg (by rw [h.o]; decide)]
  have hh : x.hear u = x.answers u := by
    unfold St.hear St.heard
    rw [hc, if_neg (by rw [h.S]; decide), if_neg hk, if_neg (by rw [h.S]; decide), ho]
  have hfree : x.h.free u.bsn = (⟨x.h.most, x.h.oc, x.h.sent.drop (x.h.gap u.bsn).toNat, (u.bsn + 1) % 128, x.h.next⟩, x.h.gap u.bsn, 0) := by unfold Ho.free; rw [if_pos hn]
  obtain ⟨a1, a2, a3, a4, a5⟩ := Wy.answer_calm x.w x.h u hn hb h.calm
  rw [hh]
  unfold St.answers
  rw [if_pos a5, a4]
  have s1 : Sv ((x.setH (x.w.answer x.h u).1).setW (x.w.answer x.h u).2.1) (l.drop (x.h.gap u.bsn).toNat) ((u.bsn + 1) % 128) t := by
    rw [a1, hfree]
    refine ⟨h.S, h.j, h.o, h.leak, ?_, rfl, h.most, h.oc, a2.trans h.last, a3⟩
    show x.h.sent.drop _ ++ x.h.next = _
    rw [← h.all, List.drop_append_of_le_length hg]
  have e1 : ((x.setH (x.w.answer x.h u).1).setW (x.w.answer x.h u).2.1).h.sent = x.h.sent.drop (x.h.gap u.bsn).toNat := by rw [a1, hfree]; rfl
  rw [hfree]
  dsimp only
  generalize (x.setH (x.w.answer x.h u).1).setW (x.w.answer x.h u).2.1 = y at s1 e1 ⊢
  have s2 : Sv (y.freed (x.h.gap u.bsn)) (l.drop (x.h.gap u.bsn).toNat) ((u.bsn + 1) % 128) t ∧ (y.freed (x.h.gap u.bsn)).h.sent = y.h.sent := by
    unfold St.freed
    split
    · refine ⟨s1.wait _, ?_⟩
      unfold St.wait
      repeat' split
      all_goals rfl
    · exact ⟨s1, rfl⟩
  generalize y.freed (x.h.gap u.bsn) = z at s2 ⊢
  obtain ⟨s2, e2⟩ := s2
  have ej : z.jammed (x.h.gap u.bsn) = z := by
    unfold St.jammed
    rw [if_neg]
    rw [s2.j]
    simp
  rw [ej]
  unfold St.takes
  rw [if_neg (by rw [s2.o, s2.j]; decide)]
  have hl := s2.last
  rcases hu with ⟨k2, kf⟩ | ⟨k2, kf⟩
  · obtain ⟨b1, b2, b3, b4, b5⟩ := Wy.take_got z.w u k2 hf (by rw [hl]; exact kf) s2.calm
    rw [if_pos b5, if_pos b4, if_pos k2]
    exact ⟨⟨s2.S, s2.j, s2.o, s2.leak, s2.all, s2.first, s2.most, s2.oc, b1.trans (by rw [hl]), b2⟩, e2.trans e1⟩
  · obtain ⟨b1, b2, b3, b4⟩ := Wy.take_old z.w u k2 hf (by rw [hl]; exact kf) s2.calm
    rw [if_pos b4, if_neg (by rw [b3]; decide), if_neg k2]
    exact ⟨⟨s2.S, s2.j, s2.o, s2.leak, s2.all, s2.first, s2.most, s2.oc, b1.trans hl, b2⟩, e2.trans e1⟩
end Go.Proofs.YtcllbmjmefeknaaGreatK
