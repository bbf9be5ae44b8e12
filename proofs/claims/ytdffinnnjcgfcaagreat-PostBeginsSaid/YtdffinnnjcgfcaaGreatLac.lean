/- Acts of layer 17's laws, on plain data. -/
import Derived.Test.YtdffinnnjcgfcaaGreatM
namespace Go.Proofs.YtdffinnnjcgfcaaGreatK
/-! ### Acts of layer 17's laws, on plain data: which states follow which, and what is told of it. -/
section
open Go Go.RowKit
set_option maxHeartbeats 1000000
structure Ac where
  k : Int
  a : Int
  u : Un
/-- A unit that fits what was sent and taken. -/
def St.fits (x : St) (c : Ac) : Un := ⟨(x.h.first + 127) % 128, (x.w.last + c.a % 3) % 128, true, true, c.u.kind % 3, 0, false, if c.u.kind % 3 = 2 then [c.a, 2, 3] else []⟩
def Ac.near (c : Ac) : Un := ⟨c.u.bsn % 128, c.u.fsn % 128, c.u.bib, c.u.fib, c.u.kind % 3, c.u.status, c.u.wide, c.u.info⟩
def St.act (x : St) (c : Ac) : St :=
  if c.k % 16 < 4 then (x.order (c.a % 13) [c.a, 1, 2]).1
  else if c.k % 16 < 7 then x.hear (lk (c.a % 6))
  else if c.k % 16 = 7 then x.count true
  else if c.k % 16 < 10 then x.hear (x.fits c)
  else if c.k % 16 = 10 then x.hear c.near
  else if c.k % 16 = 11 then x.ticks (c.a % 16).toNat
  else if c.k % 16 < 14 then x.next.1
  else x.tick
/-! ### What is told -/
def ins (l : List To) : Nat := l.countP fun t => decide (t.kind = 1)
def outs (l : List To) : Nat := l.countP fun t => decide (t.kind = 2)
/-- So many words of a beginning, and of an end, are told between the two. -/
structure Mv (x y : St) (i o : Nat) : Prop where
  told : ∃ l, y.told = x.told ++ l ∧ ins l = i ∧ outs l = o ∧ ∀ t ∈ l, t.kind = 2 → 1 ≤ t.why ∧ t.why ≤ 10
  fails : y.fails = x.fails + o
theorem Mv.keep {x y : St} (ht : y.told = x.told) (hf : y.fails = x.fails) : Mv x y 0 0 := ⟨⟨[], by simp [ht], rfl, rfl, by simp⟩, by simp [hf]⟩
theorem Mv.trans {x y z : St} {i o i' o' : Nat} (h : Mv x y i o) (k : Mv y z i' o') : Mv x z (i + i') (o + o') := by
  obtain ⟨⟨l, h1, h2, h3, h4⟩, h5⟩ := h
  obtain ⟨⟨m, k1, k2, k3, k4⟩, k5⟩ := k
  refine ⟨⟨l ++ m, by rw [k1, h1, List.append_assoc], ?_, ?_, fun t ht => ?_⟩, by rw [k5, h5]; push_cast; omega⟩
  · subst h2 k2; simp [ins]
  · subst h3 k3; simp [outs]
  · rcases List.mem_append.1 ht with ht | ht
    · exact h4 t ht
    · exact k4 t ht
/-- How a state may turn when something is heard. -/
def Hr (s s' : Int) (i o : Nat) : Prop :=
  (o = 0 ∧ ((i = 0 ∧ (s' = s ∨ ((s = 2 ∨ s = 3) ∧ (s' = 2 ∨ s' = 3)) ∨ ((s = 4 ∨ s = 5) ∧ (s' = 4 ∨ s' = 5)))) ∨ (i = 1 ∧ (s = 2 ∨ s = 3) ∧ (s' = 4 ∨ s' = 5)))) ∨
  (o = 1 ∧ s' = 0 ∧ ((i = 0 ∧ s ≠ 0) ∨ (i = 1 ∧ (s = 2 ∨ s = 3))))
def Hm (x y : St) : Prop := ∃ i o, Mv x y i o ∧ Hr x.S y.S i o
theorem Hr.trans {s t u : Int} {i o i' o' : Nat} (h : Hr s t i o) (k : Hr t u i' o') : Hr s u (i + i') (o + o') := by
  unfold Hr at h k
  rcases h with ⟨rfl, ⟨rfl, h⟩ | ⟨rfl, h, h'⟩⟩ | ⟨rfl, rfl, h⟩
  · rcases k with ⟨rfl, ⟨rfl, k⟩ | ⟨rfl, k, k'⟩⟩ | ⟨rfl, rfl, ⟨rfl, k⟩ | ⟨rfl, k⟩⟩
    · exact .inl ⟨rfl, .inl ⟨rfl, by omega⟩⟩
    · exact .inl ⟨rfl, .inr ⟨rfl, by omega, k'⟩⟩
    · exact .inr ⟨rfl, rfl, .inl ⟨rfl, by omega⟩⟩
    · exact .inr ⟨rfl, rfl, .inr ⟨rfl, by omega⟩⟩
  · rcases k with ⟨rfl, ⟨rfl, k⟩ | ⟨rfl, k, k'⟩⟩ | ⟨rfl, rfl, ⟨rfl, k⟩ | ⟨rfl, k⟩⟩
    · exact .inl ⟨rfl, .inr ⟨rfl, h, by omega⟩⟩
    · omega
    · exact .inr ⟨rfl, rfl, .inr ⟨rfl, h⟩⟩
    · omega
  · rcases k with ⟨rfl, ⟨rfl, k⟩ | ⟨rfl, k, k'⟩⟩ | ⟨rfl, rfl, ⟨rfl, k⟩ | ⟨rfl, k⟩⟩
    · have e : u = 0 := by omega
      subst e
      exact .inr ⟨rfl, rfl, h⟩
    · omega
    · exact absurd rfl k
    · omega
theorem Hm.trans {x y z : St} (h : Hm x y) (k : Hm y z) : Hm x z := by
  obtain ⟨i, o, h1, h2⟩ := h
  obtain ⟨i', o', k1, k2⟩ := k
  exact ⟨_, _, h1.trans k1, h2.trans k2⟩
theorem Hm.mk {x y : St} (ht : y.told = x.told) (hf : y.fails = x.fails) (hS : y.S = x.S ∨ ((x.S = 2 ∨ x.S = 3) ∧ (y.S = 2 ∨ y.S = 3)) ∨ ((x.S = 4 ∨ x.S = 5) ∧ (y.S = 4 ∨ y.S = 5))) : Hm x y :=
  ⟨0, 0, .keep ht hf, .inl ⟨rfl, .inl ⟨rfl, hS⟩⟩⟩
theorem Hm.refl (x : St) : Hm x x := .mk rfl rfl (.inl rfl)
theorem Hm.tell {x : St} {t : To} (h1 : t.kind ≠ 1) (h2 : t.kind ≠ 2) : Hm x (x.tell t) :=
  ⟨0, 0, ⟨⟨[t], rfl, by simp [ins, h1], by simp [outs, h2], fun u hu => by simp only [List.mem_singleton] at hu; subst hu; exact fun h => absurd h h2⟩, by simp [St.tell]⟩, .inl ⟨rfl, .inl ⟨rfl, .inl rfl⟩⟩⟩
theorem Hm.fail (x : St) {why : Int} (h1 : 1 ≤ why) (h2 : why ≤ 10) : Hm x (x.fail why) := by
  unfold St.fail
  split
  · exact .refl x
  · rename_i h0
    refine ⟨0, 1, ⟨⟨[⟨2, why, []⟩], rfl, by simp [ins], by simp [outs], fun u hu => by simp only [List.mem_singleton] at hu; subst hu; exact fun _ => ⟨h1, h2⟩⟩, by simp⟩, .inr ⟨rfl, rfl, .inl ⟨rfl, h0⟩⟩⟩
theorem Hm.halt {x : St} (h : x.S = 4 ∨ x.S = 5) : Hm x x.halt := .mk rfl rfl (.inr (.inr ⟨h, .inr rfl⟩))
theorem St.wait_S (x : St) (b : Bool) : (x.wait b).S = x.S ∧ (x.wait b).told = x.told ∧ (x.wait b).fails = x.fails := by
  unfold St.wait
  repeat' split
  all_goals exact ⟨rfl, rfl, rfl⟩
theorem Hm.wait (x : St) (b : Bool) : Hm x (x.wait b) := by
  obtain ⟨h1, h2, h3⟩ := St.wait_S x b
  exact .mk h2 h3 (.inl h1)
theorem Hm.resume (x : St) : Hm x x.resume := by
  unfold St.resume
  split
  · rename_i h
    exact Hm.trans (y := { x with S := 4 }) (.mk rfl rfl (.inr (.inr ⟨.inr h.1, .inl rfl⟩))) (.wait _ _)
  · exact .refl x
theorem Hm.setO (x : St) (o : Oa) : Hm x (x.setO o) := .mk rfl rfl (.inl rfl)
theorem Hm.setA (x : St) (r : Al × Ck) : Hm x (x.setA r) := .mk rfl rfl (.inl rfl)
theorem Hm.setJ (x : St) (r : Jm × Ck) : Hm x (x.setJ r) := .mk rfl rfl (.inl rfl)
theorem Hm.setH (x : St) (h : Ho) : Hm x (x.setH h) := .mk rfl rfl (.inl rfl)
theorem Hm.setW (x : St) (h : Wy) : Hm x (x.setW h) := .mk rfl rfl (.inl rfl)
theorem Hm.setL (x : St) (h : Le) : Hm x (x.setL h) := .mk rfl rfl (.inl rfl)
theorem Hm.turn (x : St) (b : Bool) : Hm x (x.turn b) := by
  unfold St.turn
  split
  · rename_i h; exact .halt (.inl h.1)
  split
  · exact .resume x
  split
  · rename_i h; exact .mk rfl rfl (.inr (.inl ⟨.inl h.1, .inr rfl⟩))
  split
  · rename_i h; exact .mk rfl rfl (.inr (.inl ⟨.inr h.1, .inl rfl⟩))
  · exact .refl x
theorem Hm.here (x : St) (b : Bool) : Hm x (x.here b) := by
  unfold St.here
  split
  · exact .refl x
  · exact (Hm.setO x _).trans (.turn _ _)
theorem Hm.woken (x : St) : Hm x x.woken := by
  unfold St.woken
  split
  · rename_i h
    have h1 : Hm x x.served := ⟨1, 0, ⟨⟨[⟨1, 0, []⟩], rfl, by simp [ins], by simp [outs], by simp⟩, by simp [St.served]⟩, .inl ⟨rfl, .inr ⟨rfl, h, .inl rfl⟩⟩⟩
    unfold St.serve
    split
    · exact h1.trans (.halt (.inl rfl))
    · exact h1
  · exact .refl x
theorem Al.unit_why (s : Su) (a : Al) (c : Ck) (b : Bool) : (a.unit s c b).2.2 ≠ 0 → 1 ≤ (a.unit s c b).2.2 ∧ (a.unit s c b).2.2 ≤ 10 := by
  unfold Al.unit
  dsimp only
  repeat' split
  all_goals (intro h; first | exact absurd rfl h | (dsimp only; decide))
theorem Al.heard_why (s : Su) (a : Al) (c : Ck) (i : Int) : (a.heard s c i).2.2 ≠ 0 → 1 ≤ (a.heard s c i).2.2 ∧ (a.heard s c i).2.2 ≤ 10 := by
  unfold Al.heard
  split
  · intro h; exact absurd rfl h
  extract_lets a1
  repeat' split
  all_goals (intro h; first | exact absurd rfl h | (dsimp only; decide))
theorem Al.out_why (a : Al) (c : Ck) (i : Int) : (a.out c i).2.2.2 ≠ 0 → 1 ≤ (a.out c i).2.2.2 ∧ (a.out c i).2.2.2 ≤ 10 := by
  unfold Al.out
  repeat' split
  all_goals (intro h; first | exact absurd rfl h | (dsimp only; decide))
theorem Jm.out_why (s : Su) (j : Jm) (c : Ck) (i : Int) : (j.out s c i).2.2 ≠ 0 → 1 ≤ (j.out s c i).2.2 ∧ (j.out s c i).2.2 ≤ 10 := by
  unfold Jm.out
  repeat' split
  all_goals (intro h; first | exact absurd rfl h | (dsimp only; decide))
theorem Hm.count (x : St) (b : Bool) : Hm x (x.count b) := by
  unfold St.count
  split
  · exact .refl x
  split
  · split
    · exact .setA x _
    · rename_i h
      have := Al.unit_why x.s x.a x.c b h
      exact (Hm.setA x _).trans (.fail _ this.1 this.2)
  · split
    · exact (Hm.setL x _).trans (.fail _ (by decide) (by decide))
    · exact .setL x _
theorem Hm.remote (x : St) (b : Bool) : Hm x (x.remote b) := by
  have hw := Hm.woken x
  have ho := hw.trans (.setO _ (x.woken.o.remote b))
  unfold St.remote
  split
  · exact ho
  split
  · split
    · rename_i h
      exact (ho.trans (.tell (t := ⟨4, 0, []⟩) (by decide) (by decide))).trans (.halt (.inl h))
    · exact ho.trans (.tell (t := ⟨4, 0, []⟩) (by decide) (by decide))
  · exact (ho.trans (.tell (t := ⟨5, 0, []⟩) (by decide) (by decide))).trans (.resume _)
theorem Hm.status (x : St) (i : Int) : Hm x (x.status i) := by
  unfold St.status
  split
  · split
    · exact .setA x _
    · rename_i h
      have := Al.heard_why x.s x.a x.c i h
      exact (Hm.setA x _).trans (.fail _ this.1 this.2)
  split
  · exact .fail _ (by decide) (by decide)
  split
  · exact .fail _ (by decide) (by decide)
  split
  · exact .remote x _
  split
  · split
    · exact (Hm.setJ x _).trans (.tell (t := ⟨6, 0, []⟩) (by decide) (by decide))
    · exact .setJ x _
  · exact .refl x
theorem Hm.takes (x : St) (u : Un) : Hm x (x.takes u) := by
  unfold St.takes
  split
  · exact .refl x
  split
  · split
    · exact (Hm.setW x _).trans (.tell (by simp) (by simp))
    · exact .setW x _
  · exact (Hm.setW x _).trans (.fail _ (by decide) (by decide))
theorem Hm.answers (x : St) (u : Un) : Hm x (x.answers u) := by
  have h1 := (Hm.setH x (x.w.answer x.h u).1).trans (.setW _ (x.w.answer x.h u).2.1)
  have hf : ∀ (y : St) (k : Int), Hm y (y.freed k) := fun y k => by
    unfold St.freed
    split
    · exact .wait _ _
    · exact .refl _
  have hj : ∀ (y : St) (k : Int), Hm y (y.jammed k) := fun y k => by
    unfold St.jammed
    split
    · exact (Hm.setJ _ _).trans (.tell (t := ⟨7, 0, []⟩) (by decide) (by decide))
    · exact .refl _
  unfold St.answers
  split
  · exact ((h1.trans (hf _ _)).trans (hj _ _)).trans (.takes _ u)
  · exact h1.trans (.fail _ (by decide) (by decide))
theorem Hm.hear (x : St) (u : Un) : Hm x (x.hear u) := by
  refine (Hm.count x false).trans ?_
  show Hm (x.count false) ((x.count false).heard u)
  generalize x.count false = y
  unfold St.heard
  split
  · exact .refl y
  split
  · exact .status y _
  split
  · exact .refl y
  · unfold St.ordinary
    refine Hm.trans ?_ (.answers _ u)
    split
    · exact (Hm.woken y).trans (.remote _ _)
    · exact .woken y
theorem St.next_S (x : St) : x.next.1.S = x.S ∧ x.next.1.told = x.told ∧ x.next.1.fails = x.fails := by
  unfold St.next
  repeat' split
  all_goals first
    | exact ⟨rfl, rfl, rfl⟩
    | exact ⟨(St.wait_S _ _).1, (St.wait_S _ _).2.1, (St.wait_S _ _).2.2⟩
theorem Hm.next (x : St) : Hm x x.next.1 := by
  obtain ⟨h1, h2, h3⟩ := St.next_S x
  exact .mk h2 h3 (.inl h1)
/-- How a state may turn when time goes by. -/
def Tr (s s' : Int) (i o : Nat) : Prop := i = 0 ∧ ((o = 0 ∧ (s' = s ∨ (s = 1 ∧ (s' = 2 ∨ s' = 3)))) ∨ (o = 1 ∧ s' = 0 ∧ s ≠ 0))
def Tm (x y : St) : Prop := ∃ i o, Mv x y i o ∧ Tr x.S y.S i o
theorem Tm.refl (x : St) : Tm x x := ⟨0, 0, .keep rfl rfl, rfl, .inl ⟨rfl, .inl rfl⟩⟩
theorem Tm.trans {x y z : St} (h : Tm x y) (k : Tm y z) : Tm x z := by
  obtain ⟨i, o, h1, h2⟩ := h
  obtain ⟨i', o', k1, k2⟩ := k
  refine ⟨_, _, h1.trans k1, ?_⟩
  unfold Tr at *
  omega
theorem Tm.mk {x y : St} (ht : y.told = x.told) (hf : y.fails = x.fails) (hS : y.S = x.S ∨ (x.S = 1 ∧ (y.S = 2 ∨ y.S = 3))) : Tm x y := ⟨0, 0, .keep ht hf, rfl, .inl ⟨rfl, hS⟩⟩
theorem Tm.fail (x : St) {why : Int} (h1 : 1 ≤ why) (h2 : why ≤ 10) : Tm x (x.fail why) := by
  unfold St.fail
  split
  · exact .refl x
  · rename_i h0
    exact ⟨0, 1, ⟨⟨[⟨2, why, []⟩], rfl, by simp [ins], by simp [outs], fun u hu => by simp only [List.mem_singleton] at hu; subst hu; exact fun _ => ⟨h1, h2⟩⟩, by simp⟩, rfl, .inr ⟨rfl, rfl, h0⟩⟩
theorem Tm.out (x : St) (i : Int) : Tm x (x.out i) := by
  unfold St.out
  split
  · exact .refl x
  split
  · rename_i h1
    split
    · split
      · refine .mk rfl rfl (.inr ⟨h1, ?_⟩)
        show (if _ then (3 : Int) else 2) = 2 ∨ (if _ then (3 : Int) else 2) = 3
        split
        · exact .inr rfl
        · exact .inl rfl
      · exact .mk rfl rfl (.inl rfl)
    · rename_i h
      have := Al.out_why x.a x.c i h
      exact Tm.trans (y := x.setA ((x.a.out x.c i).1, (x.a.out x.c i).2.1)) (.mk rfl rfl (.inl rfl)) (.fail (x.setA ((x.a.out x.c i).1, (x.a.out x.c i).2.1)) this.1 this.2)
  split
  · exact .fail _ (by decide) (by decide)
  split
  · exact .fail _ (by decide) (by decide)
  split
  · exact .mk rfl rfl (.inl rfl)
  · rename_i h
    have := Jm.out_why x.s x.j x.c i h
    exact Tm.trans (y := x.setJ ((x.j.out x.s x.c i).1, (x.j.out x.s x.c i).2.1)) (.mk rfl rfl (.inl rfl)) (.fail (x.setJ ((x.j.out x.s x.c i).1, (x.j.out x.s x.c i).2.1)) this.1 this.2)
theorem Tm.outs (l : List Int) : ∀ x : St, Tm x (l.foldl St.out x) := by
  induction l with
  | nil => exact fun x => .refl x
  | cons i l ih => exact fun x => (Tm.out x i).trans (ih _)
theorem Tm.tick (x : St) : Tm x x.tick := Tm.trans (y := { x with c := x.c.tick }) (.mk rfl rfl (.inl rfl)) (.outs _ _)
theorem Tm.ticks (x : St) (n : Nat) : Tm x (x.ticks n) := by
  induction n with
  | zero => exact .refl x
  | succ n ih => exact ih.trans (.tick _)
/-- How a state may turn by an act. -/
structure Fin_ (s s' : Int) (i o : Nat) : Prop where
  hi : i ≤ 1
  ho : o ≤ 1
  low : (s = 0 ∨ s = 1) → s' ≤ 3
  out : s = 0 → s' ≤ 1
  one : i = 1 ↔ ((s = 2 ∨ s = 3) ∧ (s' = 4 ∨ s' = 5 ∨ (o = 1 ∧ i = 1)))
  ends : s ≠ 0 → s' = 0 → o = 1
  high : (s = 4 ∨ s = 5) → s' < 4 → s' = 0
theorem Hr.fin {s s' : Int} {i o : Nat} (h : Hr s s' i o) : Fin_ s s' i o := by unfold Hr at h; constructor <;> omega
theorem Tr.fin {s s' : Int} {i o : Nat} (h : Tr s s' i o) : Fin_ s s' i o := by unfold Tr at h; constructor <;> omega
def Am (x y : St) : Prop := ∃ i o, Mv x y i o ∧ Fin_ x.S y.S i o
theorem Hm.am {x y : St} (h : Hm x y) : Am x y := by
  obtain ⟨i, o, h1, h2⟩ := h
  exact ⟨i, o, h1, h2.fin⟩
theorem Tm.am {x y : St} (h : Tm x y) : Am x y := by
  obtain ⟨i, o, h1, h2⟩ := h
  exact ⟨i, o, h1, h2.fin⟩
theorem Am.order (x : St) (k : Int) (p : Oct) : Am x (x.order k p).1 := by
  have hs : Am x x := (Hm.refl x).am
  unfold St.order
  with_reducible refine ite_p (fun r : St × Int => Am x r.1) (fun _ => ?_) (fun _ => ?_)
  · with_reducible refine ite_p (fun r : St × Int => Am x r.1) (fun h0 => ?_) (fun _ => ?_)
    · exact ⟨0, 0, .keep rfl rfl, by constructor <;> simp [h0, St.begin]⟩
    · exact hs
  with_reducible refine ite_p (fun r : St × Int => Am x r.1) (fun _ => ?_) (fun _ => ?_)
  · with_reducible refine ite_p (fun r : St × Int => Am x r.1) (fun h0 => ?_) (fun _ => ?_)
    · exact hs
    · exact (Hm.fail x (by decide) (by decide)).am
  with_reducible refine ite_p (fun r : St × Int => Am x r.1) (fun _ => ?_) (fun _ => ?_)
  · exact (Hm.setA x _).am
  with_reducible refine ite_p (fun r : St × Int => Am x r.1) (fun _ => ?_) (fun _ => ?_)
  · exact (Hm.setA x _).am
  with_reducible refine ite_p (fun r : St × Int => Am x r.1) (fun _ => ?_) (fun _ => ?_)
  · with_reducible refine ite_p (fun r : St × Int => Am x r.1) (fun h0 => ?_) (fun _ => ?_)
    · exact (Hm.setH x _).am
    · exact hs
  with_reducible refine ite_p (fun r : St × Int => Am x r.1) (fun _ => ?_) (fun _ => ?_)
  · exact (Hm.here x _).am
  with_reducible refine ite_p (fun r : St × Int => Am x r.1) (fun _ => ?_) (fun _ => ?_)
  · exact (Hm.here x _).am
  with_reducible refine ite_p (fun r : St × Int => Am x r.1) (fun _ => ?_) (fun _ => ?_)
  · exact (Hm.setH x _).am
  with_reducible refine ite_p (fun r : St × Int => Am x r.1) (fun _ => ?_) (fun _ => ?_)
  · with_reducible refine ite_p (fun r : St × Int => Am x r.1) (fun h0 => ?_) (fun _ => ?_)
    · exact ((Hm.setO x _).trans (.resume _)).am
    · exact hs
  with_reducible refine ite_p (fun r : St × Int => Am x r.1) (fun _ => ?_) (fun _ => ?_)
  · with_reducible refine ite_p (fun r : St × Int => Am x r.1) (fun h0 => ?_) (fun _ => ?_)
    · exact (Hm.setJ x _).am
    · exact hs
  with_reducible refine ite_p (fun r : St × Int => Am x r.1) (fun _ => ?_) (fun _ => ?_)
  · with_reducible refine ite_p (fun r : St × Int => Am x r.1) (fun h0 => ?_) (fun _ => ?_)
    · exact (Hm.setJ x _).am
    · exact hs
  · exact hs
/-- What holds behind each kind of act holds behind an act. -/
theorem St.act_p (P : St → Prop) (x : St) (c : Ac) (h1 : P (x.order (c.a % 13) [c.a, 1, 2]).1) (h2 : ∀ u, P (x.hear u)) (h3 : P (x.count true)) (h4 : c.k % 16 = 11 → P (x.ticks (c.a % 16).toNat)) (h5 : P x.next.1) (h6 : P x.tick) : P (x.act c) := by
  unfold St.act
  refine ite_p P (fun _ => h1) (fun _ => ?_)
  refine ite_p P (fun _ => h2 _) (fun _ => ?_)
  refine ite_p P (fun _ => h3) (fun _ => ?_)
  refine ite_p P (fun _ => h2 _) (fun _ => ?_)
  refine ite_p P (fun _ => h2 _) (fun _ => ?_)
  refine ite_p P (fun h => h4 h) (fun _ => ?_)
  exact ite_p P (fun _ => h5) (fun _ => h6)
theorem Am.act (x : St) (c : Ac) : Am x (x.act c) := St.act_p (Am x) x c (.order x _ _) (fun u => (Hm.hear x u).am) (Hm.count x _).am (fun _ => (Tm.ticks x _).am) (Hm.next x).am (Tm.tick x).am
theorem St.few_act {x : St} {n : Int} (h : x.few n) (c : Ac) : (x.act c).few (n + 200) :=
  St.act_p (fun y => y.few (n + 200)) x c ((St.few_order h _ _).le (by omega)) (fun u => (St.few_hear h u).le (by omega)) ((St.few_count h _).le (by omega)) (fun _ => (St.few_ticks h _).le (by omega)) ((St.few_next h).le (by omega)) ((St.few_tick h).le (by omega))
theorem St.ok_act {x : St} (h : x.ok) (c : Ac) : (x.act c).ok := St.act_p St.ok x c (St.ok_order h _ _) (fun u => St.ok_hear h u) (St.ok_count h _) (fun _ => St.ok_ticks h _) (St.ok_next h) (St.ok_tick h)
end
/-! ### Acts of layer 17's laws, on plain data: what holds of a link all the time; which units go in which state; which orders are refused. -/
section
open Go Go.RowKit
set_option maxHeartbeats 1000000
/-- What holds of a link all the time. -/
structure Iv (m oc : Int) (x : St) : Prop where
  al : x.S = 1 ↔ x.a.st ≠ 0
  due : x.j.due = true → x.j.own = true
  out : x.S = 3 → x.o.own = true
  srv : x.S = 4 → x.o.own = false
  most : x.h.most = m
  oc : x.h.oc = oc
section
variable {m oc : Int}
theorem Iv.keep {x y : St} (h : Iv m oc x) (hS : y.S = x.S) (ha : y.a = x.a) (hj : y.j = x.j) (ho : y.o.own = x.o.own) (hm : y.h.most = x.h.most) (hc : y.h.oc = x.h.oc) : Iv m oc y :=
  ⟨by rw [hS, ha]; exact h.al, by rw [hj]; exact h.due, by rw [hS, ho]; exact h.out, by rw [hS, ho]; exact h.srv, hm.trans h.most, hc.trans h.oc⟩
theorem Iv.fail {x : St} (why : Int) (h : x.S = 0 → Iv m oc x) (hm : x.h.most = m) (hc : x.h.oc = oc) : Iv m oc (x.fail why) := by
  unfold St.fail
  split
  · exact h ‹_›
  · exact ⟨by simp [Al.end], by simp, by simp, by simp, hm, hc⟩
theorem Iv.failx {x : St} (why : Int) (h : Iv m oc x) : Iv m oc (x.fail why) := .fail why (fun _ => h) h.most h.oc
theorem Iv.halt {x : St} (h : Iv m oc x) (hS : x.S = 4 ∨ x.S = 5) : Iv m oc x.halt := by
  have h0 : x.a.st = 0 := by
    have := h.al
    by_cases e : x.a.st = 0
    · exact e
    · have := h.al.2 e; omega
  exact ⟨by simp [St.halt, h0], by simp [St.halt], by simp [St.halt], by simp [St.halt], h.most, h.oc⟩
theorem St.wait_all (x : St) (b : Bool) : (x.wait b).S = x.S ∧ (x.wait b).a = x.a ∧ (x.wait b).j = x.j ∧ (x.wait b).o = x.o ∧ (x.wait b).h = x.h := by
  unfold St.wait
  repeat' split
  all_goals exact ⟨rfl, rfl, rfl, rfl, rfl⟩
theorem Iv.wait {x : St} (h : Iv m oc x) (b : Bool) : Iv m oc (x.wait b) := by
  obtain ⟨h1, h2, h3, h4, h5⟩ := St.wait_all x b
  exact h.keep h1 h2 h3 (by rw [h4]) (by rw [h5]) (by rw [h5])
theorem Iv.resume {x : St} (h : Iv m oc x) : Iv m oc x.resume := by
  unfold St.resume
  split
  · rename_i hr
    have h0 : x.a.st = 0 := by
      by_cases e : x.a.st = 0
      · exact e
      · have := h.al.2 e; omega
    have h4 : Iv m oc ({ x with S := 4 } : St) := ⟨by simp [h0], h.due, by simp, fun _ => by
      have := hr.2
      unfold Oa.is at this
      simp only [Bool.or_eq_false_iff] at this
      exact this.1.1, h.most, h.oc⟩
    exact h4.wait _
  · exact h
theorem Iv.setO {x : St} (h : Iv m oc x) {o : Oa} (ho : o.own = x.o.own) : Iv m oc (x.setO o) := h.keep rfl rfl rfl ho rfl rfl
theorem Iv.tell {x : St} (h : Iv m oc x) (t : To) : Iv m oc (x.tell t) := h.keep rfl rfl rfl rfl rfl rfl
theorem Iv.setA {x : St} (h : Iv m oc x) {r : Al × Ck} (ha : r.1.st ≠ 0 ↔ x.a.st ≠ 0) : Iv m oc (x.setA r) := ⟨h.al.trans ha.symm, h.due, h.out, h.srv, h.most, h.oc⟩
theorem Iv.setJ {x : St} (h : Iv m oc x) {r : Jm × Ck} (hj : r.1.due = true → r.1.own = true) : Iv m oc (x.setJ r) := ⟨h.al, hj, h.out, h.srv, h.most, h.oc⟩
theorem Iv.setH {x : St} (h : Iv m oc x) {o : Ho} (hm : o.most = x.h.most) (hc : o.oc = x.h.oc) : Iv m oc (x.setH o) := h.keep rfl rfl rfl rfl hm hc
theorem Iv.setW {x : St} (h : Iv m oc x) (w : Wy) : Iv m oc (x.setW w) := h.keep rfl rfl rfl rfl rfl rfl
theorem Iv.setL {x : St} (h : Iv m oc x) (l : Le) : Iv m oc (x.setL l) := h.keep rfl rfl rfl rfl rfl rfl
theorem Iv.here {x : St} (h : Iv m oc x) (b : Bool) : Iv m oc (x.here b) := by
  unfold St.here
  split
  · exact h
  rename_i hne
  unfold St.turn
  have hal : (x.setO (x.o.local b)).S = x.S ∧ (x.setO (x.o.local b)).a = x.a ∧ (x.setO (x.o.local b)).j = x.j ∧ (x.setO (x.o.local b)).h = x.h ∧ (x.setO (x.o.local b)).o.own = b := ⟨rfl, rfl, rfl, rfl, rfl⟩
  generalize x.setO (x.o.local b) = y at hal
  obtain ⟨e1, e2, e3, e4, e5⟩ := hal
  have ha : y.S = 1 ↔ y.a.st ≠ 0 := by rw [e1, e2]; exact h.al
  have hd : y.j.due = true → y.j.own = true := by rw [e3]; exact h.due
  have h0 : y.S ≠ 1 → y.a.st = 0 := fun e => by
    by_cases z : y.a.st = 0
    · exact z
    · exact absurd (ha.2 z) e
  split
  · rename_i h1
    have z := h0 (by omega)
    exact ⟨by simp [St.halt, z], by simp [St.halt], by simp [St.halt], by simp [St.halt], by rw [← h.most, ← e4]; rfl, by rw [← h.oc, ← e4]; rfl⟩
  split
  · rename_i h1 h2
    exact Iv.resume ⟨ha, hd, by omega, by omega, by rw [e4]; exact h.most, by rw [e4]; exact h.oc⟩
  split
  · rename_i h1 h2 h3
    have z := h0 (by omega)
    exact ⟨by simp [z], hd, fun _ => e5.trans h3.2, by simp, by rw [← h.most, ← e4], by rw [← h.oc, ← e4]⟩
  split
  · rename_i h1 h2 h3 h4
    have z := h0 (by omega)
    exact ⟨by simp [z], hd, by simp, by simp, by rw [← h.most, ← e4], by rw [← h.oc, ← e4]⟩
  · rename_i h1 h2 h3 h4
    refine ⟨ha, hd, fun e => ?_, fun e => ?_, by rw [e4]; exact h.most, by rw [e4]; exact h.oc⟩
    · cases b
      · exact absurd ⟨e, rfl⟩ h4
      · exact e5
    · cases b
      · exact e5
      · exact absurd ⟨e, rfl⟩ h1
theorem Iv.woken {x : St} (h : Iv m oc x) : Iv m oc x.woken := by
  unfold St.woken
  split
  · rename_i hS
    have h0 : x.a.st = 0 := by
      by_cases e : x.a.st = 0
      · exact e
      · have := h.al.2 e; omega
    unfold St.serve
    split
    · exact ⟨by simp [St.served, St.halt, h0], by simp [St.halt], by simp [St.halt], by simp [St.halt], h.most, h.oc⟩
    · rename_i hi
      refine ⟨by simp [St.served, h0], h.due, by simp [St.served], fun _ => ?_, h.most, h.oc⟩
      unfold Oa.is at hi
      simp only [Bool.not_eq_true, Bool.or_eq_false_iff] at hi
      exact hi.1.1
  · exact h
theorem Al.unit_st (s : Su) (a : Al) (c : Ck) (b : Bool) : (a.unit s c b).1.st = a.st := by
  unfold Al.unit
  dsimp only
  repeat' split
  all_goals first | rfl | (dsimp only [Al.prove]; omega)
theorem Al.heard_st (s : Su) (a : Al) (c : Ck) (i : Int) : (a.heard s c i).1.st ≠ 0 ↔ a.st ≠ 0 := by
  unfold Al.heard
  split
  · exact Iff.rfl
  rename_i h0
  extract_lets a1
  have e1 : a1.st = a.st := by simp only [a1]; split <;> rfl
  repeat' split
  all_goals simp [Al.near, Al.prove, e1, h0]
theorem Al.hurries_st (s : Su) (a : Al) (c : Ck) (b : Bool) : (a.hurries s c b).1.st = a.st := by
  unfold Al.hurries
  split
  · rename_i h; exact h.1.symm
  · rfl
theorem Iv.count {x : St} (h : Iv m oc x) (b : Bool) : Iv m oc (x.count b) := by
  unfold St.count
  split
  · exact h
  split
  · have hs : Iv m oc (x.setA ((x.a.unit x.s x.c b).1, (x.a.unit x.s x.c b).2.1)) := h.setA (by rw [Al.unit_st])
    split
    · exact hs
    · exact hs.failx _
  · split
    · exact (h.setL _).failx _
    · exact h.setL _
theorem Iv.remote {x : St} (h : Iv m oc x) (b : Bool) : Iv m oc (x.remote b) := by
  have hw := h.woken
  have ho : Iv m oc (x.woken.setO (x.woken.o.remote b)) := hw.setO rfl
  unfold St.remote
  split
  · exact ho
  split
  · split
    · rename_i h4
      exact (ho.tell _).halt (.inl h4)
    · exact ho.tell _
  · exact (ho.tell _).resume
theorem Jm.heard_due (s : Su) (j : Jm) (c : Ck) (b : Bool) (h : j.due = true → j.own = true) : (j.heard s c b).1.due = true → (j.heard s c b).1.own = true := by
  unfold Jm.heard
  dsimp only
  split <;> exact h
theorem Iv.status {x : St} (h : Iv m oc x) (i : Int) : Iv m oc (x.status i) := by
  unfold St.status
  split
  · have hs : Iv m oc (x.setA ((x.a.heard x.s x.c i).1, (x.a.heard x.s x.c i).2.1)) := h.setA (Al.heard_st _ _ _ _)
    split
    · exact hs
    · exact hs.failx _
  split
  · exact h.failx _
  split
  · exact h.failx _
  split
  · exact h.remote _
  split
  · have hj : Iv m oc (x.setJ ((x.j.heard x.s x.c (decide (0 < x.h.sent.length))).1, (x.j.heard x.s x.c (decide (0 < x.h.sent.length))).2.1)) := h.setJ (Jm.heard_due _ _ _ _ h.due)
    split
    · exact hj.tell _
    · exact hj
  · exact h
theorem Iv.takes {x : St} (h : Iv m oc x) (u : Un) : Iv m oc (x.takes u) := by
  unfold St.takes
  split
  · exact h
  split
  · split
    · exact (h.setW _).tell _
    · exact h.setW _
  · exact (h.setW _).failx _
theorem Ho.free_caps (h : Ho) (n : Int) : (h.free n).1.most = h.most ∧ (h.free n).1.oc = h.oc := by
  unfold Ho.free
  split <;> exact ⟨rfl, rfl⟩
theorem Ho.send_caps (h : Ho) : h.send.1.most = h.most ∧ h.send.1.oc = h.oc := by
  unfold Ho.send
  split
  · exact ⟨rfl, rfl⟩
  · split <;> exact ⟨rfl, rfl⟩
theorem Ho.put_caps (h : Ho) (p : Oct) : (h.put p).1.most = h.most ∧ (h.put p).1.oc = h.oc := by
  unfold Ho.put
  repeat' split
  all_goals exact ⟨rfl, rfl⟩
theorem Wy.answer_caps (w : Wy) (h : Ho) (u : Un) : (w.answer h u).1.most = h.most ∧ (w.answer h u).1.oc = h.oc := by
  cases w
  · show (Bs.answer h _ u).1.most = _ ∧ (Bs.answer h _ u).1.oc = _
    unfold Bs.answer
    repeat' split
    all_goals first | exact ⟨rfl, rfl⟩ | exact Ho.free_caps h _
  · show (Cy.answer h _ u).1.most = _ ∧ (Cy.answer h _ u).1.oc = _
    unfold Cy.answer
    repeat' split
    all_goals first | exact ⟨rfl, rfl⟩ | exact Ho.free_caps h _
theorem Bs.new_caps (h : Ho) (x : Bs) : (Bs.new h x).1.most = h.most ∧ (Bs.new h x).1.oc = h.oc := by
  unfold Bs.new
  split <;> exact Ho.send_caps h
theorem Wy.next_caps (w : Wy) (h : Ho) : (w.next h).1.most = h.most ∧ (w.next h).1.oc = h.oc := by
  cases w
  · show (Bs.next h _).1.most = _ ∧ (Bs.next h _).1.oc = _
    unfold Bs.next
    repeat' split
    all_goals first | exact ⟨rfl, rfl⟩ | exact Bs.new_caps h _
  · show (Cy.next h _).1.most = _ ∧ (Cy.next h _).1.oc = _
    unfold Cy.next Cy.old
    repeat' split
    all_goals first | exact ⟨rfl, rfl⟩ | exact Ho.send_caps h
theorem Iv.answers {x : St} (h : Iv m oc x) (u : Un) : Iv m oc (x.answers u) := by
  have hc := Wy.answer_caps x.w x.h u
  have h1 : Iv m oc ((x.setH (x.w.answer x.h u).1).setW (x.w.answer x.h u).2.1) := (h.setH hc.1 hc.2).setW _
  unfold St.answers
  split
  · refine Iv.takes ?_ u
    have h2 : Iv m oc (St.freed ((x.setH (x.w.answer x.h u).1).setW (x.w.answer x.h u).2.1) (x.w.answer x.h u).2.2.1) := by
      unfold St.freed
      split
      · exact h1.wait _
      · exact h1
    unfold St.jammed
    split
    · exact (h2.setJ h2.due).tell _
    · exact h2
  · exact h1.failx _
theorem Iv.hear {x : St} (h : Iv m oc x) (u : Un) : Iv m oc (x.hear u) := by
  unfold St.hear
  have hc := h.count false
  generalize x.count false = y at hc
  unfold St.heard
  split
  · exact hc
  split
  · exact hc.status _
  split
  · exact hc
  · unfold St.ordinary
    refine Iv.answers ?_ u
    split
    · exact hc.woken.remote _
    · exact hc.woken
theorem Iv.next {x : St} (h : Iv m oc x) : Iv m oc x.next.1 := by
  have hc := Wy.next_caps x.w x.h
  unfold St.next
  repeat' split
  all_goals first
    | exact h
    | exact ⟨h.al, by simp [Jm.told], h.out, h.srv, h.most, h.oc⟩
    | exact ((h.setH hc.1 hc.2).setW _).wait _
theorem Al.out_st (a : Al) (c : Ck) (i : Int) : ((a.out c i).2.2.1 = true → (a.out c i).1.st = 0) ∧ ((a.out c i).2.2.1 = false → (a.out c i).1.st = a.st) := by
  unfold Al.out
  repeat' split
  all_goals simp [Al.end]
theorem Jm.out_due (s : Su) (j : Jm) (c : Ck) (i : Int) (h : j.due = true → j.own = true) : (j.out s c i).1.due = true → (j.out s c i).1.own = true := by
  unfold Jm.out
  repeat' split
  · rename_i e; exact fun _ => e.2
  · exact h
  · exact h
theorem Iv.out1 {x : St} (h : Iv m oc x) (i : Int) : Iv m oc (x.out i) := by
  unfold St.out
  split
  · exact h
  split
  · rename_i h0 h1
    have ho := Al.out_st x.a x.c i
    split
    · split
      · rename_i h2 h3
        refine ⟨?_, h.due, ?_, ?_, h.most, h.oc⟩
        · have e := ho.1 h3
          constructor
          · intro z
            exfalso
            simp only [St.aligned] at z
            split at z <;> simp at z
          · intro z
            exact absurd e z
        · intro z
          simp only [St.aligned] at z
          split at z
          · rename_i w; exact w
          · simp at z
        · intro z
          simp only [St.aligned] at z
          split at z <;> simp at z
      · rename_i h2 h3
        exact h.setA (by rw [ho.2 (by simpa using h3)])
    · rename_i h2
      refine Iv.fail _ (fun e => absurd e h0) h.most h.oc
  split
  · exact h.failx _
  split
  · exact h.failx _
  have hj : Iv m oc (x.setJ ((x.j.out x.s x.c i).1, (x.j.out x.s x.c i).2.1)) := h.setJ (Jm.out_due _ _ _ _ h.due)
  split
  · exact hj
  · exact hj.failx _
theorem Iv.outs (l : List Int) : ∀ {x : St}, Iv m oc x → Iv m oc (l.foldl St.out x) := by
  induction l with
  | nil => exact fun h => h
  | cons i l ih => exact fun h => ih (h.out1 i)
theorem Iv.tick {x : St} (h : Iv m oc x) : Iv m oc x.tick := Iv.outs _ (h.keep (y := { x with c := x.c.tick }) rfl rfl rfl rfl rfl rfl)
theorem Iv.ticks {x : St} (h : Iv m oc x) (n : Nat) : Iv m oc (x.ticks n) := by
  induction n with
  | zero => exact h
  | succ n ih => exact ih.tick
theorem Iv.order {x : St} (h : Iv m oc x) (k : Int) (p : Oct) : Iv m oc (x.order k p).1 := by
  unfold St.order
  with_reducible refine ite_p (fun r : St × Int => Iv m oc r.1) (fun h0 => ?_) (fun _ => ?_)
  · with_reducible refine ite_p (fun r : St × Int => Iv m oc r.1) (fun h1 => ?_) (fun _ => ?_)
    · exact ⟨by simp [St.begin, Al.begin], h.due, by simp [St.begin], by simp [St.begin], h.most, h.oc⟩
    · exact h
  with_reducible refine ite_p (fun r : St × Int => Iv m oc r.1) (fun h0 => ?_) (fun _ => ?_)
  · with_reducible refine ite_p (fun r : St × Int => Iv m oc r.1) (fun h1 => ?_) (fun _ => ?_)
    · exact h
    · exact h.failx _
  with_reducible refine ite_p (fun r : St × Int => Iv m oc r.1) (fun h0 => ?_) (fun _ => ?_)
  · exact h.setA (by rw [Al.hurries_st])
  with_reducible refine ite_p (fun r : St × Int => Iv m oc r.1) (fun h0 => ?_) (fun _ => ?_)
  · exact h.setA (by rw [Al.hurries_st])
  with_reducible refine ite_p (fun r : St × Int => Iv m oc r.1) (fun h0 => ?_) (fun _ => ?_)
  · with_reducible refine ite_p (fun r : St × Int => Iv m oc r.1) (fun h1 => ?_) (fun _ => ?_)
    · exact h.setH (Ho.put_caps _ _).1 (Ho.put_caps _ _).2
    · exact h
  with_reducible refine ite_p (fun r : St × Int => Iv m oc r.1) (fun h0 => ?_) (fun _ => ?_)
  · exact h.here _
  with_reducible refine ite_p (fun r : St × Int => Iv m oc r.1) (fun h0 => ?_) (fun _ => ?_)
  · exact h.here _
  with_reducible refine ite_p (fun r : St × Int => Iv m oc r.1) (fun h0 => ?_) (fun _ => ?_)
  · exact h.setH rfl rfl
  with_reducible refine ite_p (fun r : St × Int => Iv m oc r.1) (fun h0 => ?_) (fun _ => ?_)
  · with_reducible refine ite_p (fun r : St × Int => Iv m oc r.1) (fun h1 => ?_) (fun _ => ?_)
    · refine Iv.resume (h.setO ?_)
      unfold Oa.continue
      split <;> rfl
    · exact h
  with_reducible refine ite_p (fun r : St × Int => Iv m oc r.1) (fun h0 => ?_) (fun _ => ?_)
  · with_reducible refine ite_p (fun r : St × Int => Iv m oc r.1) (fun h1 => ?_) (fun _ => ?_)
    · refine h.setJ ?_
      unfold Jm.begin
      split
      · exact h.due
      · exact fun _ => rfl
    · exact h
  with_reducible refine ite_p (fun r : St × Int => Iv m oc r.1) (fun h0 => ?_) (fun _ => ?_)
  · with_reducible refine ite_p (fun r : St × Int => Iv m oc r.1) (fun h1 => ?_) (fun _ => ?_)
    · exact h.setJ (by simp [Jm.end])
    · exact h
  exact h
theorem Iv.act {x : St} (h : Iv m oc x) (c : Ac) : Iv m oc (x.act c) := St.act_p (Iv m oc) x c (h.order _ _) (fun u => h.hear u) (h.count _) (fun _ => h.ticks _) h.next h.tick
end
theorem Iv.born (c : Bool) : Iv 16 600 (born c) := by cases c <;> exact ⟨by decide, by decide, by decide, by decide, rfl, rfl⟩
/-! ### Which units go -/
theorem Wy.head_kind (w : Wy) (n : Int) : (w.head n).kind = 0 := by cases w <;> rfl
theorem Wy.next_kind (w : Wy) (h : Ho) : (w.next h).2.2.kind ≠ 1 := by
  cases w
  · show (Bs.next h _).2.2.kind ≠ 1
    have hn : ∀ y : Bs, (Bs.new h y).2.2.kind ≠ 1 := fun y => by
      unfold Bs.new
      split <;> simp [Bs.msg, Bs.head]
    unfold Bs.next
    repeat' split
    all_goals first | exact hn _ | simp [Bs.msg]
  · show (Cy.next h _).2.2.kind ≠ 1
    unfold Cy.next Cy.old
    repeat' split
    all_goals simp [Cy.msg, Cy.head]
/-- What goes, by the state. -/
structure Snd (x : St) : Prop where
  s0 : x.S = 0 → x.next.2.kind = 1 ∧ x.next.2.status = 3
  s1 : x.S = 1 → x.next.2.kind = 1 ∧ x.next.2.status ≤ 2
  s2 : x.S = 2 → x.next.2.kind = 0
  s3 : x.S = 3 → x.next.2.kind = 1 ∧ x.next.2.status = 4
  s4 : x.S = 4 → (x.next.2.kind ≠ 1 ∨ (x.next.2.status = 5 ∧ x.j.own = true)) ∧ x.o.own = false
  s5 : x.S = 5 → if x.o.own then x.next.2.kind = 1 ∧ x.next.2.status = 4 else x.next.2.kind = 0
  same : x.next.1.S = x.S ∧ x.next.1.o = x.o ∧ x.next.1.j.own = x.j.own
theorem Iv.snd {m oc : Int} {x : St} (h : Iv m oc x) : Snd x := by
  have hf : x.fill.kind = 0 := Wy.head_kind _ _
  refine ⟨fun e => ?_, fun e => ?_, fun e => ?_, fun e => ?_, fun e => ?_, fun e => ?_, ?_⟩
  · unfold St.next
    rw [if_pos (.inl e)]
    have : x.a.st = 0 := by
      by_cases z : x.a.st = 0
      · exact z
      · have := h.al.2 z; omega
    simp [St.stat, Al.sends, this]
  · unfold St.next
    rw [if_pos (.inr e)]
    have := h.al.1 e
    refine ⟨rfl, ?_⟩
    show x.a.sends ≤ 2
    unfold Al.sends
    rw [if_neg this]
    repeat' split
    all_goals decide
  · unfold St.next
    rw [if_neg (by omega), if_pos e]
    exact hf
  · unfold St.next
    rw [if_neg (by omega), if_neg (by omega), if_neg (by omega), if_pos (h.out e)]
    exact ⟨rfl, rfl⟩
  · refine ⟨?_, h.srv e⟩
    unfold St.next
    rw [if_neg (by omega), if_neg (by omega), if_pos e]
    split
    · rename_i hd
      exact .inr ⟨rfl, h.due hd⟩
    · exact .inl (Wy.next_kind _ _)
  · have e5 : x.next = if x.o.own = true then (x, x.stat 4) else (x, x.fill) := by unfold St.next; rw [if_neg (by omega), if_neg (by omega), if_neg (by omega)]
    rw [e5]
    split
    · exact ⟨rfl, rfl⟩
    · exact hf
  · unfold St.next
    repeat' split
    all_goals first
      | exact ⟨rfl, rfl, rfl⟩
      | (obtain ⟨h1, h2, h3, h4, h5⟩ := St.wait_all ((x.setH (x.w.next x.h).1).setW (x.w.next x.h).2.1) false
         exact ⟨h1, h4, by rw [h3]; rfl⟩)
/-! ### Which orders are refused -/
def Ho.full (h : Ho) (p : Oct) : Bool := decide (h.most ≤ (h.sent.length + h.next.length : Int)) || decide (h.oc < h.octets + p.length)
def St.want (x : St) (k : Int) (p : Oct) : Int :=
  if k = 1 then (if x.S = 0 then 0 else 9)
  else if k = 2 then (if x.S = 0 then 9 else 0)
  else if k = 5 then (if x.serves then (if p.length < 3 then 5 else if 273 < p.length then 6 else if x.h.full p then 3 else 0) else 12)
  else if k = 9 then (if x.o.goes then 0 else 9)
  else if k = 10 ∨ k = 11 then (if x.serves then 0 else 9)
  else if k = 3 ∨ k = 4 ∨ k = 6 ∨ k = 7 ∨ k = 8 then 0
  else 1
theorem Ho.put_want (h : Ho) (p : Oct) : (h.put p).2 = if p.length < 3 then 5 else if 273 < p.length then 6 else if h.full p then 3 else 0 := by
  unfold Ho.put Ho.full
  split
  · rfl
  split
  · rfl
  simp only [Bool.or_eq_true, decide_eq_true_eq]
  split <;> rfl
theorem St.order_want (x : St) (k : Int) (p : Oct) : (x.order k p).2 = x.want k p ∧ (x.want k p ≠ 0 → (x.order k p).1.S = x.S) := by
  unfold St.order St.want
  by_cases h1 : k = 1
  · subst h1
    by_cases h0 : x.S = 0 <;> simp [h0]
  by_cases h2 : k = 2
  · subst h2
    by_cases h0 : x.S = 0 <;> simp [h0]
  by_cases h3 : k = 3
  · subst h3; simp
  by_cases h4 : k = 4
  · subst h4; simp
  by_cases h5 : k = 5
  · subst h5
    have := Ho.put_want x.h p
    by_cases hs : x.serves = true <;> simp [hs, this, St.setH]
  by_cases h6 : k = 6
  · subst h6; simp
  by_cases h7 : k = 7
  · subst h7; simp
  by_cases h8 : k = 8
  · subst h8; simp
  by_cases h9 : k = 9
  · subst h9
    by_cases hg : x.o.goes = true <;> simp [hg]
  by_cases h10 : k = 10
  · subst h10
    by_cases hs : x.serves = true <;> simp [hs]
  by_cases h11 : k = 11
  · subst h11
    by_cases hs : x.serves = true <;> simp [hs]
  simp [h1, h2, h3, h4, h5, h6, h7, h8, h9, h10, h11]
end
/-! ### StateSteps: the facts on plain data: which states follow which, one by one. -/
section
open Go Go.RowKit
set_option maxHeartbeats 1000000
def Cs (s s' : Int) (i o : Nat) : Prop := Hr s s' i o ∨ Tr s s' i o ∨ (s = 0 ∧ s' = 1 ∧ i = 0 ∧ o = 0)
def Bm (x y : St) : Prop := ∃ i o, Mv x y i o ∧ Cs x.S y.S i o
theorem Hm.bm {x y : St} (h : Hm x y) : Bm x y := by
  obtain ⟨i, o, h1, h2⟩ := h
  exact ⟨i, o, h1, .inl h2⟩
theorem Tm.bm {x y : St} (h : Tm x y) : Bm x y := by
  obtain ⟨i, o, h1, h2⟩ := h
  exact ⟨i, o, h1, .inr (.inl h2)⟩
theorem Bm.order (x : St) (k : Int) (p : Oct) : Bm x (x.order k p).1 := by
  have hs : Bm x x := (Hm.refl x).bm
  unfold St.order
  with_reducible refine ite_p (fun r : St × Int => Bm x r.1) (fun _ => ?_) (fun _ => ?_)
  · with_reducible refine ite_p (fun r : St × Int => Bm x r.1) (fun h0 => ?_) (fun _ => ?_)
    · exact ⟨0, 0, .keep rfl rfl, .inr (.inr ⟨h0, rfl, rfl, rfl⟩)⟩
    · exact hs
  with_reducible refine ite_p (fun r : St × Int => Bm x r.1) (fun _ => ?_) (fun _ => ?_)
  · with_reducible refine ite_p (fun r : St × Int => Bm x r.1) (fun h0 => ?_) (fun _ => ?_)
    · exact hs
    · exact (Hm.fail x (by decide) (by decide)).bm
  with_reducible refine ite_p (fun r : St × Int => Bm x r.1) (fun _ => ?_) (fun _ => ?_)
  · exact (Hm.setA x _).bm
  with_reducible refine ite_p (fun r : St × Int => Bm x r.1) (fun _ => ?_) (fun _ => ?_)
  · exact (Hm.setA x _).bm
  with_reducible refine ite_p (fun r : St × Int => Bm x r.1) (fun _ => ?_) (fun _ => ?_)
  · with_reducible refine ite_p (fun r : St × Int => Bm x r.1) (fun h0 => ?_) (fun _ => ?_)
    · exact (Hm.setH x _).bm
    · exact hs
  with_reducible refine ite_p (fun r : St × Int => Bm x r.1) (fun _ => ?_) (fun _ => ?_)
  · exact (Hm.here x _).bm
  with_reducible refine ite_p (fun r : St × Int => Bm x r.1) (fun _ => ?_) (fun _ => ?_)
  · exact (Hm.here x _).bm
  with_reducible refine ite_p (fun r : St × Int => Bm x r.1) (fun _ => ?_) (fun _ => ?_)
  · exact (Hm.setH x _).bm
  with_reducible refine ite_p (fun r : St × Int => Bm x r.1) (fun _ => ?_) (fun _ => ?_)
  · with_reducible refine ite_p (fun r : St × Int => Bm x r.1) (fun h0 => ?_) (fun _ => ?_)
    · exact ((Hm.setO x _).trans (.resume _)).bm
    · exact hs
  with_reducible refine ite_p (fun r : St × Int => Bm x r.1) (fun _ => ?_) (fun _ => ?_)
  · with_reducible refine ite_p (fun r : St × Int => Bm x r.1) (fun h0 => ?_) (fun _ => ?_)
    · exact (Hm.setJ x _).bm
    · exact hs
  with_reducible refine ite_p (fun r : St × Int => Bm x r.1) (fun _ => ?_) (fun _ => ?_)
  · with_reducible refine ite_p (fun r : St × Int => Bm x r.1) (fun h0 => ?_) (fun _ => ?_)
    · exact (Hm.setJ x _).bm
    · exact hs
  · exact hs
theorem Bm.act (x : St) (c : Ac) : Bm x (x.act c) := St.act_p (Bm x) x c (.order x _ _) (fun u => (Hm.hear x u).bm) (Hm.count x _).bm (fun _ => (Tm.ticks x _).bm) (Hm.next x).bm (Tm.tick x).bm
def csB (s s' i o : Int) : Bool :=
  [(0,0,0,0),(1,1,0,0),(2,2,0,0),(3,3,0,0),(4,4,0,0),(5,5,0,0),(2,3,0,0),(3,2,0,0),(4,5,0,0),(5,4,0,0),(2,4,1,0),(2,5,1,0),(3,4,1,0),(3,5,1,0),(1,0,0,1),(2,0,0,1),(3,0,0,1),(4,0,0,1),(5,0,0,1),(2,0,1,1),(3,0,1,1),(1,2,0,0),(1,3,0,0),(0,1,0,0)].any fun q => decide (q = (s, s', i, o))
theorem Cs.b {s s' : Int} {i o : Nat} (h : Cs s s' i o) (h0 : 0 ≤ s) (h5 : s ≤ 5) : csB s s' i o = true := by
  have hs : s = 0 ∨ s = 1 ∨ s = 2 ∨ s = 3 ∨ s = 4 ∨ s = 5 := by omega
  unfold Cs Hr Tr at h
  rcases h with (⟨rfl, ⟨rfl, h | h | h⟩ | ⟨rfl, h, h'⟩⟩ | ⟨rfl, rfl, ⟨rfl, h⟩ | ⟨rfl, h⟩⟩) | ⟨rfl, ⟨rfl, h | ⟨h, h'⟩⟩ | ⟨rfl, rfl, h⟩⟩ | ⟨rfl, rfl, rfl, rfl⟩
  · subst h; rcases hs with rfl | rfl | rfl | rfl | rfl | rfl <;> rfl
  · obtain ⟨rfl | rfl, rfl | rfl⟩ := h <;> rfl
  · obtain ⟨rfl | rfl, rfl | rfl⟩ := h <;> rfl
  · rcases h with rfl | rfl <;> rcases h' with rfl | rfl <;> rfl
  · rcases hs with rfl | rfl | rfl | rfl | rfl | rfl <;> first | rfl | exact absurd rfl h
  · rcases h with rfl | rfl <;> rfl
  · subst h; rcases hs with rfl | rfl | rfl | rfl | rfl | rfl <;> rfl
  · subst h; rcases h' with rfl | rfl <;> rfl
  · rcases hs with rfl | rfl | rfl | rfl | rfl | rfl <;> first | rfl | exact absurd rfl h
  · rfl
theorem csB_cases {P : Int → Int → Int → Int → Prop} {s s' i o : Int} (h : csB s s' i o = true)
    (p : ∀ q ∈ ([(0,0,0,0),(1,1,0,0),(2,2,0,0),(3,3,0,0),(4,4,0,0),(5,5,0,0),(2,3,0,0),(3,2,0,0),(4,5,0,0),(5,4,0,0),(2,4,1,0),(2,5,1,0),(3,4,1,0),(3,5,1,0),(1,0,0,1),(2,0,0,1),(3,0,0,1),(4,0,0,1),(5,0,0,1),(2,0,1,1),(3,0,1,1),(1,2,0,0),(1,3,0,0),(0,1,0,0)] : List (Int × Int × Int × Int)), P q.1 q.2.1 q.2.2.1 q.2.2.2) : P s s' i o := by
  unfold csB at h
  obtain ⟨q, h1, h2⟩ := List.any_eq_true.1 h
  have e := of_decide_eq_true h2
  subst e
  exact p _ h1
theorem ins_snoc (l : List To) (j : Nat) (h : j < l.length) : ins (l.take (j + 1)) = ins (l.take j) + if l[j].kind = 1 then 1 else 0 := by
  unfold ins
  rw [List.take_succ_eq_append_getElem h, List.countP_append]
  by_cases k : l[j].kind = 1 <;> simp [k]
theorem outs_snoc (l : List To) (j : Nat) (h : j < l.length) : outs (l.take (j + 1)) = outs (l.take j) + if l[j].kind = 2 then 1 else 0 := by
  unfold outs
  rw [List.take_succ_eq_append_getElem h, List.countP_append]
  by_cases k : l[j].kind = 2 <;> simp [k]
theorem ins_le (l : List To) (j : Nat) : ins (l.take j) ≤ l.length := by
  unfold ins
  have := List.countP_le_length (p := fun t : To => decide (t.kind = 1)) (l := l.take j)
  have := List.length_take_le' j l
  omega
theorem outs_le (l : List To) (j : Nat) : outs (l.take j) ≤ l.length := by
  unfold outs
  have := List.countP_le_length (p := fun t : To => decide (t.kind = 2)) (l := l.take j)
  have := List.length_take_le' j l
  omega
end
end Go.Proofs.YtdffinnnjcgfcaaGreatK
