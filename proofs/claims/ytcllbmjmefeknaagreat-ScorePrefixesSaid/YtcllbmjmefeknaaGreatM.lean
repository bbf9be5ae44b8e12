/- A link as plain data: what each part of it does. No program, no memory. A link as plain data, continued: how it comes into line. A link as plain data, continued: the messages that it holds. A link as plain data, continued: units, and the two methods. A link as plain data, the last: its method, its states. What holds of a link all the time: its numbers stay in bounds. A link as plain data: runs; the link of the laws of layer 17. -/
import Derived.Below
import Derived.WalkKit
namespace Go.Proofs.YtcllbmjmefeknaaGreatK
/-! ### A link as plain data: what each part of it does. No program, no memory. -/
section
open Go Go.RowKit
/-! ### Setups and clocks -/
structure Su where
  cyc : Bool
  n1 : Int
  n2 : Int
  hd : Int
  oc : Int
  t0 : Int
  t1 : Int
  t2 : Int
  t3 : Int
  t4 : Int
  t5 : Int
  t6 : Int
  t7 : Int
  deriving DecidableEq
structure Ck where
  c0 : Int
  c1 : Int
  c2 : Int
  c3 : Int
  c4 : Int
  c5 : Int
  c6 : Int
  c7 : Int
  deriving DecidableEq
def Ck.none : Ck := ⟨0, 0, 0, 0, 0, 0, 0, 0⟩
def Ck.get (c : Ck) (i : Int) : Int := if i = 0 then c.c0 else if i = 1 then c.c1 else if i = 2 then c.c2 else if i = 3 then c.c3 else if i = 4 then c.c4 else if i = 5 then c.c5 else if i = 6 then c.c6 else if i = 7 then c.c7 else 0
def Ck.put (c : Ck) (i v : Int) : Ck :=
  if i = 0 then { c with c0 := v } else if i = 1 then { c with c1 := v } else if i = 2 then { c with c2 := v } else if i = 3 then { c with c3 := v }
  else if i = 4 then { c with c4 := v } else if i = 5 then { c with c5 := v } else if i = 6 then { c with c6 := v } else if i = 7 then { c with c7 := v } else c
/-- A timer is started: none, if it is no timer or the ticks are out of bounds. -/
def Ck.start (c : Ck) (i n : Int) : Ck := if 1 ≤ n ∧ n ≤ 4294967296 then c.put i n else c
def Ck.stop (c : Ck) (l : List Int) : Ck := l.foldl (fun c i => c.put i 0) c
def dn (x : Int) : Int := if 0 < x then x - 1 else x
def Ck.tick (c : Ck) : Ck := ⟨dn c.c0, dn c.c1, dn c.c2, dn c.c3, dn c.c4, dn c.c5, dn c.c6, dn c.c7⟩
def Ck.rang (c : Ck) : List Int :=
  (if c.c0 = 1 then [0] else []) ++ (if c.c1 = 1 then [1] else []) ++ (if c.c2 = 1 then [2] else []) ++ (if c.c3 = 1 then [3] else []) ++
  (if c.c4 = 1 then [4] else []) ++ (if c.c5 = 1 then [5] else []) ++ (if c.c6 = 1 then [6] else []) ++ (if c.c7 = 1 then [7] else [])
/-- All of a clock's numbers are of those that may be. -/
def Ck.ok (c : Ck) : Prop := (0 ≤ c.c0 ∧ c.c0 ≤ 4294967296) ∧ (0 ≤ c.c1 ∧ c.c1 ≤ 4294967296) ∧ (0 ≤ c.c2 ∧ c.c2 ≤ 4294967296) ∧ (0 ≤ c.c3 ∧ c.c3 ≤ 4294967296) ∧
  (0 ≤ c.c4 ∧ c.c4 ≤ 4294967296) ∧ (0 ≤ c.c5 ∧ c.c5 ≤ 4294967296) ∧ (0 ≤ c.c6 ∧ c.c6 ≤ 4294967296) ∧ (0 ≤ c.c7 ∧ c.c7 ≤ 4294967296)
theorem Ck.ok_put {c : Ck} (h : c.ok) (i : Int) {v : Int} (h0 : 0 ≤ v) (h1 : v ≤ 4294967296) : (c.put i v).ok := by
  unfold Ck.ok at *
  unfold Ck.put
  repeat' split
  all_goals first | omega | (dsimp only; omega)
theorem Ck.ok_start {c : Ck} (h : c.ok) (i n : Int) : (c.start i n).ok := by
  unfold Ck.start
  split
  · exact Ck.ok_put h i (by omega) (by omega)
  · exact h
theorem Ck.ok_stop {c : Ck} (h : c.ok) (l : List Int) : (c.stop l).ok := by
  unfold Ck.stop
  induction l generalizing c with
  | nil => exact h
  | cons a l ih => exact ih (Ck.ok_put h a (by omega) (by omega))
theorem dn_ok {x : Int} (h0 : 0 ≤ x) (h1 : x ≤ 4294967296) : 0 ≤ dn x ∧ dn x ≤ 4294967296 := by unfold dn; split <;> omega
theorem Ck.ok_tick {c : Ck} (h : c.ok) : c.tick.ok := by
  obtain ⟨h0, h1, h2, h3, h4, h5, h6, h7⟩ := h
  exact ⟨dn_ok h0.1 h0.2, dn_ok h1.1 h1.2, dn_ok h2.1 h2.2, dn_ok h3.1 h3.2, dn_ok h4.1 h4.2, dn_ok h5.1 h5.2, dn_ok h6.1 h6.2, dn_ok h7.1 h7.2⟩
theorem Ck.ok_none : Ck.none.ok := by unfold Ck.ok Ck.none; decide
/-! ### Whose processors are out; units that aren't right -/
structure Oa where
  own : Bool
  their : Bool
  wait : Bool
  deriving DecidableEq
def Oa.is (o : Oa) : Bool := o.own || o.their || o.wait
def Oa.local (o : Oa) (out : Bool) : Oa := { o with own := out }
def Oa.remote (o : Oa) (out : Bool) : Oa := ⟨o.own, out, o.wait || out⟩
def Oa.news (o : Oa) (out : Bool) : Bool := o.their != out
def Oa.goes (o : Oa) : Bool := !(o.own || o.their)
def Oa.continue (o : Oa) : Oa := if o.own || o.their then o else { o with wait := false }
structure Le where
  n : Int
  seen : Int
  deriving DecidableEq
def Le.ok (l : Le) : Prop := 0 ≤ l.n ∧ l.n ≤ 64 ∧ 0 ≤ l.seen ∧ l.seen ≤ 255
def Le.age (l : Le) : Le := if 0 < l.n then (if 255 ≤ l.seen then ⟨l.n - 1, 0⟩ else ⟨l.n, l.seen + 1⟩) else l
def Le.unit (l : Le) (wrong : Bool) : Le := if wrong then ⟨l.age.n + 1, if l.age.n = 0 then 0 else l.age.seen⟩ else l.age
def Le.bad (l : Le) (wrong : Bool) : Bool := decide (64 ≤ (l.unit wrong).n)
structure Pf where
  hurry : Bool
  n : Int
  tries : Int
  deriving DecidableEq
def Pf.ok (p : Pf) : Prop := 0 ≤ p.n ∧ p.n ≤ 10 ∧ 0 ≤ p.tries ∧ p.tries ≤ 10
def Pf.most (p : Pf) : Int := if p.hurry then 1 else 4
def Pf.seen (p : Pf) (wrong : Bool) : Int := if wrong then p.n + 1 else p.n
def Pf.anew (p : Pf) (wrong : Bool) : Bool := decide (p.most ≤ p.seen wrong)
def Pf.unit (p : Pf) (wrong : Bool) : Pf := if p.anew wrong then ⟨p.hurry, 0, p.tries + 1⟩ else ⟨p.hurry, p.seen wrong, p.tries⟩
def Pf.over (p : Pf) (wrong : Bool) : Bool := p.anew wrong && decide (5 ≤ p.tries + 1)
/-! ### Who is busy -/
structure Jm where
  own : Bool
  their : Bool
  due : Bool
  deriving DecidableEq
def Su.T (s : Su) (i : Int) : Int := if i = 0 then s.t0 else if i = 1 then s.t1 else if i = 2 then s.t2 else if i = 3 then s.t3 else if i = 4 then s.t4 else if i = 5 then s.t5 else if i = 6 then s.t6 else s.t7
def Jm.begin (s : Su) (j : Jm) (c : Ck) : Jm × Ck := if j.own then (j, c) else (⟨true, j.their, true⟩, c.start 5 s.t5)
def Jm.end (j : Jm) (c : Ck) : Jm × Ck := (⟨false, j.their, false⟩, c.stop [5])
def Jm.told (j : Jm) : Jm := ⟨j.own, j.their, false⟩
def Jm.heard (s : Su) (j : Jm) (c : Ck) (waits : Bool) : Jm × Ck × Bool :=
  let c1 := if waits then c.start 7 s.t7 else c
  if j.their then (j, c1, false) else (⟨j.own, true, j.due⟩, c1.start 6 s.t6, true)
def Jm.answer (j : Jm) (c : Ck) : Jm × Ck × Bool := if j.their then (⟨j.own, false, j.due⟩, c.stop [6], true) else (j, c, false)
def Jm.out (s : Su) (j : Jm) (c : Ck) (i : Int) : Jm × Ck × Int :=
  if i = 5 ∧ j.own = true then (⟨j.own, j.their, true⟩, c.start 5 s.t5, 0) else if i = 6 ∧ j.their = true then (j, c, 3) else (j, c, 0)
def Jm.clear (_j : Jm) (c : Ck) : Jm × Ck := (⟨false, false, false⟩, c.stop [5, 6])
end
/-! ### A link as plain data, continued: how it comes into line. -/
section
open Go Go.RowKit
/-! ### A link comes into line -/
structure Al where
  st : Int
  own : Bool
  their : Bool
  p : Pf
  deriving DecidableEq
def Al.hurry (a : Al) : Bool := a.own || a.their
def Al.begin (s : Su) (a : Al) (c : Ck) : Al × Ck := (⟨1, a.own, false, ⟨false, 0, 0⟩⟩, (c.stop [0, 3, 4]).start 2 s.t2)
def Al.end (a : Al) (c : Ck) : Al × Ck := (⟨0, a.own, false, a.p⟩, c.stop [0, 2, 3, 4])
def Al.prove (s : Su) (a : Al) (c : Ck) : Al × Ck :=
  (⟨3, a.own, a.their, ⟨a.hurry, 0, a.p.tries⟩⟩, if a.hurry then (c.stop [0, 2, 3, 4]).start 0 s.t0 else (c.stop [0, 2, 3, 4]).start 4 s.t4)
def Al.near (s : Su) (a : Al) (c : Ck) : Al × Ck := (⟨2, a.own, a.their, a.p⟩, (c.stop [0, 2, 4]).start 3 s.t3)
def Al.hurries (s : Su) (a : Al) (c : Ck) (on : Bool) : Al × Ck := if a.st = 3 ∧ a.hurry = false ∧ on = true then Al.prove s ⟨a.st, on, a.their, a.p⟩ c else (⟨a.st, on, a.their, a.p⟩, c)
def Al.heard (s : Su) (a : Al) (c : Ck) (x : Int) : Al × Ck × Int :=
  if a.st = 0 then (a, c, 0) else
  let a1 : Al := if x = 2 then ⟨a.st, a.own, true, a.p⟩ else a
  if x = 3 ∧ a.st ≠ 1 then (a1, c, 8)
  else if a.st = 1 ∧ (x = 1 ∨ x = 2 ∨ x = 0) then ((a1.near s c).1, (a1.near s c).2, 0)
  else if a.st = 2 ∧ (x = 1 ∨ x = 2) then ((Al.prove s ⟨a1.st, a1.own, a1.their, ⟨false, 0, 0⟩⟩ c).1, (Al.prove s ⟨a1.st, a1.own, a1.their, ⟨false, 0, 0⟩⟩ c).2, 0)
  else if a.st = 3 ∧ x = 0 then ((a1.near s c).1, (a1.near s c).2, 0)
  else if a.st = 3 ∧ a.hurry = false ∧ a1.hurry = true then ((a1.prove s c).1, (a1.prove s c).2, 0)
  else (a1, c, 0)
def Al.unit (s : Su) (a : Al) (c : Ck) (wrong : Bool) : Al × Ck × Int :=
  if a.st = 3 then
    let a1 : Al := ⟨a.st, a.own, a.their, a.p.unit wrong⟩
    if a.p.over wrong then (a1, c, 5) else if a.p.anew wrong then ((a1.prove s c).1, (a1.prove s c).2, 0) else (a1, c, 0)
  else (a, c, 0)
def Al.out (a : Al) (c : Ck) (i : Int) : Al × Ck × Bool × Int :=
  if (i = 2 ∧ a.st = 1) ∨ (i = 3 ∧ a.st = 2) then (a, c, false, 7)
  else if (i = 4 ∨ i = 0) ∧ a.st = 3 then ((a.end c).1, (a.end c).2, true, 0)
  else (a, c, false, 0)
def Al.sends (a : Al) : Int := if a.st = 0 then 3 else if a.st = 1 then 0 else if a.own then 2 else 1
end
/-! ### A link as plain data, continued: the messages that it holds. -/
section
open Go Go.RowKit
abbrev Oct := List Int
def octs (l : List Oct) : Nat := (l.map List.length).sum
theorem octs_nil : octs [] = 0 := rfl
theorem octs_cons (x : Oct) (l : List Oct) : octs (x :: l) = x.length + octs l := rfl
theorem octs_append (a b : List Oct) : octs (a ++ b) = octs a + octs b := by simp [octs]
theorem octs_snoc (l : List Oct) (k : Nat) (h : k < l.length) : octs (l.take (k + 1)) = octs (l.take k) + l[k].length := by
  rw [List.take_succ_eq_append_getElem h, octs_append]; simp [octs]
theorem octs_take_le (l : List Oct) (k : Nat) : octs (l.take k) ≤ octs l := by
  have := congrArg octs (List.take_append_drop k l)
  rw [octs_append] at this; omega
theorem octs_drop_le (l : List Oct) (k : Nat) : octs (l.drop k) ≤ octs l := by
  have := congrArg octs (List.take_append_drop k l)
  rw [octs_append] at this; omega
structure Ho where
  most : Int
  oc : Int
  sent : List Oct
  first : Int
  next : List Oct
  deriving DecidableEq
def isOct (p : Oct) : Prop := ∀ x ∈ p, 0 ≤ x ∧ x ≤ 255
structure Ho.ok (h : Ho) : Prop where
  most : h.most ≤ 512
  oc : h.oc ≤ 1048576
  sent : h.sent.length ≤ 127
  all : h.sent.length + h.next.length ≤ 512
  octs : octs h.sent + octs h.next ≤ 1048576
  first : 0 ≤ h.first ∧ h.first ≤ 127
  long : ∀ p ∈ h.next, 3 ≤ p.length ∧ p.length ≤ 273
  lons : ∀ p ∈ h.sent, 3 ≤ p.length ∧ p.length ≤ 273
def Ho.none (most oc : Int) : Ho := ⟨most, oc, [], 0, []⟩
def Ho.octets (h : Ho) : Int := (octs h.sent : Int) + octs h.next
def Ho.put (h : Ho) (p : Oct) : Ho × Int :=
  if p.length < 3 then (h, 5) else if 273 < p.length then (h, 6)
  else if h.most ≤ (h.sent.length + h.next.length : Int) ∨ h.oc < h.octets + p.length then (h, 3)
  else ({ h with next := h.next ++ [p] }, 0)
def Ho.last (h : Ho) : Int := (h.first + h.sent.length - 1) % 128
def Ho.prev (h : Ho) : Int := (h.first + 127) % 128
def Ho.send (h : Ho) : Ho × Int × Oct × Int :=
  match h.next with
  | [] => (h, 0, [], 2)
  | p :: r => if 127 ≤ h.sent.length then (h, 0, [], 3) else
    (⟨h.most, h.oc, h.sent ++ [p], h.first, r⟩, (⟨h.most, h.oc, h.sent ++ [p], h.first, r⟩ : Ho).last, p, 0)
def Ho.size (h : Ho) : Int := match h.next with | [] => 0 | p :: _ => p.length
def Ho.at (h : Ho) (i : Int) : Int × Oct × Int :=
  if 0 ≤ i ∧ i < h.sent.length then ((h.first + i) % 128, h.sent.getD i.toNat [], 0) else (0, [], 2)
def Ho.knows (h : Ho) (n : Int) : Bool := decide (n < 128) && decide ((n - h.prev) % 128 ≤ (h.last - h.prev) % 128)
def Ho.gap (h : Ho) (n : Int) : Int := (n - h.prev) % 128
def Ho.free (h : Ho) (n : Int) : Ho × Int × Int :=
  if h.knows n then (⟨h.most, h.oc, h.sent.drop (h.gap n).toNat, (n + 1) % 128, h.next⟩, h.gap n, 0) else (h, 0, 10)
def Ho.rest (h : Ho) (n : Int) : List Oct × Int := if h.knows n then (h.sent.drop (h.gap n).toNat ++ h.next, 0) else ([], 10)
def Ho.flush (h : Ho) : Ho := { h with next := [] }
def Ho.clear (h : Ho) : Ho := ⟨h.most, h.oc, [], 0, []⟩
theorem Ho.gap_le {h : Ho} (hk : h.ok) {n : Int} (hn : h.knows n = true) : 0 ≤ h.gap n ∧ h.gap n ≤ h.sent.length := by
  have h1 := hk.sent
  have h2 := hk.first
  simp only [Ho.knows, Bool.and_eq_true, decide_eq_true_eq] at hn
  simp only [Ho.prev, Ho.last] at hn
  simp only [Ho.gap, Ho.prev]
  refine ⟨Int.emod_nonneg _ (by decide), ?_⟩
  have : ((h.first + h.sent.length - 1) % 128 - (h.first + 127) % 128) % 128 = h.sent.length := by omega
  omega
theorem Ho.ok_none {most oc : Int} (h1 : most ≤ 512) (h2 : oc ≤ 1048576) : (Ho.none most oc).ok := ⟨h1, h2, by simp [Ho.none], by simp [Ho.none], by simp [Ho.none, octs_nil], by simp [Ho.none], by simp [Ho.none], by simp [Ho.none]⟩
theorem Ho.ok_put {h : Ho} (hk : h.ok) (p : Oct) : (h.put p).1.ok := by
  unfold Ho.put
  split
  · exact hk
  split
  · exact hk
  split
  · exact hk
  rename_i h1 h2 h3
  have ho : Ho.octets h = (Go.Proofs.YtcllbmjmefeknaaGreatK.octs h.sent : Int) + Go.Proofs.YtcllbmjmefeknaaGreatK.octs h.next := rfl
  have hm := hk.most
  have hc := hk.oc
  refine ⟨hk.most, hk.oc, hk.sent, ?_, ?_, hk.first, ?_, hk.lons⟩
  · simp only [List.length_append, List.length_singleton]; omega
  · simp only [octs_append, octs_cons, octs_nil]; omega
  · intro q hq
    rcases List.mem_append.1 hq with hq | hq
    · exact hk.long q hq
    · have : q = p := by simpa using hq
      subst this; omega
theorem Ho.ok_send {h : Ho} (hk : h.ok) : (h.send).1.ok := by
  obtain ⟨most, oc, sent, first, next⟩ := h
  unfold Ho.send
  cases next with
  | nil => exact hk
  | cons p r =>
    dsimp only
    split
    · exact hk
    rename_i h1
    have a1 := hk.all
    have a2 := hk.octs
    simp only [List.length_cons, octs_cons] at a1 a2 h1
    refine ⟨hk.most, hk.oc, ?_, ?_, ?_, hk.first, fun q hq => hk.long q (List.mem_cons_of_mem _ hq), ?_⟩
    · simp only [List.length_append, List.length_singleton]; omega
    · simp only [List.length_append, List.length_singleton]; omega
    · simp only [octs_append, octs_cons, octs_nil]; omega
    · intro q hq
      rcases List.mem_append.1 hq with hq | hq
      · exact hk.lons q hq
      · have : q = p := by simpa using hq
        subst this; exact hk.long q (List.mem_cons_self ..)
theorem Ho.ok_free {h : Ho} (hk : h.ok) (n : Int) : (h.free n).1.ok := by
  unfold Ho.free
  split
  · have a1 := hk.all
    have a2 := hk.octs
    have a3 := hk.sent
    have a4 := octs_drop_le h.sent (h.gap n).toNat
    refine ⟨hk.most, hk.oc, ?_, ?_, ?_, ?_, hk.long, fun q hq => hk.lons q (List.mem_of_mem_drop hq)⟩
    · simp only [List.length_drop]; omega
    · simp only [List.length_drop]; omega
    · simp only; omega
    · simp only; omega
  · exact hk
theorem Ho.ok_flush {h : Ho} (hk : h.ok) : (h.flush).ok :=
  ⟨hk.most, hk.oc, hk.sent, by have := hk.all; simp [Ho.flush]; omega, by have := hk.octs; simp [Ho.flush, octs_nil]; omega, hk.first, by simp [Ho.flush], hk.lons⟩
theorem Ho.ok_clear {h : Ho} (hk : h.ok) : (h.clear).ok := ⟨hk.most, hk.oc, by simp [Ho.clear], by simp [Ho.clear], by simp [Ho.clear, octs_nil], by simp [Ho.clear], by simp [Ho.clear], by simp [Ho.clear]⟩
end
/-! ### A link as plain data, continued: units, and the two methods. -/
section
open Go Go.RowKit
structure Un where
  bsn : Int
  fsn : Int
  bib : Bool
  fib : Bool
  kind : Int
  status : Int
  wide : Bool
  info : Oct
  deriving DecidableEq
structure Un.ok (u : Un) : Prop where
  bsn : 0 ≤ u.bsn ∧ u.bsn ≤ 255
  fsn : 0 ≤ u.fsn ∧ u.fsn ≤ 255
  kind : 0 ≤ u.kind ∧ u.kind ≤ 255
  status : 0 ≤ u.status ∧ u.status ≤ 255
  info : u.info.length ≤ 1000
def Un.nil : Un := ⟨0, 0, false, false, 0, 0, false, []⟩
/-! ### The basic method -/
structure Bs where
  fib : Bool
  bib : Bool
  last : Int
  asked : Bool
  again : Int
  b0 : Bool
  b1 : Bool
  i0 : Bool
  i1 : Bool
  deriving DecidableEq
structure Bs.ok (x : Bs) : Prop where
  last : 0 ≤ x.last ∧ x.last ≤ 127
  again : -1 ≤ x.again ∧ x.again ≤ 127
def Bs.zero : Bs := ⟨true, true, 127, false, -1, false, false, false, false⟩
def Bs.head (x : Bs) (n : Int) : Un := ⟨x.last, n, x.bib, x.fib, 0, 0, false, []⟩
def Bs.msg (x : Bs) (n : Int) (p : Oct) : Un := ⟨x.last, n, x.bib, x.fib, 2, 0, false, p⟩
def Bs.new (h : Ho) (x : Bs) : Ho × Bs × Un := if h.send.2.2.2 = 0 then (h.send.1, x, x.msg h.send.2.1 h.send.2.2.1) else (h.send.1, x, x.head h.send.1.last)
def Bs.next (h : Ho) (x : Bs) : Ho × Bs × Un :=
  if 0 ≤ x.again then
    if (h.at x.again).2.2 = 0 then (h, { x with again := if (h.sent.length : Int) ≤ x.again + 1 then -1 else x.again + 1 }, x.msg (h.at x.again).1 (h.at x.again).2.1)
    else Bs.new h { x with again := -1 }
  else Bs.new h x
def Bs.see (x : Bs) (odd : Bool) : Bs := { x with b0 := x.b1, b1 := odd }
def Bs.sei (x : Bs) (odd : Bool) : Bs := { x with i0 := x.i1, i1 := odd }
def Bs.back (x : Bs) (k : Int) : Bs := if 0 ≤ x.again then { x with again := max 0 (x.again - k) } else x
def Bs.over (x : Bs) (n : Int) : Bs := if n ≤ x.again then { x with again := -1 } else x
def Bs.turn (x : Bs) (bib : Bool) (n : Int) : Bs := if bib = x.fib then x else { x with fib := bib, again := if 0 < n then 0 else -1 }
def Bs.answer (h : Ho) (x : Bs) (u : Un) : Ho × Bs × Int × Int :=
  if h.knows u.bsn then ((h.free u.bsn).1, (((x.see false).back (h.free u.bsn).2.1).over (h.free u.bsn).1.sent.length).turn u.bib (h.free u.bsn).1.sent.length, (h.free u.bsn).2.1, 0)
  else if x.b0 || x.b1 then (h, x.see true, 0, 10) else (h, x.see true, 0, 0)
def Bs.take (x : Bs) (u : Un) : Bs × Oct × Bool × Int :=
  if u.fib = x.bib then
    if u.kind = 2 ∧ u.fsn = (x.last + 1) % 128 then ({ x.sei false with last := (x.last + 1) % 128, asked := false }, u.info, true, 0)
    else if u.fsn = x.last then ({ x.sei false with asked := false }, [], false, 0)
    else ({ x.sei false with bib := !x.bib, asked := true }, [], false, 0)
  else if !x.asked && (x.i0 || x.i1) then (x.sei (!x.asked), [], false, 10) else (x.sei (!x.asked), [], false, 0)
/-! ### The cyclic method -/
structure Cy where
  n1 : Int
  n2 : Int
  last : Int
  at_ : Int
  force : Bool
  b0 : Bool
  b1 : Bool
  deriving DecidableEq
structure Cy.ok (x : Cy) : Prop where
  n1 : 1 ≤ x.n1 ∧ x.n1 ≤ 1000000
  n2 : 1 ≤ x.n2 ∧ x.n2 ≤ 10000000
  last : 0 ≤ x.last ∧ x.last ≤ 127
  at_ : 0 ≤ x.at_ ∧ x.at_ ≤ 127
def Cy.zero (n1 n2 : Int) : Cy := ⟨max n1 1, max n2 1, 127, 0, false, false, false⟩
def Cy.head (x : Cy) (n : Int) : Un := ⟨x.last, n, true, true, 0, 0, false, []⟩
def Cy.msg (x : Cy) (n : Int) (p : Oct) : Un := ⟨x.last, n, true, true, 2, 0, false, p⟩
def Cy.fits (h : Ho) (x : Cy) : Bool := decide (h.sent.length = 0) || decide ((h.sent.length : Int) < x.n1) && decide ((octs h.sent : Int) + h.size ≤ x.n2)
def Cy.must (h : Ho) (x : Cy) : Bool := decide (0 < h.next.length) && !Cy.fits h x
def Cy.wind (h : Ho) (x : Cy) : Cy := if (h.sent.length : Int) ≤ x.at_ then { x with at_ := 0, force := Cy.must h x } else x
def Cy.old (h : Ho) (x : Cy) : Ho × Cy × Un :=
  if (h.at (x.wind h).at_).2.2 = 0 then (h, { x.wind h with at_ := (x.wind h).at_ + 1 }, x.msg (h.at (x.wind h).at_).1 (h.at (x.wind h).at_).2.1) else (h, x.wind h, x.head h.last)
def Cy.push (h : Ho) (x : Cy) : Cy := if Cy.must h x then { x with force := true } else x
def Cy.next (h : Ho) (x : Cy) : Ho × Cy × Un :=
  if (x.push h).force = false ∧ h.send.2.2.2 = 0 then (h.send.1, x.push h, x.msg h.send.2.1 h.send.2.2.1) else (x.push h).old h
def Cy.see (x : Cy) (odd : Bool) : Cy := { x with b0 := x.b1, b1 := odd }
def Cy.answer (h : Ho) (x : Cy) (u : Un) : Ho × Cy × Int × Int :=
  if h.knows u.bsn then ((h.free u.bsn).1, { x.see false with at_ := max 0 (x.at_ - (h.free u.bsn).2.1) }, (h.free u.bsn).2.1, 0)
  else if x.b0 || x.b1 then (h, x.see true, 0, 10) else (h, x.see true, 0, 0)
def Cy.take (x : Cy) (u : Un) : Cy × Oct × Bool × Int :=
  if u.kind = 2 ∧ u.fsn = (x.last + 1) % 128 then ({ x with last := u.fsn }, u.info, true, 0) else (x, [], false, 0)
def Cy.reset (x : Cy) : Cy := ⟨x.n1, x.n2, 127, 0, false, false, false⟩
end
/-! ### A link as plain data, the last: its method, its states. -/
section
open Go Go.RowKit
/-! ### Either method -/
inductive Wy where
  | bs (x : Bs)
  | cy (x : Cy)
  deriving DecidableEq
def Wy.ok : Wy → Prop
  | .bs x => x.ok
  | .cy x => x.ok
def Wy.last : Wy → Int
  | .bs x => x.last
  | .cy x => x.last
def Wy.head (n : Int) : Wy → Un
  | .bs x => x.head n
  | .cy x => x.head n
def Wy.next (h : Ho) : Wy → Ho × Wy × Un
  | .bs x => ((Bs.next h x).1, .bs (Bs.next h x).2.1, (Bs.next h x).2.2)
  | .cy x => ((Cy.next h x).1, .cy (Cy.next h x).2.1, (Cy.next h x).2.2)
def Wy.answer (h : Ho) (u : Un) : Wy → Ho × Wy × Int × Int
  | .bs x => ((Bs.answer h x u).1, .bs (Bs.answer h x u).2.1, (Bs.answer h x u).2.2.1, (Bs.answer h x u).2.2.2)
  | .cy x => ((Cy.answer h x u).1, .cy (Cy.answer h x u).2.1, (Cy.answer h x u).2.2.1, (Cy.answer h x u).2.2.2)
def Wy.take (u : Un) : Wy → Wy × Oct × Bool × Int
  | .bs x => (.bs (x.take u).1, (x.take u).2.1, (x.take u).2.2.1, (x.take u).2.2.2)
  | .cy x => (.cy (x.take u).1, (x.take u).2.1, (x.take u).2.2.1, (x.take u).2.2.2)
def Wy.reset : Wy → Wy
  | .bs _ => .bs Bs.zero
  | .cy x => .cy x.reset
def Wy.of (s : Su) : Wy := if s.cyc then .cy (Cy.zero s.n1 s.n2) else .bs Bs.zero
/-! ### A link -/
structure To where
  kind : Int
  why : Int
  p : Oct
  deriving DecidableEq
structure St where
  s : Su
  S : Int
  c : Ck
  a : Al
  j : Jm
  h : Ho
  w : Wy
  o : Oa
  leak : Le
  told : List To
  fails : Int
  deriving DecidableEq
def St.new (s : Su) : St := ⟨s, 0, Ck.none, ⟨0, false, false, ⟨false, 0, 0⟩⟩, ⟨false, false, false⟩, Ho.none s.hd s.oc, Wy.of s, ⟨false, false, false⟩, ⟨0, 0⟩, [], 0⟩
def St.tell (x : St) (t : To) : St := { x with told := x.told ++ [t] }
def St.fail (x : St) (why : Int) : St :=
  if x.S = 0 then x else
  { x with S := 0, c := Ck.none, a := (x.a.end x.c).1, j := ⟨false, false, false⟩, o := ⟨x.o.own, false, false⟩, leak := ⟨0, 0⟩, told := x.told ++ [⟨2, why, []⟩], fails := x.fails + 1 }
def St.begin (x : St) : St :=
  { x with w := x.w.reset, h := x.h.clear, S := 1, leak := ⟨0, 0⟩, o := ⟨x.o.own, false, false⟩, a := (x.a.begin x.s x.c).1, c := (x.a.begin x.s x.c).2 }
def St.halt (x : St) : St := { x with S := 5, j := ⟨false, false, false⟩, c := (x.c.stop [5, 6]).stop [7] }
def St.wait (x : St) (anew : Bool) : St :=
  if x.h.sent.length = 0 then { x with c := x.c.stop [7] }
  else if (anew || !decide (0 < x.c.get 7)) = true then { x with c := x.c.start 7 x.s.t7 } else x
def St.resume (x : St) : St := if x.S = 5 ∧ x.o.is = false then ({ x with S := 4 } : St).wait false else x
def St.setO (x : St) (o : Oa) : St := { x with o := o }
def St.turn (x : St) (out : Bool) : St :=
  if x.S = 4 ∧ out = true then x.halt else if x.S = 5 then x.resume
  else if x.S = 2 ∧ out = true then { x with S := 3 } else if x.S = 3 ∧ out = false then { x with S := 2 } else x
def St.here (x : St) (out : Bool) : St := if x.o.own = out then x else (x.setO (x.o.local out)).turn out
def St.serves (x : St) : Bool := decide (x.S = 4) || decide (x.S = 5)
def St.setA (x : St) (r : Al × Ck) : St := { x with a := r.1, c := r.2 }
def St.setJ (x : St) (r : Jm × Ck) : St := { x with j := r.1, c := r.2 }
def St.setH (x : St) (h : Ho) : St := { x with h := h }
def St.order (x : St) (k : Int) (p : Oct) : St × Int :=
  if k = 1 then (if x.S = 0 then (x.begin, 0) else (x, 9))
  else if k = 2 then (if x.S = 0 then (x, 9) else (x.fail 10, 0))
  else if k = 3 then (x.setA (x.a.hurries x.s x.c true), 0)
  else if k = 4 then (x.setA (x.a.hurries x.s x.c false), 0)
  else if k = 5 then (if x.serves then (x.setH (x.h.put p).1, (x.h.put p).2) else (x, 12))
  else if k = 6 then (x.here true, 0)
  else if k = 7 then (x.here false, 0)
  else if k = 8 then (x.setH x.h.flush, 0)
  else if k = 9 then (if x.o.goes then ((x.setO x.o.continue).resume, 0) else (x, 9))
  else if k = 10 then (if x.serves then (x.setJ (x.j.begin x.s x.c), 0) else (x, 9))
  else if k = 11 then (if x.serves then (x.setJ (x.j.end x.c), 0) else (x, 9))
  else (x, 1)
def St.aligned (x : St) : St := { x with S := if x.o.own then 3 else 2, c := x.c.start 1 x.s.t1 }
def St.out (x : St) (i : Int) : St :=
  if x.S = 0 then x
  else if x.S = 1 then
    if (x.a.out x.c i).2.2.2 = 0 then
      if (x.a.out x.c i).2.2.1 then (x.setA ((x.a.out x.c i).1, (x.a.out x.c i).2.1)).aligned else x.setA ((x.a.out x.c i).1, (x.a.out x.c i).2.1)
    else (x.setA ((x.a.out x.c i).1, (x.a.out x.c i).2.1)).fail (x.a.out x.c i).2.2.2
  else if i = 1 ∧ (x.S = 2 ∨ x.S = 3) then x.fail 6
  else if i = 7 ∧ x.S = 4 then x.fail 2
  else if (x.j.out x.s x.c i).2.2 = 0 then x.setJ ((x.j.out x.s x.c i).1, (x.j.out x.s x.c i).2.1)
  else (x.setJ ((x.j.out x.s x.c i).1, (x.j.out x.s x.c i).2.1)).fail (x.j.out x.s x.c i).2.2
def St.tick (x : St) : St := x.c.rang.foldl St.out { x with c := x.c.tick }
def St.served (x : St) : St := { x with c := x.c.stop [1], S := 4, told := x.told ++ [⟨1, 0, []⟩] }
def St.serve (x : St) : St := if x.o.is then x.served.halt else x.served
def St.setL (x : St) (l : Le) : St := { x with leak := l }
def St.count (x : St) (wrong : Bool) : St :=
  if x.S = 0 then x
  else if x.S = 1 then
    if (x.a.unit x.s x.c wrong).2.2 = 0 then x.setA ((x.a.unit x.s x.c wrong).1, (x.a.unit x.s x.c wrong).2.1)
    else (x.setA ((x.a.unit x.s x.c wrong).1, (x.a.unit x.s x.c wrong).2.1)).fail (x.a.unit x.s x.c wrong).2.2
  else if x.leak.bad wrong then (x.setL (x.leak.unit wrong)).fail 1 else x.setL (x.leak.unit wrong)
def St.woken (x : St) : St := if x.S = 2 ∨ x.S = 3 then x.serve else x
def St.remote (x : St) (out : Bool) : St :=
  if x.woken.o.their = out then x.woken.setO (x.woken.o.remote out)
  else if out = true then
    if x.woken.S = 4 then ((x.woken.setO (x.woken.o.remote out)).tell ⟨4, 0, []⟩).halt else (x.woken.setO (x.woken.o.remote out)).tell ⟨4, 0, []⟩
  else ((x.woken.setO (x.woken.o.remote out)).tell ⟨5, 0, []⟩).resume
def St.status (x : St) (i : Int) : St :=
  if x.S = 1 then
    if (x.a.heard x.s x.c i).2.2 = 0 then x.setA ((x.a.heard x.s x.c i).1, (x.a.heard x.s x.c i).2.1)
    else (x.setA ((x.a.heard x.s x.c i).1, (x.a.heard x.s x.c i).2.1)).fail (x.a.heard x.s x.c i).2.2
  else if i = 3 then x.fail 8
  else if i = 0 ∨ (4 ≤ x.S ∧ (i = 1 ∨ i = 2)) then x.fail 9
  else if i = 4 then x.remote true
  else if i = 5 ∧ x.S = 4 then
    if (x.j.heard x.s x.c (decide (0 < x.h.sent.length))).2.2 then (x.setJ ((x.j.heard x.s x.c (decide (0 < x.h.sent.length))).1, (x.j.heard x.s x.c (decide (0 < x.h.sent.length))).2.1)).tell ⟨6, 0, []⟩
    else x.setJ ((x.j.heard x.s x.c (decide (0 < x.h.sent.length))).1, (x.j.heard x.s x.c (decide (0 < x.h.sent.length))).2.1)
  else x
def St.setW (x : St) (w : Wy) : St := { x with w := w }
/-- A unit is taken. -/
def St.takes (x : St) (u : Un) : St :=
  if (x.o.own || x.j.own) = true then x
  else if (x.w.take u).2.2.2 = 0 then
    if (x.w.take u).2.2.1 then (x.setW (x.w.take u).1).tell ⟨3, 0, (x.w.take u).2.1⟩ else x.setW (x.w.take u).1
  else (x.setW (x.w.take u).1).fail 4
/-- So many messages are answered. -/
def St.freed (x : St) (k : Int) : St := if 0 < k ∧ x.S = 4 then x.wait true else x
def St.jammed (x : St) (k : Int) : St := if x.j.their = true ∧ (0 < k ∨ x.h.sent.length = 0) then (x.setJ (⟨x.j.own, false, x.j.due⟩, x.c.stop [6])).tell ⟨7, 0, []⟩ else x
def St.answers (x : St) (u : Un) : St :=
  if (x.w.answer x.h u).2.2.2 = 0 then
    (((((x.setH (x.w.answer x.h u).1).setW (x.w.answer x.h u).2.1).freed (x.w.answer x.h u).2.2.1)).jammed (x.w.answer x.h u).2.2.1).takes u
  else ((x.setH (x.w.answer x.h u).1).setW (x.w.answer x.h u).2.1).fail 4
def St.ordinary (x : St) (u : Un) : St := (if x.woken.o.their then x.woken.remote false else x.woken).answers u
def St.heard (x : St) (u : Un) : St := if x.S = 0 then x else if u.kind = 1 then x.status u.status else if x.S = 1 then x else x.ordinary u
def St.hear (x : St) (u : Un) : St := (x.count false).heard u
def St.fill (x : St) : Un := x.w.head x.h.last
def St.stat (x : St) (i : Int) : Un := { x.fill with kind := 1, status := i }
def St.next (x : St) : St × Un :=
  if x.S = 0 ∨ x.S = 1 then (x, x.stat x.a.sends)
  else if x.S = 2 then (x, x.fill)
  else if x.S = 4 then
    if x.j.due then ({ x with j := x.j.told }, x.stat 5)
    else (((x.setH (x.w.next x.h).1).setW (x.w.next x.h).2.1).wait false, (x.w.next x.h).2.2)
  else if x.o.own then (x, x.stat 4) else (x, x.fill)
end
/-! ### What holds of a link all the time: its numbers stay in bounds. -/
section
open Go Go.RowKit
theorem ite_p {α : Type} (P : α → Prop) {p : Prop} [Decidable p] {a b : α} (ha : p → P a) (hb : ¬ p → P b) : P (if p then a else b) := by
  split
  · exact ha ‹_›
  · exact hb ‹_›
theorem Bs.ok_zero : Bs.zero.ok := ⟨by decide, by decide⟩
theorem Bs.ok_next {h : Ho} {x : Bs} (hk : h.ok) (hx : x.ok) : (Bs.next h x).1.ok ∧ (Bs.next h x).2.1.ok := by
  have h1 := hk.sent
  have h2 := hx.again
  have hn : ∀ y : Bs, y.ok → (Bs.new h y).1.ok ∧ (Bs.new h y).2.1.ok := by
    intro y hy
    unfold Bs.new
    split
    · exact ⟨Ho.ok_send hk, hy⟩
    · exact ⟨Ho.ok_send hk, hy⟩
  unfold Bs.next
  split
  · split
    · refine ⟨hk, hx.last, ?_⟩
      dsimp only
      split <;> omega
    · exact hn _ ⟨hx.last, by dsimp only; omega⟩
  · exact hn _ hx
theorem Bs.ok_answer {h : Ho} {x : Bs} (hk : h.ok) (hx : x.ok) (u : Un) : (Bs.answer h x u).1.ok ∧ (Bs.answer h x u).2.1.ok := by
  have h2 := hx.again
  unfold Bs.answer
  split
  · rename_i hn
    have h3 := Ho.gap_le hk hn
    have e : (h.free u.bsn).2.1 = h.gap u.bsn := by simp [Ho.free, hn]
    rw [← e] at h3
    refine ⟨Ho.ok_free hk _, ?_⟩
    generalize (h.free u.bsn).2.1 = k at *
    generalize ((h.free u.bsn).1.sent.length : Int) = n
    have a1 : (x.see false).ok := ⟨hx.last, hx.again⟩
    have a2 : ((x.see false).back k).ok := by
      unfold Bs.back
      split
      · exact ⟨a1.last, by have := a1.again; dsimp only; omega⟩
      · exact a1
    have a3 : (((x.see false).back k).over n).ok := by
      unfold Bs.over
      split
      · exact ⟨a2.last, by dsimp only; omega⟩
      · exact a2
    unfold Bs.turn
    split
    · exact a3
    · refine ⟨a3.last, ?_⟩
      dsimp only
      split <;> decide
  · split
    · exact ⟨hk, hx.last, hx.again⟩
    · exact ⟨hk, hx.last, hx.again⟩
theorem Bs.ok_take {x : Bs} (hx : x.ok) (u : Un) : (x.take u).1.ok := by
  have h1 := hx.last
  unfold Bs.take
  repeat' split
  all_goals exact ⟨by first | exact hx.last | (dsimp only; omega), hx.again⟩
theorem Ho.at_lt {h : Ho} {i : Int} (e : (h.at i).2.2 = 0) : 0 ≤ i ∧ i < h.sent.length := by
  unfold Ho.at at e
  split at e
  · assumption
  · exact absurd e (by decide)
theorem Cy.ok_push {h : Ho} {x : Cy} (hx : x.ok) : (x.push h).ok := by
  unfold Cy.push
  split
  · exact ⟨hx.n1, hx.n2, hx.last, hx.at_⟩
  · exact hx
theorem Cy.ok_wind {h : Ho} {x : Cy} (hx : x.ok) : (x.wind h).ok := by
  unfold Cy.wind
  split
  · exact ⟨hx.n1, hx.n2, hx.last, by dsimp only; omega⟩
  · exact hx
theorem Cy.ok_next {h : Ho} {x : Cy} (hk : h.ok) (hx : x.ok) : (Cy.next h x).1.ok ∧ (Cy.next h x).2.1.ok := by
  have h1 := hk.sent
  have h2 := Cy.ok_push (h := h) hx
  have h3 := Cy.ok_wind (h := h) h2
  unfold Cy.next
  split
  · exact ⟨Ho.ok_send hk, h2⟩
  · unfold Cy.old
    split
    · rename_i he
      have := Ho.at_lt he
      exact ⟨hk, h3.n1, h3.n2, h3.last, by dsimp only; omega⟩
    · exact ⟨hk, h3⟩
theorem Cy.ok_answer {h : Ho} {x : Cy} (hk : h.ok) (hx : x.ok) (u : Un) : (Cy.answer h x u).1.ok ∧ (Cy.answer h x u).2.1.ok := by
  have h2 := hx.at_
  unfold Cy.answer
  split
  · rename_i hn
    have h3 := Ho.gap_le hk hn
    have e : (h.free u.bsn).2.1 = h.gap u.bsn := by simp [Ho.free, hn]
    rw [← e] at h3
    exact ⟨Ho.ok_free hk _, hx.n1, hx.n2, hx.last, by dsimp only; omega⟩
  · split
    · exact ⟨hk, hx.n1, hx.n2, hx.last, hx.at_⟩
    · exact ⟨hk, hx.n1, hx.n2, hx.last, hx.at_⟩
theorem Cy.ok_take {x : Cy} (hx : x.ok) (u : Un) : (x.take u).1.ok := by
  unfold Cy.take
  split
  · exact ⟨hx.n1, hx.n2, by dsimp only; omega, hx.at_⟩
  · exact hx
theorem Wy.ok_next {h : Ho} {x : Wy} (hk : h.ok) (hx : x.ok) : (x.next h).1.ok ∧ (x.next h).2.1.ok := by
  cases x
  · exact Bs.ok_next hk hx
  · exact Cy.ok_next hk hx
theorem Wy.ok_answer {h : Ho} {x : Wy} (hk : h.ok) (hx : x.ok) (u : Un) : (x.answer h u).1.ok ∧ (x.answer h u).2.1.ok := by
  cases x
  · exact Bs.ok_answer hk hx u
  · exact Cy.ok_answer hk hx u
theorem Wy.ok_take {x : Wy} (hx : x.ok) (u : Un) : (x.take u).1.ok := by
  cases x
  · exact Bs.ok_take hx u
  · exact Cy.ok_take hx u
theorem Wy.ok_reset {x : Wy} (hx : x.ok) : x.reset.ok := by
  cases x
  · exact Bs.ok_zero
  · exact ⟨hx.n1, hx.n2, by simp only [Cy.reset]; omega, by simp only [Cy.reset]; omega⟩
/-! ### Coming into line -/
structure Al.ok (a : Al) : Prop where
  st : 0 ≤ a.st ∧ a.st ≤ 3
  n : 0 ≤ a.p.n ∧ a.p.n ≤ 3
  tries : 0 ≤ a.p.tries ∧ a.p.tries ≤ 5
  on : a.st ≠ 0 → a.p.tries ≤ 4
theorem Al.ok.p {a : Al} (h : a.ok) : a.p.ok := ⟨h.n.1, by have := h.n.2; omega, h.tries.1, by have := h.tries.2; omega⟩
theorem Al.ok_end {a : Al} (hn : 0 ≤ a.p.n ∧ a.p.n ≤ 3) (ht : 0 ≤ a.p.tries ∧ a.p.tries ≤ 5) (c : Ck) : (a.end c).1.ok := ⟨by simp [Al.end], hn, ht, fun h => absurd rfl h⟩
theorem Al.ok_begin (s : Su) (a : Al) (c : Ck) : (a.begin s c).1.ok := ⟨by simp [Al.begin], by simp [Al.begin], by simp [Al.begin], by simp [Al.begin]⟩
theorem Al.ok_prove {a : Al} (s : Su) (c : Ck) (h : 0 ≤ a.p.tries ∧ a.p.tries ≤ 4) : (a.prove s c).1.ok := ⟨by simp [Al.prove], by simp [Al.prove], by simp only [Al.prove]; omega, fun _ => h.2⟩
theorem Al.ok_near {a : Al} (s : Su) (c : Ck) (hn : 0 ≤ a.p.n ∧ a.p.n ≤ 3) (h : 0 ≤ a.p.tries ∧ a.p.tries ≤ 4) : (a.near s c).1.ok := ⟨by simp [Al.near], hn, by simp only [Al.near]; omega, fun _ => h.2⟩
theorem Al.ok_hurries {a : Al} (h : a.ok) (s : Su) (c : Ck) (on : Bool) : (a.hurries s c on).1.ok := by
  unfold Al.hurries
  split
  · rename_i h3
    exact Al.ok_prove _ _ ⟨h.tries.1, h.on (by omega)⟩
  · exact ⟨h.st, h.n, h.tries, h.on⟩
theorem Al.ok_heard {a : Al} (h : a.ok) (s : Su) (c : Ck) (x : Int) : (a.heard s c x).1.ok := by
  unfold Al.heard
  split
  · exact h
  rename_i h0
  have ht : 0 ≤ a.p.tries ∧ a.p.tries ≤ 4 := ⟨h.tries.1, h.on h0⟩
  extract_lets a1
  have e1 : a1.st = a.st ∧ a1.p = a.p := by simp only [a1]; split <;> exact ⟨rfl, rfl⟩
  have o1 : a1.ok := ⟨e1.1 ▸ h.st, e1.2 ▸ h.n, e1.2 ▸ h.tries, by rw [e1.1, e1.2]; exact h.on⟩
  have n1 : 0 ≤ a1.p.n ∧ a1.p.n ≤ 3 := e1.2 ▸ h.n
  have t1 : 0 ≤ a1.p.tries ∧ a1.p.tries ≤ 4 := e1.2 ▸ ht
  repeat' split
  all_goals first
    | exact o1
    | exact Al.ok_near s c n1 t1
    | exact Al.ok_prove s c t1
    | exact Al.ok_prove s c ⟨Int.le_refl 0, (by decide : (0 : Int) ≤ 4)⟩
theorem Al.ok_out {a : Al} (h : a.ok) (c : Ck) (i : Int) : (a.out c i).1.ok := by
  unfold Al.out
  repeat' split
  all_goals first | exact h | exact Al.ok_end h.n h.tries c
theorem Al.unit_ok {a : Al} (h : a.ok) (s : Su) (c : Ck) (wrong : Bool) : (0 ≤ (a.unit s c wrong).1.p.n ∧ (a.unit s c wrong).1.p.n ≤ 3) ∧ (0 ≤ (a.unit s c wrong).1.p.tries ∧ (a.unit s c wrong).1.p.tries ≤ 5) ∧ ((a.unit s c wrong).2.2 = 0 → (a.unit s c wrong).1.ok) := by
  by_cases h3 : a.st = 3
  · have ht : 0 ≤ a.p.tries ∧ a.p.tries ≤ 4 := ⟨h.tries.1, h.on (by omega)⟩
    have hn := h.n
    have hm : a.p.most ≤ 4 := by unfold Pf.most; split <;> decide
    have hs : 0 ≤ a.p.seen wrong := by unfold Pf.seen; split <;> omega
    by_cases hw : a.p.anew wrong = true
    · have hu : a.p.unit wrong = ⟨a.p.hurry, 0, a.p.tries + 1⟩ := by unfold Pf.unit; rw [if_pos hw]
      unfold Al.unit
      rw [if_pos h3]
      dsimp only
      by_cases ho : a.p.over wrong = true
      · rw [if_pos ho]
        dsimp only
        rw [hu]
        exact ⟨by dsimp only; omega, by dsimp only; omega, fun h => absurd h (by decide)⟩
      · rw [if_neg ho, if_pos hw]
        have : ¬ (5 ≤ a.p.tries + 1) := fun h5 => ho (by simp [Pf.over, hw, h5])
        have hk := Al.ok_prove (a := ⟨a.st, a.own, a.their, a.p.unit wrong⟩) s c (by rw [hu]; dsimp only; omega)
        exact ⟨hk.n, hk.tries, fun _ => hk⟩
    · have hu : a.p.unit wrong = ⟨a.p.hurry, a.p.seen wrong, a.p.tries⟩ := by unfold Pf.unit; rw [if_neg hw]
      have ho : ¬ a.p.over wrong = true := by simp [Pf.over, hw]
      have hl : a.p.seen wrong < a.p.most := by
        unfold Pf.anew at hw
        simp only [decide_eq_true_eq] at hw
        omega
      unfold Al.unit
      rw [if_pos h3]
      dsimp only
      rw [if_neg ho, if_neg hw]
      dsimp only
      have hk : (⟨a.st, a.own, a.their, a.p.unit wrong⟩ : Al).ok := ⟨h.st, by rw [hu]; dsimp only; omega, by rw [hu]; dsimp only; omega, fun _ => by rw [hu]; exact ht.2⟩
      exact ⟨hk.n, hk.tries, fun _ => hk⟩
  · have e : a.unit s c wrong = (a, c, 0) := by unfold Al.unit; rw [if_neg h3]
    rw [e]
    exact ⟨h.n, h.tries, fun _ => h⟩
theorem Al.c_begin {c : Ck} (h : c.ok) (s : Su) (a : Al) : (a.begin s c).2.ok := Ck.ok_start (Ck.ok_stop h _) _ _
theorem Al.c_end {c : Ck} (h : c.ok) (a : Al) : (a.end c).2.ok := Ck.ok_stop h _
theorem Al.c_prove {c : Ck} (h : c.ok) (s : Su) (a : Al) : (a.prove s c).2.ok := by
  unfold Al.prove
  dsimp only
  split
  · exact Ck.ok_start (Ck.ok_stop h _) _ _
  · exact Ck.ok_start (Ck.ok_stop h _) _ _
theorem Al.c_near {c : Ck} (h : c.ok) (s : Su) (a : Al) : (a.near s c).2.ok := Ck.ok_start (Ck.ok_stop h _) _ _
theorem Al.c_hurries {c : Ck} (h : c.ok) (s : Su) (a : Al) (on : Bool) : (a.hurries s c on).2.ok := by
  unfold Al.hurries
  split
  · exact Al.c_prove h _ _
  · exact h
theorem Al.c_heard {c : Ck} (h : c.ok) (s : Su) (a : Al) (x : Int) : (a.heard s c x).2.1.ok := by
  unfold Al.heard
  split
  · exact h
  extract_lets a1
  repeat' split
  all_goals first | exact h | exact Al.c_near h s a1 | exact Al.c_prove h s _
theorem Al.c_unit {c : Ck} (h : c.ok) (s : Su) (a : Al) (wrong : Bool) : (a.unit s c wrong).2.1.ok := by
  unfold Al.unit
  dsimp only
  repeat' split
  all_goals first | exact h | exact Al.c_prove h _ _
theorem Al.c_out {c : Ck} (h : c.ok) (a : Al) (i : Int) : (a.out c i).2.1.ok := by
  unfold Al.out
  repeat' split
  all_goals first | exact h | exact Al.c_end h a
theorem Jm.c_begin {c : Ck} (h : c.ok) (s : Su) (j : Jm) : (j.begin s c).2.ok := by
  unfold Jm.begin
  split
  · exact h
  · exact Ck.ok_start h _ _
theorem Jm.c_heard {c : Ck} (h : c.ok) (s : Su) (j : Jm) (w : Bool) : (j.heard s c w).2.1.ok := by
  have h1 : (if w = true then c.start 7 s.t7 else c).ok := by
    split
    · exact Ck.ok_start h _ _
    · exact h
  unfold Jm.heard
  dsimp only
  split
  · exact h1
  · exact Ck.ok_start h1 _ _
theorem Jm.c_out {c : Ck} (h : c.ok) (s : Su) (j : Jm) (i : Int) : (j.out s c i).2.1.ok := by
  unfold Jm.out
  repeat' split
  all_goals first | exact h | exact Ck.ok_start h _ _
/-! ### A link -/
structure St.ok (x : St) : Prop where
  h : x.h.ok
  w : x.w.ok
  a : x.a.ok
  leak : x.leak.ok
  c : x.c.ok
  S : 0 ≤ x.S ∧ x.S ≤ 5
theorem Le.ok_zero : (⟨0, 0⟩ : Le).ok := by unfold Le.ok; decide
theorem Le.ok_unit {l : Le} (h : l.ok) (w : Bool) (hb : l.bad w = false) : (l.unit w).ok := by
  obtain ⟨n, seen⟩ := l
  obtain ⟨h0, h1, h2, h3⟩ := h
  unfold Le.bad at hb
  simp only [decide_eq_false_iff_not] at hb
  dsimp only at h0 h1 h2 h3
  unfold Le.unit Le.age at hb ⊢
  dsimp only at hb ⊢
  unfold Le.ok
  cases w
  all_goals
    simp only [if_true, Bool.false_eq_true, if_false] at hb ⊢
    repeat' split
    all_goals first | omega | (simp_all; done) | (simp_all; omega)
theorem St.ok_new {s : Su} (h1 : s.hd ≤ 512) (h2 : s.oc ≤ 1048576) (h3 : s.n1 ≤ 1000000) (h4 : s.n2 ≤ 10000000) : (St.new s).ok := by
  refine ⟨Ho.ok_none h1 h2, ?_, ⟨by simp [St.new], by simp [St.new], by simp [St.new], by simp [St.new]⟩, Le.ok_zero, Ck.ok_none, by simp [St.new]⟩
  show (Wy.of s).ok
  unfold Wy.of
  split
  · exact ⟨by simp only [Cy.zero]; omega, by simp only [Cy.zero]; omega, by simp [Cy.zero], by simp [Cy.zero]⟩
  · exact Bs.ok_zero
theorem St.ok_tell {x : St} (h : x.ok) (t : To) : (x.tell t).ok := ⟨h.h, h.w, h.a, h.leak, h.c, h.S⟩
theorem St.fail_ok {x : St} (hh : x.h.ok) (hw : x.w.ok) (hn : 0 ≤ x.a.p.n ∧ x.a.p.n ≤ 3) (ht : 0 ≤ x.a.p.tries ∧ x.a.p.tries ≤ 5) (h0 : x.S ≠ 0) (why : Int) : (x.fail why).ok := by
  unfold St.fail
  rw [if_neg h0]
  exact ⟨hh, hw, Al.ok_end hn ht x.c, Le.ok_zero, Ck.ok_none, by dsimp only; omega⟩
theorem St.ok_fail {x : St} (h : x.ok) (why : Int) : (x.fail why).ok := by
  by_cases h0 : x.S = 0
  · unfold St.fail; rw [if_pos h0]; exact h
  · exact St.fail_ok h.h h.w h.a.n h.a.tries h0 why
theorem St.ok_begin {x : St} (h : x.ok) : x.begin.ok := ⟨Ho.ok_clear h.h, Wy.ok_reset h.w, Al.ok_begin x.s x.a x.c, Le.ok_zero, Al.c_begin h.c x.s x.a, by simp [St.begin]⟩
theorem St.ok_halt {x : St} (h : x.ok) : x.halt.ok := ⟨h.h, h.w, h.a, h.leak, Ck.ok_stop (Ck.ok_stop h.c _) _, by simp [St.halt]⟩
theorem St.ok_S {x : St} (h : x.ok) {i : Int} (h0 : 0 ≤ i) (h1 : i ≤ 5) : ({ x with S := i } : St).ok := ⟨h.h, h.w, h.a, h.leak, h.c, h0, h1⟩
theorem St.ok_wait {x : St} (h : x.ok) (anew : Bool) : (x.wait anew).ok := by
  unfold St.wait
  repeat' split
  · exact ⟨h.h, h.w, h.a, h.leak, Ck.ok_stop h.c _, h.S⟩
  · exact ⟨h.h, h.w, h.a, h.leak, Ck.ok_start h.c _ _, h.S⟩
  · exact h
theorem St.ok_resume {x : St} (h : x.ok) : x.resume.ok := by
  unfold St.resume
  split
  · exact St.ok_wait (St.ok_S h (by decide) (by decide)) _
  · exact h
theorem St.ok_setO {x : St} (h : x.ok) (o : Oa) : (x.setO o).ok := ⟨h.h, h.w, h.a, h.leak, h.c, h.S⟩
theorem St.ok_turn {x : St} (h : x.ok) (out : Bool) : (x.turn out).ok := by
  unfold St.turn
  repeat' split
  · exact St.ok_halt h
  · exact St.ok_resume h
  · exact St.ok_S h (by decide) (by decide)
  · exact St.ok_S h (by decide) (by decide)
  · exact h
theorem St.ok_here {x : St} (h : x.ok) (out : Bool) : (x.here out).ok := by
  unfold St.here
  split
  · exact h
  · exact St.ok_turn (St.ok_setO h _) _
theorem St.ok_setA {x : St} (h : x.ok) {r : Al × Ck} (ha : r.1.ok) (hc : r.2.ok) : (x.setA r).ok := ⟨h.h, h.w, ha, h.leak, hc, h.S⟩
theorem St.ok_setJ {x : St} (h : x.ok) {r : Jm × Ck} (hc : r.2.ok) : (x.setJ r).ok := ⟨h.h, h.w, h.a, h.leak, hc, h.S⟩
theorem St.ok_setH {x : St} (h : x.ok) {o : Ho} (ho : o.ok) : (x.setH o).ok := ⟨ho, h.w, h.a, h.leak, h.c, h.S⟩
theorem St.ok_setW {x : St} (h : x.ok) {w : Wy} (hw : w.ok) : (x.setW w).ok := ⟨h.h, hw, h.a, h.leak, h.c, h.S⟩
theorem St.ok_order {x : St} (h : x.ok) (k : Int) (p : Oct) : (x.order k p).1.ok := by
  unfold St.order
  repeat' with_reducible refine ite_p (fun r : St × Int => r.1.ok) (fun _ => ?_) (fun _ => ?_)
  all_goals first
    | exact h
    | exact St.ok_begin h
    | exact St.ok_fail h _
    | exact St.ok_setA h (Al.ok_hurries h.a _ _ _) (Al.c_hurries h.c _ _ _)
    | exact St.ok_setH h (Ho.ok_put h.h _)
    | exact St.ok_here h _
    | exact St.ok_setH h (Ho.ok_flush h.h)
    | exact St.ok_resume (St.ok_setO h _)
    | exact St.ok_setJ h (Jm.c_begin h.c _ _)
    | exact St.ok_setJ (r := x.j.end x.c) h (Ck.ok_stop h.c _)
theorem St.ok_aligned {x : St} (h : x.ok) : x.aligned.ok := ⟨h.h, h.w, h.a, h.leak, Ck.ok_start h.c _ _, by simp only [St.aligned]; split <;> decide⟩
theorem St.ok_out {x : St} (h : x.ok) (i : Int) : (x.out i).ok := by
  have ha : ∀ i, (x.setA ((x.a.out x.c i).1, (x.a.out x.c i).2.1)).ok := fun i => St.ok_setA h (Al.ok_out h.a _ _) (Al.c_out h.c _ _)
  have hj : ∀ i, (x.setJ ((x.j.out x.s x.c i).1, (x.j.out x.s x.c i).2.1)).ok := fun i => St.ok_setJ h (Jm.c_out h.c _ _ _)
  unfold St.out
  repeat' split
  all_goals first
    | exact h
    | exact St.ok_aligned (ha _)
    | exact ha _
    | exact St.ok_fail (ha _) _
    | exact St.ok_fail h _
    | exact hj _
    | exact St.ok_fail (hj _) _
theorem St.ok_outs (l : List Int) : ∀ {x : St}, x.ok → (l.foldl St.out x).ok := by
  induction l with
  | nil => exact fun h => h
  | cons i l ih => exact fun h => ih (St.ok_out h i)
theorem St.ok_tick {x : St} (h : x.ok) : x.tick.ok := St.ok_outs _ ⟨h.h, h.w, h.a, h.leak, Ck.ok_tick h.c, h.S⟩
theorem St.ok_served {x : St} (h : x.ok) : x.served.ok := ⟨h.h, h.w, h.a, h.leak, Ck.ok_stop h.c _, by simp [St.served]⟩
theorem St.ok_serve {x : St} (h : x.ok) : x.serve.ok := by
  unfold St.serve
  split
  · exact St.ok_halt (St.ok_served h)
  · exact St.ok_served h
theorem St.ok_woken {x : St} (h : x.ok) : x.woken.ok := by
  unfold St.woken
  split
  · exact St.ok_serve h
  · exact h
theorem St.ok_count {x : St} (h : x.ok) (wrong : Bool) : (x.count wrong).ok := by
  unfold St.count
  split
  · exact h
  rename_i h0
  split
  · obtain ⟨u1, u2, u3⟩ := Al.unit_ok h.a x.s x.c wrong
    split
    · rename_i h2
      exact St.ok_setA h (u3 h2) (Al.c_unit h.c _ _ _)
    · exact St.fail_ok (x := x.setA ((x.a.unit x.s x.c wrong).1, (x.a.unit x.s x.c wrong).2.1)) h.h h.w u1 u2 h0 _
  · split
    · exact St.fail_ok (x := x.setL (x.leak.unit wrong)) h.h h.w h.a.n h.a.tries h0 _
    · rename_i hb
      exact ⟨h.h, h.w, h.a, Le.ok_unit h.leak _ (by simpa using hb), h.c, h.S⟩
theorem St.ok_remote {x : St} (h : x.ok) (out : Bool) : (x.remote out).ok := by
  have hw := St.ok_woken h
  unfold St.remote
  repeat' split
  all_goals first
    | exact St.ok_setO hw _
    | exact St.ok_halt (St.ok_tell (St.ok_setO hw _) _)
    | exact St.ok_tell (St.ok_setO hw _) _
    | exact St.ok_resume (St.ok_tell (St.ok_setO hw _) _)
theorem St.ok_status {x : St} (h : x.ok) (i : Int) : (x.status i).ok := by
  have ha : (x.setA ((x.a.heard x.s x.c i).1, (x.a.heard x.s x.c i).2.1)).ok := St.ok_setA h (Al.ok_heard h.a _ _ _) (Al.c_heard h.c _ _ _)
  have hj : ∀ b, (x.setJ ((x.j.heard x.s x.c b).1, (x.j.heard x.s x.c b).2.1)).ok := fun b => St.ok_setJ h (Jm.c_heard h.c _ _ _)
  unfold St.status
  repeat' split
  all_goals first
    | exact ha
    | exact St.ok_fail ha _
    | exact St.ok_fail h _
    | exact St.ok_remote h _
    | exact St.ok_tell (hj _) _
    | exact hj _
    | exact h
theorem St.ok_takes {x : St} (h : x.ok) (u : Un) : (x.takes u).ok := by
  have hw := St.ok_setW h (Wy.ok_take h.w u)
  unfold St.takes
  repeat' split
  all_goals first
    | exact h
    | exact St.ok_tell hw _
    | exact hw
    | exact St.ok_fail hw _
theorem St.ok_freed {x : St} (h : x.ok) (k : Int) : (x.freed k).ok := by
  unfold St.freed
  split
  · exact St.ok_wait h _
  · exact h
theorem St.ok_jammed {x : St} (h : x.ok) (k : Int) : (x.jammed k).ok := by
  unfold St.jammed
  split
  · exact St.ok_tell (St.ok_setJ h (Ck.ok_stop h.c _)) _
  · exact h
theorem St.ok_answered {x : St} (h : x.ok) (u : Un) : ((x.setH (x.w.answer x.h u).1).setW (x.w.answer x.h u).2.1).ok := by
  have ⟨a1, a2⟩ := Wy.ok_answer h.h h.w u
  exact St.ok_setW (St.ok_setH h a1) a2
theorem St.ok_answers {x : St} (h : x.ok) (u : Un) : (x.answers u).ok := by
  have h1 := St.ok_answered h u
  unfold St.answers
  split
  · exact St.ok_takes (St.ok_jammed (St.ok_freed h1 _) _) _
  · exact St.ok_fail h1 _
theorem St.ok_ordinary {x : St} (h : x.ok) (u : Un) : (x.ordinary u).ok := by
  unfold St.ordinary
  refine St.ok_answers ?_ u
  split
  · exact St.ok_remote (St.ok_woken h) _
  · exact St.ok_woken h
theorem St.ok_heard {x : St} (h : x.ok) (u : Un) : (x.heard u).ok := by
  unfold St.heard
  repeat' split
  all_goals first
    | exact h
    | exact St.ok_status h _
    | exact St.ok_ordinary h _
theorem St.ok_hear {x : St} (h : x.ok) (u : Un) : (x.hear u).ok := St.ok_heard (St.ok_count h _) u
theorem St.ok_next {x : St} (h : x.ok) : (x.next).1.ok := by
  have ⟨a1, a2⟩ := Wy.ok_next h.h h.w
  unfold St.next
  repeat' split
  all_goals first
    | exact h
    | exact ⟨h.h, h.w, h.a, h.leak, h.c, h.S⟩
    | exact St.ok_wait (St.ok_setW (St.ok_setH h a1) a2) _
/-! ### How much is told -/
def St.few (x : St) (n : Int) : Prop := (x.told.length : Int) ≤ n ∧ 0 ≤ x.fails ∧ x.fails ≤ n
theorem St.few.le {x : St} {n m : Int} (h : x.few n) (hm : n ≤ m) : x.few m := ⟨by have := h.1; omega, h.2.1, by have := h.2.2; omega⟩
theorem St.few_tell {x : St} {n : Int} (h : x.few n) (t : To) : (x.tell t).few (n + 1) := ⟨by have := h.1; simp [St.tell]; omega, h.2.1, by have := h.2.2; simp only [St.tell]; omega⟩
theorem St.few_fail {x : St} {n : Int} (h : x.few n) (why : Int) : (x.fail why).few (n + 1) := by
  unfold St.fail
  split
  · exact h.le (by omega)
  · exact ⟨by have := h.1; simp; omega, by have := h.2.1; dsimp only; omega, by have := h.2.2; dsimp only; omega⟩
theorem St.few_wait {x : St} {n : Int} (h : x.few n) (anew : Bool) : (x.wait anew).few n := by
  unfold St.wait
  repeat' split
  all_goals exact h
theorem St.few_resume {x : St} {n : Int} (h : x.few n) : x.resume.few n := by
  unfold St.resume
  split
  · exact St.few_wait (x := { x with S := 4 }) h false
  · exact h
theorem St.few_turn {x : St} {n : Int} (h : x.few n) (out : Bool) : (x.turn out).few n := by
  unfold St.turn
  repeat' split
  all_goals first | exact h | exact St.few_resume h
theorem St.few_here {x : St} {n : Int} (h : x.few n) (out : Bool) : (x.here out).few n := by
  unfold St.here
  split
  · exact h
  · exact St.few_turn (x := x.setO (x.o.local out)) h out
theorem St.few_order {x : St} {n : Int} (h : x.few n) (k : Int) (p : Oct) : (x.order k p).1.few (n + 1) := by
  have h1 : x.few (n + 1) := h.le (by omega)
  unfold St.order
  have h2 : (x.setO x.o.continue).few (n + 1) := h1
  repeat' with_reducible refine ite_p (fun r : St × Int => r.1.few (n + 1)) (fun _ => ?_) (fun _ => ?_)
  all_goals dsimp only
  all_goals first
    | (with_reducible exact h1)
    | (with_reducible exact St.few_fail h _)
    | (with_reducible exact St.few_here h1 _)
    | (with_reducible exact St.few_resume h2)
    | exact h1
theorem St.few_out {x : St} {n : Int} (h : x.few n) (i : Int) : (x.out i).few (n + 1) := by
  unfold St.out
  repeat' split
  all_goals first
    | exact h.le (by omega)
    | exact St.few_fail h _
    | exact St.few_fail (x := x.setA ((x.a.out x.c i).1, (x.a.out x.c i).2.1)) h _
    | exact St.few_fail (x := x.setJ ((x.j.out x.s x.c i).1, (x.j.out x.s x.c i).2.1)) h _
theorem St.few_outs (l : List Int) : ∀ {x : St} {n : Int}, x.few n → (l.foldl St.out x).few (n + l.length) := by
  induction l with
  | nil => exact fun h => by simpa using h
  | cons i l ih => exact fun h => (ih (St.few_out h i)).le (by simp; omega)
theorem Ck.rang_len (c : Ck) : c.rang.length ≤ 8 := by
  unfold Ck.rang
  simp only [List.length_append]
  have : ∀ (p : Prop) [Decidable p] (i : Int), (if p then [i] else []).length ≤ 1 := by intro p _ i; split <;> simp
  have h0 := this (c.c0 = 1) 0
  have h1 := this (c.c1 = 1) 1
  have h2 := this (c.c2 = 1) 2
  have h3 := this (c.c3 = 1) 3
  have h4 := this (c.c4 = 1) 4
  have h5 := this (c.c5 = 1) 5
  have h6 := this (c.c6 = 1) 6
  have h7 := this (c.c7 = 1) 7
  omega
theorem St.few_tick {x : St} {n : Int} (h : x.few n) : x.tick.few (n + 8) := by
  have h1 := St.few_outs x.c.rang (x := { x with c := x.c.tick }) (n := n) h
  have h2 := Ck.rang_len x.c
  exact h1.le (by omega)
theorem St.few_serve {x : St} {n : Int} (h : x.few n) : x.serve.few (n + 1) := by
  have : x.served.few (n + 1) := St.few_tell h ⟨1, 0, []⟩
  unfold St.serve
  split
  · exact this
  · exact this
theorem St.few_woken {x : St} {n : Int} (h : x.few n) : x.woken.few (n + 1) := by
  unfold St.woken
  split
  · exact St.few_serve h
  · exact h.le (by omega)
theorem St.few_count {x : St} {n : Int} (h : x.few n) (wrong : Bool) : (x.count wrong).few (n + 1) := by
  unfold St.count
  repeat' split
  all_goals first
    | exact h.le (by omega)
    | exact St.few_fail (x := x.setA ((x.a.unit x.s x.c wrong).1, (x.a.unit x.s x.c wrong).2.1)) h _
    | exact St.few_fail (x := x.setL (x.leak.unit wrong)) h _
theorem St.few_remote {x : St} {n : Int} (h : x.few n) (out : Bool) : (x.remote out).few (n + 2) := by
  have hw := St.few_woken h
  have ht : ∀ t, ((x.woken.setO (x.woken.o.remote out)).tell t).few (n + 2) := fun t => (St.few_tell (x := x.woken.setO (x.woken.o.remote out)) hw t).le (by omega)
  unfold St.remote
  repeat' split
  all_goals first
    | exact hw.le (by omega)
    | exact ht _
    | exact St.few_resume (ht _)
theorem St.few_status {x : St} {n : Int} (h : x.few n) (i : Int) : (x.status i).few (n + 2) := by
  unfold St.status
  repeat' split
  all_goals first
    | exact h.le (by omega)
    | exact (St.few_fail h _).le (by omega)
    | exact (St.few_fail (x := x.setA ((x.a.heard x.s x.c i).1, (x.a.heard x.s x.c i).2.1)) h _).le (by omega)
    | exact St.few_remote h _
    | exact (St.few_tell (x := x.setJ ((x.j.heard x.s x.c (decide (0 < x.h.sent.length))).1, (x.j.heard x.s x.c (decide (0 < x.h.sent.length))).2.1)) h _).le (by omega)
theorem St.few_takes {x : St} {n : Int} (h : x.few n) (u : Un) : (x.takes u).few (n + 1) := by
  unfold St.takes
  repeat' split
  all_goals first
    | exact h.le (by omega)
    | exact St.few_tell (x := x.setW (x.w.take u).1) h _
    | exact St.few_fail (x := x.setW (x.w.take u).1) h _
theorem St.few_freed {x : St} {n : Int} (h : x.few n) (k : Int) : (x.freed k).few n := by
  unfold St.freed
  split
  · exact St.few_wait h _
  · exact h
theorem St.few_jammed {x : St} {n : Int} (h : x.few n) (k : Int) : (x.jammed k).few (n + 1) := by
  unfold St.jammed
  split
  · exact St.few_tell (x := x.setJ (⟨x.j.own, false, x.j.due⟩, x.c.stop [6])) h _
  · exact h.le (by omega)
theorem St.few_answers {x : St} {n : Int} (h : x.few n) (u : Un) : (x.answers u).few (n + 2) := by
  have h1 : ((x.setH (x.w.answer x.h u).1).setW (x.w.answer x.h u).2.1).few n := h
  unfold St.answers
  split
  · exact (St.few_takes (St.few_jammed (St.few_freed h1 _) _) _).le (by omega)
  · exact (St.few_fail h1 _).le (by omega)
theorem St.few_ordinary {x : St} {n : Int} (h : x.few n) (u : Un) : (x.ordinary u).few (n + 5) := by
  unfold St.ordinary
  split
  · exact (St.few_answers (St.few_remote (St.few_woken h) _) _).le (by omega)
  · exact (St.few_answers (St.few_woken h) _).le (by omega)
theorem St.few_heard {x : St} {n : Int} (h : x.few n) (u : Un) : (x.heard u).few (n + 5) := by
  unfold St.heard
  repeat' split
  all_goals first
    | exact h.le (by omega)
    | exact (St.few_status h _).le (by omega)
    | exact St.few_ordinary h _
theorem St.few_hear {x : St} {n : Int} (h : x.few n) (u : Un) : (x.hear u).few (n + 6) := (St.few_heard (St.few_count h _) u).le (by omega)
theorem St.few_next {x : St} {n : Int} (h : x.few n) : (x.next).1.few n := by
  unfold St.next
  repeat' split
  all_goals first
    | exact h
    | exact St.few_wait (x := (x.setH (x.w.next x.h).1).setW (x.w.next x.h).2.1) h _
end
/-! ### A link as plain data: runs; the link of the laws of layer 17. -/
section
open Go Go.RowKit
def St.ticks (x : St) : Nat → St
  | 0 => x
  | n + 1 => (x.ticks n).tick
theorem St.ok_ticks {x : St} (h : x.ok) (n : Nat) : (x.ticks n).ok := by
  induction n with
  | zero => exact h
  | succ n ih => exact St.ok_tick ih
theorem St.few_ticks {x : St} {m : Int} (h : x.few m) (n : Nat) : (x.ticks n).few (m + 8 * n) := by
  induction n with
  | zero => exact h.le (by simp)
  | succ n ih => exact (St.few_tick ih).le (by omega)
theorem St.ticks_add (x : St) (m n : Nat) : x.ticks (m + n) = (x.ticks m).ticks n := by
  induction n with
  | zero => rfl
  | succ n ih => rw [← Nat.add_assoc]; show (x.ticks (m + n)).tick = _; rw [ih]; rfl
def St.hears (x : St) (u : Un) : Nat → St
  | 0 => x
  | n + 1 => (x.hears u n).hear u
abbrev unB (b : Int) : Un := ⟨b, 127, true, true, 0, 0, false, []⟩
def quickS (cyc : Bool) : Su := ⟨cyc, 8, 300, 16, 600, 5, 40, 60, 50, 10, 6, 30, 25⟩
abbrev lk (i : Int) : Un := ⟨127, 127, true, true, 1, i, false, []⟩
abbrev fl : Un := ⟨127, 127, true, true, 0, 0, false, []⟩
def born (cyc : Bool) : St := St.new (quickS cyc)
def serv (cyc : Bool) : St := (((((born cyc).order 1 []).1.hear (lk 0)).hear (lk 1)).ticks 10).hear fl
/-- A link that serves. -/
def served (cyc : Bool) : St := { serv cyc with told := [] }
theorem serv_told (cyc : Bool) : (serv cyc).told = [⟨1, 0, []⟩] := by cases cyc <;> kernel_rfl
theorem serv_S (cyc : Bool) : (serv cyc).S = 4 := by cases cyc <;> kernel_rfl
theorem served_S (cyc : Bool) : (served cyc).S = 4 := by cases cyc <;> kernel_rfl
theorem served_eq (cyc : Bool) : served cyc = ⟨quickS cyc, 4, Ck.none, ⟨0, false, false, ⟨false, 0, 0⟩⟩, ⟨false, false, false⟩, Ho.none 16 600, Wy.of (quickS cyc), ⟨false, false, false⟩, ⟨0, 0⟩, [], 0⟩ := by cases cyc <;> kernel_rfl
theorem born_ok (cyc : Bool) : (born cyc).ok := St.ok_new (by cases cyc <;> decide) (by cases cyc <;> decide) (by cases cyc <;> decide) (by cases cyc <;> decide)
theorem born_few (cyc : Bool) : (born cyc).few 0 := by cases cyc <;> exact ⟨by decide, by decide, by decide⟩
theorem served_ok (cyc : Bool) : (served cyc).ok := by
  have h : (serv cyc).ok := St.ok_hear (St.ok_ticks (St.ok_hear (St.ok_hear (St.ok_order (born_ok cyc) _ _) _) _) _) _
  unfold served
  generalize serv cyc = y at h ⊢
  exact ⟨h.h, h.w, h.a, h.leak, h.c, h.S⟩
theorem served_few (cyc : Bool) : (served cyc).few 0 := by rw [served_eq]; exact ⟨by simp, by simp, by simp⟩
theorem Un.ok_lk {i : Int} (h0 : 0 ≤ i) (h1 : i ≤ 255) : (lk i).ok := ⟨by simp, by simp, by simp, ⟨h0, h1⟩, by simp⟩
theorem Un.ok_fl : fl.ok := ⟨by decide, by decide, by decide, by decide, by decide⟩
end
end Go.Proofs.YtcllbmjmefeknaaGreatK
