/- A link as plain data: what each part of it does. No program, no memory. -/
import Derived.Below
namespace Go.Proofs.YtdffinnnjcgfcaaGreatK
open Go Go.RowKit
/-! ### Setups and clocks -/
structure Su where
  cyc : Bool
  n1 : Int
  n2 : Int
  hd : Int
  oc : Int
  t0 : Int
  t1 : Int
  t2 : Int
  t3 : Int
  t4 : Int
  t5 : Int
  t6 : Int
  t7 : Int
  deriving DecidableEq
structure Ck where
  c0 : Int
  c1 : Int
  c2 : Int
  c3 : Int
  c4 : Int
  c5 : Int
  c6 : Int
  c7 : Int
  deriving DecidableEq
def Ck.none : Ck := ⟨0, 0, 0, 0, 0, 0, 0, 0⟩
def Ck.get (c : Ck) (i : Int) : Int := if i = 0 then c.c0 else if i = 1 then c.c1 else if i = 2 then c.c2 else if i = 3 then c.c3 else if i = 4 then c.c4 else if i = 5 then c.c5 else if i = 6 then c.c6 else if i = 7 then c.c7 else 0
def Ck.put (c : Ck) (i v : Int) : Ck :=
  if i = 0 then { c with c0 := v } else if i = 1 then { c with c1 := v } else if i = 2 then { c with c2 := v } else if i = 3 then { c with c3 := v }
  else if i = 4 then { c with c4 := v } else if i = 5 then { c with c5 := v } else if i = 6 then { c with c6 := v } else if i = 7 then { c with c7 := v } else c
/-- A timer is started: none, if it is no timer or the ticks are out of bounds. -/
def Ck.start (c : Ck) (i n : Int) : Ck := if 1 ≤ n ∧ n ≤ 4294967296 then c.put i n else c
def Ck.stop (c : Ck) (l : List Int) : Ck := l.foldl (fun c i => c.put i 0) c
def dn (x : Int) : Int := if 0 < x then x - 1 else x
def Ck.tick (c : Ck) : Ck := ⟨dn c.c0, dn c.c1, dn c.c2, dn c.c3, dn c.c4, dn c.c5, dn c.c6, dn c.c7⟩
def Ck.rang (c : Ck) : List Int :=
  (if c.c0 = 1 then [0] else []) ++ (if c.c1 = 1 then [1] else []) ++ (if c.c2 = 1 then [2] else []) ++ (if c.c3 = 1 then [3] else []) ++
  (if c.c4 = 1 then [4] else []) ++ (if c.c5 = 1 then [5] else []) ++ (if c.c6 = 1 then [6] else []) ++ (if c.c7 = 1 then [7] else [])
/-- All of a clock's numbers are of those that may be. -/
def Ck.ok (c : Ck) : Prop := (0 ≤ c.c0 ∧ c.c0 ≤ 4294967296) ∧ (0 ≤ c.c1 ∧ c.c1 ≤ 4294967296) ∧ (0 ≤ c.c2 ∧ c.c2 ≤ 4294967296) ∧ (0 ≤ c.c3 ∧ c.c3 ≤ 4294967296) ∧
  (0 ≤ c.c4 ∧ c.c4 ≤ 4294967296) ∧ (0 ≤ c.c5 ∧ c.c5 ≤ 4294967296) ∧ (0 ≤ c.c6 ∧ c.c6 ≤ 4294967296) ∧ (0 ≤ c.c7 ∧ c.c7 ≤ 4294967296)
theorem Ck.ok_put {c : Ck} (h : c.ok) (i : Int) {v : Int} (h0 : 0 ≤ v) (h1 : v ≤ 4294967296) : (c.put i v).ok := by
  unfold Ck.ok at *
  unfold Ck.put
  repeat' split
  all_goals first | omega | (dsimp only; omega)
theorem Ck.ok_start {c : Ck} (h : c.ok) (i n : Int) : (c.start i n).ok := by
  unfold Ck.start
  split
  · exact Ck.ok_put h i (by omega) (by omega)
  · exact h
theorem Ck.ok_stop {c : Ck} (h : c.ok) (l : List Int) : (c.stop l).ok := by
  unfold Ck.stop
  induction l generalizing c with
  | nil => exact h
  | cons a l ih => exact ih (Ck.ok_put h a (by omega) (by omega))
theorem dn_ok {x : Int} (h0 : 0 ≤ x) (h1 : x ≤ 4294967296) : 0 ≤ dn x ∧ dn x ≤ 4294967296 := by unfold dn; split <;> omega
theorem Ck.ok_tick {c : Ck} (h : c.ok) : c.tick.ok := by
  obtain ⟨h0, h1, h2, h3, h4, h5, h6, h7⟩ := h
  exact ⟨dn_ok h0.1 h0.2, dn_ok h1.1 h1.2, dn_ok h2.1 h2.2, dn_ok h3.1 h3.2, dn_ok h4.1 h4.2, dn_ok h5.1 h5.2, dn_ok h6.1 h6.2, dn_ok h7.1 h7.2⟩
theorem Ck.ok_none : Ck.none.ok := by unfold Ck.ok Ck.none; decide
/-! ### Whose processors are out; units that aren't right -/
structure Oa where
  own : Bool
  their : Bool
  wait : Bool
  deriving DecidableEq
def Oa.is (o : Oa) : Bool := o.own || o.their || o.wait
def Oa.local (o : Oa) (out : Bool) : Oa := { o with own := out }
def Oa.remote (o : Oa) (out : Bool) : Oa := ⟨o.own, out, o.wait || out⟩
def Oa.news (o : Oa) (out : Bool) : Bool := o.their != out
def Oa.goes (o : Oa) : Bool := !(o.own || o.their)
def Oa.continue (o : Oa) : Oa := if o.own || o.their then o else { o with wait := false }
structure Le where
  n : Int
  seen : Int
  deriving DecidableEq
def Le.ok (l : Le) : Prop := 0 ≤ l.n ∧ l.n ≤ 64 ∧ 0 ≤ l.seen ∧ l.seen ≤ 255
def Le.age (l : Le) : Le := if 0 < l.n then (if 255 ≤ l.seen then ⟨l.n - 1, 0⟩ else ⟨l.n, l.seen + 1⟩) else l
def Le.unit (l : Le) (wrong : Bool) : Le := if wrong then ⟨l.age.n + 1, if l.age.n = 0 then 0 else l.age.seen⟩ else l.age
def Le.bad (l : Le) (wrong : Bool) : Bool := decide (64 ≤ (l.unit wrong).n)
structure Pf where
  hurry : Bool
  n : Int
  tries : Int
  deriving DecidableEq
def Pf.ok (p : Pf) : Prop := 0 ≤ p.n ∧ p.n ≤ 10 ∧ 0 ≤ p.tries ∧ p.tries ≤ 10
def Pf.most (p : Pf) : Int := if p.hurry then 1 else 4
def Pf.seen (p : Pf) (wrong : Bool) : Int := if wrong then p.n + 1 else p.n
def Pf.anew (p : Pf) (wrong : Bool) : Bool := decide (p.most ≤ p.seen wrong)
def Pf.unit (p : Pf) (wrong : Bool) : Pf := if p.anew wrong then ⟨p.hurry, 0, p.tries + 1⟩ else ⟨p.hurry, p.seen wrong, p.tries⟩
def Pf.over (p : Pf) (wrong : Bool) : Bool := p.anew wrong && decide (5 ≤ p.tries + 1)
/-! ### Who is busy -/
structure Jm where
  own : Bool
  their : Bool
  due : Bool
  deriving DecidableEq
def Su.T (s : Su) (i : Int) : Int := if i = 0 then s.t0 else if i = 1 then s.t1 else if i = 2 then s.t2 else if i = 3 then s.t3 else if i = 4 then s.t4 else if i = 5 then s.t5 else if i = 6 then s.t6 else s.t7
def Jm.begin (s : Su) (j : Jm) (c : Ck) : Jm × Ck := if j.own then (j, c) else (⟨true, j.their, true⟩, c.start 5 s.t5)
def Jm.end (j : Jm) (c : Ck) : Jm × Ck := (⟨false, j.their, false⟩, c.stop [5])
def Jm.told (j : Jm) : Jm := ⟨j.own, j.their, false⟩
def Jm.heard (s : Su) (j : Jm) (c : Ck) (waits : Bool) : Jm × Ck × Bool :=
  let c1 := if waits then c.start 7 s.t7 else c
  if j.their then (j, c1, false) else (⟨j.own, true, j.due⟩, c1.start 6 s.t6, true)
def Jm.answer (j : Jm) (c : Ck) : Jm × Ck × Bool := if j.their then (⟨j.own, false, j.due⟩, c.stop [6], true) else (j, c, false)
def Jm.out (s : Su) (j : Jm) (c : Ck) (i : Int) : Jm × Ck × Int :=
  if i = 5 ∧ j.own = true then (⟨j.own, j.their, true⟩, c.start 5 s.t5, 0) else if i = 6 ∧ j.their = true then (j, c, 3) else (j, c, 0)
def Jm.clear (_j : Jm) (c : Ck) : Jm × Ck := (⟨false, false, false⟩, c.stop [5, 6])
end Go.Proofs.YtdffinnnjcgfcaaGreatK
