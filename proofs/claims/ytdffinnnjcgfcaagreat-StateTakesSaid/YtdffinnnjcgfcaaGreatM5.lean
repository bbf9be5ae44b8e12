/- A link as plain data, the last: its method, its states. -/
import Derived.Test.YtdffinnnjcgfcaaGreatM4
namespace Go.Proofs.YtdffinnnjcgfcaaGreatK
open Go Go.RowKit
/-! ### Either method -/
inductive Wy where
  | bs (x : Bs)
  | cy (x : Cy)
  deriving DecidableEq
def Wy.ok : Wy → Prop
  | .bs x => x.ok
  | .cy x => x.ok
def Wy.last : Wy → Int
  | .bs x => x.last
  | .cy x => x.last
def Wy.head (n : Int) : Wy → Un
  | .bs x => x.head n
  | .cy x => x.head n
def Wy.next (h : Ho) : Wy → Ho × Wy × Un
  | .bs x => ((Bs.next h x).1, .bs (Bs.next h x).2.1, (Bs.next h x).2.2)
  | .cy x => ((Cy.next h x).1, .cy (Cy.next h x).2.1, (Cy.next h x).2.2)
def Wy.answer (h : Ho) (u : Un) : Wy → Ho × Wy × Int × Int
  | .bs x => ((Bs.answer h x u).1, .bs (Bs.answer h x u).2.1, (Bs.answer h x u).2.2.1, (Bs.answer h x u).2.2.2)
  | .cy x => ((Cy.answer h x u).1, .cy (Cy.answer h x u).2.1, (Cy.answer h x u).2.2.1, (Cy.answer h x u).2.2.2)
def Wy.take (u : Un) : Wy → Wy × Oct × Bool × Int
  | .bs x => (.bs (x.take u).1, (x.take u).2.1, (x.take u).2.2.1, (x.take u).2.2.2)
  | .cy x => (.cy (x.take u).1, (x.take u).2.1, (x.take u).2.2.1, (x.take u).2.2.2)
def Wy.reset : Wy → Wy
  | .bs _ => .bs Bs.zero
  | .cy x => .cy x.reset
def Wy.of (s : Su) : Wy := if s.cyc then .cy (Cy.zero s.n1 s.n2) else .bs Bs.zero
/-! ### A link -/
structure To where
  kind : Int
  why : Int
  p : Oct
  deriving DecidableEq
structure St where
  s : Su
  S : Int
  c : Ck
  a : Al
  j : Jm
  h : Ho
  w : Wy
  o : Oa
  leak : Le
  told : List To
  fails : Int
  deriving DecidableEq
def St.new (s : Su) : St := ⟨s, 0, Ck.none, ⟨0, false, false, ⟨false, 0, 0⟩⟩, ⟨false, false, false⟩, Ho.none s.hd s.oc, Wy.of s, ⟨false, false, false⟩, ⟨0, 0⟩, [], 0⟩
def St.tell (x : St) (t : To) : St := { x with told := x.told ++ [t] }
def St.fail (x : St) (why : Int) : St :=
  if x.S = 0 then x else
  { x with S := 0, c := Ck.none, a := (x.a.end x.c).1, j := ⟨false, false, false⟩, o := ⟨x.o.own, false, false⟩, leak := ⟨0, 0⟩, told := x.told ++ [⟨2, why, []⟩], fails := x.fails + 1 }
def St.begin (x : St) : St :=
  { x with w := x.w.reset, h := x.h.clear, S := 1, leak := ⟨0, 0⟩, o := ⟨x.o.own, false, false⟩, a := (x.a.begin x.s x.c).1, c := (x.a.begin x.s x.c).2 }
def St.halt (x : St) : St := { x with S := 5, j := ⟨false, false, false⟩, c := (x.c.stop [5, 6]).stop [7] }
def St.wait (x : St) (anew : Bool) : St :=
  if x.h.sent.length = 0 then { x with c := x.c.stop [7] }
  else if (anew || !decide (0 < x.c.get 7)) = true then { x with c := x.c.start 7 x.s.t7 } else x
def St.resume (x : St) : St := if x.S = 5 ∧ x.o.is = false then ({ x with S := 4 } : St).wait false else x
def St.setO (x : St) (o : Oa) : St := { x with o := o }
def St.turn (x : St) (out : Bool) : St :=
  if x.S = 4 ∧ out = true then x.halt else if x.S = 5 then x.resume
  else if x.S = 2 ∧ out = true then { x with S := 3 } else if x.S = 3 ∧ out = false then { x with S := 2 } else x
def St.here (x : St) (out : Bool) : St := if x.o.own = out then x else (x.setO (x.o.local out)).turn out
def St.serves (x : St) : Bool := decide (x.S = 4) || decide (x.S = 5)
def St.setA (x : St) (r : Al × Ck) : St := { x with a := r.1, c := r.2 }
def St.setJ (x : St) (r : Jm × Ck) : St := { x with j := r.1, c := r.2 }
def St.setH (x : St) (h : Ho) : St := { x with h := h }
def St.order (x : St) (k : Int) (p : Oct) : St × Int :=
  if k = 1 then (if x.S = 0 then (x.begin, 0) else (x, 9))
  else if k = 2 then (if x.S = 0 then (x, 9) else (x.fail 10, 0))
  else if k = 3 then (x.setA (x.a.hurries x.s x.c true), 0)
  else if k = 4 then (x.setA (x.a.hurries x.s x.c false), 0)
  else if k = 5 then (if x.serves then (x.setH (x.h.put p).1, (x.h.put p).2) else (x, 12))
  else if k = 6 then (x.here true, 0)
  else if k = 7 then (x.here false, 0)
  else if k = 8 then (x.setH x.h.flush, 0)
  else if k = 9 then (if x.o.goes then ((x.setO x.o.continue).resume, 0) else (x, 9))
  else if k = 10 then (if x.serves then (x.setJ (x.j.begin x.s x.c), 0) else (x, 9))
  else if k = 11 then (if x.serves then (x.setJ (x.j.end x.c), 0) else (x, 9))
  else (x, 1)
def St.aligned (x : St) : St := { x with S := if x.o.own then 3 else 2, c := x.c.start 1 x.s.t1 }
def St.out (x : St) (i : Int) : St :=
  if x.S = 0 then x
  else if x.S = 1 then
    if (x.a.out x.c i).2.2.2 = 0 then
      if (x.a.out x.c i).2.2.1 then (x.setA ((x.a.out x.c i).1, (x.a.out x.c i).2.1)).aligned else x.setA ((x.a.out x.c i).1, (x.a.out x.c i).2.1)
    else (x.setA ((x.a.out x.c i).1, (x.a.out x.c i).2.1)).fail (x.a.out x.c i).2.2.2
  else if i = 1 ∧ (x.S = 2 ∨ x.S = 3) then x.fail 6
  else if i = 7 ∧ x.S = 4 then x.fail 2
  else if (x.j.out x.s x.c i).2.2 = 0 then x.setJ ((x.j.out x.s x.c i).1, (x.j.out x.s x.c i).2.1)
  else (x.setJ ((x.j.out x.s x.c i).1, (x.j.out x.s x.c i).2.1)).fail (x.j.out x.s x.c i).2.2
def St.tick (x : St) : St := x.c.rang.foldl St.out { x with c := x.c.tick }
def St.served (x : St) : St := { x with c := x.c.stop [1], S := 4, told := x.told ++ [⟨1, 0, []⟩] }
def St.serve (x : St) : St := if x.o.is then x.served.halt else x.served
def St.setL (x : St) (l : Le) : St := { x with leak := l }
def St.count (x : St) (wrong : Bool) : St :=
  if x.S = 0 then x
  else if x.S = 1 then
    if (x.a.unit x.s x.c wrong).2.2 = 0 then x.setA ((x.a.unit x.s x.c wrong).1, (x.a.unit x.s x.c wrong).2.1)
    else (x.setA ((x.a.unit x.s x.c wrong).1, (x.a.unit x.s x.c wrong).2.1)).fail (x.a.unit x.s x.c wrong).2.2
  else if x.leak.bad wrong then (x.setL (x.leak.unit wrong)).fail 1 else x.setL (x.leak.unit wrong)
def St.woken (x : St) : St := if x.S = 2 ∨ x.S = 3 then x.serve else x
def St.remote (x : St) (out : Bool) : St :=
  if x.woken.o.their = out then x.woken.setO (x.woken.o.remote out)
  else if out = true then
    if x.woken.S = 4 then ((x.woken.setO (x.woken.o.remote out)).tell ⟨4, 0, []⟩).halt else (x.woken.setO (x.woken.o.remote out)).tell ⟨4, 0, []⟩
  else ((x.woken.setO (x.woken.o.remote out)).tell ⟨5, 0, []⟩).resume
def St.status (x : St) (i : Int) : St :=
  if x.S = 1 then
    if (x.a.heard x.s x.c i).2.2 = 0 then x.setA ((x.a.heard x.s x.c i).1, (x.a.heard x.s x.c i).2.1)
    else (x.setA ((x.a.heard x.s x.c i).1, (x.a.heard x.s x.c i).2.1)).fail (x.a.heard x.s x.c i).2.2
  else if i = 3 then x.fail 8
  else if i = 0 ∨ (4 ≤ x.S ∧ (i = 1 ∨ i = 2)) then x.fail 9
  else if i = 4 then x.remote true
  else if i = 5 ∧ x.S = 4 then
    if (x.j.heard x.s x.c (decide (0 < x.h.sent.length))).2.2 then (x.setJ ((x.j.heard x.s x.c (decide (0 < x.h.sent.length))).1, (x.j.heard x.s x.c (decide (0 < x.h.sent.length))).2.1)).tell ⟨6, 0, []⟩
    else x.setJ ((x.j.heard x.s x.c (decide (0 < x.h.sent.length))).1, (x.j.heard x.s x.c (decide (0 < x.h.sent.length))).2.1)
  else x
def St.setW (x : St) (w : Wy) : St := { x with w := w }
/-- A unit is taken. -/
def St.takes (x : St) (u : Un) : St :=
  if (x.o.own || x.j.own) = true then x
  else if (x.w.take u).2.2.2 = 0 then
    if (x.w.take u).2.2.1 then (x.setW (x.w.take u).1).tell ⟨3, 0, (x.w.take u).2.1⟩ else x.setW (x.w.take u).1
  else (x.setW (x.w.take u).1).fail 4
/-- So many messages are answered. -/
def St.freed (x : St) (k : Int) : St := if 0 < k ∧ x.S = 4 then x.wait true else x
def St.jammed (x : St) (k : Int) : St := if x.j.their = true ∧ (0 < k ∨ x.h.sent.length = 0) then (x.setJ (⟨x.j.own, false, x.j.due⟩, x.c.stop [6])).tell ⟨7, 0, []⟩ else x
def St.answers (x : St) (u : Un) : St :=
  if (x.w.answer x.h u).2.2.2 = 0 then
    (((((x.setH (x.w.answer x.h u).1).setW (x.w.answer x.h u).2.1).freed (x.w.answer x.h u).2.2.1)).jammed (x.w.answer x.h u).2.2.1).takes u
  else ((x.setH (x.w.answer x.h u).1).setW (x.w.answer x.h u).2.1).fail 4
def St.ordinary (x : St) (u : Un) : St := (if x.woken.o.their then x.woken.remote false else x.woken).answers u
def St.heard (x : St) (u : Un) : St := if x.S = 0 then x else if u.kind = 1 then x.status u.status else if x.S = 1 then x else x.ordinary u
def St.hear (x : St) (u : Un) : St := (x.count false).heard u
def St.fill (x : St) : Un := x.w.head x.h.last
def St.stat (x : St) (i : Int) : Un := { x.fill with kind := 1, status := i }
def St.next (x : St) : St × Un :=
  if x.S = 0 ∨ x.S = 1 then (x, x.stat x.a.sends)
  else if x.S = 2 then (x, x.fill)
  else if x.S = 4 then
    if x.j.due then ({ x with j := x.j.told }, x.stat 5)
    else (((x.setH (x.w.next x.h).1).setW (x.w.next x.h).2.1).wait false, (x.w.next x.h).2.2)
  else if x.o.own then (x, x.stat 4) else (x, x.fill)
end Go.Proofs.YtdffinnnjcgfcaaGreatK
