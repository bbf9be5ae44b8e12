/- A link as plain data, continued: units, and the two methods. -/
import Derived.Test.YtdffinnnjcgfcaaGreatM3
namespace Go.Proofs.YtdffinnnjcgfcaaGreatK
open Go Go.RowKit
structure Un where
  bsn : Int
  fsn : Int
  bib : Bool
  fib : Bool
  kind : Int
  status : Int
  wide : Bool
  info : Oct
  deriving DecidableEq
structure Un.ok (u : Un) : Prop where
  bsn : 0 ≤ u.bsn ∧ u.bsn ≤ 255
  fsn : 0 ≤ u.fsn ∧ u.fsn ≤ 255
  kind : 0 ≤ u.kind ∧ u.kind ≤ 255
  status : 0 ≤ u.status ∧ u.status ≤ 255
  info : u.info.length ≤ 1000
def Un.nil : Un := ⟨0, 0, false, false, 0, 0, false, []⟩
/-! ### The basic method -/
structure Bs where
  fib : Bool
  bib : Bool
  last : Int
  asked : Bool
  again : Int
  b0 : Bool
  b1 : Bool
  i0 : Bool
  i1 : Bool
  deriving DecidableEq
structure Bs.ok (x : Bs) : Prop where
  last : 0 ≤ x.last ∧ x.last ≤ 127
  again : -1 ≤ x.again ∧ x.again ≤ 127
def Bs.zero : Bs := ⟨true, true, 127, false, -1, false, false, false, false⟩
def Bs.head (x : Bs) (n : Int) : Un := ⟨x.last, n, x.bib, x.fib, 0, 0, false, []⟩
def Bs.msg (x : Bs) (n : Int) (p : Oct) : Un := ⟨x.last, n, x.bib, x.fib, 2, 0, false, p⟩
def Bs.new (h : Ho) (x : Bs) : Ho × Bs × Un := if h.send.2.2.2 = 0 then (h.send.1, x, x.msg h.send.2.1 h.send.2.2.1) else (h.send.1, x, x.head h.send.1.last)
def Bs.next (h : Ho) (x : Bs) : Ho × Bs × Un :=
  if 0 ≤ x.again then
    if (h.at x.again).2.2 = 0 then (h, { x with again := if (h.sent.length : Int) ≤ x.again + 1 then -1 else x.again + 1 }, x.msg (h.at x.again).1 (h.at x.again).2.1)
    else Bs.new h { x with again := -1 }
  else Bs.new h x
def Bs.see (x : Bs) (odd : Bool) : Bs := { x with b0 := x.b1, b1 := odd }
def Bs.sei (x : Bs) (odd : Bool) : Bs := { x with i0 := x.i1, i1 := odd }
def Bs.back (x : Bs) (k : Int) : Bs := if 0 ≤ x.again then { x with again := max 0 (x.again - k) } else x
def Bs.over (x : Bs) (n : Int) : Bs := if n ≤ x.again then { x with again := -1 } else x
def Bs.turn (x : Bs) (bib : Bool) (n : Int) : Bs := if bib = x.fib then x else { x with fib := bib, again := if 0 < n then 0 else -1 }
def Bs.answer (h : Ho) (x : Bs) (u : Un) : Ho × Bs × Int × Int :=
  if h.knows u.bsn then ((h.free u.bsn).1, (((x.see false).back (h.free u.bsn).2.1).over (h.free u.bsn).1.sent.length).turn u.bib (h.free u.bsn).1.sent.length, (h.free u.bsn).2.1, 0)
  else if x.b0 || x.b1 then (h, x.see true, 0, 10) else (h, x.see true, 0, 0)
def Bs.take (x : Bs) (u : Un) : Bs × Oct × Bool × Int :=
  if u.fib = x.bib then
    if u.kind = 2 ∧ u.fsn = (x.last + 1) % 128 then ({ x.sei false with last := (x.last + 1) % 128, asked := false }, u.info, true, 0)
    else if u.fsn = x.last then ({ x.sei false with asked := false }, [], false, 0)
    else ({ x.sei false with bib := !x.bib, asked := true }, [], false, 0)
  else if !x.asked && (x.i0 || x.i1) then (x.sei (!x.asked), [], false, 10) else (x.sei (!x.asked), [], false, 0)
/-! ### The cyclic method -/
structure Cy where
  n1 : Int
  n2 : Int
  last : Int
  at_ : Int
  force : Bool
  b0 : Bool
  b1 : Bool
  deriving DecidableEq
structure Cy.ok (x : Cy) : Prop where
  n1 : 1 ≤ x.n1 ∧ x.n1 ≤ 1000000
  n2 : 1 ≤ x.n2 ∧ x.n2 ≤ 10000000
  last : 0 ≤ x.last ∧ x.last ≤ 255
  at_ : 0 ≤ x.at_ ∧ x.at_ ≤ 127
def Cy.zero (n1 n2 : Int) : Cy := ⟨max n1 1, max n2 1, 127, 0, false, false, false⟩
def Cy.head (x : Cy) (n : Int) : Un := ⟨x.last, n, true, true, 0, 0, false, []⟩
def Cy.msg (x : Cy) (n : Int) (p : Oct) : Un := ⟨x.last, n, true, true, 2, 0, false, p⟩
def Cy.fits (h : Ho) (x : Cy) : Bool := decide (h.sent.length = 0) || decide ((h.sent.length : Int) < x.n1) && decide ((octs h.sent : Int) + h.size ≤ x.n2)
def Cy.must (h : Ho) (x : Cy) : Bool := decide (0 < h.next.length) && !Cy.fits h x
def Cy.wind (h : Ho) (x : Cy) : Cy := if (h.sent.length : Int) ≤ x.at_ then { x with at_ := 0, force := Cy.must h x } else x
def Cy.old (h : Ho) (x : Cy) : Ho × Cy × Un :=
  if (h.at (x.wind h).at_).2.2 = 0 then (h, { x.wind h with at_ := (x.wind h).at_ + 1 }, x.msg (h.at (x.wind h).at_).1 (h.at (x.wind h).at_).2.1) else (h, x.wind h, x.head h.last)
def Cy.push (h : Ho) (x : Cy) : Cy := if Cy.must h x then { x with force := true } else x
def Cy.next (h : Ho) (x : Cy) : Ho × Cy × Un :=
  if (x.push h).force = false ∧ h.send.2.2.2 = 0 then (h.send.1, x.push h, x.msg h.send.2.1 h.send.2.2.1) else (x.push h).old h
def Cy.see (x : Cy) (odd : Bool) : Cy := { x with b0 := x.b1, b1 := odd }
def Cy.answer (h : Ho) (x : Cy) (u : Un) : Ho × Cy × Int × Int :=
  if h.knows u.bsn then ((h.free u.bsn).1, { x.see false with at_ := max 0 (x.at_ - (h.free u.bsn).2.1) }, (h.free u.bsn).2.1, 0)
  else if x.b0 || x.b1 then (h, x.see true, 0, 10) else (h, x.see true, 0, 0)
def Cy.take (x : Cy) (u : Un) : Cy × Oct × Bool × Int :=
  if u.kind = 2 ∧ u.fsn = (x.last + 1) % 128 then ({ x with last := u.fsn }, u.info, true, 0) else (x, [], false, 0)
def Cy.reset (x : Cy) : Cy := ⟨x.n1, x.n2, 127, 0, false, false, false⟩
end Go.Proofs.YtdffinnnjcgfcaaGreatK
