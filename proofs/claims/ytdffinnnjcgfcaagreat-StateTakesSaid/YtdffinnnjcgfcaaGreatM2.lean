/- A link as plain data, continued: how it comes into line. -/
import Derived.Test.YtdffinnnjcgfcaaGreatM
namespace Go.Proofs.YtdffinnnjcgfcaaGreatK
open Go Go.RowKit
/-! ### A link comes into line -/
structure Al where
  st : Int
  own : Bool
  their : Bool
  p : Pf
  deriving DecidableEq
def Al.hurry (a : Al) : Bool := a.own || a.their
def Al.begin (s : Su) (a : Al) (c : Ck) : Al × Ck := (⟨1, a.own, false, ⟨false, 0, 0⟩⟩, (c.stop [0, 3, 4]).start 2 s.t2)
def Al.end (a : Al) (c : Ck) : Al × Ck := (⟨0, a.own, false, a.p⟩, c.stop [0, 2, 3, 4])
def Al.prove (s : Su) (a : Al) (c : Ck) : Al × Ck :=
  (⟨3, a.own, a.their, ⟨a.hurry, 0, a.p.tries⟩⟩, if a.hurry then (c.stop [0, 2, 3, 4]).start 0 s.t0 else (c.stop [0, 2, 3, 4]).start 4 s.t4)
def Al.near (s : Su) (a : Al) (c : Ck) : Al × Ck := (⟨2, a.own, a.their, a.p⟩, (c.stop [0, 2, 4]).start 3 s.t3)
def Al.hurries (s : Su) (a : Al) (c : Ck) (on : Bool) : Al × Ck := if a.st = 3 ∧ a.hurry = false ∧ on = true then Al.prove s ⟨a.st, on, a.their, a.p⟩ c else (⟨a.st, on, a.their, a.p⟩, c)
def Al.heard (s : Su) (a : Al) (c : Ck) (x : Int) : Al × Ck × Int :=
  if a.st = 0 then (a, c, 0) else
  let a1 : Al := if x = 2 then ⟨a.st, a.own, true, a.p⟩ else a
  if x = 3 ∧ a.st ≠ 1 then (a1, c, 8)
  else if a.st = 1 ∧ (x = 1 ∨ x = 2 ∨ x = 0) then ((a1.near s c).1, (a1.near s c).2, 0)
  else if a.st = 2 ∧ (x = 1 ∨ x = 2) then ((Al.prove s ⟨a1.st, a1.own, a1.their, ⟨false, 0, 0⟩⟩ c).1, (Al.prove s ⟨a1.st, a1.own, a1.their, ⟨false, 0, 0⟩⟩ c).2, 0)
  else if a.st = 3 ∧ x = 0 then ((a1.near s c).1, (a1.near s c).2, 0)
  else if a.st = 3 ∧ a.hurry = false ∧ a1.hurry = true then ((a1.prove s c).1, (a1.prove s c).2, 0)
  else (a1, c, 0)
def Al.unit (s : Su) (a : Al) (c : Ck) (wrong : Bool) : Al × Ck × Int :=
  if a.st = 3 then
    let a1 : Al := ⟨a.st, a.own, a.their, a.p.unit wrong⟩
    if a.p.over wrong then (a1, c, 5) else if a.p.anew wrong then ((a1.prove s c).1, (a1.prove s c).2, 0) else (a1, c, 0)
  else (a, c, 0)
def Al.out (a : Al) (c : Ck) (i : Int) : Al × Ck × Bool × Int :=
  if (i = 2 ∧ a.st = 1) ∨ (i = 3 ∧ a.st = 2) then (a, c, false, 7)
  else if (i = 4 ∨ i = 0) ∧ a.st = 3 then ((a.end c).1, (a.end c).2, true, 0)
  else (a, c, false, 0)
def Al.sends (a : Al) : Int := if a.st = 0 then 3 else if a.st = 1 then 0 else if a.own then 2 else 1
end Go.Proofs.YtdffinnnjcgfcaaGreatK
