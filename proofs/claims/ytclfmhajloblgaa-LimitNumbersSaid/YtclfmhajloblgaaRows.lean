/-
  No cell of these rows narrows 'for every input' (looked for: loops, veiled, ifaces, maps, wideKeys, modest, calm, conditions, laid).
  DERIVED. THE GIVEN ROWS OF THIS SEAT. 3 by the template 'for every input the law returns true; each argument reads behind the call as it read before'; 0 by the template 'total and deterministic' (their statements: YtclfmhajloblgaaTotals.lean).
  GIVEN WITH THE SEED: the statements are not yours to turn. If you find one false, say at which input.
  Laid BY PROGRAM, IN A SANDBOX (cutbox-rows.mjs): the forced cells as the released guide's own fill.sh prints them over the translation 27c3074989dfc986… (all of the seat's roots in one cut). By AI agents, Wed Nov 11 2026. No macro, syntax, notation, axiom, sorry.
-/
import Derived.Test.YtclfmhajloblgaaChecked
import GoSem.Claim
import GoSem.ClaimJoined
import GoSem.ClaimMapViews
import Derived.JoinedTies
import Derived.KernelRfl
namespace Go.Proofs.Ytclfmhajloblgaa
/- THE CELL 'sum', in the pinned program and in every row, IS THE sha256 OF THE DUMP (.gsa) THAT YtclfmhajloblgaaProg.lean LOADS. Nothing in Lean hashes anything: it is a label: what it is worth is what the hold of that sum in a sandbox is worth. -/
noncomputable def Try.pinned : Pinned := { name := "ytclfmhajloblgaa", sum := "27c3074989dfc986e6137c70ab46ff23d1c20fd6b83b2ecd11c30a067fa214e1", checked := Try.checked }
namespace Rows
def none {H : Type} : Left H := { results := [], args := [] }

/-- 'signalmanlaw22.LimitFits': WHATEVER THE INPUT: true; the input reads as it did. -/
def limitFitsSpec : ChangeSpec := { name := "limitFits", fn := fun _ => fun
  | [d1, d2, d3, d4] => { results := [.lit (.bool true)], args := [d1, d2, d3, d4] }
  | _ => none }
def limitFitsRow : OpenClaim := { program := "ytclfmhajloblgaa", sum := "27c3074989dfc986e6137c70ab46ff23d1c20fd6b83b2ecd11c30a067fa214e1", func := "signalman/signalmanlaw22.LimitFits", spec := "limitFits", apart := false }
def LimitFitsSaid : Prop := limitFitsRow.holds Try.pinned (OpenSpec.ofChange limitFitsSpec)

/-- ITS FALSE NEIGHBOUR: 'it returns false'. Refute it at one input. -/
def limitFitsWrong : ChangeSpec := { name := "limitFits", fn := fun _ => fun
  | [d1, d2, d3, d4] => { results := [.lit (.bool false)], args := [d1, d2, d3, d4] }
  | _ => none }
def LimitFitsWrongFalsely : Prop := limitFitsRow.holds Try.pinned (OpenSpec.ofChange limitFitsWrong)

/-- 'signalmanlaw22.LimitNumbers': WHATEVER THE INPUT: true; the input reads as it did. -/
def limitNumbersSpec : ChangeSpec := { name := "limitNumbers", fn := fun _ => fun
  | [d1, d2, d3, d4, d5] => { results := [.lit (.bool true)], args := [d1, d2, d3, d4, d5] }
  | _ => none }
def limitNumbersRow : OpenClaim := { program := "ytclfmhajloblgaa", sum := "27c3074989dfc986e6137c70ab46ff23d1c20fd6b83b2ecd11c30a067fa214e1", func := "signalman/signalmanlaw22.LimitNumbers", spec := "limitNumbers", apart := false }
def LimitNumbersSaid : Prop := limitNumbersRow.holds Try.pinned (OpenSpec.ofChange limitNumbersSpec)

/-- ITS FALSE NEIGHBOUR: 'it returns false'. Refute it at one input. -/
def limitNumbersWrong : ChangeSpec := { name := "limitNumbers", fn := fun _ => fun
  | [d1, d2, d3, d4, d5] => { results := [.lit (.bool false)], args := [d1, d2, d3, d4, d5] }
  | _ => none }
def LimitNumbersWrongFalsely : Prop := limitNumbersRow.holds Try.pinned (OpenSpec.ofChange limitNumbersWrong)

/-- 'signalmanlaw22.LimitGrows': WHATEVER THE INPUT: true; the input reads as it did. -/
def limitGrowsSpec : ChangeSpec := { name := "limitGrows", fn := fun _ => fun
  | [d1, d2, d3, d4, d5] => { results := [.lit (.bool true)], args := [d1, d2, d3, d4, d5] }
  | _ => none }
def limitGrowsRow : OpenClaim := { program := "ytclfmhajloblgaa", sum := "27c3074989dfc986e6137c70ab46ff23d1c20fd6b83b2ecd11c30a067fa214e1", func := "signalman/signalmanlaw22.LimitGrows", spec := "limitGrows", apart := false }
def LimitGrowsSaid : Prop := limitGrowsRow.holds Try.pinned (OpenSpec.ofChange limitGrowsSpec)

/-- ITS FALSE NEIGHBOUR: 'it returns false'. Refute it at one input. -/
def limitGrowsWrong : ChangeSpec := { name := "limitGrows", fn := fun _ => fun
  | [d1, d2, d3, d4, d5] => { results := [.lit (.bool false)], args := [d1, d2, d3, d4, d5] }
  | _ => none }
def LimitGrowsWrongFalsely : Prop := limitGrowsRow.holds Try.pinned (OpenSpec.ofChange limitGrowsWrong)

/- THE SECOND FORM. 'bulk': how many values and letters a reading holds, each counted each time it is reached (what is shared counts as often as it is met; a slice's spare places count too). A statement '..UptoSaid' is the law's where the arguments, and the package variables that the reading takes, are together of bulk at most 1048576: NARROWER than '..Said'. Prove '..Said' where nothing that the law and all that it calls make is longer than what came in: it says more and counts as full. Else prove '..UptoSaid'. A law counts once. -/
mutual
def uptoBulk {H : Type} : DataW H → Nat
  | .lit (.string bytes) => bytes.length + 1
  | .lit _ => 1
  | .nil => 1
  | .ptr d => uptoBulk d + 1
  | .slice elems spare => uptoBulkAll elems + uptoBulkAll spare + 1
  | .agg parts => uptoBulkAll parts + 1
  | .iface _ d => uptoBulk d + 1
  | .map entries => uptoBulkEntries entries + 1
  | .held _ => 1
def uptoBulkAll {H : Type} : List (DataW H) → Nat
  | [] => 0
  | d :: r => uptoBulk d + uptoBulkAll r
def uptoBulkEntries {H : Type} : List (Lit × DataW H) → Nat
  | [] => 0
  | x :: r => uptoBulkEntry x + uptoBulkEntries r
def uptoBulkEntry {H : Type} : Lit × DataW H → Nat
  | (.string bytes, d) => bytes.length + uptoBulk d + 1
  | (_, d) => uptoBulk d + 1
 end
def uptoSmall : (H : Type) → List (DataW H) → Bool := fun _ ds => decide (uptoBulkAll ds ≤ 1048576)
def OpenSpec.upto (s : _root_.Go.ChangeSpec) : _root_.Go.OpenSpec := { _root_.Go.OpenSpec.ofChange s with cond := some uptoSmall }

/-- 'signalmanlaw22.LimitFits', WHERE WHAT IT READS IS OF BULK AT MOST 1048576: true; the input reads as it did. -/
def limitFitsUptoRow : OpenClaim := { program := "ytclfmhajloblgaa", sum := "27c3074989dfc986e6137c70ab46ff23d1c20fd6b83b2ecd11c30a067fa214e1", func := "signalman/signalmanlaw22.LimitFits", spec := "limitFits", apart := false, narrowed := true }
def LimitFitsUptoSaid : Prop := limitFitsUptoRow.holds Try.pinned (OpenSpec.upto limitFitsSpec)

/-- 'signalmanlaw22.LimitNumbers', WHERE WHAT IT READS IS OF BULK AT MOST 1048576: true; the input reads as it did. -/
def limitNumbersUptoRow : OpenClaim := { program := "ytclfmhajloblgaa", sum := "27c3074989dfc986e6137c70ab46ff23d1c20fd6b83b2ecd11c30a067fa214e1", func := "signalman/signalmanlaw22.LimitNumbers", spec := "limitNumbers", apart := false, narrowed := true }
def LimitNumbersUptoSaid : Prop := limitNumbersUptoRow.holds Try.pinned (OpenSpec.upto limitNumbersSpec)

/-- 'signalmanlaw22.LimitGrows', WHERE WHAT IT READS IS OF BULK AT MOST 1048576: true; the input reads as it did. -/
def limitGrowsUptoRow : OpenClaim := { program := "ytclfmhajloblgaa", sum := "27c3074989dfc986e6137c70ab46ff23d1c20fd6b83b2ecd11c30a067fa214e1", func := "signalman/signalmanlaw22.LimitGrows", spec := "limitGrows", apart := false, narrowed := true }
def LimitGrowsUptoSaid : Prop := limitGrowsUptoRow.holds Try.pinned (OpenSpec.upto limitGrowsSpec)

end Rows
end Go.Proofs.Ytclfmhajloblgaa
