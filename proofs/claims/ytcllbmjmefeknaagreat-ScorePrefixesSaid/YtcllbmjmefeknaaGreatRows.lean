/-
  No cell of these rows narrows 'for every input' (looked for: loops, veiled, ifaces, maps, wideKeys, modest, calm, conditions, laid).
  DERIVED. THE GIVEN ROWS OF THIS SEAT. 11 by the template 'for every input the law returns true; each argument reads behind the call as it read before'; 0 by the template 'total and deterministic' (their statements: YtcllbmjmefeknaaGreatTotals.lean).
  GIVEN WITH THE SEED: the statements are not yours to turn. If you find one false, say at which input.
  Laid BY PROGRAM, IN A SANDBOX (cutbox-rows.mjs): the forced cells as the released guide's own fill.sh prints them over the translation ce57d08dc29b95e4… (all of the seat's roots in one cut). By AI agents, Wed Nov 11 2026. No macro, syntax, notation, axiom, sorry.
-/
import Derived.Test.YtcllbmjmefeknaaGreatChecked
import GoSem.Claim
import GoSem.ClaimJoined
import GoSem.ClaimMapViews
import Derived.JoinedTies
import Derived.KernelRfl
namespace Go.Proofs.YtcllbmjmefeknaaGreat
/- THE CELL 'sum', in the pinned program and in every row, IS THE sha256 OF THE DUMP (.gsa) THAT YtcllbmjmefeknaaGreatProg.lean LOADS. Nothing in Lean hashes anything: it is a label: what it is worth is what the hold of that sum in a sandbox is worth. -/
noncomputable def Tryz.pinned : Pinned := { name := "ytcllbmjmefeknaagreat", sum := "ce57d08dc29b95e49f58cb89aff1c3ecb3ce11f7990b35740e0b8131348be876", checked := Tryz.checked }
namespace Rows
def none {H : Type} : Left H := { results := [], args := [] }

/-- 'signalmanlaw21.PairBounds': WHATEVER THE INPUT: true; the input reads as it did. -/
def pairBoundsSpec : ChangeSpec := { name := "pairBounds", fn := fun _ => fun
  | [d1, d2, d3, d4, d5] => { results := [.lit (.bool true)], args := [d1, d2, d3, d4, d5] }
  | _ => none }
def pairBoundsRow : OpenClaim := { program := "ytcllbmjmefeknaagreat", sum := "ce57d08dc29b95e49f58cb89aff1c3ecb3ce11f7990b35740e0b8131348be876", func := "signalman/signalmanlaw21.PairBounds", spec := "pairBounds", unfollowed := true, recurses := true, apart := false }
def PairBoundsSaid : Prop := pairBoundsRow.holds Tryz.pinned (OpenSpec.ofChange pairBoundsSpec)

/-- ITS FALSE NEIGHBOUR: 'it returns false'. Refute it at one input. -/
def pairBoundsWrong : ChangeSpec := { name := "pairBounds", fn := fun _ => fun
  | [d1, d2, d3, d4, d5] => { results := [.lit (.bool false)], args := [d1, d2, d3, d4, d5] }
  | _ => none }
def PairBoundsWrongFalsely : Prop := pairBoundsRow.holds Tryz.pinned (OpenSpec.ofChange pairBoundsWrong)

/-- 'signalmanlaw21.PairDoes': WHATEVER THE INPUT: true; the input reads as it did. -/
def pairDoesSpec : ChangeSpec := { name := "pairDoes", fn := fun _ => fun
  | [d] => { results := [.lit (.bool true)], args := [d] }
  | _ => none }
def pairDoesRow : OpenClaim := { program := "ytcllbmjmefeknaagreat", sum := "ce57d08dc29b95e49f58cb89aff1c3ecb3ce11f7990b35740e0b8131348be876", func := "signalman/signalmanlaw21.PairDoes", spec := "pairDoes", unfollowed := true, recurses := true, apart := false }
def PairDoesSaid : Prop := pairDoesRow.holds Tryz.pinned (OpenSpec.ofChange pairDoesSpec)

/-- ITS FALSE NEIGHBOUR: 'it returns false'. Refute it at one input. -/
def pairDoesWrong : ChangeSpec := { name := "pairDoes", fn := fun _ => fun
  | [d] => { results := [.lit (.bool false)], args := [d] }
  | _ => none }
def PairDoesWrongFalsely : Prop := pairDoesRow.holds Tryz.pinned (OpenSpec.ofChange pairDoesWrong)

/-- 'signalmanlaw24.ScoreNil': WHATEVER THE INPUT: true; the input reads as it did. -/
def scoreNilSpec : ChangeSpec := { name := "scoreNil", fn := fun _ => fun
  | [d1, d2] => { results := [.lit (.bool true)], args := [d1, d2] }
  | _ => none }
def scoreNilRow : OpenClaim := { program := "ytcllbmjmefeknaagreat", sum := "ce57d08dc29b95e49f58cb89aff1c3ecb3ce11f7990b35740e0b8131348be876", func := "signalman/signalmanlaw24.ScoreNil", spec := "scoreNil", unfollowed := true, recurses := true, apart := false }
def ScoreNilSaid : Prop := scoreNilRow.holds Tryz.pinned (OpenSpec.ofChange scoreNilSpec)

/-- ITS FALSE NEIGHBOUR: 'it returns false'. Refute it at one input. -/
def scoreNilWrong : ChangeSpec := { name := "scoreNil", fn := fun _ => fun
  | [d1, d2] => { results := [.lit (.bool false)], args := [d1, d2] }
  | _ => none }
def ScoreNilWrongFalsely : Prop := scoreNilRow.holds Tryz.pinned (OpenSpec.ofChange scoreNilWrong)

/-- 'signalmanlaw24.ScoreParts': WHATEVER THE INPUT: true; the input reads as it did. -/
def scorePartsSpec : ChangeSpec := { name := "scoreParts", fn := fun _ => fun
  | [d1, d2, d3] => { results := [.lit (.bool true)], args := [d1, d2, d3] }
  | _ => none }
def scorePartsRow : OpenClaim := { program := "ytcllbmjmefeknaagreat", sum := "ce57d08dc29b95e49f58cb89aff1c3ecb3ce11f7990b35740e0b8131348be876", func := "signalman/signalmanlaw24.ScoreParts", spec := "scoreParts", unfollowed := true, recurses := true, apart := false }
def ScorePartsSaid : Prop := scorePartsRow.holds Tryz.pinned (OpenSpec.ofChange scorePartsSpec)

/-- ITS FALSE NEIGHBOUR: 'it returns false'. Refute it at one input. -/
def scorePartsWrong : ChangeSpec := { name := "scoreParts", fn := fun _ => fun
  | [d1, d2, d3] => { results := [.lit (.bool false)], args := [d1, d2, d3] }
  | _ => none }
def ScorePartsWrongFalsely : Prop := scorePartsRow.holds Tryz.pinned (OpenSpec.ofChange scorePartsWrong)

/-- 'signalmanlaw24.ScorePrefixes': WHATEVER THE INPUT: true; the input reads as it did. -/
def scorePrefixesSpec : ChangeSpec := { name := "scorePrefixes", fn := fun _ => fun
  | [d1, d2, d3] => { results := [.lit (.bool true)], args := [d1, d2, d3] }
  | _ => none }
def scorePrefixesRow : OpenClaim := { program := "ytcllbmjmefeknaagreat", sum := "ce57d08dc29b95e49f58cb89aff1c3ecb3ce11f7990b35740e0b8131348be876", func := "signalman/signalmanlaw24.ScorePrefixes", spec := "scorePrefixes", unfollowed := true, recurses := true, apart := false }
def ScorePrefixesSaid : Prop := scorePrefixesRow.holds Tryz.pinned (OpenSpec.ofChange scorePrefixesSpec)

/-- ITS FALSE NEIGHBOUR: 'it returns false'. Refute it at one input. -/
def scorePrefixesWrong : ChangeSpec := { name := "scorePrefixes", fn := fun _ => fun
  | [d1, d2, d3] => { results := [.lit (.bool false)], args := [d1, d2, d3] }
  | _ => none }
def ScorePrefixesWrongFalsely : Prop := scorePrefixesRow.holds Tryz.pinned (OpenSpec.ofChange scorePrefixesWrong)

/-- 'signalmanlaw24.ScoreKeeps': WHATEVER THE INPUT: true; the input reads as it did. -/
def scoreKeepsSpec : ChangeSpec := { name := "scoreKeeps", fn := fun _ => fun
  | [d1, d2, d3, d4] => { results := [.lit (.bool true)], args := [d1, d2, d3, d4] }
  | _ => none }
def scoreKeepsRow : OpenClaim := { program := "ytcllbmjmefeknaagreat", sum := "ce57d08dc29b95e49f58cb89aff1c3ecb3ce11f7990b35740e0b8131348be876", func := "signalman/signalmanlaw24.ScoreKeeps", spec := "scoreKeeps", unfollowed := true, recurses := true, apart := false }
def ScoreKeepsSaid : Prop := scoreKeepsRow.holds Tryz.pinned (OpenSpec.ofChange scoreKeepsSpec)

/-- ITS FALSE NEIGHBOUR: 'it returns false'. Refute it at one input. -/
def scoreKeepsWrong : ChangeSpec := { name := "scoreKeeps", fn := fun _ => fun
  | [d1, d2, d3, d4] => { results := [.lit (.bool false)], args := [d1, d2, d3, d4] }
  | _ => none }
def ScoreKeepsWrongFalsely : Prop := scoreKeepsRow.holds Tryz.pinned (OpenSpec.ofChange scoreKeepsWrong)

/-- 'signalmanlaw23.TruthNil': WHATEVER THE INPUT: true; the input reads as it did. -/
def truthNilSpec : ChangeSpec := { name := "truthNil", fn := fun _ => fun
  | [d1, d2] => { results := [.lit (.bool true)], args := [d1, d2] }
  | _ => none }
def truthNilRow : OpenClaim := { program := "ytcllbmjmefeknaagreat", sum := "ce57d08dc29b95e49f58cb89aff1c3ecb3ce11f7990b35740e0b8131348be876", func := "signalman/signalmanlaw23.TruthNil", spec := "truthNil", unfollowed := true, recurses := true, apart := false }
def TruthNilSaid : Prop := truthNilRow.holds Tryz.pinned (OpenSpec.ofChange truthNilSpec)

/-- ITS FALSE NEIGHBOUR: 'it returns false'. Refute it at one input. -/
def truthNilWrong : ChangeSpec := { name := "truthNil", fn := fun _ => fun
  | [d1, d2] => { results := [.lit (.bool false)], args := [d1, d2] }
  | _ => none }
def TruthNilWrongFalsely : Prop := truthNilRow.holds Tryz.pinned (OpenSpec.ofChange truthNilWrong)

/-- 'signalmanlaw23.TruthCounts': WHATEVER THE INPUT: true; the input reads as it did. -/
def truthCountsSpec : ChangeSpec := { name := "truthCounts", fn := fun _ => fun
  | [d1, d2, d3, d4] => { results := [.lit (.bool true)], args := [d1, d2, d3, d4] }
  | _ => none }
def truthCountsRow : OpenClaim := { program := "ytcllbmjmefeknaagreat", sum := "ce57d08dc29b95e49f58cb89aff1c3ecb3ce11f7990b35740e0b8131348be876", func := "signalman/signalmanlaw23.TruthCounts", spec := "truthCounts", unfollowed := true, recurses := true, apart := false }
def TruthCountsSaid : Prop := truthCountsRow.holds Tryz.pinned (OpenSpec.ofChange truthCountsSpec)

/-- ITS FALSE NEIGHBOUR: 'it returns false'. Refute it at one input. -/
def truthCountsWrong : ChangeSpec := { name := "truthCounts", fn := fun _ => fun
  | [d1, d2, d3, d4] => { results := [.lit (.bool false)], args := [d1, d2, d3, d4] }
  | _ => none }
def TruthCountsWrongFalsely : Prop := truthCountsRow.holds Tryz.pinned (OpenSpec.ofChange truthCountsWrong)

/-- 'signalmanlaw28.SurveyNil': WHATEVER THE INPUT: true; the input reads as it did. -/
def surveyNilSpec : ChangeSpec := { name := "surveyNil", fn := fun _ => fun
  | [d1, d2] => { results := [.lit (.bool true)], args := [d1, d2] }
  | _ => none }
def surveyNilRow : OpenClaim := { program := "ytcllbmjmefeknaagreat", sum := "ce57d08dc29b95e49f58cb89aff1c3ecb3ce11f7990b35740e0b8131348be876", func := "signalman/signalmanlaw28.SurveyNil", spec := "surveyNil", unfollowed := true, recurses := true, apart := false }
def SurveyNilSaid : Prop := surveyNilRow.holds Tryz.pinned (OpenSpec.ofChange surveyNilSpec)

/-- ITS FALSE NEIGHBOUR: 'it returns false'. Refute it at one input. -/
def surveyNilWrong : ChangeSpec := { name := "surveyNil", fn := fun _ => fun
  | [d1, d2] => { results := [.lit (.bool false)], args := [d1, d2] }
  | _ => none }
def SurveyNilWrongFalsely : Prop := surveyNilRow.holds Tryz.pinned (OpenSpec.ofChange surveyNilWrong)

/-- 'signalmanlaw28.SurveyCounts': WHATEVER THE INPUT: true; the input reads as it did. -/
def surveyCountsSpec : ChangeSpec := { name := "surveyCounts", fn := fun _ => fun
  | [d1, d2, d3, d4] => { results := [.lit (.bool true)], args := [d1, d2, d3, d4] }
  | _ => none }
def surveyCountsRow : OpenClaim := { program := "ytcllbmjmefeknaagreat", sum := "ce57d08dc29b95e49f58cb89aff1c3ecb3ce11f7990b35740e0b8131348be876", func := "signalman/signalmanlaw28.SurveyCounts", spec := "surveyCounts", unfollowed := true, recurses := true, apart := false }
def SurveyCountsSaid : Prop := surveyCountsRow.holds Tryz.pinned (OpenSpec.ofChange surveyCountsSpec)

/-- ITS FALSE NEIGHBOUR: 'it returns false'. Refute it at one input. -/
def surveyCountsWrong : ChangeSpec := { name := "surveyCounts", fn := fun _ => fun
  | [d1, d2, d3, d4] => { results := [.lit (.bool false)], args := [d1, d2, d3, d4] }
  | _ => none }
def SurveyCountsWrongFalsely : Prop := surveyCountsRow.holds Tryz.pinned (OpenSpec.ofChange surveyCountsWrong)

/-- 'signalmanlaw25.SwapNil': WHATEVER THE INPUT: true; the input reads as it did. -/
def swapNilSpec : ChangeSpec := { name := "swapNil", fn := fun _ => fun
  | [d1, d2] => { results := [.lit (.bool true)], args := [d1, d2] }
  | _ => none }
def swapNilRow : OpenClaim := { program := "ytcllbmjmefeknaagreat", sum := "ce57d08dc29b95e49f58cb89aff1c3ecb3ce11f7990b35740e0b8131348be876", func := "signalman/signalmanlaw25.SwapNil", spec := "swapNil", unfollowed := true, recurses := true, apart := false }
def SwapNilSaid : Prop := swapNilRow.holds Tryz.pinned (OpenSpec.ofChange swapNilSpec)

/-- ITS FALSE NEIGHBOUR: 'it returns false'. Refute it at one input. -/
def swapNilWrong : ChangeSpec := { name := "swapNil", fn := fun _ => fun
  | [d1, d2] => { results := [.lit (.bool false)], args := [d1, d2] }
  | _ => none }
def SwapNilWrongFalsely : Prop := swapNilRow.holds Tryz.pinned (OpenSpec.ofChange swapNilWrong)

/- THE SECOND FORM. 'bulk': how many values and letters a reading holds, each counted each time it is reached (what is shared counts as often as it is met; a slice's spare places count too). A statement '..UptoSaid' is the law's where the arguments, and the package variables that the reading takes, are together of bulk at most 1048576: NARROWER than '..Said'. Prove '..Said' where nothing that the law and all that it calls make is longer than what came in: it says more and counts as full. Else prove '..UptoSaid'. A law counts once. -/
mutual
def uptoBulk {H : Type} : DataW H → Nat
  | .lit (.string bytes) => bytes.length + 1
  | .lit _ => 1
  | .nil => 1
  | .ptr d => uptoBulk d + 1
  | .slice elems spare => uptoBulkAll elems + uptoBulkAll spare + 1
  | .agg parts => uptoBulkAll parts + 1
  | .iface _ d => uptoBulk d + 1
  | .map entries => uptoBulkEntries entries + 1
  | .held _ => 1
def uptoBulkAll {H : Type} : List (DataW H) → Nat
  | [] => 0
  | d :: r => uptoBulk d + uptoBulkAll r
def uptoBulkEntries {H : Type} : List (Lit × DataW H) → Nat
  | [] => 0
  | x :: r => uptoBulkEntry x + uptoBulkEntries r
def uptoBulkEntry {H : Type} : Lit × DataW H → Nat
  | (.string bytes, d) => bytes.length + uptoBulk d + 1
  | (_, d) => uptoBulk d + 1
 end
def uptoSmall : (H : Type) → List (DataW H) → Bool := fun _ ds => decide (uptoBulkAll ds ≤ 1048576)
def OpenSpec.upto (s : _root_.Go.ChangeSpec) : _root_.Go.OpenSpec := { _root_.Go.OpenSpec.ofChange s with cond := some uptoSmall }

/-- 'signalmanlaw21.PairBounds', WHERE WHAT IT READS IS OF BULK AT MOST 1048576: true; the input reads as it did. -/
def pairBoundsUptoRow : OpenClaim := { program := "ytcllbmjmefeknaagreat", sum := "ce57d08dc29b95e49f58cb89aff1c3ecb3ce11f7990b35740e0b8131348be876", func := "signalman/signalmanlaw21.PairBounds", spec := "pairBounds", unfollowed := true, recurses := true, apart := false, narrowed := true }
def PairBoundsUptoSaid : Prop := pairBoundsUptoRow.holds Tryz.pinned (OpenSpec.upto pairBoundsSpec)

/-- 'signalmanlaw21.PairDoes', WHERE WHAT IT READS IS OF BULK AT MOST 1048576: true; the input reads as it did. -/
def pairDoesUptoRow : OpenClaim := { program := "ytcllbmjmefeknaagreat", sum := "ce57d08dc29b95e49f58cb89aff1c3ecb3ce11f7990b35740e0b8131348be876", func := "signalman/signalmanlaw21.PairDoes", spec := "pairDoes", unfollowed := true, recurses := true, apart := false, narrowed := true }
def PairDoesUptoSaid : Prop := pairDoesUptoRow.holds Tryz.pinned (OpenSpec.upto pairDoesSpec)

/-- 'signalmanlaw24.ScoreNil', WHERE WHAT IT READS IS OF BULK AT MOST 1048576: true; the input reads as it did. -/
def scoreNilUptoRow : OpenClaim := { program := "ytcllbmjmefeknaagreat", sum := "ce57d08dc29b95e49f58cb89aff1c3ecb3ce11f7990b35740e0b8131348be876", func := "signalman/signalmanlaw24.ScoreNil", spec := "scoreNil", unfollowed := true, recurses := true, apart := false, narrowed := true }
def ScoreNilUptoSaid : Prop := scoreNilUptoRow.holds Tryz.pinned (OpenSpec.upto scoreNilSpec)

/-- 'signalmanlaw24.ScoreParts', WHERE WHAT IT READS IS OF BULK AT MOST 1048576: true; the input reads as it did. -/
def scorePartsUptoRow : OpenClaim := { program := "ytcllbmjmefeknaagreat", sum := "ce57d08dc29b95e49f58cb89aff1c3ecb3ce11f7990b35740e0b8131348be876", func := "signalman/signalmanlaw24.ScoreParts", spec := "scoreParts", unfollowed := true, recurses := true, apart := false, narrowed := true }
def ScorePartsUptoSaid : Prop := scorePartsUptoRow.holds Tryz.pinned (OpenSpec.upto scorePartsSpec)

/-- 'signalmanlaw24.ScorePrefixes', WHERE WHAT IT READS IS OF BULK AT MOST 1048576: true; the input reads as it did. -/
def scorePrefixesUptoRow : OpenClaim := { program := "ytcllbmjmefeknaagreat", sum := "ce57d08dc29b95e49f58cb89aff1c3ecb3ce11f7990b35740e0b8131348be876", func := "signalman/signalmanlaw24.ScorePrefixes", spec := "scorePrefixes", unfollowed := true, recurses := true, apart := false, narrowed := true }
def ScorePrefixesUptoSaid : Prop := scorePrefixesUptoRow.holds Tryz.pinned (OpenSpec.upto scorePrefixesSpec)

/-- 'signalmanlaw24.ScoreKeeps', WHERE WHAT IT READS IS OF BULK AT MOST 1048576: true; the input reads as it did. -/
def scoreKeepsUptoRow : OpenClaim := { program := "ytcllbmjmefeknaagreat", sum := "ce57d08dc29b95e49f58cb89aff1c3ecb3ce11f7990b35740e0b8131348be876", func := "signalman/signalmanlaw24.ScoreKeeps", spec := "scoreKeeps", unfollowed := true, recurses := true, apart := false, narrowed := true }
def ScoreKeepsUptoSaid : Prop := scoreKeepsUptoRow.holds Tryz.pinned (OpenSpec.upto scoreKeepsSpec)

/-- 'signalmanlaw23.TruthNil', WHERE WHAT IT READS IS OF BULK AT MOST 1048576: true; the input reads as it did. -/
def truthNilUptoRow : OpenClaim := { program := "ytcllbmjmefeknaagreat", sum := "ce57d08dc29b95e49f58cb89aff1c3ecb3ce11f7990b35740e0b8131348be876", func := "signalman/signalmanlaw23.TruthNil", spec := "truthNil", unfollowed := true, recurses := true, apart := false, narrowed := true }
def TruthNilUptoSaid : Prop := truthNilUptoRow.holds Tryz.pinned (OpenSpec.upto truthNilSpec)

/-- 'signalmanlaw23.TruthCounts', WHERE WHAT IT READS IS OF BULK AT MOST 1048576: true; the input reads as it did. -/
def truthCountsUptoRow : OpenClaim := { program := "ytcllbmjmefeknaagreat", sum := "ce57d08dc29b95e49f58cb89aff1c3ecb3ce11f7990b35740e0b8131348be876", func := "signalman/signalmanlaw23.TruthCounts", spec := "truthCounts", unfollowed := true, recurses := true, apart := false, narrowed := true }
def TruthCountsUptoSaid : Prop := truthCountsUptoRow.holds Tryz.pinned (OpenSpec.upto truthCountsSpec)

/-- 'signalmanlaw28.SurveyNil', WHERE WHAT IT READS IS OF BULK AT MOST 1048576: true; the input reads as it did. -/
def surveyNilUptoRow : OpenClaim := { program := "ytcllbmjmefeknaagreat", sum := "ce57d08dc29b95e49f58cb89aff1c3ecb3ce11f7990b35740e0b8131348be876", func := "signalman/signalmanlaw28.SurveyNil", spec := "surveyNil", unfollowed := true, recurses := true, apart := false, narrowed := true }
def SurveyNilUptoSaid : Prop := surveyNilUptoRow.holds Tryz.pinned (OpenSpec.upto surveyNilSpec)

/-- 'signalmanlaw28.SurveyCounts', WHERE WHAT IT READS IS OF BULK AT MOST 1048576: true; the input reads as it did. -/
def surveyCountsUptoRow : OpenClaim := { program := "ytcllbmjmefeknaagreat", sum := "ce57d08dc29b95e49f58cb89aff1c3ecb3ce11f7990b35740e0b8131348be876", func := "signalman/signalmanlaw28.SurveyCounts", spec := "surveyCounts", unfollowed := true, recurses := true, apart := false, narrowed := true }
def SurveyCountsUptoSaid : Prop := surveyCountsUptoRow.holds Tryz.pinned (OpenSpec.upto surveyCountsSpec)

/-- 'signalmanlaw25.SwapNil', WHERE WHAT IT READS IS OF BULK AT MOST 1048576: true; the input reads as it did. -/
def swapNilUptoRow : OpenClaim := { program := "ytcllbmjmefeknaagreat", sum := "ce57d08dc29b95e49f58cb89aff1c3ecb3ce11f7990b35740e0b8131348be876", func := "signalman/signalmanlaw25.SwapNil", spec := "swapNil", unfollowed := true, recurses := true, apart := false, narrowed := true }
def SwapNilUptoSaid : Prop := swapNilUptoRow.holds Tryz.pinned (OpenSpec.upto swapNilSpec)

end Rows
end Go.Proofs.YtcllbmjmefeknaaGreat
