/-
  No cell of these rows narrows 'for every input' (looked for: loops, veiled, ifaces, maps, wideKeys, modest, calm, conditions, laid).
  DERIVED. THE GIVEN ROWS OF THIS SEAT. 21 by the template 'for every input the law returns true; each argument reads behind the call as it read before'; 0 by the template 'total and deterministic' (their statements: YtdffinnnjcgfcaaGreatTotals.lean).
  GIVEN WITH THE SEED: the statements are not yours to turn. If you find one false, say at which input.
  Laid BY PROGRAM, IN A SANDBOX (cutbox-rows.mjs): the forced cells as the released guide's own fill.sh prints them over the translation 99a5e73d6e7d1231… (all of the seat's roots in one cut). By AI agents, Wed Nov 11 2026. No macro, syntax, notation, axiom, sorry.
-/
import Derived.Test.YtdffinnnjcgfcaaGreatChecked
import GoSem.Claim
import GoSem.ClaimJoined
import GoSem.ClaimMapViews
import Derived.JoinedTies
import Derived.KernelRfl
namespace Go.Proofs.YtdffinnnjcgfcaaGreat
/- THE CELL 'sum', in the pinned program and in every row, IS THE sha256 OF THE DUMP (.gsa) THAT YtdffinnnjcgfcaaGreatProg.lean LOADS. Nothing in Lean hashes anything: it is a label: what it is worth is what the hold of that sum in a sandbox is worth. -/
noncomputable def Tryz.pinned : Pinned := { name := "ytdffinnnjcgfcaagreat", sum := "99a5e73d6e7d12317d9e113fd1394a3562c468883581ad2c8f22c3464c347cf1", checked := Tryz.checked }
namespace Rows
def none {H : Type} : Left H := { results := [], args := [] }

/-- 'signalmanlaw17.StateWaits': WHATEVER THE INPUT: true; the input reads as it did. -/
def stateWaitsSpec : ChangeSpec := { name := "stateWaits", fn := fun _ => fun
  | [d1, d2, d3, d4] => { results := [.lit (.bool true)], args := [d1, d2, d3, d4] }
  | _ => none }
def stateWaitsRow : OpenClaim := { program := "ytdffinnnjcgfcaagreat", sum := "99a5e73d6e7d12317d9e113fd1394a3562c468883581ad2c8f22c3464c347cf1", func := "signalman/signalmanlaw17.StateWaits", spec := "stateWaits", unfollowed := true, recurses := true, apart := false }
def StateWaitsSaid : Prop := stateWaitsRow.holds Tryz.pinned (OpenSpec.ofChange stateWaitsSpec)

/-- ITS FALSE NEIGHBOUR: 'it returns false'. Refute it at one input. -/
def stateWaitsWrong : ChangeSpec := { name := "stateWaits", fn := fun _ => fun
  | [d1, d2, d3, d4] => { results := [.lit (.bool false)], args := [d1, d2, d3, d4] }
  | _ => none }
def StateWaitsWrongFalsely : Prop := stateWaitsRow.holds Tryz.pinned (OpenSpec.ofChange stateWaitsWrong)

/-- 'signalmanlaw17.StateBusy': WHATEVER THE INPUT: true; the input reads as it did. -/
def stateBusySpec : ChangeSpec := { name := "stateBusy", fn := fun _ => fun
  | [d1, d2, d3] => { results := [.lit (.bool true)], args := [d1, d2, d3] }
  | _ => none }
def stateBusyRow : OpenClaim := { program := "ytdffinnnjcgfcaagreat", sum := "99a5e73d6e7d12317d9e113fd1394a3562c468883581ad2c8f22c3464c347cf1", func := "signalman/signalmanlaw17.StateBusy", spec := "stateBusy", unfollowed := true, recurses := true, apart := false }
def StateBusySaid : Prop := stateBusyRow.holds Tryz.pinned (OpenSpec.ofChange stateBusySpec)

/-- ITS FALSE NEIGHBOUR: 'it returns false'. Refute it at one input. -/
def stateBusyWrong : ChangeSpec := { name := "stateBusy", fn := fun _ => fun
  | [d1, d2, d3] => { results := [.lit (.bool false)], args := [d1, d2, d3] }
  | _ => none }
def StateBusyWrongFalsely : Prop := stateBusyRow.holds Tryz.pinned (OpenSpec.ofChange stateBusyWrong)

/-- 'signalmanlaw17.StateOutage': WHATEVER THE INPUT: true; the input reads as it did. -/
def stateOutageSpec : ChangeSpec := { name := "stateOutage", fn := fun _ => fun
  | [d1, d2, d3] => { results := [.lit (.bool true)], args := [d1, d2, d3] }
  | _ => none }
def stateOutageRow : OpenClaim := { program := "ytdffinnnjcgfcaagreat", sum := "99a5e73d6e7d12317d9e113fd1394a3562c468883581ad2c8f22c3464c347cf1", func := "signalman/signalmanlaw17.StateOutage", spec := "stateOutage", unfollowed := true, recurses := true, apart := false }
def StateOutageSaid : Prop := stateOutageRow.holds Tryz.pinned (OpenSpec.ofChange stateOutageSpec)

/-- ITS FALSE NEIGHBOUR: 'it returns false'. Refute it at one input. -/
def stateOutageWrong : ChangeSpec := { name := "stateOutage", fn := fun _ => fun
  | [d1, d2, d3] => { results := [.lit (.bool false)], args := [d1, d2, d3] }
  | _ => none }
def StateOutageWrongFalsely : Prop := stateOutageRow.holds Tryz.pinned (OpenSpec.ofChange stateOutageWrong)

/-- 'signalmanlaw17.StateAligns': WHATEVER THE INPUT: true; the input reads as it did. -/
def stateAlignsSpec : ChangeSpec := { name := "stateAligns", fn := fun _ => fun
  | [d1, d2, d3, d4] => { results := [.lit (.bool true)], args := [d1, d2, d3, d4] }
  | _ => none }
def stateAlignsRow : OpenClaim := { program := "ytdffinnnjcgfcaagreat", sum := "99a5e73d6e7d12317d9e113fd1394a3562c468883581ad2c8f22c3464c347cf1", func := "signalman/signalmanlaw17.StateAligns", spec := "stateAligns", unfollowed := true, recurses := true, apart := false }
def StateAlignsSaid : Prop := stateAlignsRow.holds Tryz.pinned (OpenSpec.ofChange stateAlignsSpec)

/-- ITS FALSE NEIGHBOUR: 'it returns false'. Refute it at one input. -/
def stateAlignsWrong : ChangeSpec := { name := "stateAligns", fn := fun _ => fun
  | [d1, d2, d3, d4] => { results := [.lit (.bool false)], args := [d1, d2, d3, d4] }
  | _ => none }
def StateAlignsWrongFalsely : Prop := stateAlignsRow.holds Tryz.pinned (OpenSpec.ofChange stateAlignsWrong)

/-- 'signalmanlaw17.StateFails': WHATEVER THE INPUT: true; the input reads as it did. -/
def stateFailsSpec : ChangeSpec := { name := "stateFails", fn := fun _ => fun
  | [d1, d2, d3, d4] => { results := [.lit (.bool true)], args := [d1, d2, d3, d4] }
  | _ => none }
def stateFailsRow : OpenClaim := { program := "ytdffinnnjcgfcaagreat", sum := "99a5e73d6e7d12317d9e113fd1394a3562c468883581ad2c8f22c3464c347cf1", func := "signalman/signalmanlaw17.StateFails", spec := "stateFails", unfollowed := true, recurses := true, apart := false }
def StateFailsSaid : Prop := stateFailsRow.holds Tryz.pinned (OpenSpec.ofChange stateFailsSpec)

/-- ITS FALSE NEIGHBOUR: 'it returns false'. Refute it at one input. -/
def stateFailsWrong : ChangeSpec := { name := "stateFails", fn := fun _ => fun
  | [d1, d2, d3, d4] => { results := [.lit (.bool false)], args := [d1, d2, d3, d4] }
  | _ => none }
def StateFailsWrongFalsely : Prop := stateFailsRow.holds Tryz.pinned (OpenSpec.ofChange stateFailsWrong)

/-- 'signalmanlaw17.StateUnfit': WHATEVER THE INPUT: true; the input reads as it did. -/
def stateUnfitSpec : ChangeSpec := { name := "stateUnfit", fn := fun _ => fun
  | [d1, d2, d3] => { results := [.lit (.bool true)], args := [d1, d2, d3] }
  | _ => none }
def stateUnfitRow : OpenClaim := { program := "ytdffinnnjcgfcaagreat", sum := "99a5e73d6e7d12317d9e113fd1394a3562c468883581ad2c8f22c3464c347cf1", func := "signalman/signalmanlaw17.StateUnfit", spec := "stateUnfit", unfollowed := true, recurses := true, apart := false }
def StateUnfitSaid : Prop := stateUnfitRow.holds Tryz.pinned (OpenSpec.ofChange stateUnfitSpec)

/-- ITS FALSE NEIGHBOUR: 'it returns false'. Refute it at one input. -/
def stateUnfitWrong : ChangeSpec := { name := "stateUnfit", fn := fun _ => fun
  | [d1, d2, d3] => { results := [.lit (.bool false)], args := [d1, d2, d3] }
  | _ => none }
def StateUnfitWrongFalsely : Prop := stateUnfitRow.holds Tryz.pinned (OpenSpec.ofChange stateUnfitWrong)

/-- 'signalmanlaw17.StateTakes': WHATEVER THE INPUT: true; the input reads as it did. -/
def stateTakesSpec : ChangeSpec := { name := "stateTakes", fn := fun _ => fun
  | [d1, d2] => { results := [.lit (.bool true)], args := [d1, d2] }
  | _ => none }
def stateTakesRow : OpenClaim := { program := "ytdffinnnjcgfcaagreat", sum := "99a5e73d6e7d12317d9e113fd1394a3562c468883581ad2c8f22c3464c347cf1", func := "signalman/signalmanlaw17.StateTakes", spec := "stateTakes", unfollowed := true, recurses := true, apart := false }
def StateTakesSaid : Prop := stateTakesRow.holds Tryz.pinned (OpenSpec.ofChange stateTakesSpec)

/-- ITS FALSE NEIGHBOUR: 'it returns false'. Refute it at one input. -/
def stateTakesWrong : ChangeSpec := { name := "stateTakes", fn := fun _ => fun
  | [d1, d2] => { results := [.lit (.bool false)], args := [d1, d2] }
  | _ => none }
def StateTakesWrongFalsely : Prop := stateTakesRow.holds Tryz.pinned (OpenSpec.ofChange stateTakesWrong)

/-- 'signalmanlaw17.StateErrors': WHATEVER THE INPUT: true; the input reads as it did. -/
def stateErrorsSpec : ChangeSpec := { name := "stateErrors", fn := fun _ => fun
  | [d1, d2, d3] => { results := [.lit (.bool true)], args := [d1, d2, d3] }
  | _ => none }
def stateErrorsRow : OpenClaim := { program := "ytdffinnnjcgfcaagreat", sum := "99a5e73d6e7d12317d9e113fd1394a3562c468883581ad2c8f22c3464c347cf1", func := "signalman/signalmanlaw17.StateErrors", spec := "stateErrors", unfollowed := true, recurses := true, apart := false }
def StateErrorsSaid : Prop := stateErrorsRow.holds Tryz.pinned (OpenSpec.ofChange stateErrorsSpec)

/-- ITS FALSE NEIGHBOUR: 'it returns false'. Refute it at one input. -/
def stateErrorsWrong : ChangeSpec := { name := "stateErrors", fn := fun _ => fun
  | [d1, d2, d3] => { results := [.lit (.bool false)], args := [d1, d2, d3] }
  | _ => none }
def StateErrorsWrongFalsely : Prop := stateErrorsRow.holds Tryz.pinned (OpenSpec.ofChange stateErrorsWrong)

/-- 'signalmanlaw17.StateSends': WHATEVER THE INPUT: true; the input reads as it did. -/
def stateSendsSpec : ChangeSpec := { name := "stateSends", fn := fun _ => fun
  | [d1, d2] => { results := [.lit (.bool true)], args := [d1, d2] }
  | _ => none }
def stateSendsRow : OpenClaim := { program := "ytdffinnnjcgfcaagreat", sum := "99a5e73d6e7d12317d9e113fd1394a3562c468883581ad2c8f22c3464c347cf1", func := "signalman/signalmanlaw17.StateSends", spec := "stateSends", unfollowed := true, recurses := true, apart := false }
def StateSendsSaid : Prop := stateSendsRow.holds Tryz.pinned (OpenSpec.ofChange stateSendsSpec)

/-- ITS FALSE NEIGHBOUR: 'it returns false'. Refute it at one input. -/
def stateSendsWrong : ChangeSpec := { name := "stateSends", fn := fun _ => fun
  | [d1, d2] => { results := [.lit (.bool false)], args := [d1, d2] }
  | _ => none }
def StateSendsWrongFalsely : Prop := stateSendsRow.holds Tryz.pinned (OpenSpec.ofChange stateSendsWrong)

/-- 'signalmanlaw17.StateOrders': WHATEVER THE INPUT: true; the input reads as it did. -/
def stateOrdersSpec : ChangeSpec := { name := "stateOrders", fn := fun _ => fun
  | [d1, d2, d3, d4] => { results := [.lit (.bool true)], args := [d1, d2, d3, d4] }
  | _ => none }
def stateOrdersRow : OpenClaim := { program := "ytdffinnnjcgfcaagreat", sum := "99a5e73d6e7d12317d9e113fd1394a3562c468883581ad2c8f22c3464c347cf1", func := "signalman/signalmanlaw17.StateOrders", spec := "stateOrders", unfollowed := true, recurses := true, apart := false }
def StateOrdersSaid : Prop := stateOrdersRow.holds Tryz.pinned (OpenSpec.ofChange stateOrdersSpec)

/-- ITS FALSE NEIGHBOUR: 'it returns false'. Refute it at one input. -/
def stateOrdersWrong : ChangeSpec := { name := "stateOrders", fn := fun _ => fun
  | [d1, d2, d3, d4] => { results := [.lit (.bool false)], args := [d1, d2, d3, d4] }
  | _ => none }
def StateOrdersWrongFalsely : Prop := stateOrdersRow.holds Tryz.pinned (OpenSpec.ofChange stateOrdersWrong)

/-- 'signalmanlaw17.StateSteps': WHATEVER THE INPUT: true; the input reads as it did. -/
def stateStepsSpec : ChangeSpec := { name := "stateSteps", fn := fun _ => fun
  | [d1, d2] => { results := [.lit (.bool true)], args := [d1, d2] }
  | _ => none }
def stateStepsRow : OpenClaim := { program := "ytdffinnnjcgfcaagreat", sum := "99a5e73d6e7d12317d9e113fd1394a3562c468883581ad2c8f22c3464c347cf1", func := "signalman/signalmanlaw17.StateSteps", spec := "stateSteps", unfollowed := true, recurses := true, apart := false }
def StateStepsSaid : Prop := stateStepsRow.holds Tryz.pinned (OpenSpec.ofChange stateStepsSpec)

/-- ITS FALSE NEIGHBOUR: 'it returns false'. Refute it at one input. -/
def stateStepsWrong : ChangeSpec := { name := "stateSteps", fn := fun _ => fun
  | [d1, d2] => { results := [.lit (.bool false)], args := [d1, d2] }
  | _ => none }
def StateStepsWrongFalsely : Prop := stateStepsRow.holds Tryz.pinned (OpenSpec.ofChange stateStepsWrong)

/-- 'signalmanlaw17.StateNil': WHATEVER THE INPUT: true; the input reads as it did. -/
def stateNilSpec : ChangeSpec := { name := "stateNil", fn := fun _ => fun
  | [d1, d2, d3] => { results := [.lit (.bool true)], args := [d1, d2, d3] }
  | _ => none }
def stateNilRow : OpenClaim := { program := "ytdffinnnjcgfcaagreat", sum := "99a5e73d6e7d12317d9e113fd1394a3562c468883581ad2c8f22c3464c347cf1", func := "signalman/signalmanlaw17.StateNil", spec := "stateNil", unfollowed := true, recurses := true, apart := false }
def StateNilSaid : Prop := stateNilRow.holds Tryz.pinned (OpenSpec.ofChange stateNilSpec)

/-- ITS FALSE NEIGHBOUR: 'it returns false'. Refute it at one input. -/
def stateNilWrong : ChangeSpec := { name := "stateNil", fn := fun _ => fun
  | [d1, d2, d3] => { results := [.lit (.bool false)], args := [d1, d2, d3] }
  | _ => none }
def StateNilWrongFalsely : Prop := stateNilRow.holds Tryz.pinned (OpenSpec.ofChange stateNilWrong)

/-- 'signalmanlaw18.FetchNil': WHATEVER THE INPUT: true; the input reads as it did. -/
def fetchNilSpec : ChangeSpec := { name := "fetchNil", fn := fun _ => fun
  | [d1, d2] => { results := [.lit (.bool true)], args := [d1, d2] }
  | _ => none }
def fetchNilRow : OpenClaim := { program := "ytdffinnnjcgfcaagreat", sum := "99a5e73d6e7d12317d9e113fd1394a3562c468883581ad2c8f22c3464c347cf1", func := "signalman/signalmanlaw18.FetchNil", spec := "fetchNil", unfollowed := true, recurses := true, apart := false }
def FetchNilSaid : Prop := fetchNilRow.holds Tryz.pinned (OpenSpec.ofChange fetchNilSpec)

/-- ITS FALSE NEIGHBOUR: 'it returns false'. Refute it at one input. -/
def fetchNilWrong : ChangeSpec := { name := "fetchNil", fn := fun _ => fun
  | [d1, d2] => { results := [.lit (.bool false)], args := [d1, d2] }
  | _ => none }
def FetchNilWrongFalsely : Prop := fetchNilRow.holds Tryz.pinned (OpenSpec.ofChange fetchNilWrong)

/-- 'signalmanlaw18.FetchTells': WHATEVER THE INPUT: true; the input reads as it did. -/
def fetchTellsSpec : ChangeSpec := { name := "fetchTells", fn := fun _ => fun
  | [d1, d2, d3, d4, d5, d6] => { results := [.lit (.bool true)], args := [d1, d2, d3, d4, d5, d6] }
  | _ => none }
def fetchTellsRow : OpenClaim := { program := "ytdffinnnjcgfcaagreat", sum := "99a5e73d6e7d12317d9e113fd1394a3562c468883581ad2c8f22c3464c347cf1", func := "signalman/signalmanlaw18.FetchTells", spec := "fetchTells", unfollowed := true, recurses := true, apart := false }
def FetchTellsSaid : Prop := fetchTellsRow.holds Tryz.pinned (OpenSpec.ofChange fetchTellsSpec)

/-- ITS FALSE NEIGHBOUR: 'it returns false'. Refute it at one input. -/
def fetchTellsWrong : ChangeSpec := { name := "fetchTells", fn := fun _ => fun
  | [d1, d2, d3, d4, d5, d6] => { results := [.lit (.bool false)], args := [d1, d2, d3, d4, d5, d6] }
  | _ => none }
def FetchTellsWrongFalsely : Prop := fetchTellsRow.holds Tryz.pinned (OpenSpec.ofChange fetchTellsWrong)

/-- 'signalmanlaw18.FetchAgain': WHATEVER THE INPUT: true; the input reads as it did. -/
def fetchAgainSpec : ChangeSpec := { name := "fetchAgain", fn := fun _ => fun
  | [d1, d2, d3] => { results := [.lit (.bool true)], args := [d1, d2, d3] }
  | _ => none }
def fetchAgainRow : OpenClaim := { program := "ytdffinnnjcgfcaagreat", sum := "99a5e73d6e7d12317d9e113fd1394a3562c468883581ad2c8f22c3464c347cf1", func := "signalman/signalmanlaw18.FetchAgain", spec := "fetchAgain", unfollowed := true, recurses := true, apart := false }
def FetchAgainSaid : Prop := fetchAgainRow.holds Tryz.pinned (OpenSpec.ofChange fetchAgainSpec)

/-- ITS FALSE NEIGHBOUR: 'it returns false'. Refute it at one input. -/
def fetchAgainWrong : ChangeSpec := { name := "fetchAgain", fn := fun _ => fun
  | [d1, d2, d3] => { results := [.lit (.bool false)], args := [d1, d2, d3] }
  | _ => none }
def FetchAgainWrongFalsely : Prop := fetchAgainRow.holds Tryz.pinned (OpenSpec.ofChange fetchAgainWrong)

/-- 'signalmanlaw18.FetchBoth': WHATEVER THE INPUT: true; the input reads as it did. -/
def fetchBothSpec : ChangeSpec := { name := "fetchBoth", fn := fun _ => fun
  | [d1, d2, d3, d4] => { results := [.lit (.bool true)], args := [d1, d2, d3, d4] }
  | _ => none }
def fetchBothRow : OpenClaim := { program := "ytdffinnnjcgfcaagreat", sum := "99a5e73d6e7d12317d9e113fd1394a3562c468883581ad2c8f22c3464c347cf1", func := "signalman/signalmanlaw18.FetchBoth", spec := "fetchBoth", unfollowed := true, recurses := true, apart := false }
def FetchBothSaid : Prop := fetchBothRow.holds Tryz.pinned (OpenSpec.ofChange fetchBothSpec)

/-- ITS FALSE NEIGHBOUR: 'it returns false'. Refute it at one input. -/
def fetchBothWrong : ChangeSpec := { name := "fetchBoth", fn := fun _ => fun
  | [d1, d2, d3, d4] => { results := [.lit (.bool false)], args := [d1, d2, d3, d4] }
  | _ => none }
def FetchBothWrongFalsely : Prop := fetchBothRow.holds Tryz.pinned (OpenSpec.ofChange fetchBothWrong)

/-- 'signalmanlaw19.PostAlways': WHATEVER THE INPUT: true; the input reads as it did. -/
def postAlwaysSpec : ChangeSpec := { name := "postAlways", fn := fun _ => fun
  | [d1, d2, d3] => { results := [.lit (.bool true)], args := [d1, d2, d3] }
  | _ => none }
def postAlwaysRow : OpenClaim := { program := "ytdffinnnjcgfcaagreat", sum := "99a5e73d6e7d12317d9e113fd1394a3562c468883581ad2c8f22c3464c347cf1", func := "signalman/signalmanlaw19.PostAlways", spec := "postAlways", unfollowed := true, recurses := true, apart := false }
def PostAlwaysSaid : Prop := postAlwaysRow.holds Tryz.pinned (OpenSpec.ofChange postAlwaysSpec)

/-- ITS FALSE NEIGHBOUR: 'it returns false'. Refute it at one input. -/
def postAlwaysWrong : ChangeSpec := { name := "postAlways", fn := fun _ => fun
  | [d1, d2, d3] => { results := [.lit (.bool false)], args := [d1, d2, d3] }
  | _ => none }
def PostAlwaysWrongFalsely : Prop := postAlwaysRow.holds Tryz.pinned (OpenSpec.ofChange postAlwaysWrong)

/-- 'signalmanlaw19.PostSends': WHATEVER THE INPUT: true; the input reads as it did. -/
def postSendsSpec : ChangeSpec := { name := "postSends", fn := fun _ => fun
  | [d1, d2, d3] => { results := [.lit (.bool true)], args := [d1, d2, d3] }
  | _ => none }
def postSendsRow : OpenClaim := { program := "ytdffinnnjcgfcaagreat", sum := "99a5e73d6e7d12317d9e113fd1394a3562c468883581ad2c8f22c3464c347cf1", func := "signalman/signalmanlaw19.PostSends", spec := "postSends", unfollowed := true, recurses := true, apart := false }
def PostSendsSaid : Prop := postSendsRow.holds Tryz.pinned (OpenSpec.ofChange postSendsSpec)

/-- ITS FALSE NEIGHBOUR: 'it returns false'. Refute it at one input. -/
def postSendsWrong : ChangeSpec := { name := "postSends", fn := fun _ => fun
  | [d1, d2, d3] => { results := [.lit (.bool false)], args := [d1, d2, d3] }
  | _ => none }
def PostSendsWrongFalsely : Prop := postSendsRow.holds Tryz.pinned (OpenSpec.ofChange postSendsWrong)

/-- 'signalmanlaw19.PostHears': WHATEVER THE INPUT: true; the input reads as it did. -/
def postHearsSpec : ChangeSpec := { name := "postHears", fn := fun _ => fun
  | [d1, d2, d3] => { results := [.lit (.bool true)], args := [d1, d2, d3] }
  | _ => none }
def postHearsRow : OpenClaim := { program := "ytdffinnnjcgfcaagreat", sum := "99a5e73d6e7d12317d9e113fd1394a3562c468883581ad2c8f22c3464c347cf1", func := "signalman/signalmanlaw19.PostHears", spec := "postHears", unfollowed := true, recurses := true, apart := false }
def PostHearsSaid : Prop := postHearsRow.holds Tryz.pinned (OpenSpec.ofChange postHearsSpec)

/-- ITS FALSE NEIGHBOUR: 'it returns false'. Refute it at one input. -/
def postHearsWrong : ChangeSpec := { name := "postHears", fn := fun _ => fun
  | [d1, d2, d3] => { results := [.lit (.bool false)], args := [d1, d2, d3] }
  | _ => none }
def PostHearsWrongFalsely : Prop := postHearsRow.holds Tryz.pinned (OpenSpec.ofChange postHearsWrong)

/-- 'signalmanlaw19.PostMessages': WHATEVER THE INPUT: true; the input reads as it did. -/
def postMessagesSpec : ChangeSpec := { name := "postMessages", fn := fun _ => fun
  | [d1, d2] => { results := [.lit (.bool true)], args := [d1, d2] }
  | _ => none }
def postMessagesRow : OpenClaim := { program := "ytdffinnnjcgfcaagreat", sum := "99a5e73d6e7d12317d9e113fd1394a3562c468883581ad2c8f22c3464c347cf1", func := "signalman/signalmanlaw19.PostMessages", spec := "postMessages", unfollowed := true, recurses := true, apart := false }
def PostMessagesSaid : Prop := postMessagesRow.holds Tryz.pinned (OpenSpec.ofChange postMessagesSpec)

/-- ITS FALSE NEIGHBOUR: 'it returns false'. Refute it at one input. -/
def postMessagesWrong : ChangeSpec := { name := "postMessages", fn := fun _ => fun
  | [d1, d2] => { results := [.lit (.bool false)], args := [d1, d2] }
  | _ => none }
def PostMessagesWrongFalsely : Prop := postMessagesRow.holds Tryz.pinned (OpenSpec.ofChange postMessagesWrong)

/-- 'signalmanlaw19.PostBegins': WHATEVER THE INPUT: true; the input reads as it did. -/
def postBeginsSpec : ChangeSpec := { name := "postBegins", fn := fun _ => fun
  | [d1, d2, d3] => { results := [.lit (.bool true)], args := [d1, d2, d3] }
  | _ => none }
def postBeginsRow : OpenClaim := { program := "ytdffinnnjcgfcaagreat", sum := "99a5e73d6e7d12317d9e113fd1394a3562c468883581ad2c8f22c3464c347cf1", func := "signalman/signalmanlaw19.PostBegins", spec := "postBegins", unfollowed := true, recurses := true, apart := false }
def PostBeginsSaid : Prop := postBeginsRow.holds Tryz.pinned (OpenSpec.ofChange postBeginsSpec)

/-- ITS FALSE NEIGHBOUR: 'it returns false'. Refute it at one input. -/
def postBeginsWrong : ChangeSpec := { name := "postBegins", fn := fun _ => fun
  | [d1, d2, d3] => { results := [.lit (.bool false)], args := [d1, d2, d3] }
  | _ => none }
def PostBeginsWrongFalsely : Prop := postBeginsRow.holds Tryz.pinned (OpenSpec.ofChange postBeginsWrong)

/- THE SECOND FORM. 'bulk': how many values and letters a reading holds, each counted each time it is reached (what is shared counts as often as it is met; a slice's spare places count too). A statement '..UptoSaid' is the law's where the arguments, and the package variables that the reading takes, are together of bulk at most 1048576: NARROWER than '..Said'. Prove '..Said' where nothing that the law and all that it calls make is longer than what came in: it says more and counts as full. Else prove '..UptoSaid'. A law counts once. -/
mutual
def uptoBulk {H : Type} : DataW H → Nat
  | .lit (.string bytes) => bytes.length + 1
  | .lit _ => 1
  | .nil => 1
  | .ptr d => uptoBulk d + 1
  | .slice elems spare => uptoBulkAll elems + uptoBulkAll spare + 1
  | .agg parts => uptoBulkAll parts + 1
  | .iface _ d => uptoBulk d + 1
  | .map entries => uptoBulkEntries entries + 1
  | .held _ => 1
def uptoBulkAll {H : Type} : List (DataW H) → Nat
  | [] => 0
  | d :: r => uptoBulk d + uptoBulkAll r
def uptoBulkEntries {H : Type} : List (Lit × DataW H) → Nat
  | [] => 0
  | x :: r => uptoBulkEntry x + uptoBulkEntries r
def uptoBulkEntry {H : Type} : Lit × DataW H → Nat
  | (.string bytes, d) => bytes.length + uptoBulk d + 1
  | (_, d) => uptoBulk d + 1
 end
def uptoSmall : (H : Type) → List (DataW H) → Bool := fun _ ds => decide (uptoBulkAll ds ≤ 1048576)
def OpenSpec.upto (s : _root_.Go.ChangeSpec) : _root_.Go.OpenSpec := { _root_.Go.OpenSpec.ofChange s with cond := some uptoSmall }

/-- 'signalmanlaw17.StateWaits', WHERE WHAT IT READS IS OF BULK AT MOST 1048576: true; the input reads as it did. -/
def stateWaitsUptoRow : OpenClaim := { program := "ytdffinnnjcgfcaagreat", sum := "99a5e73d6e7d12317d9e113fd1394a3562c468883581ad2c8f22c3464c347cf1", func := "signalman/signalmanlaw17.StateWaits", spec := "stateWaits", unfollowed := true, recurses := true, apart := false, narrowed := true }
def StateWaitsUptoSaid : Prop := stateWaitsUptoRow.holds Tryz.pinned (OpenSpec.upto stateWaitsSpec)

/-- 'signalmanlaw17.StateBusy', WHERE WHAT IT READS IS OF BULK AT MOST 1048576: true; the input reads as it did. -/
def stateBusyUptoRow : OpenClaim := { program := "ytdffinnnjcgfcaagreat", sum := "99a5e73d6e7d12317d9e113fd1394a3562c468883581ad2c8f22c3464c347cf1", func := "signalman/signalmanlaw17.StateBusy", spec := "stateBusy", unfollowed := true, recurses := true, apart := false, narrowed := true }
def StateBusyUptoSaid : Prop := stateBusyUptoRow.holds Tryz.pinned (OpenSpec.upto stateBusySpec)

/-- 'signalmanlaw17.StateOutage', WHERE WHAT IT READS IS OF BULK AT MOST 1048576: true; the input reads as it did. -/
def stateOutageUptoRow : OpenClaim := { program := "ytdffinnnjcgfcaagreat", sum := "99a5e73d6e7d12317d9e113fd1394a3562c468883581ad2c8f22c3464c347cf1", func := "signalman/signalmanlaw17.StateOutage", spec := "stateOutage", unfollowed := true, recurses := true, apart := false, narrowed := true }
def StateOutageUptoSaid : Prop := stateOutageUptoRow.holds Tryz.pinned (OpenSpec.upto stateOutageSpec)

/-- 'signalmanlaw17.StateAligns', WHERE WHAT IT READS IS OF BULK AT MOST 1048576: true; the input reads as it did. -/
def stateAlignsUptoRow : OpenClaim := { program := "ytdffinnnjcgfcaagreat", sum := "99a5e73d6e7d12317d9e113fd1394a3562c468883581ad2c8f22c3464c347cf1", func := "signalman/signalmanlaw17.StateAligns", spec := "stateAligns", unfollowed := true, recurses := true, apart := false, narrowed := true }
def StateAlignsUptoSaid : Prop := stateAlignsUptoRow.holds Tryz.pinned (OpenSpec.upto stateAlignsSpec)

/-- 'signalmanlaw17.StateFails', WHERE WHAT IT READS IS OF BULK AT MOST 1048576: true; the input reads as it did. -/
def stateFailsUptoRow : OpenClaim := { program := "ytdffinnnjcgfcaagreat", sum := "99a5e73d6e7d12317d9e113fd1394a3562c468883581ad2c8f22c3464c347cf1", func := "signalman/signalmanlaw17.StateFails", spec := "stateFails", unfollowed := true, recurses := true, apart := false, narrowed := true }
def StateFailsUptoSaid : Prop := stateFailsUptoRow.holds Tryz.pinned (OpenSpec.upto stateFailsSpec)

/-- 'signalmanlaw17.StateUnfit', WHERE WHAT IT READS IS OF BULK AT MOST 1048576: true; the input reads as it did. -/
def stateUnfitUptoRow : OpenClaim := { program := "ytdffinnnjcgfcaagreat", sum := "99a5e73d6e7d12317d9e113fd1394a3562c468883581ad2c8f22c3464c347cf1", func := "signalman/signalmanlaw17.StateUnfit", spec := "stateUnfit", unfollowed := true, recurses := true, apart := false, narrowed := true }
def StateUnfitUptoSaid : Prop := stateUnfitUptoRow.holds Tryz.pinned (OpenSpec.upto stateUnfitSpec)

/-- 'signalmanlaw17.StateTakes', WHERE WHAT IT READS IS OF BULK AT MOST 1048576: true; the input reads as it did. -/
def stateTakesUptoRow : OpenClaim := { program := "ytdffinnnjcgfcaagreat", sum := "99a5e73d6e7d12317d9e113fd1394a3562c468883581ad2c8f22c3464c347cf1", func := "signalman/signalmanlaw17.StateTakes", spec := "stateTakes", unfollowed := true, recurses := true, apart := false, narrowed := true }
def StateTakesUptoSaid : Prop := stateTakesUptoRow.holds Tryz.pinned (OpenSpec.upto stateTakesSpec)

/-- 'signalmanlaw17.StateErrors', WHERE WHAT IT READS IS OF BULK AT MOST 1048576: true; the input reads as it did. -/
def stateErrorsUptoRow : OpenClaim := { program := "ytdffinnnjcgfcaagreat", sum := "99a5e73d6e7d12317d9e113fd1394a3562c468883581ad2c8f22c3464c347cf1", func := "signalman/signalmanlaw17.StateErrors", spec := "stateErrors", unfollowed := true, recurses := true, apart := false, narrowed := true }
def StateErrorsUptoSaid : Prop := stateErrorsUptoRow.holds Tryz.pinned (OpenSpec.upto stateErrorsSpec)

/-- 'signalmanlaw17.StateSends', WHERE WHAT IT READS IS OF BULK AT MOST 1048576: true; the input reads as it did. -/
def stateSendsUptoRow : OpenClaim := { program := "ytdffinnnjcgfcaagreat", sum := "99a5e73d6e7d12317d9e113fd1394a3562c468883581ad2c8f22c3464c347cf1", func := "signalman/signalmanlaw17.StateSends", spec := "stateSends", unfollowed := true, recurses := true, apart := false, narrowed := true }
def StateSendsUptoSaid : Prop := stateSendsUptoRow.holds Tryz.pinned (OpenSpec.upto stateSendsSpec)

/-- 'signalmanlaw17.StateOrders', WHERE WHAT IT READS IS OF BULK AT MOST 1048576: true; the input reads as it did. -/
def stateOrdersUptoRow : OpenClaim := { program := "ytdffinnnjcgfcaagreat", sum := "99a5e73d6e7d12317d9e113fd1394a3562c468883581ad2c8f22c3464c347cf1", func := "signalman/signalmanlaw17.StateOrders", spec := "stateOrders", unfollowed := true, recurses := true, apart := false, narrowed := true }
def StateOrdersUptoSaid : Prop := stateOrdersUptoRow.holds Tryz.pinned (OpenSpec.upto stateOrdersSpec)

/-- 'signalmanlaw17.StateSteps', WHERE WHAT IT READS IS OF BULK AT MOST 1048576: true; the input reads as it did. -/
def stateStepsUptoRow : OpenClaim := { program := "ytdffinnnjcgfcaagreat", sum := "99a5e73d6e7d12317d9e113fd1394a3562c468883581ad2c8f22c3464c347cf1", func := "signalman/signalmanlaw17.StateSteps", spec := "stateSteps", unfollowed := true, recurses := true, apart := false, narrowed := true }
def StateStepsUptoSaid : Prop := stateStepsUptoRow.holds Tryz.pinned (OpenSpec.upto stateStepsSpec)

/-- 'signalmanlaw17.StateNil', WHERE WHAT IT READS IS OF BULK AT MOST 1048576: true; the input reads as it did. -/
def stateNilUptoRow : OpenClaim := { program := "ytdffinnnjcgfcaagreat", sum := "99a5e73d6e7d12317d9e113fd1394a3562c468883581ad2c8f22c3464c347cf1", func := "signalman/signalmanlaw17.StateNil", spec := "stateNil", unfollowed := true, recurses := true, apart := false, narrowed := true }
def StateNilUptoSaid : Prop := stateNilUptoRow.holds Tryz.pinned (OpenSpec.upto stateNilSpec)

/-- 'signalmanlaw18.FetchNil', WHERE WHAT IT READS IS OF BULK AT MOST 1048576: true; the input reads as it did. -/
def fetchNilUptoRow : OpenClaim := { program := "ytdffinnnjcgfcaagreat", sum := "99a5e73d6e7d12317d9e113fd1394a3562c468883581ad2c8f22c3464c347cf1", func := "signalman/signalmanlaw18.FetchNil", spec := "fetchNil", unfollowed := true, recurses := true, apart := false, narrowed := true }
def FetchNilUptoSaid : Prop := fetchNilUptoRow.holds Tryz.pinned (OpenSpec.upto fetchNilSpec)

/-- 'signalmanlaw18.FetchTells', WHERE WHAT IT READS IS OF BULK AT MOST 1048576: true; the input reads as it did. -/
def fetchTellsUptoRow : OpenClaim := { program := "ytdffinnnjcgfcaagreat", sum := "99a5e73d6e7d12317d9e113fd1394a3562c468883581ad2c8f22c3464c347cf1", func := "signalman/signalmanlaw18.FetchTells", spec := "fetchTells", unfollowed := true, recurses := true, apart := false, narrowed := true }
def FetchTellsUptoSaid : Prop := fetchTellsUptoRow.holds Tryz.pinned (OpenSpec.upto fetchTellsSpec)

/-- 'signalmanlaw18.FetchAgain', WHERE WHAT IT READS IS OF BULK AT MOST 1048576: true; the input reads as it did. -/
def fetchAgainUptoRow : OpenClaim := { program := "ytdffinnnjcgfcaagreat", sum := "99a5e73d6e7d12317d9e113fd1394a3562c468883581ad2c8f22c3464c347cf1", func := "signalman/signalmanlaw18.FetchAgain", spec := "fetchAgain", unfollowed := true, recurses := true, apart := false, narrowed := true }
def FetchAgainUptoSaid : Prop := fetchAgainUptoRow.holds Tryz.pinned (OpenSpec.upto fetchAgainSpec)

/-- 'signalmanlaw18.FetchBoth', WHERE WHAT IT READS IS OF BULK AT MOST 1048576: true; the input reads as it did. -/
def fetchBothUptoRow : OpenClaim := { program := "ytdffinnnjcgfcaagreat", sum := "99a5e73d6e7d12317d9e113fd1394a3562c468883581ad2c8f22c3464c347cf1", func := "signalman/signalmanlaw18.FetchBoth", spec := "fetchBoth", unfollowed := true, recurses := true, apart := false, narrowed := true }
def FetchBothUptoSaid : Prop := fetchBothUptoRow.holds Tryz.pinned (OpenSpec.upto fetchBothSpec)

/-- 'signalmanlaw19.PostAlways', WHERE WHAT IT READS IS OF BULK AT MOST 1048576: true; the input reads as it did. -/
def postAlwaysUptoRow : OpenClaim := { program := "ytdffinnnjcgfcaagreat", sum := "99a5e73d6e7d12317d9e113fd1394a3562c468883581ad2c8f22c3464c347cf1", func := "signalman/signalmanlaw19.PostAlways", spec := "postAlways", unfollowed := true, recurses := true, apart := false, narrowed := true }
def PostAlwaysUptoSaid : Prop := postAlwaysUptoRow.holds Tryz.pinned (OpenSpec.upto postAlwaysSpec)

/-- 'signalmanlaw19.PostSends', WHERE WHAT IT READS IS OF BULK AT MOST 1048576: true; the input reads as it did. -/
def postSendsUptoRow : OpenClaim := { program := "ytdffinnnjcgfcaagreat", sum := "99a5e73d6e7d12317d9e113fd1394a3562c468883581ad2c8f22c3464c347cf1", func := "signalman/signalmanlaw19.PostSends", spec := "postSends", unfollowed := true, recurses := true, apart := false, narrowed := true }
def PostSendsUptoSaid : Prop := postSendsUptoRow.holds Tryz.pinned (OpenSpec.upto postSendsSpec)

/-- 'signalmanlaw19.PostHears', WHERE WHAT IT READS IS OF BULK AT MOST 1048576: true; the input reads as it did. -/
def postHearsUptoRow : OpenClaim := { program := "ytdffinnnjcgfcaagreat", sum := "99a5e73d6e7d12317d9e113fd1394a3562c468883581ad2c8f22c3464c347cf1", func := "signalman/signalmanlaw19.PostHears", spec := "postHears", unfollowed := true, recurses := true, apart := false, narrowed := true }
def PostHearsUptoSaid : Prop := postHearsUptoRow.holds Tryz.pinned (OpenSpec.upto postHearsSpec)

/-- 'signalmanlaw19.PostMessages', WHERE WHAT IT READS IS OF BULK AT MOST 1048576: true; the input reads as it did. -/
def postMessagesUptoRow : OpenClaim := { program := "ytdffinnnjcgfcaagreat", sum := "99a5e73d6e7d12317d9e113fd1394a3562c468883581ad2c8f22c3464c347cf1", func := "signalman/signalmanlaw19.PostMessages", spec := "postMessages", unfollowed := true, recurses := true, apart := false, narrowed := true }
def PostMessagesUptoSaid : Prop := postMessagesUptoRow.holds Tryz.pinned (OpenSpec.upto postMessagesSpec)

/-- 'signalmanlaw19.PostBegins', WHERE WHAT IT READS IS OF BULK AT MOST 1048576: true; the input reads as it did. -/
def postBeginsUptoRow : OpenClaim := { program := "ytdffinnnjcgfcaagreat", sum := "99a5e73d6e7d12317d9e113fd1394a3562c468883581ad2c8f22c3464c347cf1", func := "signalman/signalmanlaw19.PostBegins", spec := "postBegins", unfollowed := true, recurses := true, apart := false, narrowed := true }
def PostBeginsUptoSaid : Prop := postBeginsUptoRow.holds Tryz.pinned (OpenSpec.upto postBeginsSpec)

end Rows
end Go.Proofs.YtdffinnnjcgfcaaGreat
