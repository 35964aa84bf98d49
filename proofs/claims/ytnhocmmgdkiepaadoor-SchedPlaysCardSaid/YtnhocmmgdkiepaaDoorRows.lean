/-
  NARROWER THAN 'FOR EVERY INPUT', by the rows' own cells (each row's printed sentence says how): SchedLate: laid · SchedFair: laid · QueueMay: laid · QueueStops: laid · QueueLast: laid · QueuePlays: laid · SchedSleeps: laid · SchedCopies: laid · SchedPlays: laid.
  DERIVED. THE GIVEN ROWS OF THIS SEAT. 9 by the template 'for every input the law returns true; each argument reads behind the call as it read before'; 0 by the template 'total and deterministic' (their statements: YtnhocmmgdkiepaaDoorTotals.lean).
  GIVEN WITH THE SEED: the statements are not yours to turn. If you find one false, say at which input.
  Laid BY PROGRAM, IN A SANDBOX (cutbox-rows.mjs): the forced cells as the released guide's own fill.sh prints them over the translation 7eac0692c387180c… (all of the seat's roots in one cut). By AI agents, Wed Nov 11 2026. No macro, syntax, notation, axiom, sorry.
-/
import Derived.Test.YtnhocmmgdkiepaaDoorChecked
import GoSem.Claim
import GoSem.ClaimJoined
import GoSem.ClaimMapViews
import Derived.JoinedTies
import Derived.KernelRfl
namespace Go.Proofs.YtnhocmmgdkiepaaDoor
/- THE CELL 'sum', in the pinned program and in every row, IS THE sha256 OF THE DUMP (.gsa) THAT YtnhocmmgdkiepaaDoorProg.lean LOADS. Nothing in Lean hashes anything: it is a label: what it is worth is what the hold of that sum in a sandbox is worth. -/
noncomputable def Tryd.pinned : Pinned := { name := "ytnhocmmgdkiepaadoor", sum := "7eac0692c387180c9c46833e29dcb12e9c0250dc028e10e2fc87ea189e1b3f38", checked := Tryd.checked }
namespace Rows
def none {H : Type} : Left H := { results := [], args := [] }

/- WHAT THE LISTED PACKAGE-LEVEL VARIABLES READ AS WHEN THE CALL BEGINS. Each datum BY PROGRAM (the guide's laid-datum.mjs) off the statement by which the dump's own 'gosem.cut.vars' lays the variable. In a bare row this is a premise. The card (YtnhocmmgdkiepaaDoorCards.lean) ties it to the program's text. -/
def laid_facade_api_ErrEnd {H : Type} : DataW H := .iface "*errors.errorString" (.ptr (.agg [.lit (.string [105, 116, 32, 101, 110, 100, 115, 32, 116, 111, 111, 32, 101, 97, 114, 108, 121])]))
def laid_facade_api_ErrShape {H : Type} : DataW H := .iface "*errors.errorString" (.ptr (.agg [.lit (.string [110, 111, 116, 32, 97, 115, 32, 105, 116, 32, 104, 97, 115, 32, 116, 111, 32, 98, 101])]))
def laid_facade_api_ErrRange {H : Type} : DataW H := .iface "*errors.errorString" (.ptr (.agg [.lit (.string [97, 32, 110, 117, 109, 98, 101, 114, 32, 111, 117, 116, 32, 111, 102, 32, 105, 116, 115, 32, 114, 97, 110, 103, 101])]))
def laid_facade_api_ErrMany {H : Type} : DataW H := .iface "*errors.errorString" (.ptr (.agg [.lit (.string [116, 111, 111, 32, 109, 97, 110, 121])]))
def laid_facade_api_ErrOp {H : Type} : DataW H := .iface "*errors.errorString" (.ptr (.agg [.lit (.string [110, 111, 32, 115, 117, 99, 104, 32, 105, 110, 115, 116, 114, 117, 99, 116, 105, 111, 110])]))
def laid_facade_api_ErrTwice {H : Type} : DataW H := .iface "*errors.errorString" (.ptr (.agg [.lit (.string [116, 104, 101, 114, 101, 32, 105, 115, 32, 111, 110, 101])]))
def laid_facade_api_ErrNone {H : Type} : DataW H := .iface "*errors.errorString" (.ptr (.agg [.lit (.string [116, 104, 101, 114, 101, 32, 105, 115, 32, 110, 111, 110, 101])]))
def laid_facade_api_ErrFar {H : Type} : DataW H := .iface "*errors.errorString" (.ptr (.agg [.lit (.string [116, 111, 111, 32, 102, 97, 114])]))
def laid_facade_api_ErrMap {H : Type} : DataW H := .iface "*errors.errorString" (.ptr (.agg [.lit (.string [110, 111, 116, 32, 97, 115, 32, 116, 104, 101, 32, 99, 111, 100, 101, 39, 115, 32, 109, 97, 112, 32, 104, 97, 115, 32, 105, 116])]))
def laid_facade_api_ErrOwner {H : Type} : DataW H := .iface "*errors.errorString" (.ptr (.agg [.lit (.string [97, 110, 111, 116, 104, 101, 114, 32, 111, 110, 101, 39, 115])]))
def laid_facade_api_ErrType {H : Type} : DataW H := .iface "*errors.errorString" (.ptr (.agg [.lit (.string [97, 32, 102, 114, 97, 109, 101, 32, 111, 102, 32, 97, 110, 111, 116, 104, 101, 114, 32, 107, 105, 110, 100])]))
def laid_facade_api_ErrBusy {H : Type} : DataW H := .iface "*errors.errorString" (.ptr (.agg [.lit (.string [115, 116, 105, 108, 108, 32, 105, 110, 32, 117, 115, 101])]))
def laid_facade_api_ErrFull {H : Type} : DataW H := .iface "*errors.errorString" (.ptr (.agg [.lit (.string [116, 104, 101, 114, 101, 32, 105, 115, 32, 110, 111, 32, 114, 111, 111, 109])]))
def laid_facade_api_ErrState {H : Type} : DataW H := .iface "*errors.errorString" (.ptr (.agg [.lit (.string [110, 111, 116, 32, 97, 115, 32, 105, 116, 32, 105, 115, 32, 110, 111, 119])]))
def laid_facade_api_ErrWord {H : Type} : DataW H := .iface "*errors.errorString" (.ptr (.agg [.lit (.string [110, 111, 32, 115, 117, 99, 104, 32, 119, 111, 114, 100])]))
def laid_facade_api_ErrNumber {H : Type} : DataW H := .iface "*errors.errorString" (.ptr (.agg [.lit (.string [110, 111, 116, 32, 97, 32, 110, 117, 109, 98, 101, 114])]))

/-- 'facadelaw24.SchedLate': WHATEVER THE INPUT: true; the input reads as it did. -/
def schedLateSpec : ChangeSpec := { name := "schedLate", fn := fun _ => fun
  | [d1, d2, d3] => { results := [.lit (.bool true)], args := [d1, d2, d3] }
  | _ => none }
def schedLateRow : OpenClaim := { program := "ytnhocmmgdkiepaadoor", sum := "7eac0692c387180c9c46833e29dcb12e9c0250dc028e10e2fc87ea189e1b3f38", func := "facade/facadelaw24.SchedLate", spec := "schedLate", unfollowed := true, recurses := true, named := ["facade/api.ErrRange", "facade/api.ErrTwice", "facade/api.ErrNone", "facade/api.ErrEnd", "facade/api.ErrShape", "facade/api.ErrMany", "facade/api.ErrOp", "facade/api.ErrFar", "facade/api.ErrMap", "facade/api.ErrOwner", "facade/api.ErrType", "facade/api.ErrBusy", "facade/api.ErrFull", "facade/api.ErrState", "facade/api.ErrWord", "facade/api.ErrNumber"], apart := false, laid := [("facade/api.ErrEnd", laid_facade_api_ErrEnd), ("facade/api.ErrShape", laid_facade_api_ErrShape), ("facade/api.ErrRange", laid_facade_api_ErrRange), ("facade/api.ErrMany", laid_facade_api_ErrMany), ("facade/api.ErrOp", laid_facade_api_ErrOp), ("facade/api.ErrTwice", laid_facade_api_ErrTwice), ("facade/api.ErrNone", laid_facade_api_ErrNone), ("facade/api.ErrFar", laid_facade_api_ErrFar), ("facade/api.ErrMap", laid_facade_api_ErrMap), ("facade/api.ErrOwner", laid_facade_api_ErrOwner), ("facade/api.ErrType", laid_facade_api_ErrType), ("facade/api.ErrBusy", laid_facade_api_ErrBusy), ("facade/api.ErrFull", laid_facade_api_ErrFull), ("facade/api.ErrState", laid_facade_api_ErrState), ("facade/api.ErrWord", laid_facade_api_ErrWord), ("facade/api.ErrNumber", laid_facade_api_ErrNumber)] }
def SchedLateSaid : Prop := schedLateRow.holds Tryd.pinned (OpenSpec.ofChange schedLateSpec)

/-- ITS FALSE NEIGHBOUR: 'it returns false'. Refute it at one input. -/
def schedLateWrong : ChangeSpec := { name := "schedLate", fn := fun _ => fun
  | [d1, d2, d3] => { results := [.lit (.bool false)], args := [d1, d2, d3] }
  | _ => none }
def SchedLateWrongFalsely : Prop := schedLateRow.holds Tryd.pinned (OpenSpec.ofChange schedLateWrong)

/-- 'facadelaw24.SchedFair': WHATEVER THE INPUT: true; the input reads as it did. -/
def schedFairSpec : ChangeSpec := { name := "schedFair", fn := fun _ => fun
  | [d1, d2, d3] => { results := [.lit (.bool true)], args := [d1, d2, d3] }
  | _ => none }
def schedFairRow : OpenClaim := { program := "ytnhocmmgdkiepaadoor", sum := "7eac0692c387180c9c46833e29dcb12e9c0250dc028e10e2fc87ea189e1b3f38", func := "facade/facadelaw24.SchedFair", spec := "schedFair", unfollowed := true, recurses := true, named := ["facade/api.ErrRange", "facade/api.ErrTwice", "facade/api.ErrNone"], apart := false, laid := [("facade/api.ErrRange", laid_facade_api_ErrRange), ("facade/api.ErrTwice", laid_facade_api_ErrTwice), ("facade/api.ErrNone", laid_facade_api_ErrNone)] }
def SchedFairSaid : Prop := schedFairRow.holds Tryd.pinned (OpenSpec.ofChange schedFairSpec)

/-- ITS FALSE NEIGHBOUR: 'it returns false'. Refute it at one input. -/
def schedFairWrong : ChangeSpec := { name := "schedFair", fn := fun _ => fun
  | [d1, d2, d3] => { results := [.lit (.bool false)], args := [d1, d2, d3] }
  | _ => none }
def SchedFairWrongFalsely : Prop := schedFairRow.holds Tryd.pinned (OpenSpec.ofChange schedFairWrong)

/-- 'facadelaw19.QueueMay': WHATEVER THE INPUT: true; the input reads as it did. -/
def queueMaySpec : ChangeSpec := { name := "queueMay", fn := fun _ => fun
  | [d1, d2, d3, d4] => { results := [.lit (.bool true)], args := [d1, d2, d3, d4] }
  | _ => none }
def queueMayRow : OpenClaim := { program := "ytnhocmmgdkiepaadoor", sum := "7eac0692c387180c9c46833e29dcb12e9c0250dc028e10e2fc87ea189e1b3f38", func := "facade/facadelaw19.QueueMay", spec := "queueMay", unfollowed := true, recurses := true, named := ["facade/api.ErrRange", "facade/api.ErrFull", "facade/api.ErrBusy", "facade/api.ErrNone", "facade/api.ErrOwner", "facade/api.ErrType", "facade/api.ErrTwice", "facade/api.ErrMany", "facade/api.ErrShape"], apart := false, laid := [("facade/api.ErrShape", laid_facade_api_ErrShape), ("facade/api.ErrRange", laid_facade_api_ErrRange), ("facade/api.ErrMany", laid_facade_api_ErrMany), ("facade/api.ErrTwice", laid_facade_api_ErrTwice), ("facade/api.ErrNone", laid_facade_api_ErrNone), ("facade/api.ErrOwner", laid_facade_api_ErrOwner), ("facade/api.ErrType", laid_facade_api_ErrType), ("facade/api.ErrBusy", laid_facade_api_ErrBusy), ("facade/api.ErrFull", laid_facade_api_ErrFull)] }
def QueueMaySaid : Prop := queueMayRow.holds Tryd.pinned (OpenSpec.ofChange queueMaySpec)

/-- ITS FALSE NEIGHBOUR: 'it returns false'. Refute it at one input. -/
def queueMayWrong : ChangeSpec := { name := "queueMay", fn := fun _ => fun
  | [d1, d2, d3, d4] => { results := [.lit (.bool false)], args := [d1, d2, d3, d4] }
  | _ => none }
def QueueMayWrongFalsely : Prop := queueMayRow.holds Tryd.pinned (OpenSpec.ofChange queueMayWrong)

/-- 'facadelaw19.QueueStops': WHATEVER THE INPUT: true; the input reads as it did. -/
def queueStopsSpec : ChangeSpec := { name := "queueStops", fn := fun _ => fun
  | [d1, d2, d3] => { results := [.lit (.bool true)], args := [d1, d2, d3] }
  | _ => none }
def queueStopsRow : OpenClaim := { program := "ytnhocmmgdkiepaadoor", sum := "7eac0692c387180c9c46833e29dcb12e9c0250dc028e10e2fc87ea189e1b3f38", func := "facade/facadelaw19.QueueStops", spec := "queueStops", unfollowed := true, recurses := true, named := ["facade/api.ErrRange", "facade/api.ErrFull", "facade/api.ErrBusy", "facade/api.ErrNone", "facade/api.ErrOwner", "facade/api.ErrType", "facade/api.ErrTwice", "facade/api.ErrMany", "facade/api.ErrShape", "facade/api.ErrEnd", "facade/api.ErrOp", "facade/api.ErrFar", "facade/api.ErrMap", "facade/api.ErrState", "facade/api.ErrWord", "facade/api.ErrNumber"], apart := false, laid := [("facade/api.ErrEnd", laid_facade_api_ErrEnd), ("facade/api.ErrShape", laid_facade_api_ErrShape), ("facade/api.ErrRange", laid_facade_api_ErrRange), ("facade/api.ErrMany", laid_facade_api_ErrMany), ("facade/api.ErrOp", laid_facade_api_ErrOp), ("facade/api.ErrTwice", laid_facade_api_ErrTwice), ("facade/api.ErrNone", laid_facade_api_ErrNone), ("facade/api.ErrFar", laid_facade_api_ErrFar), ("facade/api.ErrMap", laid_facade_api_ErrMap), ("facade/api.ErrOwner", laid_facade_api_ErrOwner), ("facade/api.ErrType", laid_facade_api_ErrType), ("facade/api.ErrBusy", laid_facade_api_ErrBusy), ("facade/api.ErrFull", laid_facade_api_ErrFull), ("facade/api.ErrState", laid_facade_api_ErrState), ("facade/api.ErrWord", laid_facade_api_ErrWord), ("facade/api.ErrNumber", laid_facade_api_ErrNumber)] }
def QueueStopsSaid : Prop := queueStopsRow.holds Tryd.pinned (OpenSpec.ofChange queueStopsSpec)

/-- ITS FALSE NEIGHBOUR: 'it returns false'. Refute it at one input. -/
def queueStopsWrong : ChangeSpec := { name := "queueStops", fn := fun _ => fun
  | [d1, d2, d3] => { results := [.lit (.bool false)], args := [d1, d2, d3] }
  | _ => none }
def QueueStopsWrongFalsely : Prop := queueStopsRow.holds Tryd.pinned (OpenSpec.ofChange queueStopsWrong)

/-- 'facadelaw19.QueueLast': WHATEVER THE INPUT: true; the input reads as it did. -/
def queueLastSpec : ChangeSpec := { name := "queueLast", fn := fun _ => fun
  | [d1, d2] => { results := [.lit (.bool true)], args := [d1, d2] }
  | _ => none }
def queueLastRow : OpenClaim := { program := "ytnhocmmgdkiepaadoor", sum := "7eac0692c387180c9c46833e29dcb12e9c0250dc028e10e2fc87ea189e1b3f38", func := "facade/facadelaw19.QueueLast", spec := "queueLast", unfollowed := true, recurses := true, named := ["facade/api.ErrRange", "facade/api.ErrFull", "facade/api.ErrBusy", "facade/api.ErrNone", "facade/api.ErrOwner", "facade/api.ErrType", "facade/api.ErrTwice", "facade/api.ErrMany", "facade/api.ErrShape"], apart := false, laid := [("facade/api.ErrShape", laid_facade_api_ErrShape), ("facade/api.ErrRange", laid_facade_api_ErrRange), ("facade/api.ErrMany", laid_facade_api_ErrMany), ("facade/api.ErrTwice", laid_facade_api_ErrTwice), ("facade/api.ErrNone", laid_facade_api_ErrNone), ("facade/api.ErrOwner", laid_facade_api_ErrOwner), ("facade/api.ErrType", laid_facade_api_ErrType), ("facade/api.ErrBusy", laid_facade_api_ErrBusy), ("facade/api.ErrFull", laid_facade_api_ErrFull)] }
def QueueLastSaid : Prop := queueLastRow.holds Tryd.pinned (OpenSpec.ofChange queueLastSpec)

/-- ITS FALSE NEIGHBOUR: 'it returns false'. Refute it at one input. -/
def queueLastWrong : ChangeSpec := { name := "queueLast", fn := fun _ => fun
  | [d1, d2] => { results := [.lit (.bool false)], args := [d1, d2] }
  | _ => none }
def QueueLastWrongFalsely : Prop := queueLastRow.holds Tryd.pinned (OpenSpec.ofChange queueLastWrong)

/-- 'facadelaw19.QueuePlays': WHATEVER THE INPUT: true; the input reads as it did. -/
def queuePlaysSpec : ChangeSpec := { name := "queuePlays", fn := fun _ => fun
  | [d1, d2] => { results := [.lit (.bool true)], args := [d1, d2] }
  | _ => none }
def queuePlaysRow : OpenClaim := { program := "ytnhocmmgdkiepaadoor", sum := "7eac0692c387180c9c46833e29dcb12e9c0250dc028e10e2fc87ea189e1b3f38", func := "facade/facadelaw19.QueuePlays", spec := "queuePlays", unfollowed := true, recurses := true, named := ["facade/api.ErrRange", "facade/api.ErrFull", "facade/api.ErrBusy", "facade/api.ErrNone", "facade/api.ErrOwner", "facade/api.ErrType", "facade/api.ErrTwice", "facade/api.ErrMany", "facade/api.ErrShape", "facade/api.ErrEnd", "facade/api.ErrOp", "facade/api.ErrFar", "facade/api.ErrMap", "facade/api.ErrState", "facade/api.ErrWord", "facade/api.ErrNumber"], apart := false, laid := [("facade/api.ErrEnd", laid_facade_api_ErrEnd), ("facade/api.ErrShape", laid_facade_api_ErrShape), ("facade/api.ErrRange", laid_facade_api_ErrRange), ("facade/api.ErrMany", laid_facade_api_ErrMany), ("facade/api.ErrOp", laid_facade_api_ErrOp), ("facade/api.ErrTwice", laid_facade_api_ErrTwice), ("facade/api.ErrNone", laid_facade_api_ErrNone), ("facade/api.ErrFar", laid_facade_api_ErrFar), ("facade/api.ErrMap", laid_facade_api_ErrMap), ("facade/api.ErrOwner", laid_facade_api_ErrOwner), ("facade/api.ErrType", laid_facade_api_ErrType), ("facade/api.ErrBusy", laid_facade_api_ErrBusy), ("facade/api.ErrFull", laid_facade_api_ErrFull), ("facade/api.ErrState", laid_facade_api_ErrState), ("facade/api.ErrWord", laid_facade_api_ErrWord), ("facade/api.ErrNumber", laid_facade_api_ErrNumber)] }
def QueuePlaysSaid : Prop := queuePlaysRow.holds Tryd.pinned (OpenSpec.ofChange queuePlaysSpec)

/-- ITS FALSE NEIGHBOUR: 'it returns false'. Refute it at one input. -/
def queuePlaysWrong : ChangeSpec := { name := "queuePlays", fn := fun _ => fun
  | [d1, d2] => { results := [.lit (.bool false)], args := [d1, d2] }
  | _ => none }
def QueuePlaysWrongFalsely : Prop := queuePlaysRow.holds Tryd.pinned (OpenSpec.ofChange queuePlaysWrong)

/-- 'facadelaw24.SchedSleeps': WHATEVER THE INPUT: true; the input reads as it did. -/
def schedSleepsSpec : ChangeSpec := { name := "schedSleeps", fn := fun _ => fun
  | [d1, d2] => { results := [.lit (.bool true)], args := [d1, d2] }
  | _ => none }
def schedSleepsRow : OpenClaim := { program := "ytnhocmmgdkiepaadoor", sum := "7eac0692c387180c9c46833e29dcb12e9c0250dc028e10e2fc87ea189e1b3f38", func := "facade/facadelaw24.SchedSleeps", spec := "schedSleeps", unfollowed := true, recurses := true, named := ["facade/api.ErrRange", "facade/api.ErrTwice", "facade/api.ErrNone", "facade/api.ErrEnd", "facade/api.ErrShape", "facade/api.ErrMany", "facade/api.ErrOp", "facade/api.ErrFar", "facade/api.ErrMap", "facade/api.ErrOwner", "facade/api.ErrType", "facade/api.ErrBusy", "facade/api.ErrFull", "facade/api.ErrState", "facade/api.ErrWord", "facade/api.ErrNumber"], apart := false, laid := [("facade/api.ErrEnd", laid_facade_api_ErrEnd), ("facade/api.ErrShape", laid_facade_api_ErrShape), ("facade/api.ErrRange", laid_facade_api_ErrRange), ("facade/api.ErrMany", laid_facade_api_ErrMany), ("facade/api.ErrOp", laid_facade_api_ErrOp), ("facade/api.ErrTwice", laid_facade_api_ErrTwice), ("facade/api.ErrNone", laid_facade_api_ErrNone), ("facade/api.ErrFar", laid_facade_api_ErrFar), ("facade/api.ErrMap", laid_facade_api_ErrMap), ("facade/api.ErrOwner", laid_facade_api_ErrOwner), ("facade/api.ErrType", laid_facade_api_ErrType), ("facade/api.ErrBusy", laid_facade_api_ErrBusy), ("facade/api.ErrFull", laid_facade_api_ErrFull), ("facade/api.ErrState", laid_facade_api_ErrState), ("facade/api.ErrWord", laid_facade_api_ErrWord), ("facade/api.ErrNumber", laid_facade_api_ErrNumber)] }
def SchedSleepsSaid : Prop := schedSleepsRow.holds Tryd.pinned (OpenSpec.ofChange schedSleepsSpec)

/-- ITS FALSE NEIGHBOUR: 'it returns false'. Refute it at one input. -/
def schedSleepsWrong : ChangeSpec := { name := "schedSleeps", fn := fun _ => fun
  | [d1, d2] => { results := [.lit (.bool false)], args := [d1, d2] }
  | _ => none }
def SchedSleepsWrongFalsely : Prop := schedSleepsRow.holds Tryd.pinned (OpenSpec.ofChange schedSleepsWrong)

/-- 'facadelaw24.SchedCopies': WHATEVER THE INPUT: true; the input reads as it did. -/
def schedCopiesSpec : ChangeSpec := { name := "schedCopies", fn := fun _ => fun
  | [d1, d2, d3] => { results := [.lit (.bool true)], args := [d1, d2, d3] }
  | _ => none }
def schedCopiesRow : OpenClaim := { program := "ytnhocmmgdkiepaadoor", sum := "7eac0692c387180c9c46833e29dcb12e9c0250dc028e10e2fc87ea189e1b3f38", func := "facade/facadelaw24.SchedCopies", spec := "schedCopies", unfollowed := true, recurses := true, named := ["facade/api.ErrRange", "facade/api.ErrTwice", "facade/api.ErrNone"], apart := false, laid := [("facade/api.ErrRange", laid_facade_api_ErrRange), ("facade/api.ErrTwice", laid_facade_api_ErrTwice), ("facade/api.ErrNone", laid_facade_api_ErrNone)] }
def SchedCopiesSaid : Prop := schedCopiesRow.holds Tryd.pinned (OpenSpec.ofChange schedCopiesSpec)

/-- ITS FALSE NEIGHBOUR: 'it returns false'. Refute it at one input. -/
def schedCopiesWrong : ChangeSpec := { name := "schedCopies", fn := fun _ => fun
  | [d1, d2, d3] => { results := [.lit (.bool false)], args := [d1, d2, d3] }
  | _ => none }
def SchedCopiesWrongFalsely : Prop := schedCopiesRow.holds Tryd.pinned (OpenSpec.ofChange schedCopiesWrong)

/-- 'facadelaw24.SchedPlays': WHATEVER THE INPUT: true; the input reads as it did. -/
def schedPlaysSpec : ChangeSpec := { name := "schedPlays", fn := fun _ => fun
  | [d] => { results := [.lit (.bool true)], args := [d] }
  | _ => none }
def schedPlaysRow : OpenClaim := { program := "ytnhocmmgdkiepaadoor", sum := "7eac0692c387180c9c46833e29dcb12e9c0250dc028e10e2fc87ea189e1b3f38", func := "facade/facadelaw24.SchedPlays", spec := "schedPlays", unfollowed := true, recurses := true, named := ["facade/api.ErrRange", "facade/api.ErrTwice", "facade/api.ErrEnd", "facade/api.ErrShape", "facade/api.ErrMany", "facade/api.ErrOp", "facade/api.ErrNone", "facade/api.ErrFar", "facade/api.ErrMap", "facade/api.ErrOwner", "facade/api.ErrType", "facade/api.ErrBusy", "facade/api.ErrFull", "facade/api.ErrState", "facade/api.ErrWord", "facade/api.ErrNumber"], apart := false, laid := [("facade/api.ErrEnd", laid_facade_api_ErrEnd), ("facade/api.ErrShape", laid_facade_api_ErrShape), ("facade/api.ErrRange", laid_facade_api_ErrRange), ("facade/api.ErrMany", laid_facade_api_ErrMany), ("facade/api.ErrOp", laid_facade_api_ErrOp), ("facade/api.ErrTwice", laid_facade_api_ErrTwice), ("facade/api.ErrNone", laid_facade_api_ErrNone), ("facade/api.ErrFar", laid_facade_api_ErrFar), ("facade/api.ErrMap", laid_facade_api_ErrMap), ("facade/api.ErrOwner", laid_facade_api_ErrOwner), ("facade/api.ErrType", laid_facade_api_ErrType), ("facade/api.ErrBusy", laid_facade_api_ErrBusy), ("facade/api.ErrFull", laid_facade_api_ErrFull), ("facade/api.ErrState", laid_facade_api_ErrState), ("facade/api.ErrWord", laid_facade_api_ErrWord), ("facade/api.ErrNumber", laid_facade_api_ErrNumber)] }
def SchedPlaysSaid : Prop := schedPlaysRow.holds Tryd.pinned (OpenSpec.ofChange schedPlaysSpec)

/-- ITS FALSE NEIGHBOUR: 'it returns false'. Refute it at one input. -/
def schedPlaysWrong : ChangeSpec := { name := "schedPlays", fn := fun _ => fun
  | [d] => { results := [.lit (.bool false)], args := [d] }
  | _ => none }
def SchedPlaysWrongFalsely : Prop := schedPlaysRow.holds Tryd.pinned (OpenSpec.ofChange schedPlaysWrong)

/- THE SECOND FORM. 'bulk': how many values and letters a reading holds, each counted each time it is reached (what is shared counts as often as it is met; a slice's spare places count too). A statement '..UptoSaid' is the law's where the arguments, and the package variables that the reading takes, are together of bulk at most 1048576: NARROWER than '..Said'. Prove '..Said' where nothing that the law and all that it calls make is longer than what came in: it says more and counts as full. Else prove '..UptoSaid'. A law counts once. -/
mutual
def uptoBulk {H : Type} : DataW H → Nat
  | .lit (.string bytes) => bytes.length + 1
  | .lit _ => 1
  | .nil => 1
  | .ptr d => uptoBulk d + 1
  | .slice elems spare => uptoBulkAll elems + uptoBulkAll spare + 1
  | .agg parts => uptoBulkAll parts + 1
  | .iface _ d => uptoBulk d + 1
  | .map entries => uptoBulkEntries entries + 1
  | .held _ => 1
def uptoBulkAll {H : Type} : List (DataW H) → Nat
  | [] => 0
  | d :: r => uptoBulk d + uptoBulkAll r
def uptoBulkEntries {H : Type} : List (Lit × DataW H) → Nat
  | [] => 0
  | x :: r => uptoBulkEntry x + uptoBulkEntries r
def uptoBulkEntry {H : Type} : Lit × DataW H → Nat
  | (.string bytes, d) => bytes.length + uptoBulk d + 1
  | (_, d) => uptoBulk d + 1
 end
def uptoSmall : (H : Type) → List (DataW H) → Bool := fun _ ds => decide (uptoBulkAll ds ≤ 1048576)
def OpenSpec.upto (s : _root_.Go.ChangeSpec) : _root_.Go.OpenSpec := { _root_.Go.OpenSpec.ofChange s with cond := some uptoSmall }

/-- 'facadelaw24.SchedLate', WHERE WHAT IT READS IS OF BULK AT MOST 1048576: true; the input reads as it did. -/
def schedLateUptoRow : OpenClaim := { program := "ytnhocmmgdkiepaadoor", sum := "7eac0692c387180c9c46833e29dcb12e9c0250dc028e10e2fc87ea189e1b3f38", func := "facade/facadelaw24.SchedLate", spec := "schedLate", unfollowed := true, recurses := true, named := ["facade/api.ErrRange", "facade/api.ErrTwice", "facade/api.ErrNone", "facade/api.ErrEnd", "facade/api.ErrShape", "facade/api.ErrMany", "facade/api.ErrOp", "facade/api.ErrFar", "facade/api.ErrMap", "facade/api.ErrOwner", "facade/api.ErrType", "facade/api.ErrBusy", "facade/api.ErrFull", "facade/api.ErrState", "facade/api.ErrWord", "facade/api.ErrNumber"], apart := false, laid := [("facade/api.ErrEnd", laid_facade_api_ErrEnd), ("facade/api.ErrShape", laid_facade_api_ErrShape), ("facade/api.ErrRange", laid_facade_api_ErrRange), ("facade/api.ErrMany", laid_facade_api_ErrMany), ("facade/api.ErrOp", laid_facade_api_ErrOp), ("facade/api.ErrTwice", laid_facade_api_ErrTwice), ("facade/api.ErrNone", laid_facade_api_ErrNone), ("facade/api.ErrFar", laid_facade_api_ErrFar), ("facade/api.ErrMap", laid_facade_api_ErrMap), ("facade/api.ErrOwner", laid_facade_api_ErrOwner), ("facade/api.ErrType", laid_facade_api_ErrType), ("facade/api.ErrBusy", laid_facade_api_ErrBusy), ("facade/api.ErrFull", laid_facade_api_ErrFull), ("facade/api.ErrState", laid_facade_api_ErrState), ("facade/api.ErrWord", laid_facade_api_ErrWord), ("facade/api.ErrNumber", laid_facade_api_ErrNumber)], narrowed := true }
def SchedLateUptoSaid : Prop := schedLateUptoRow.holds Tryd.pinned (OpenSpec.upto schedLateSpec)

/-- 'facadelaw24.SchedFair', WHERE WHAT IT READS IS OF BULK AT MOST 1048576: true; the input reads as it did. -/
def schedFairUptoRow : OpenClaim := { program := "ytnhocmmgdkiepaadoor", sum := "7eac0692c387180c9c46833e29dcb12e9c0250dc028e10e2fc87ea189e1b3f38", func := "facade/facadelaw24.SchedFair", spec := "schedFair", unfollowed := true, recurses := true, named := ["facade/api.ErrRange", "facade/api.ErrTwice", "facade/api.ErrNone"], apart := false, laid := [("facade/api.ErrRange", laid_facade_api_ErrRange), ("facade/api.ErrTwice", laid_facade_api_ErrTwice), ("facade/api.ErrNone", laid_facade_api_ErrNone)], narrowed := true }
def SchedFairUptoSaid : Prop := schedFairUptoRow.holds Tryd.pinned (OpenSpec.upto schedFairSpec)

/-- 'facadelaw19.QueueMay', WHERE WHAT IT READS IS OF BULK AT MOST 1048576: true; the input reads as it did. -/
def queueMayUptoRow : OpenClaim := { program := "ytnhocmmgdkiepaadoor", sum := "7eac0692c387180c9c46833e29dcb12e9c0250dc028e10e2fc87ea189e1b3f38", func := "facade/facadelaw19.QueueMay", spec := "queueMay", unfollowed := true, recurses := true, named := ["facade/api.ErrRange", "facade/api.ErrFull", "facade/api.ErrBusy", "facade/api.ErrNone", "facade/api.ErrOwner", "facade/api.ErrType", "facade/api.ErrTwice", "facade/api.ErrMany", "facade/api.ErrShape"], apart := false, laid := [("facade/api.ErrShape", laid_facade_api_ErrShape), ("facade/api.ErrRange", laid_facade_api_ErrRange), ("facade/api.ErrMany", laid_facade_api_ErrMany), ("facade/api.ErrTwice", laid_facade_api_ErrTwice), ("facade/api.ErrNone", laid_facade_api_ErrNone), ("facade/api.ErrOwner", laid_facade_api_ErrOwner), ("facade/api.ErrType", laid_facade_api_ErrType), ("facade/api.ErrBusy", laid_facade_api_ErrBusy), ("facade/api.ErrFull", laid_facade_api_ErrFull)], narrowed := true }
def QueueMayUptoSaid : Prop := queueMayUptoRow.holds Tryd.pinned (OpenSpec.upto queueMaySpec)

/-- 'facadelaw19.QueueStops', WHERE WHAT IT READS IS OF BULK AT MOST 1048576: true; the input reads as it did. -/
def queueStopsUptoRow : OpenClaim := { program := "ytnhocmmgdkiepaadoor", sum := "7eac0692c387180c9c46833e29dcb12e9c0250dc028e10e2fc87ea189e1b3f38", func := "facade/facadelaw19.QueueStops", spec := "queueStops", unfollowed := true, recurses := true, named := ["facade/api.ErrRange", "facade/api.ErrFull", "facade/api.ErrBusy", "facade/api.ErrNone", "facade/api.ErrOwner", "facade/api.ErrType", "facade/api.ErrTwice", "facade/api.ErrMany", "facade/api.ErrShape", "facade/api.ErrEnd", "facade/api.ErrOp", "facade/api.ErrFar", "facade/api.ErrMap", "facade/api.ErrState", "facade/api.ErrWord", "facade/api.ErrNumber"], apart := false, laid := [("facade/api.ErrEnd", laid_facade_api_ErrEnd), ("facade/api.ErrShape", laid_facade_api_ErrShape), ("facade/api.ErrRange", laid_facade_api_ErrRange), ("facade/api.ErrMany", laid_facade_api_ErrMany), ("facade/api.ErrOp", laid_facade_api_ErrOp), ("facade/api.ErrTwice", laid_facade_api_ErrTwice), ("facade/api.ErrNone", laid_facade_api_ErrNone), ("facade/api.ErrFar", laid_facade_api_ErrFar), ("facade/api.ErrMap", laid_facade_api_ErrMap), ("facade/api.ErrOwner", laid_facade_api_ErrOwner), ("facade/api.ErrType", laid_facade_api_ErrType), ("facade/api.ErrBusy", laid_facade_api_ErrBusy), ("facade/api.ErrFull", laid_facade_api_ErrFull), ("facade/api.ErrState", laid_facade_api_ErrState), ("facade/api.ErrWord", laid_facade_api_ErrWord), ("facade/api.ErrNumber", laid_facade_api_ErrNumber)], narrowed := true }
def QueueStopsUptoSaid : Prop := queueStopsUptoRow.holds Tryd.pinned (OpenSpec.upto queueStopsSpec)

/-- 'facadelaw19.QueueLast', WHERE WHAT IT READS IS OF BULK AT MOST 1048576: true; the input reads as it did. -/
def queueLastUptoRow : OpenClaim := { program := "ytnhocmmgdkiepaadoor", sum := "7eac0692c387180c9c46833e29dcb12e9c0250dc028e10e2fc87ea189e1b3f38", func := "facade/facadelaw19.QueueLast", spec := "queueLast", unfollowed := true, recurses := true, named := ["facade/api.ErrRange", "facade/api.ErrFull", "facade/api.ErrBusy", "facade/api.ErrNone", "facade/api.ErrOwner", "facade/api.ErrType", "facade/api.ErrTwice", "facade/api.ErrMany", "facade/api.ErrShape"], apart := false, laid := [("facade/api.ErrShape", laid_facade_api_ErrShape), ("facade/api.ErrRange", laid_facade_api_ErrRange), ("facade/api.ErrMany", laid_facade_api_ErrMany), ("facade/api.ErrTwice", laid_facade_api_ErrTwice), ("facade/api.ErrNone", laid_facade_api_ErrNone), ("facade/api.ErrOwner", laid_facade_api_ErrOwner), ("facade/api.ErrType", laid_facade_api_ErrType), ("facade/api.ErrBusy", laid_facade_api_ErrBusy), ("facade/api.ErrFull", laid_facade_api_ErrFull)], narrowed := true }
def QueueLastUptoSaid : Prop := queueLastUptoRow.holds Tryd.pinned (OpenSpec.upto queueLastSpec)

/-- 'facadelaw19.QueuePlays', WHERE WHAT IT READS IS OF BULK AT MOST 1048576: true; the input reads as it did. -/
def queuePlaysUptoRow : OpenClaim := { program := "ytnhocmmgdkiepaadoor", sum := "7eac0692c387180c9c46833e29dcb12e9c0250dc028e10e2fc87ea189e1b3f38", func := "facade/facadelaw19.QueuePlays", spec := "queuePlays", unfollowed := true, recurses := true, named := ["facade/api.ErrRange", "facade/api.ErrFull", "facade/api.ErrBusy", "facade/api.ErrNone", "facade/api.ErrOwner", "facade/api.ErrType", "facade/api.ErrTwice", "facade/api.ErrMany", "facade/api.ErrShape", "facade/api.ErrEnd", "facade/api.ErrOp", "facade/api.ErrFar", "facade/api.ErrMap", "facade/api.ErrState", "facade/api.ErrWord", "facade/api.ErrNumber"], apart := false, laid := [("facade/api.ErrEnd", laid_facade_api_ErrEnd), ("facade/api.ErrShape", laid_facade_api_ErrShape), ("facade/api.ErrRange", laid_facade_api_ErrRange), ("facade/api.ErrMany", laid_facade_api_ErrMany), ("facade/api.ErrOp", laid_facade_api_ErrOp), ("facade/api.ErrTwice", laid_facade_api_ErrTwice), ("facade/api.ErrNone", laid_facade_api_ErrNone), ("facade/api.ErrFar", laid_facade_api_ErrFar), ("facade/api.ErrMap", laid_facade_api_ErrMap), ("facade/api.ErrOwner", laid_facade_api_ErrOwner), ("facade/api.ErrType", laid_facade_api_ErrType), ("facade/api.ErrBusy", laid_facade_api_ErrBusy), ("facade/api.ErrFull", laid_facade_api_ErrFull), ("facade/api.ErrState", laid_facade_api_ErrState), ("facade/api.ErrWord", laid_facade_api_ErrWord), ("facade/api.ErrNumber", laid_facade_api_ErrNumber)], narrowed := true }
def QueuePlaysUptoSaid : Prop := queuePlaysUptoRow.holds Tryd.pinned (OpenSpec.upto queuePlaysSpec)

/-- 'facadelaw24.SchedSleeps', WHERE WHAT IT READS IS OF BULK AT MOST 1048576: true; the input reads as it did. -/
def schedSleepsUptoRow : OpenClaim := { program := "ytnhocmmgdkiepaadoor", sum := "7eac0692c387180c9c46833e29dcb12e9c0250dc028e10e2fc87ea189e1b3f38", func := "facade/facadelaw24.SchedSleeps", spec := "schedSleeps", unfollowed := true, recurses := true, named := ["facade/api.ErrRange", "facade/api.ErrTwice", "facade/api.ErrNone", "facade/api.ErrEnd", "facade/api.ErrShape", "facade/api.ErrMany", "facade/api.ErrOp", "facade/api.ErrFar", "facade/api.ErrMap", "facade/api.ErrOwner", "facade/api.ErrType", "facade/api.ErrBusy", "facade/api.ErrFull", "facade/api.ErrState", "facade/api.ErrWord", "facade/api.ErrNumber"], apart := false, laid := [("facade/api.ErrEnd", laid_facade_api_ErrEnd), ("facade/api.ErrShape", laid_facade_api_ErrShape), ("facade/api.ErrRange", laid_facade_api_ErrRange), ("facade/api.ErrMany", laid_facade_api_ErrMany), ("facade/api.ErrOp", laid_facade_api_ErrOp), ("facade/api.ErrTwice", laid_facade_api_ErrTwice), ("facade/api.ErrNone", laid_facade_api_ErrNone), ("facade/api.ErrFar", laid_facade_api_ErrFar), ("facade/api.ErrMap", laid_facade_api_ErrMap), ("facade/api.ErrOwner", laid_facade_api_ErrOwner), ("facade/api.ErrType", laid_facade_api_ErrType), ("facade/api.ErrBusy", laid_facade_api_ErrBusy), ("facade/api.ErrFull", laid_facade_api_ErrFull), ("facade/api.ErrState", laid_facade_api_ErrState), ("facade/api.ErrWord", laid_facade_api_ErrWord), ("facade/api.ErrNumber", laid_facade_api_ErrNumber)], narrowed := true }
def SchedSleepsUptoSaid : Prop := schedSleepsUptoRow.holds Tryd.pinned (OpenSpec.upto schedSleepsSpec)

/-- 'facadelaw24.SchedCopies', WHERE WHAT IT READS IS OF BULK AT MOST 1048576: true; the input reads as it did. -/
def schedCopiesUptoRow : OpenClaim := { program := "ytnhocmmgdkiepaadoor", sum := "7eac0692c387180c9c46833e29dcb12e9c0250dc028e10e2fc87ea189e1b3f38", func := "facade/facadelaw24.SchedCopies", spec := "schedCopies", unfollowed := true, recurses := true, named := ["facade/api.ErrRange", "facade/api.ErrTwice", "facade/api.ErrNone"], apart := false, laid := [("facade/api.ErrRange", laid_facade_api_ErrRange), ("facade/api.ErrTwice", laid_facade_api_ErrTwice), ("facade/api.ErrNone", laid_facade_api_ErrNone)], narrowed := true }
def SchedCopiesUptoSaid : Prop := schedCopiesUptoRow.holds Tryd.pinned (OpenSpec.upto schedCopiesSpec)

/-- 'facadelaw24.SchedPlays', WHERE WHAT IT READS IS OF BULK AT MOST 1048576: true; the input reads as it did. -/
def schedPlaysUptoRow : OpenClaim := { program := "ytnhocmmgdkiepaadoor", sum := "7eac0692c387180c9c46833e29dcb12e9c0250dc028e10e2fc87ea189e1b3f38", func := "facade/facadelaw24.SchedPlays", spec := "schedPlays", unfollowed := true, recurses := true, named := ["facade/api.ErrRange", "facade/api.ErrTwice", "facade/api.ErrEnd", "facade/api.ErrShape", "facade/api.ErrMany", "facade/api.ErrOp", "facade/api.ErrNone", "facade/api.ErrFar", "facade/api.ErrMap", "facade/api.ErrOwner", "facade/api.ErrType", "facade/api.ErrBusy", "facade/api.ErrFull", "facade/api.ErrState", "facade/api.ErrWord", "facade/api.ErrNumber"], apart := false, laid := [("facade/api.ErrEnd", laid_facade_api_ErrEnd), ("facade/api.ErrShape", laid_facade_api_ErrShape), ("facade/api.ErrRange", laid_facade_api_ErrRange), ("facade/api.ErrMany", laid_facade_api_ErrMany), ("facade/api.ErrOp", laid_facade_api_ErrOp), ("facade/api.ErrTwice", laid_facade_api_ErrTwice), ("facade/api.ErrNone", laid_facade_api_ErrNone), ("facade/api.ErrFar", laid_facade_api_ErrFar), ("facade/api.ErrMap", laid_facade_api_ErrMap), ("facade/api.ErrOwner", laid_facade_api_ErrOwner), ("facade/api.ErrType", laid_facade_api_ErrType), ("facade/api.ErrBusy", laid_facade_api_ErrBusy), ("facade/api.ErrFull", laid_facade_api_ErrFull), ("facade/api.ErrState", laid_facade_api_ErrState), ("facade/api.ErrWord", laid_facade_api_ErrWord), ("facade/api.ErrNumber", laid_facade_api_ErrNumber)], narrowed := true }
def SchedPlaysUptoSaid : Prop := schedPlaysUptoRow.holds Tryd.pinned (OpenSpec.upto schedPlaysSpec)

end Rows
end Go.Proofs.YtnhocmmgdkiepaaDoor
