/-
  NARROWER THAN 'FOR EVERY INPUT', by the rows' own cells (each row's printed sentence says how): FramesFull: laid · FramesSafe: laid · FramesTurn: laid · FramesPlay: laid · TablesNew: laid · TablesSafe: laid · TablesTwice: laid · TablesRefuse: laid.
  DERIVED. THE GIVEN ROWS OF THIS SEAT. 8 by the template 'for every input the law returns true; each argument reads behind the call as it read before'; 0 by the template 'total and deterministic' (their statements: YtaoaachgnnengaaDoorTotals.lean).
  GIVEN WITH THE SEED: the statements are not yours to turn. If you find one false, say at which input.
  Laid BY PROGRAM, IN A SANDBOX (cutbox-rows.mjs): the forced cells as the released guide's own fill.sh prints them over the translation 8a79dc551add3b23… (all of the seat's roots in one cut). By AI agents, Wed Nov 11 2026. No macro, syntax, notation, axiom, sorry.
-/
import Derived.Test.YtaoaachgnnengaaDoorChecked
import GoSem.Claim
import GoSem.ClaimJoined
import GoSem.ClaimMapViews
import Derived.JoinedTies
import Derived.KernelRfl
namespace Go.Proofs.YtaoaachgnnengaaDoor
/- THE CELL 'sum', in the pinned program and in every row, IS THE sha256 OF THE DUMP (.gsa) THAT YtaoaachgnnengaaDoorProg.lean LOADS. Nothing in Lean hashes anything: it is a label: what it is worth is what the hold of that sum in a sandbox is worth. -/
noncomputable def Tryd.pinned : Pinned := { name := "ytaoaachgnnengaadoor", sum := "8a79dc551add3b2386228c3ddb3b395abfee54bbbce458e3996a86bf9690e986", checked := Tryd.checked }
namespace Rows
def none {H : Type} : Left H := { results := [], args := [] }

/- WHAT THE LISTED PACKAGE-LEVEL VARIABLES READ AS WHEN THE CALL BEGINS. Each datum BY PROGRAM (the guide's laid-datum.mjs) off the statement by which the dump's own 'gosem.cut.vars' lays the variable. In a bare row this is a premise. The card (YtaoaachgnnengaaDoorCards.lean) ties it to the program's text. -/
def laid_facade_api_ErrEnd {H : Type} : DataW H := .iface "*errors.errorString" (.ptr (.agg [.lit (.string [105, 116, 32, 101, 110, 100, 115, 32, 116, 111, 111, 32, 101, 97, 114, 108, 121])]))
def laid_facade_api_ErrShape {H : Type} : DataW H := .iface "*errors.errorString" (.ptr (.agg [.lit (.string [110, 111, 116, 32, 97, 115, 32, 105, 116, 32, 104, 97, 115, 32, 116, 111, 32, 98, 101])]))
def laid_facade_api_ErrRange {H : Type} : DataW H := .iface "*errors.errorString" (.ptr (.agg [.lit (.string [97, 32, 110, 117, 109, 98, 101, 114, 32, 111, 117, 116, 32, 111, 102, 32, 105, 116, 115, 32, 114, 97, 110, 103, 101])]))
def laid_facade_api_ErrMany {H : Type} : DataW H := .iface "*errors.errorString" (.ptr (.agg [.lit (.string [116, 111, 111, 32, 109, 97, 110, 121])]))
def laid_facade_api_ErrOp {H : Type} : DataW H := .iface "*errors.errorString" (.ptr (.agg [.lit (.string [110, 111, 32, 115, 117, 99, 104, 32, 105, 110, 115, 116, 114, 117, 99, 116, 105, 111, 110])]))
def laid_facade_api_ErrTwice {H : Type} : DataW H := .iface "*errors.errorString" (.ptr (.agg [.lit (.string [116, 104, 101, 114, 101, 32, 105, 115, 32, 111, 110, 101])]))
def laid_facade_api_ErrNone {H : Type} : DataW H := .iface "*errors.errorString" (.ptr (.agg [.lit (.string [116, 104, 101, 114, 101, 32, 105, 115, 32, 110, 111, 110, 101])]))
def laid_facade_api_ErrFar {H : Type} : DataW H := .iface "*errors.errorString" (.ptr (.agg [.lit (.string [116, 111, 111, 32, 102, 97, 114])]))
def laid_facade_api_ErrMap {H : Type} : DataW H := .iface "*errors.errorString" (.ptr (.agg [.lit (.string [110, 111, 116, 32, 97, 115, 32, 116, 104, 101, 32, 99, 111, 100, 101, 39, 115, 32, 109, 97, 112, 32, 104, 97, 115, 32, 105, 116])]))
def laid_facade_api_ErrOwner {H : Type} : DataW H := .iface "*errors.errorString" (.ptr (.agg [.lit (.string [97, 110, 111, 116, 104, 101, 114, 32, 111, 110, 101, 39, 115])]))
def laid_facade_api_ErrType {H : Type} : DataW H := .iface "*errors.errorString" (.ptr (.agg [.lit (.string [97, 32, 102, 114, 97, 109, 101, 32, 111, 102, 32, 97, 110, 111, 116, 104, 101, 114, 32, 107, 105, 110, 100])]))
def laid_facade_api_ErrBusy {H : Type} : DataW H := .iface "*errors.errorString" (.ptr (.agg [.lit (.string [115, 116, 105, 108, 108, 32, 105, 110, 32, 117, 115, 101])]))
def laid_facade_api_ErrFull {H : Type} : DataW H := .iface "*errors.errorString" (.ptr (.agg [.lit (.string [116, 104, 101, 114, 101, 32, 105, 115, 32, 110, 111, 32, 114, 111, 111, 109])]))
def laid_facade_api_ErrState {H : Type} : DataW H := .iface "*errors.errorString" (.ptr (.agg [.lit (.string [110, 111, 116, 32, 97, 115, 32, 105, 116, 32, 105, 115, 32, 110, 111, 119])]))
def laid_facade_api_ErrWord {H : Type} : DataW H := .iface "*errors.errorString" (.ptr (.agg [.lit (.string [110, 111, 32, 115, 117, 99, 104, 32, 119, 111, 114, 100])]))
def laid_facade_api_ErrNumber {H : Type} : DataW H := .iface "*errors.errorString" (.ptr (.agg [.lit (.string [110, 111, 116, 32, 97, 32, 110, 117, 109, 98, 101, 114])]))

/-- 'facadelaw16.FramesFull': WHATEVER THE INPUT: true; the input reads as it did. -/
def framesFullSpec : ChangeSpec := { name := "framesFull", fn := fun _ => fun
  | [d1, d2] => { results := [.lit (.bool true)], args := [d1, d2] }
  | _ => none }
def framesFullRow : OpenClaim := { program := "ytaoaachgnnengaadoor", sum := "8a79dc551add3b2386228c3ddb3b395abfee54bbbce458e3996a86bf9690e986", func := "facade/facadelaw16.FramesFull", spec := "framesFull", unfollowed := true, recurses := true, named := ["facade/api.ErrRange", "facade/api.ErrFull", "facade/api.ErrBusy", "facade/api.ErrNone", "facade/api.ErrOwner", "facade/api.ErrEnd", "facade/api.ErrShape", "facade/api.ErrMany", "facade/api.ErrOp", "facade/api.ErrTwice", "facade/api.ErrFar", "facade/api.ErrMap", "facade/api.ErrType", "facade/api.ErrState", "facade/api.ErrWord", "facade/api.ErrNumber"], apart := false, laid := [("facade/api.ErrEnd", laid_facade_api_ErrEnd), ("facade/api.ErrShape", laid_facade_api_ErrShape), ("facade/api.ErrRange", laid_facade_api_ErrRange), ("facade/api.ErrMany", laid_facade_api_ErrMany), ("facade/api.ErrOp", laid_facade_api_ErrOp), ("facade/api.ErrTwice", laid_facade_api_ErrTwice), ("facade/api.ErrNone", laid_facade_api_ErrNone), ("facade/api.ErrFar", laid_facade_api_ErrFar), ("facade/api.ErrMap", laid_facade_api_ErrMap), ("facade/api.ErrOwner", laid_facade_api_ErrOwner), ("facade/api.ErrType", laid_facade_api_ErrType), ("facade/api.ErrBusy", laid_facade_api_ErrBusy), ("facade/api.ErrFull", laid_facade_api_ErrFull), ("facade/api.ErrState", laid_facade_api_ErrState), ("facade/api.ErrWord", laid_facade_api_ErrWord), ("facade/api.ErrNumber", laid_facade_api_ErrNumber)] }
def FramesFullSaid : Prop := framesFullRow.holds Tryd.pinned (OpenSpec.ofChange framesFullSpec)

/-- ITS FALSE NEIGHBOUR: 'it returns false'. Refute it at one input. -/
def framesFullWrong : ChangeSpec := { name := "framesFull", fn := fun _ => fun
  | [d1, d2] => { results := [.lit (.bool false)], args := [d1, d2] }
  | _ => none }
def FramesFullWrongFalsely : Prop := framesFullRow.holds Tryd.pinned (OpenSpec.ofChange framesFullWrong)

/-- 'facadelaw16.FramesSafe': WHATEVER THE INPUT: true; the input reads as it did. -/
def framesSafeSpec : ChangeSpec := { name := "framesSafe", fn := fun _ => fun
  | [d1, d2] => { results := [.lit (.bool true)], args := [d1, d2] }
  | _ => none }
def framesSafeRow : OpenClaim := { program := "ytaoaachgnnengaadoor", sum := "8a79dc551add3b2386228c3ddb3b395abfee54bbbce458e3996a86bf9690e986", func := "facade/facadelaw16.FramesSafe", spec := "framesSafe", unfollowed := true, recurses := true, named := ["facade/api.ErrRange", "facade/api.ErrFull", "facade/api.ErrEnd", "facade/api.ErrShape", "facade/api.ErrMany", "facade/api.ErrOp", "facade/api.ErrTwice", "facade/api.ErrNone", "facade/api.ErrFar", "facade/api.ErrMap", "facade/api.ErrOwner", "facade/api.ErrType", "facade/api.ErrBusy", "facade/api.ErrState", "facade/api.ErrWord", "facade/api.ErrNumber"], apart := false, laid := [("facade/api.ErrEnd", laid_facade_api_ErrEnd), ("facade/api.ErrShape", laid_facade_api_ErrShape), ("facade/api.ErrRange", laid_facade_api_ErrRange), ("facade/api.ErrMany", laid_facade_api_ErrMany), ("facade/api.ErrOp", laid_facade_api_ErrOp), ("facade/api.ErrTwice", laid_facade_api_ErrTwice), ("facade/api.ErrNone", laid_facade_api_ErrNone), ("facade/api.ErrFar", laid_facade_api_ErrFar), ("facade/api.ErrMap", laid_facade_api_ErrMap), ("facade/api.ErrOwner", laid_facade_api_ErrOwner), ("facade/api.ErrType", laid_facade_api_ErrType), ("facade/api.ErrBusy", laid_facade_api_ErrBusy), ("facade/api.ErrFull", laid_facade_api_ErrFull), ("facade/api.ErrState", laid_facade_api_ErrState), ("facade/api.ErrWord", laid_facade_api_ErrWord), ("facade/api.ErrNumber", laid_facade_api_ErrNumber)] }
def FramesSafeSaid : Prop := framesSafeRow.holds Tryd.pinned (OpenSpec.ofChange framesSafeSpec)

/-- ITS FALSE NEIGHBOUR: 'it returns false'. Refute it at one input. -/
def framesSafeWrong : ChangeSpec := { name := "framesSafe", fn := fun _ => fun
  | [d1, d2] => { results := [.lit (.bool false)], args := [d1, d2] }
  | _ => none }
def FramesSafeWrongFalsely : Prop := framesSafeRow.holds Tryd.pinned (OpenSpec.ofChange framesSafeWrong)

/-- 'facadelaw16.FramesTurn': WHATEVER THE INPUT: true; the input reads as it did. -/
def framesTurnSpec : ChangeSpec := { name := "framesTurn", fn := fun _ => fun
  | [d1, d2, d3, d4, d5] => { results := [.lit (.bool true)], args := [d1, d2, d3, d4, d5] }
  | _ => none }
def framesTurnRow : OpenClaim := { program := "ytaoaachgnnengaadoor", sum := "8a79dc551add3b2386228c3ddb3b395abfee54bbbce458e3996a86bf9690e986", func := "facade/facadelaw16.FramesTurn", spec := "framesTurn", unfollowed := true, recurses := true, named := ["facade/api.ErrRange", "facade/api.ErrFull", "facade/api.ErrNone", "facade/api.ErrType", "facade/api.ErrBusy", "facade/api.ErrOwner", "facade/api.ErrEnd", "facade/api.ErrShape", "facade/api.ErrMany", "facade/api.ErrOp", "facade/api.ErrTwice", "facade/api.ErrFar", "facade/api.ErrMap", "facade/api.ErrState", "facade/api.ErrWord", "facade/api.ErrNumber"], apart := false, laid := [("facade/api.ErrEnd", laid_facade_api_ErrEnd), ("facade/api.ErrShape", laid_facade_api_ErrShape), ("facade/api.ErrRange", laid_facade_api_ErrRange), ("facade/api.ErrMany", laid_facade_api_ErrMany), ("facade/api.ErrOp", laid_facade_api_ErrOp), ("facade/api.ErrTwice", laid_facade_api_ErrTwice), ("facade/api.ErrNone", laid_facade_api_ErrNone), ("facade/api.ErrFar", laid_facade_api_ErrFar), ("facade/api.ErrMap", laid_facade_api_ErrMap), ("facade/api.ErrOwner", laid_facade_api_ErrOwner), ("facade/api.ErrType", laid_facade_api_ErrType), ("facade/api.ErrBusy", laid_facade_api_ErrBusy), ("facade/api.ErrFull", laid_facade_api_ErrFull), ("facade/api.ErrState", laid_facade_api_ErrState), ("facade/api.ErrWord", laid_facade_api_ErrWord), ("facade/api.ErrNumber", laid_facade_api_ErrNumber)] }
def FramesTurnSaid : Prop := framesTurnRow.holds Tryd.pinned (OpenSpec.ofChange framesTurnSpec)

/-- ITS FALSE NEIGHBOUR: 'it returns false'. Refute it at one input. -/
def framesTurnWrong : ChangeSpec := { name := "framesTurn", fn := fun _ => fun
  | [d1, d2, d3, d4, d5] => { results := [.lit (.bool false)], args := [d1, d2, d3, d4, d5] }
  | _ => none }
def FramesTurnWrongFalsely : Prop := framesTurnRow.holds Tryd.pinned (OpenSpec.ofChange framesTurnWrong)

/-- 'facadelaw16.FramesPlay': WHATEVER THE INPUT: true; the input reads as it did. -/
def framesPlaySpec : ChangeSpec := { name := "framesPlay", fn := fun _ => fun
  | [d1, d2, d3] => { results := [.lit (.bool true)], args := [d1, d2, d3] }
  | _ => none }
def framesPlayRow : OpenClaim := { program := "ytaoaachgnnengaadoor", sum := "8a79dc551add3b2386228c3ddb3b395abfee54bbbce458e3996a86bf9690e986", func := "facade/facadelaw16.FramesPlay", spec := "framesPlay", unfollowed := true, recurses := true, named := ["facade/api.ErrRange", "facade/api.ErrFull", "facade/api.ErrEnd", "facade/api.ErrShape", "facade/api.ErrMany", "facade/api.ErrOp", "facade/api.ErrTwice", "facade/api.ErrNone", "facade/api.ErrFar", "facade/api.ErrMap", "facade/api.ErrOwner", "facade/api.ErrType", "facade/api.ErrBusy", "facade/api.ErrState", "facade/api.ErrWord", "facade/api.ErrNumber"], apart := false, laid := [("facade/api.ErrEnd", laid_facade_api_ErrEnd), ("facade/api.ErrShape", laid_facade_api_ErrShape), ("facade/api.ErrRange", laid_facade_api_ErrRange), ("facade/api.ErrMany", laid_facade_api_ErrMany), ("facade/api.ErrOp", laid_facade_api_ErrOp), ("facade/api.ErrTwice", laid_facade_api_ErrTwice), ("facade/api.ErrNone", laid_facade_api_ErrNone), ("facade/api.ErrFar", laid_facade_api_ErrFar), ("facade/api.ErrMap", laid_facade_api_ErrMap), ("facade/api.ErrOwner", laid_facade_api_ErrOwner), ("facade/api.ErrType", laid_facade_api_ErrType), ("facade/api.ErrBusy", laid_facade_api_ErrBusy), ("facade/api.ErrFull", laid_facade_api_ErrFull), ("facade/api.ErrState", laid_facade_api_ErrState), ("facade/api.ErrWord", laid_facade_api_ErrWord), ("facade/api.ErrNumber", laid_facade_api_ErrNumber)] }
def FramesPlaySaid : Prop := framesPlayRow.holds Tryd.pinned (OpenSpec.ofChange framesPlaySpec)

/-- ITS FALSE NEIGHBOUR: 'it returns false'. Refute it at one input. -/
def framesPlayWrong : ChangeSpec := { name := "framesPlay", fn := fun _ => fun
  | [d1, d2, d3] => { results := [.lit (.bool false)], args := [d1, d2, d3] }
  | _ => none }
def FramesPlayWrongFalsely : Prop := framesPlayRow.holds Tryd.pinned (OpenSpec.ofChange framesPlayWrong)

/-- 'facadelaw18.TablesNew': WHATEVER THE INPUT: true; the input reads as it did. -/
def tablesNewSpec : ChangeSpec := { name := "tablesNew", fn := fun _ => fun
  | [d1, d2] => { results := [.lit (.bool true)], args := [d1, d2] }
  | _ => none }
def tablesNewRow : OpenClaim := { program := "ytaoaachgnnengaadoor", sum := "8a79dc551add3b2386228c3ddb3b395abfee54bbbce458e3996a86bf9690e986", func := "facade/facadelaw18.TablesNew", spec := "tablesNew", unfollowed := true, recurses := true, named := ["facade/api.ErrRange", "facade/api.ErrFull", "facade/api.ErrBusy", "facade/api.ErrNone", "facade/api.ErrOwner", "facade/api.ErrType", "facade/api.ErrTwice", "facade/api.ErrMany", "facade/api.ErrEnd", "facade/api.ErrShape", "facade/api.ErrOp", "facade/api.ErrFar", "facade/api.ErrMap", "facade/api.ErrState", "facade/api.ErrWord", "facade/api.ErrNumber"], apart := false, laid := [("facade/api.ErrEnd", laid_facade_api_ErrEnd), ("facade/api.ErrShape", laid_facade_api_ErrShape), ("facade/api.ErrRange", laid_facade_api_ErrRange), ("facade/api.ErrMany", laid_facade_api_ErrMany), ("facade/api.ErrOp", laid_facade_api_ErrOp), ("facade/api.ErrTwice", laid_facade_api_ErrTwice), ("facade/api.ErrNone", laid_facade_api_ErrNone), ("facade/api.ErrFar", laid_facade_api_ErrFar), ("facade/api.ErrMap", laid_facade_api_ErrMap), ("facade/api.ErrOwner", laid_facade_api_ErrOwner), ("facade/api.ErrType", laid_facade_api_ErrType), ("facade/api.ErrBusy", laid_facade_api_ErrBusy), ("facade/api.ErrFull", laid_facade_api_ErrFull), ("facade/api.ErrState", laid_facade_api_ErrState), ("facade/api.ErrWord", laid_facade_api_ErrWord), ("facade/api.ErrNumber", laid_facade_api_ErrNumber)] }
def TablesNewSaid : Prop := tablesNewRow.holds Tryd.pinned (OpenSpec.ofChange tablesNewSpec)

/-- ITS FALSE NEIGHBOUR: 'it returns false'. Refute it at one input. -/
def tablesNewWrong : ChangeSpec := { name := "tablesNew", fn := fun _ => fun
  | [d1, d2] => { results := [.lit (.bool false)], args := [d1, d2] }
  | _ => none }
def TablesNewWrongFalsely : Prop := tablesNewRow.holds Tryd.pinned (OpenSpec.ofChange tablesNewWrong)

/-- 'facadelaw18.TablesSafe': WHATEVER THE INPUT: true; the input reads as it did. -/
def tablesSafeSpec : ChangeSpec := { name := "tablesSafe", fn := fun _ => fun
  | [d1, d2] => { results := [.lit (.bool true)], args := [d1, d2] }
  | _ => none }
def tablesSafeRow : OpenClaim := { program := "ytaoaachgnnengaadoor", sum := "8a79dc551add3b2386228c3ddb3b395abfee54bbbce458e3996a86bf9690e986", func := "facade/facadelaw18.TablesSafe", spec := "tablesSafe", unfollowed := true, recurses := true, named := ["facade/api.ErrRange", "facade/api.ErrFull", "facade/api.ErrBusy", "facade/api.ErrNone", "facade/api.ErrOwner", "facade/api.ErrType", "facade/api.ErrTwice", "facade/api.ErrMany", "facade/api.ErrEnd", "facade/api.ErrShape", "facade/api.ErrOp", "facade/api.ErrFar", "facade/api.ErrMap", "facade/api.ErrState", "facade/api.ErrWord", "facade/api.ErrNumber"], apart := false, laid := [("facade/api.ErrEnd", laid_facade_api_ErrEnd), ("facade/api.ErrShape", laid_facade_api_ErrShape), ("facade/api.ErrRange", laid_facade_api_ErrRange), ("facade/api.ErrMany", laid_facade_api_ErrMany), ("facade/api.ErrOp", laid_facade_api_ErrOp), ("facade/api.ErrTwice", laid_facade_api_ErrTwice), ("facade/api.ErrNone", laid_facade_api_ErrNone), ("facade/api.ErrFar", laid_facade_api_ErrFar), ("facade/api.ErrMap", laid_facade_api_ErrMap), ("facade/api.ErrOwner", laid_facade_api_ErrOwner), ("facade/api.ErrType", laid_facade_api_ErrType), ("facade/api.ErrBusy", laid_facade_api_ErrBusy), ("facade/api.ErrFull", laid_facade_api_ErrFull), ("facade/api.ErrState", laid_facade_api_ErrState), ("facade/api.ErrWord", laid_facade_api_ErrWord), ("facade/api.ErrNumber", laid_facade_api_ErrNumber)] }
def TablesSafeSaid : Prop := tablesSafeRow.holds Tryd.pinned (OpenSpec.ofChange tablesSafeSpec)

/-- ITS FALSE NEIGHBOUR: 'it returns false'. Refute it at one input. -/
def tablesSafeWrong : ChangeSpec := { name := "tablesSafe", fn := fun _ => fun
  | [d1, d2] => { results := [.lit (.bool false)], args := [d1, d2] }
  | _ => none }
def TablesSafeWrongFalsely : Prop := tablesSafeRow.holds Tryd.pinned (OpenSpec.ofChange tablesSafeWrong)

/-- 'facadelaw18.TablesTwice': WHATEVER THE INPUT: true; the input reads as it did. -/
def tablesTwiceSpec : ChangeSpec := { name := "tablesTwice", fn := fun _ => fun
  | [d1, d2, d3] => { results := [.lit (.bool true)], args := [d1, d2, d3] }
  | _ => none }
def tablesTwiceRow : OpenClaim := { program := "ytaoaachgnnengaadoor", sum := "8a79dc551add3b2386228c3ddb3b395abfee54bbbce458e3996a86bf9690e986", func := "facade/facadelaw18.TablesTwice", spec := "tablesTwice", unfollowed := true, recurses := true, named := ["facade/api.ErrRange", "facade/api.ErrFull", "facade/api.ErrBusy", "facade/api.ErrNone", "facade/api.ErrOwner", "facade/api.ErrType", "facade/api.ErrTwice", "facade/api.ErrMany", "facade/api.ErrEnd", "facade/api.ErrShape", "facade/api.ErrOp", "facade/api.ErrFar", "facade/api.ErrMap", "facade/api.ErrState", "facade/api.ErrWord", "facade/api.ErrNumber"], apart := false, laid := [("facade/api.ErrEnd", laid_facade_api_ErrEnd), ("facade/api.ErrShape", laid_facade_api_ErrShape), ("facade/api.ErrRange", laid_facade_api_ErrRange), ("facade/api.ErrMany", laid_facade_api_ErrMany), ("facade/api.ErrOp", laid_facade_api_ErrOp), ("facade/api.ErrTwice", laid_facade_api_ErrTwice), ("facade/api.ErrNone", laid_facade_api_ErrNone), ("facade/api.ErrFar", laid_facade_api_ErrFar), ("facade/api.ErrMap", laid_facade_api_ErrMap), ("facade/api.ErrOwner", laid_facade_api_ErrOwner), ("facade/api.ErrType", laid_facade_api_ErrType), ("facade/api.ErrBusy", laid_facade_api_ErrBusy), ("facade/api.ErrFull", laid_facade_api_ErrFull), ("facade/api.ErrState", laid_facade_api_ErrState), ("facade/api.ErrWord", laid_facade_api_ErrWord), ("facade/api.ErrNumber", laid_facade_api_ErrNumber)] }
def TablesTwiceSaid : Prop := tablesTwiceRow.holds Tryd.pinned (OpenSpec.ofChange tablesTwiceSpec)

/-- ITS FALSE NEIGHBOUR: 'it returns false'. Refute it at one input. -/
def tablesTwiceWrong : ChangeSpec := { name := "tablesTwice", fn := fun _ => fun
  | [d1, d2, d3] => { results := [.lit (.bool false)], args := [d1, d2, d3] }
  | _ => none }
def TablesTwiceWrongFalsely : Prop := tablesTwiceRow.holds Tryd.pinned (OpenSpec.ofChange tablesTwiceWrong)

/-- 'facadelaw18.TablesRefuse': WHATEVER THE INPUT: true; the input reads as it did. -/
def tablesRefuseSpec : ChangeSpec := { name := "tablesRefuse", fn := fun _ => fun
  | [d] => { results := [.lit (.bool true)], args := [d] }
  | _ => none }
def tablesRefuseRow : OpenClaim := { program := "ytaoaachgnnengaadoor", sum := "8a79dc551add3b2386228c3ddb3b395abfee54bbbce458e3996a86bf9690e986", func := "facade/facadelaw18.TablesRefuse", spec := "tablesRefuse", unfollowed := true, recurses := true, named := ["facade/api.ErrRange", "facade/api.ErrFull", "facade/api.ErrBusy", "facade/api.ErrNone", "facade/api.ErrOwner", "facade/api.ErrType", "facade/api.ErrTwice", "facade/api.ErrMany", "facade/api.ErrEnd", "facade/api.ErrShape", "facade/api.ErrOp", "facade/api.ErrFar", "facade/api.ErrMap", "facade/api.ErrState", "facade/api.ErrWord", "facade/api.ErrNumber"], apart := false, laid := [("facade/api.ErrEnd", laid_facade_api_ErrEnd), ("facade/api.ErrShape", laid_facade_api_ErrShape), ("facade/api.ErrRange", laid_facade_api_ErrRange), ("facade/api.ErrMany", laid_facade_api_ErrMany), ("facade/api.ErrOp", laid_facade_api_ErrOp), ("facade/api.ErrTwice", laid_facade_api_ErrTwice), ("facade/api.ErrNone", laid_facade_api_ErrNone), ("facade/api.ErrFar", laid_facade_api_ErrFar), ("facade/api.ErrMap", laid_facade_api_ErrMap), ("facade/api.ErrOwner", laid_facade_api_ErrOwner), ("facade/api.ErrType", laid_facade_api_ErrType), ("facade/api.ErrBusy", laid_facade_api_ErrBusy), ("facade/api.ErrFull", laid_facade_api_ErrFull), ("facade/api.ErrState", laid_facade_api_ErrState), ("facade/api.ErrWord", laid_facade_api_ErrWord), ("facade/api.ErrNumber", laid_facade_api_ErrNumber)] }
def TablesRefuseSaid : Prop := tablesRefuseRow.holds Tryd.pinned (OpenSpec.ofChange tablesRefuseSpec)

/-- ITS FALSE NEIGHBOUR: 'it returns false'. Refute it at one input. -/
def tablesRefuseWrong : ChangeSpec := { name := "tablesRefuse", fn := fun _ => fun
  | [d] => { results := [.lit (.bool false)], args := [d] }
  | _ => none }
def TablesRefuseWrongFalsely : Prop := tablesRefuseRow.holds Tryd.pinned (OpenSpec.ofChange tablesRefuseWrong)

/- THE SECOND FORM. 'bulk': how many values and letters a reading holds, each counted each time it is reached (what is shared counts as often as it is met; a slice's spare places count too). A statement '..UptoSaid' is the law's where the arguments, and the package variables that the reading takes, are together of bulk at most 1048576: NARROWER than '..Said'. Prove '..Said' where nothing that the law and all that it calls make is longer than what came in: it says more and counts as full. Else prove '..UptoSaid'. A law counts once. -/
mutual
def uptoBulk {H : Type} : DataW H → Nat
  | .lit (.string bytes) => bytes.length + 1
  | .lit _ => 1
  | .nil => 1
  | .ptr d => uptoBulk d + 1
  | .slice elems spare => uptoBulkAll elems + uptoBulkAll spare + 1
  | .agg parts => uptoBulkAll parts + 1
  | .iface _ d => uptoBulk d + 1
  | .map entries => uptoBulkEntries entries + 1
  | .held _ => 1
def uptoBulkAll {H : Type} : List (DataW H) → Nat
  | [] => 0
  | d :: r => uptoBulk d + uptoBulkAll r
def uptoBulkEntries {H : Type} : List (Lit × DataW H) → Nat
  | [] => 0
  | x :: r => uptoBulkEntry x + uptoBulkEntries r
def uptoBulkEntry {H : Type} : Lit × DataW H → Nat
  | (.string bytes, d) => bytes.length + uptoBulk d + 1
  | (_, d) => uptoBulk d + 1
 end
def uptoSmall : (H : Type) → List (DataW H) → Bool := fun _ ds => decide (uptoBulkAll ds ≤ 1048576)
def OpenSpec.upto (s : _root_.Go.ChangeSpec) : _root_.Go.OpenSpec := { _root_.Go.OpenSpec.ofChange s with cond := some uptoSmall }

/-- 'facadelaw16.FramesFull', WHERE WHAT IT READS IS OF BULK AT MOST 1048576: true; the input reads as it did. -/
def framesFullUptoRow : OpenClaim := { program := "ytaoaachgnnengaadoor", sum := "8a79dc551add3b2386228c3ddb3b395abfee54bbbce458e3996a86bf9690e986", func := "facade/facadelaw16.FramesFull", spec := "framesFull", unfollowed := true, recurses := true, named := ["facade/api.ErrRange", "facade/api.ErrFull", "facade/api.ErrBusy", "facade/api.ErrNone", "facade/api.ErrOwner", "facade/api.ErrEnd", "facade/api.ErrShape", "facade/api.ErrMany", "facade/api.ErrOp", "facade/api.ErrTwice", "facade/api.ErrFar", "facade/api.ErrMap", "facade/api.ErrType", "facade/api.ErrState", "facade/api.ErrWord", "facade/api.ErrNumber"], apart := false, laid := [("facade/api.ErrEnd", laid_facade_api_ErrEnd), ("facade/api.ErrShape", laid_facade_api_ErrShape), ("facade/api.ErrRange", laid_facade_api_ErrRange), ("facade/api.ErrMany", laid_facade_api_ErrMany), ("facade/api.ErrOp", laid_facade_api_ErrOp), ("facade/api.ErrTwice", laid_facade_api_ErrTwice), ("facade/api.ErrNone", laid_facade_api_ErrNone), ("facade/api.ErrFar", laid_facade_api_ErrFar), ("facade/api.ErrMap", laid_facade_api_ErrMap), ("facade/api.ErrOwner", laid_facade_api_ErrOwner), ("facade/api.ErrType", laid_facade_api_ErrType), ("facade/api.ErrBusy", laid_facade_api_ErrBusy), ("facade/api.ErrFull", laid_facade_api_ErrFull), ("facade/api.ErrState", laid_facade_api_ErrState), ("facade/api.ErrWord", laid_facade_api_ErrWord), ("facade/api.ErrNumber", laid_facade_api_ErrNumber)], narrowed := true }
def FramesFullUptoSaid : Prop := framesFullUptoRow.holds Tryd.pinned (OpenSpec.upto framesFullSpec)

/-- 'facadelaw16.FramesSafe', WHERE WHAT IT READS IS OF BULK AT MOST 1048576: true; the input reads as it did. -/
def framesSafeUptoRow : OpenClaim := { program := "ytaoaachgnnengaadoor", sum := "8a79dc551add3b2386228c3ddb3b395abfee54bbbce458e3996a86bf9690e986", func := "facade/facadelaw16.FramesSafe", spec := "framesSafe", unfollowed := true, recurses := true, named := ["facade/api.ErrRange", "facade/api.ErrFull", "facade/api.ErrEnd", "facade/api.ErrShape", "facade/api.ErrMany", "facade/api.ErrOp", "facade/api.ErrTwice", "facade/api.ErrNone", "facade/api.ErrFar", "facade/api.ErrMap", "facade/api.ErrOwner", "facade/api.ErrType", "facade/api.ErrBusy", "facade/api.ErrState", "facade/api.ErrWord", "facade/api.ErrNumber"], apart := false, laid := [("facade/api.ErrEnd", laid_facade_api_ErrEnd), ("facade/api.ErrShape", laid_facade_api_ErrShape), ("facade/api.ErrRange", laid_facade_api_ErrRange), ("facade/api.ErrMany", laid_facade_api_ErrMany), ("facade/api.ErrOp", laid_facade_api_ErrOp), ("facade/api.ErrTwice", laid_facade_api_ErrTwice), ("facade/api.ErrNone", laid_facade_api_ErrNone), ("facade/api.ErrFar", laid_facade_api_ErrFar), ("facade/api.ErrMap", laid_facade_api_ErrMap), ("facade/api.ErrOwner", laid_facade_api_ErrOwner), ("facade/api.ErrType", laid_facade_api_ErrType), ("facade/api.ErrBusy", laid_facade_api_ErrBusy), ("facade/api.ErrFull", laid_facade_api_ErrFull), ("facade/api.ErrState", laid_facade_api_ErrState), ("facade/api.ErrWord", laid_facade_api_ErrWord), ("facade/api.ErrNumber", laid_facade_api_ErrNumber)], narrowed := true }
def FramesSafeUptoSaid : Prop := framesSafeUptoRow.holds Tryd.pinned (OpenSpec.upto framesSafeSpec)

/-- 'facadelaw16.FramesTurn', WHERE WHAT IT READS IS OF BULK AT MOST 1048576: true; the input reads as it did. -/
def framesTurnUptoRow : OpenClaim := { program := "ytaoaachgnnengaadoor", sum := "8a79dc551add3b2386228c3ddb3b395abfee54bbbce458e3996a86bf9690e986", func := "facade/facadelaw16.FramesTurn", spec := "framesTurn", unfollowed := true, recurses := true, named := ["facade/api.ErrRange", "facade/api.ErrFull", "facade/api.ErrNone", "facade/api.ErrType", "facade/api.ErrBusy", "facade/api.ErrOwner", "facade/api.ErrEnd", "facade/api.ErrShape", "facade/api.ErrMany", "facade/api.ErrOp", "facade/api.ErrTwice", "facade/api.ErrFar", "facade/api.ErrMap", "facade/api.ErrState", "facade/api.ErrWord", "facade/api.ErrNumber"], apart := false, laid := [("facade/api.ErrEnd", laid_facade_api_ErrEnd), ("facade/api.ErrShape", laid_facade_api_ErrShape), ("facade/api.ErrRange", laid_facade_api_ErrRange), ("facade/api.ErrMany", laid_facade_api_ErrMany), ("facade/api.ErrOp", laid_facade_api_ErrOp), ("facade/api.ErrTwice", laid_facade_api_ErrTwice), ("facade/api.ErrNone", laid_facade_api_ErrNone), ("facade/api.ErrFar", laid_facade_api_ErrFar), ("facade/api.ErrMap", laid_facade_api_ErrMap), ("facade/api.ErrOwner", laid_facade_api_ErrOwner), ("facade/api.ErrType", laid_facade_api_ErrType), ("facade/api.ErrBusy", laid_facade_api_ErrBusy), ("facade/api.ErrFull", laid_facade_api_ErrFull), ("facade/api.ErrState", laid_facade_api_ErrState), ("facade/api.ErrWord", laid_facade_api_ErrWord), ("facade/api.ErrNumber", laid_facade_api_ErrNumber)], narrowed := true }
def FramesTurnUptoSaid : Prop := framesTurnUptoRow.holds Tryd.pinned (OpenSpec.upto framesTurnSpec)

/-- 'facadelaw16.FramesPlay', WHERE WHAT IT READS IS OF BULK AT MOST 1048576: true; the input reads as it did. -/
def framesPlayUptoRow : OpenClaim := { program := "ytaoaachgnnengaadoor", sum := "8a79dc551add3b2386228c3ddb3b395abfee54bbbce458e3996a86bf9690e986", func := "facade/facadelaw16.FramesPlay", spec := "framesPlay", unfollowed := true, recurses := true, named := ["facade/api.ErrRange", "facade/api.ErrFull", "facade/api.ErrEnd", "facade/api.ErrShape", "facade/api.ErrMany", "facade/api.ErrOp", "facade/api.ErrTwice", "facade/api.ErrNone", "facade/api.ErrFar", "facade/api.ErrMap", "facade/api.ErrOwner", "facade/api.ErrType", "facade/api.ErrBusy", "facade/api.ErrState", "facade/api.ErrWord", "facade/api.ErrNumber"], apart := false, laid := [("facade/api.ErrEnd", laid_facade_api_ErrEnd), ("facade/api.ErrShape", laid_facade_api_ErrShape), ("facade/api.ErrRange", laid_facade_api_ErrRange), ("facade/api.ErrMany", laid_facade_api_ErrMany), ("facade/api.ErrOp", laid_facade_api_ErrOp), ("facade/api.ErrTwice", laid_facade_api_ErrTwice), ("facade/api.ErrNone", laid_facade_api_ErrNone), ("facade/api.ErrFar", laid_facade_api_ErrFar), ("facade/api.ErrMap", laid_facade_api_ErrMap), ("facade/api.ErrOwner", laid_facade_api_ErrOwner), ("facade/api.ErrType", laid_facade_api_ErrType), ("facade/api.ErrBusy", laid_facade_api_ErrBusy), ("facade/api.ErrFull", laid_facade_api_ErrFull), ("facade/api.ErrState", laid_facade_api_ErrState), ("facade/api.ErrWord", laid_facade_api_ErrWord), ("facade/api.ErrNumber", laid_facade_api_ErrNumber)], narrowed := true }
def FramesPlayUptoSaid : Prop := framesPlayUptoRow.holds Tryd.pinned (OpenSpec.upto framesPlaySpec)

/-- 'facadelaw18.TablesNew', WHERE WHAT IT READS IS OF BULK AT MOST 1048576: true; the input reads as it did. -/
def tablesNewUptoRow : OpenClaim := { program := "ytaoaachgnnengaadoor", sum := "8a79dc551add3b2386228c3ddb3b395abfee54bbbce458e3996a86bf9690e986", func := "facade/facadelaw18.TablesNew", spec := "tablesNew", unfollowed := true, recurses := true, named := ["facade/api.ErrRange", "facade/api.ErrFull", "facade/api.ErrBusy", "facade/api.ErrNone", "facade/api.ErrOwner", "facade/api.ErrType", "facade/api.ErrTwice", "facade/api.ErrMany", "facade/api.ErrEnd", "facade/api.ErrShape", "facade/api.ErrOp", "facade/api.ErrFar", "facade/api.ErrMap", "facade/api.ErrState", "facade/api.ErrWord", "facade/api.ErrNumber"], apart := false, laid := [("facade/api.ErrEnd", laid_facade_api_ErrEnd), ("facade/api.ErrShape", laid_facade_api_ErrShape), ("facade/api.ErrRange", laid_facade_api_ErrRange), ("facade/api.ErrMany", laid_facade_api_ErrMany), ("facade/api.ErrOp", laid_facade_api_ErrOp), ("facade/api.ErrTwice", laid_facade_api_ErrTwice), ("facade/api.ErrNone", laid_facade_api_ErrNone), ("facade/api.ErrFar", laid_facade_api_ErrFar), ("facade/api.ErrMap", laid_facade_api_ErrMap), ("facade/api.ErrOwner", laid_facade_api_ErrOwner), ("facade/api.ErrType", laid_facade_api_ErrType), ("facade/api.ErrBusy", laid_facade_api_ErrBusy), ("facade/api.ErrFull", laid_facade_api_ErrFull), ("facade/api.ErrState", laid_facade_api_ErrState), ("facade/api.ErrWord", laid_facade_api_ErrWord), ("facade/api.ErrNumber", laid_facade_api_ErrNumber)], narrowed := true }
def TablesNewUptoSaid : Prop := tablesNewUptoRow.holds Tryd.pinned (OpenSpec.upto tablesNewSpec)

/-- 'facadelaw18.TablesSafe', WHERE WHAT IT READS IS OF BULK AT MOST 1048576: true; the input reads as it did. -/
def tablesSafeUptoRow : OpenClaim := { program := "ytaoaachgnnengaadoor", sum := "8a79dc551add3b2386228c3ddb3b395abfee54bbbce458e3996a86bf9690e986", func := "facade/facadelaw18.TablesSafe", spec := "tablesSafe", unfollowed := true, recurses := true, named := ["facade/api.ErrRange", "facade/api.ErrFull", "facade/api.ErrBusy", "facade/api.ErrNone", "facade/api.ErrOwner", "facade/api.ErrType", "facade/api.ErrTwice", "facade/api.ErrMany", "facade/api.ErrEnd", "facade/api.ErrShape", "facade/api.ErrOp", "facade/api.ErrFar", "facade/api.ErrMap", "facade/api.ErrState", "facade/api.ErrWord", "facade/api.ErrNumber"], apart := false, laid := [("facade/api.ErrEnd", laid_facade_api_ErrEnd), ("facade/api.ErrShape", laid_facade_api_ErrShape), ("facade/api.ErrRange", laid_facade_api_ErrRange), ("facade/api.ErrMany", laid_facade_api_ErrMany), ("facade/api.ErrOp", laid_facade_api_ErrOp), ("facade/api.ErrTwice", laid_facade_api_ErrTwice), ("facade/api.ErrNone", laid_facade_api_ErrNone), ("facade/api.ErrFar", laid_facade_api_ErrFar), ("facade/api.ErrMap", laid_facade_api_ErrMap), ("facade/api.ErrOwner", laid_facade_api_ErrOwner), ("facade/api.ErrType", laid_facade_api_ErrType), ("facade/api.ErrBusy", laid_facade_api_ErrBusy), ("facade/api.ErrFull", laid_facade_api_ErrFull), ("facade/api.ErrState", laid_facade_api_ErrState), ("facade/api.ErrWord", laid_facade_api_ErrWord), ("facade/api.ErrNumber", laid_facade_api_ErrNumber)], narrowed := true }
def TablesSafeUptoSaid : Prop := tablesSafeUptoRow.holds Tryd.pinned (OpenSpec.upto tablesSafeSpec)

/-- 'facadelaw18.TablesTwice', WHERE WHAT IT READS IS OF BULK AT MOST 1048576: true; the input reads as it did. -/
def tablesTwiceUptoRow : OpenClaim := { program := "ytaoaachgnnengaadoor", sum := "8a79dc551add3b2386228c3ddb3b395abfee54bbbce458e3996a86bf9690e986", func := "facade/facadelaw18.TablesTwice", spec := "tablesTwice", unfollowed := true, recurses := true, named := ["facade/api.ErrRange", "facade/api.ErrFull", "facade/api.ErrBusy", "facade/api.ErrNone", "facade/api.ErrOwner", "facade/api.ErrType", "facade/api.ErrTwice", "facade/api.ErrMany", "facade/api.ErrEnd", "facade/api.ErrShape", "facade/api.ErrOp", "facade/api.ErrFar", "facade/api.ErrMap", "facade/api.ErrState", "facade/api.ErrWord", "facade/api.ErrNumber"], apart := false, laid := [("facade/api.ErrEnd", laid_facade_api_ErrEnd), ("facade/api.ErrShape", laid_facade_api_ErrShape), ("facade/api.ErrRange", laid_facade_api_ErrRange), ("facade/api.ErrMany", laid_facade_api_ErrMany), ("facade/api.ErrOp", laid_facade_api_ErrOp), ("facade/api.ErrTwice", laid_facade_api_ErrTwice), ("facade/api.ErrNone", laid_facade_api_ErrNone), ("facade/api.ErrFar", laid_facade_api_ErrFar), ("facade/api.ErrMap", laid_facade_api_ErrMap), ("facade/api.ErrOwner", laid_facade_api_ErrOwner), ("facade/api.ErrType", laid_facade_api_ErrType), ("facade/api.ErrBusy", laid_facade_api_ErrBusy), ("facade/api.ErrFull", laid_facade_api_ErrFull), ("facade/api.ErrState", laid_facade_api_ErrState), ("facade/api.ErrWord", laid_facade_api_ErrWord), ("facade/api.ErrNumber", laid_facade_api_ErrNumber)], narrowed := true }
def TablesTwiceUptoSaid : Prop := tablesTwiceUptoRow.holds Tryd.pinned (OpenSpec.upto tablesTwiceSpec)

/-- 'facadelaw18.TablesRefuse', WHERE WHAT IT READS IS OF BULK AT MOST 1048576: true; the input reads as it did. -/
def tablesRefuseUptoRow : OpenClaim := { program := "ytaoaachgnnengaadoor", sum := "8a79dc551add3b2386228c3ddb3b395abfee54bbbce458e3996a86bf9690e986", func := "facade/facadelaw18.TablesRefuse", spec := "tablesRefuse", unfollowed := true, recurses := true, named := ["facade/api.ErrRange", "facade/api.ErrFull", "facade/api.ErrBusy", "facade/api.ErrNone", "facade/api.ErrOwner", "facade/api.ErrType", "facade/api.ErrTwice", "facade/api.ErrMany", "facade/api.ErrEnd", "facade/api.ErrShape", "facade/api.ErrOp", "facade/api.ErrFar", "facade/api.ErrMap", "facade/api.ErrState", "facade/api.ErrWord", "facade/api.ErrNumber"], apart := false, laid := [("facade/api.ErrEnd", laid_facade_api_ErrEnd), ("facade/api.ErrShape", laid_facade_api_ErrShape), ("facade/api.ErrRange", laid_facade_api_ErrRange), ("facade/api.ErrMany", laid_facade_api_ErrMany), ("facade/api.ErrOp", laid_facade_api_ErrOp), ("facade/api.ErrTwice", laid_facade_api_ErrTwice), ("facade/api.ErrNone", laid_facade_api_ErrNone), ("facade/api.ErrFar", laid_facade_api_ErrFar), ("facade/api.ErrMap", laid_facade_api_ErrMap), ("facade/api.ErrOwner", laid_facade_api_ErrOwner), ("facade/api.ErrType", laid_facade_api_ErrType), ("facade/api.ErrBusy", laid_facade_api_ErrBusy), ("facade/api.ErrFull", laid_facade_api_ErrFull), ("facade/api.ErrState", laid_facade_api_ErrState), ("facade/api.ErrWord", laid_facade_api_ErrWord), ("facade/api.ErrNumber", laid_facade_api_ErrNumber)], narrowed := true }
def TablesRefuseUptoSaid : Prop := tablesRefuseUptoRow.holds Tryd.pinned (OpenSpec.upto tablesRefuseSpec)

end Rows
end Go.Proofs.YtaoaachgnnengaaDoor
