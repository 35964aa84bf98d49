/-
  NARROWER THAN 'FOR EVERY INPUT', by the rows' own cells (each row's printed sentence says how): HcallCodes: laid · EvchLoops: laid · HcallRegs: laid · EvchMany: laid · EvchBits: laid · EvchOnce: laid · HcallBounds: laid · HcallBack: laid · HcallSays: laid · EvchPlays: laid.
  DERIVED. THE GIVEN ROWS OF THIS SEAT. 10 by the template 'for every input the law returns true; each argument reads behind the call as it read before'; 0 by the template 'total and deterministic' (their statements: YtpmbbbgmaipmbaaDoorTotals.lean).
  GIVEN WITH THE SEED: the statements are not yours to turn. If you find one false, say at which input.
  Laid BY PROGRAM, IN A SANDBOX (cutbox-rows.mjs): the forced cells as the released guide's own fill.sh prints them over the translation f60f07b8fa3f5965… (all of the seat's roots in one cut). By AI agents, Wed Nov 11 2026. No macro, syntax, notation, axiom, sorry.
-/
import Derived.Test.YtpmbbbgmaipmbaaDoorChecked
import GoSem.Claim
import GoSem.ClaimJoined
import GoSem.ClaimMapViews
import Derived.JoinedTies
import Derived.KernelRfl
namespace Go.Proofs.YtpmbbbgmaipmbaaDoor
/- THE CELL 'sum', in the pinned program and in every row, IS THE sha256 OF THE DUMP (.gsa) THAT YtpmbbbgmaipmbaaDoorProg.lean LOADS. Nothing in Lean hashes anything: it is a label: what it is worth is what the hold of that sum in a sandbox is worth. -/
noncomputable def Tryd.pinned : Pinned := { name := "ytpmbbbgmaipmbaadoor", sum := "f60f07b8fa3f5965fe0e7d0e8d6178da02669e81c8dd7524f473fc7578b6fcec", checked := Tryd.checked }
namespace Rows
def none {H : Type} : Left H := { results := [], args := [] }

/- WHAT THE LISTED PACKAGE-LEVEL VARIABLES READ AS WHEN THE CALL BEGINS. Each datum BY PROGRAM (the guide's laid-datum.mjs) off the statement by which the dump's own 'gosem.cut.vars' lays the variable. In a bare row this is a premise. The card (YtpmbbbgmaipmbaaDoorCards.lean) ties it to the program's text. -/
def laid_facade_api_ErrEnd {H : Type} : DataW H := .iface "*errors.errorString" (.ptr (.agg [.lit (.string [105, 116, 32, 101, 110, 100, 115, 32, 116, 111, 111, 32, 101, 97, 114, 108, 121])]))
def laid_facade_api_ErrShape {H : Type} : DataW H := .iface "*errors.errorString" (.ptr (.agg [.lit (.string [110, 111, 116, 32, 97, 115, 32, 105, 116, 32, 104, 97, 115, 32, 116, 111, 32, 98, 101])]))
def laid_facade_api_ErrRange {H : Type} : DataW H := .iface "*errors.errorString" (.ptr (.agg [.lit (.string [97, 32, 110, 117, 109, 98, 101, 114, 32, 111, 117, 116, 32, 111, 102, 32, 105, 116, 115, 32, 114, 97, 110, 103, 101])]))
def laid_facade_api_ErrMany {H : Type} : DataW H := .iface "*errors.errorString" (.ptr (.agg [.lit (.string [116, 111, 111, 32, 109, 97, 110, 121])]))
def laid_facade_api_ErrOp {H : Type} : DataW H := .iface "*errors.errorString" (.ptr (.agg [.lit (.string [110, 111, 32, 115, 117, 99, 104, 32, 105, 110, 115, 116, 114, 117, 99, 116, 105, 111, 110])]))
def laid_facade_api_ErrTwice {H : Type} : DataW H := .iface "*errors.errorString" (.ptr (.agg [.lit (.string [116, 104, 101, 114, 101, 32, 105, 115, 32, 111, 110, 101])]))
def laid_facade_api_ErrNone {H : Type} : DataW H := .iface "*errors.errorString" (.ptr (.agg [.lit (.string [116, 104, 101, 114, 101, 32, 105, 115, 32, 110, 111, 110, 101])]))
def laid_facade_api_ErrFar {H : Type} : DataW H := .iface "*errors.errorString" (.ptr (.agg [.lit (.string [116, 111, 111, 32, 102, 97, 114])]))
def laid_facade_api_ErrMap {H : Type} : DataW H := .iface "*errors.errorString" (.ptr (.agg [.lit (.string [110, 111, 116, 32, 97, 115, 32, 116, 104, 101, 32, 99, 111, 100, 101, 39, 115, 32, 109, 97, 112, 32, 104, 97, 115, 32, 105, 116])]))
def laid_facade_api_ErrOwner {H : Type} : DataW H := .iface "*errors.errorString" (.ptr (.agg [.lit (.string [97, 110, 111, 116, 104, 101, 114, 32, 111, 110, 101, 39, 115])]))
def laid_facade_api_ErrType {H : Type} : DataW H := .iface "*errors.errorString" (.ptr (.agg [.lit (.string [97, 32, 102, 114, 97, 109, 101, 32, 111, 102, 32, 97, 110, 111, 116, 104, 101, 114, 32, 107, 105, 110, 100])]))
def laid_facade_api_ErrBusy {H : Type} : DataW H := .iface "*errors.errorString" (.ptr (.agg [.lit (.string [115, 116, 105, 108, 108, 32, 105, 110, 32, 117, 115, 101])]))
def laid_facade_api_ErrFull {H : Type} : DataW H := .iface "*errors.errorString" (.ptr (.agg [.lit (.string [116, 104, 101, 114, 101, 32, 105, 115, 32, 110, 111, 32, 114, 111, 111, 109])]))
def laid_facade_api_ErrState {H : Type} : DataW H := .iface "*errors.errorString" (.ptr (.agg [.lit (.string [110, 111, 116, 32, 97, 115, 32, 105, 116, 32, 105, 115, 32, 110, 111, 119])]))
def laid_facade_api_ErrWord {H : Type} : DataW H := .iface "*errors.errorString" (.ptr (.agg [.lit (.string [110, 111, 32, 115, 117, 99, 104, 32, 119, 111, 114, 100])]))
def laid_facade_api_ErrNumber {H : Type} : DataW H := .iface "*errors.errorString" (.ptr (.agg [.lit (.string [110, 111, 116, 32, 97, 32, 110, 117, 109, 98, 101, 114])]))

/-- 'facadelaw25.HcallCodes': WHATEVER THE INPUT: true; the input reads as it did. -/
def hcallCodesSpec : ChangeSpec := { name := "hcallCodes", fn := fun _ => fun
  | [d1, d2, d3] => { results := [.lit (.bool true)], args := [d1, d2, d3] }
  | _ => none }
def hcallCodesRow : OpenClaim := { program := "ytpmbbbgmaipmbaadoor", sum := "f60f07b8fa3f5965fe0e7d0e8d6178da02669e81c8dd7524f473fc7578b6fcec", func := "facade/facadelaw25.HcallCodes", spec := "hcallCodes", inPlace := ["internal/reflectlite.TypeOf"], unfollowed := true, recurses := true, named := ["facade/api.ErrFull", "facade/api.ErrEnd", "facade/api.ErrShape", "facade/api.ErrRange", "facade/api.ErrMany", "facade/api.ErrOp", "facade/api.ErrTwice", "facade/api.ErrNone", "facade/api.ErrFar", "facade/api.ErrMap", "facade/api.ErrOwner", "facade/api.ErrType", "facade/api.ErrBusy", "facade/api.ErrState", "facade/api.ErrWord", "facade/api.ErrNumber"], apart := false, laid := [("facade/api.ErrEnd", laid_facade_api_ErrEnd), ("facade/api.ErrShape", laid_facade_api_ErrShape), ("facade/api.ErrRange", laid_facade_api_ErrRange), ("facade/api.ErrMany", laid_facade_api_ErrMany), ("facade/api.ErrOp", laid_facade_api_ErrOp), ("facade/api.ErrTwice", laid_facade_api_ErrTwice), ("facade/api.ErrNone", laid_facade_api_ErrNone), ("facade/api.ErrFar", laid_facade_api_ErrFar), ("facade/api.ErrMap", laid_facade_api_ErrMap), ("facade/api.ErrOwner", laid_facade_api_ErrOwner), ("facade/api.ErrType", laid_facade_api_ErrType), ("facade/api.ErrBusy", laid_facade_api_ErrBusy), ("facade/api.ErrFull", laid_facade_api_ErrFull), ("facade/api.ErrState", laid_facade_api_ErrState), ("facade/api.ErrWord", laid_facade_api_ErrWord), ("facade/api.ErrNumber", laid_facade_api_ErrNumber)] }
def HcallCodesSaid : Prop := hcallCodesRow.holds Tryd.pinned (OpenSpec.ofChange hcallCodesSpec)

/-- ITS FALSE NEIGHBOUR: 'it returns false'. Refute it at one input. -/
def hcallCodesWrong : ChangeSpec := { name := "hcallCodes", fn := fun _ => fun
  | [d1, d2, d3] => { results := [.lit (.bool false)], args := [d1, d2, d3] }
  | _ => none }
def HcallCodesWrongFalsely : Prop := hcallCodesRow.holds Tryd.pinned (OpenSpec.ofChange hcallCodesWrong)

/-- 'facadelaw21.EvchLoops': WHATEVER THE INPUT: true; the input reads as it did. -/
def evchLoopsSpec : ChangeSpec := { name := "evchLoops", fn := fun _ => fun
  | [d1, d2] => { results := [.lit (.bool true)], args := [d1, d2] }
  | _ => none }
def evchLoopsRow : OpenClaim := { program := "ytpmbbbgmaipmbaadoor", sum := "f60f07b8fa3f5965fe0e7d0e8d6178da02669e81c8dd7524f473fc7578b6fcec", func := "facade/facadelaw21.EvchLoops", spec := "evchLoops", named := ["facade/api.ErrRange", "facade/api.ErrMany", "facade/api.ErrNone", "facade/api.ErrEnd", "facade/api.ErrShape", "facade/api.ErrOp", "facade/api.ErrTwice", "facade/api.ErrFar", "facade/api.ErrMap", "facade/api.ErrOwner", "facade/api.ErrType", "facade/api.ErrBusy", "facade/api.ErrFull", "facade/api.ErrState", "facade/api.ErrWord", "facade/api.ErrNumber"], apart := false, laid := [("facade/api.ErrEnd", laid_facade_api_ErrEnd), ("facade/api.ErrShape", laid_facade_api_ErrShape), ("facade/api.ErrRange", laid_facade_api_ErrRange), ("facade/api.ErrMany", laid_facade_api_ErrMany), ("facade/api.ErrOp", laid_facade_api_ErrOp), ("facade/api.ErrTwice", laid_facade_api_ErrTwice), ("facade/api.ErrNone", laid_facade_api_ErrNone), ("facade/api.ErrFar", laid_facade_api_ErrFar), ("facade/api.ErrMap", laid_facade_api_ErrMap), ("facade/api.ErrOwner", laid_facade_api_ErrOwner), ("facade/api.ErrType", laid_facade_api_ErrType), ("facade/api.ErrBusy", laid_facade_api_ErrBusy), ("facade/api.ErrFull", laid_facade_api_ErrFull), ("facade/api.ErrState", laid_facade_api_ErrState), ("facade/api.ErrWord", laid_facade_api_ErrWord), ("facade/api.ErrNumber", laid_facade_api_ErrNumber)] }
def EvchLoopsSaid : Prop := evchLoopsRow.holds Tryd.pinned (OpenSpec.ofChange evchLoopsSpec)

/-- ITS FALSE NEIGHBOUR: 'it returns false'. Refute it at one input. -/
def evchLoopsWrong : ChangeSpec := { name := "evchLoops", fn := fun _ => fun
  | [d1, d2] => { results := [.lit (.bool false)], args := [d1, d2] }
  | _ => none }
def EvchLoopsWrongFalsely : Prop := evchLoopsRow.holds Tryd.pinned (OpenSpec.ofChange evchLoopsWrong)

/-- 'facadelaw25.HcallRegs': WHATEVER THE INPUT: true; the input reads as it did. -/
def hcallRegsSpec : ChangeSpec := { name := "hcallRegs", fn := fun _ => fun
  | [d1, d2, d3] => { results := [.lit (.bool true)], args := [d1, d2, d3] }
  | _ => none }
def hcallRegsRow : OpenClaim := { program := "ytpmbbbgmaipmbaadoor", sum := "f60f07b8fa3f5965fe0e7d0e8d6178da02669e81c8dd7524f473fc7578b6fcec", func := "facade/facadelaw25.HcallRegs", spec := "hcallRegs", inPlace := ["internal/reflectlite.TypeOf"], unfollowed := true, recurses := true, named := ["facade/api.ErrFull", "facade/api.ErrEnd", "facade/api.ErrShape", "facade/api.ErrRange", "facade/api.ErrMany", "facade/api.ErrOp", "facade/api.ErrTwice", "facade/api.ErrNone", "facade/api.ErrFar", "facade/api.ErrMap", "facade/api.ErrOwner", "facade/api.ErrType", "facade/api.ErrBusy", "facade/api.ErrState", "facade/api.ErrWord", "facade/api.ErrNumber"], apart := false, laid := [("facade/api.ErrEnd", laid_facade_api_ErrEnd), ("facade/api.ErrShape", laid_facade_api_ErrShape), ("facade/api.ErrRange", laid_facade_api_ErrRange), ("facade/api.ErrMany", laid_facade_api_ErrMany), ("facade/api.ErrOp", laid_facade_api_ErrOp), ("facade/api.ErrTwice", laid_facade_api_ErrTwice), ("facade/api.ErrNone", laid_facade_api_ErrNone), ("facade/api.ErrFar", laid_facade_api_ErrFar), ("facade/api.ErrMap", laid_facade_api_ErrMap), ("facade/api.ErrOwner", laid_facade_api_ErrOwner), ("facade/api.ErrType", laid_facade_api_ErrType), ("facade/api.ErrBusy", laid_facade_api_ErrBusy), ("facade/api.ErrFull", laid_facade_api_ErrFull), ("facade/api.ErrState", laid_facade_api_ErrState), ("facade/api.ErrWord", laid_facade_api_ErrWord), ("facade/api.ErrNumber", laid_facade_api_ErrNumber)] }
def HcallRegsSaid : Prop := hcallRegsRow.holds Tryd.pinned (OpenSpec.ofChange hcallRegsSpec)

/-- ITS FALSE NEIGHBOUR: 'it returns false'. Refute it at one input. -/
def hcallRegsWrong : ChangeSpec := { name := "hcallRegs", fn := fun _ => fun
  | [d1, d2, d3] => { results := [.lit (.bool false)], args := [d1, d2, d3] }
  | _ => none }
def HcallRegsWrongFalsely : Prop := hcallRegsRow.holds Tryd.pinned (OpenSpec.ofChange hcallRegsWrong)

/-- 'facadelaw21.EvchMany': WHATEVER THE INPUT: true; the input reads as it did. -/
def evchManySpec : ChangeSpec := { name := "evchMany", fn := fun _ => fun
  | [d1, d2] => { results := [.lit (.bool true)], args := [d1, d2] }
  | _ => none }
def evchManyRow : OpenClaim := { program := "ytpmbbbgmaipmbaadoor", sum := "f60f07b8fa3f5965fe0e7d0e8d6178da02669e81c8dd7524f473fc7578b6fcec", func := "facade/facadelaw21.EvchMany", spec := "evchMany", named := ["facade/api.ErrRange", "facade/api.ErrMany", "facade/api.ErrNone", "facade/api.ErrEnd", "facade/api.ErrShape", "facade/api.ErrOp", "facade/api.ErrTwice", "facade/api.ErrFar", "facade/api.ErrMap", "facade/api.ErrOwner", "facade/api.ErrType", "facade/api.ErrBusy", "facade/api.ErrFull", "facade/api.ErrState", "facade/api.ErrWord", "facade/api.ErrNumber"], apart := false, laid := [("facade/api.ErrEnd", laid_facade_api_ErrEnd), ("facade/api.ErrShape", laid_facade_api_ErrShape), ("facade/api.ErrRange", laid_facade_api_ErrRange), ("facade/api.ErrMany", laid_facade_api_ErrMany), ("facade/api.ErrOp", laid_facade_api_ErrOp), ("facade/api.ErrTwice", laid_facade_api_ErrTwice), ("facade/api.ErrNone", laid_facade_api_ErrNone), ("facade/api.ErrFar", laid_facade_api_ErrFar), ("facade/api.ErrMap", laid_facade_api_ErrMap), ("facade/api.ErrOwner", laid_facade_api_ErrOwner), ("facade/api.ErrType", laid_facade_api_ErrType), ("facade/api.ErrBusy", laid_facade_api_ErrBusy), ("facade/api.ErrFull", laid_facade_api_ErrFull), ("facade/api.ErrState", laid_facade_api_ErrState), ("facade/api.ErrWord", laid_facade_api_ErrWord), ("facade/api.ErrNumber", laid_facade_api_ErrNumber)] }
def EvchManySaid : Prop := evchManyRow.holds Tryd.pinned (OpenSpec.ofChange evchManySpec)

/-- ITS FALSE NEIGHBOUR: 'it returns false'. Refute it at one input. -/
def evchManyWrong : ChangeSpec := { name := "evchMany", fn := fun _ => fun
  | [d1, d2] => { results := [.lit (.bool false)], args := [d1, d2] }
  | _ => none }
def EvchManyWrongFalsely : Prop := evchManyRow.holds Tryd.pinned (OpenSpec.ofChange evchManyWrong)

/-- 'facadelaw21.EvchBits': WHATEVER THE INPUT: true; the input reads as it did. -/
def evchBitsSpec : ChangeSpec := { name := "evchBits", fn := fun _ => fun
  | [d1, d2] => { results := [.lit (.bool true)], args := [d1, d2] }
  | _ => none }
def evchBitsRow : OpenClaim := { program := "ytpmbbbgmaipmbaadoor", sum := "f60f07b8fa3f5965fe0e7d0e8d6178da02669e81c8dd7524f473fc7578b6fcec", func := "facade/facadelaw21.EvchBits", spec := "evchBits", named := ["facade/api.ErrRange", "facade/api.ErrMany", "facade/api.ErrNone", "facade/api.ErrEnd", "facade/api.ErrShape", "facade/api.ErrOp", "facade/api.ErrTwice", "facade/api.ErrFar", "facade/api.ErrMap", "facade/api.ErrOwner", "facade/api.ErrType", "facade/api.ErrBusy", "facade/api.ErrFull", "facade/api.ErrState", "facade/api.ErrWord", "facade/api.ErrNumber"], apart := false, laid := [("facade/api.ErrEnd", laid_facade_api_ErrEnd), ("facade/api.ErrShape", laid_facade_api_ErrShape), ("facade/api.ErrRange", laid_facade_api_ErrRange), ("facade/api.ErrMany", laid_facade_api_ErrMany), ("facade/api.ErrOp", laid_facade_api_ErrOp), ("facade/api.ErrTwice", laid_facade_api_ErrTwice), ("facade/api.ErrNone", laid_facade_api_ErrNone), ("facade/api.ErrFar", laid_facade_api_ErrFar), ("facade/api.ErrMap", laid_facade_api_ErrMap), ("facade/api.ErrOwner", laid_facade_api_ErrOwner), ("facade/api.ErrType", laid_facade_api_ErrType), ("facade/api.ErrBusy", laid_facade_api_ErrBusy), ("facade/api.ErrFull", laid_facade_api_ErrFull), ("facade/api.ErrState", laid_facade_api_ErrState), ("facade/api.ErrWord", laid_facade_api_ErrWord), ("facade/api.ErrNumber", laid_facade_api_ErrNumber)] }
def EvchBitsSaid : Prop := evchBitsRow.holds Tryd.pinned (OpenSpec.ofChange evchBitsSpec)

/-- ITS FALSE NEIGHBOUR: 'it returns false'. Refute it at one input. -/
def evchBitsWrong : ChangeSpec := { name := "evchBits", fn := fun _ => fun
  | [d1, d2] => { results := [.lit (.bool false)], args := [d1, d2] }
  | _ => none }
def EvchBitsWrongFalsely : Prop := evchBitsRow.holds Tryd.pinned (OpenSpec.ofChange evchBitsWrong)

/-- 'facadelaw21.EvchOnce': WHATEVER THE INPUT: true; the input reads as it did. -/
def evchOnceSpec : ChangeSpec := { name := "evchOnce", fn := fun _ => fun
  | [d1, d2, d3] => { results := [.lit (.bool true)], args := [d1, d2, d3] }
  | _ => none }
def evchOnceRow : OpenClaim := { program := "ytpmbbbgmaipmbaadoor", sum := "f60f07b8fa3f5965fe0e7d0e8d6178da02669e81c8dd7524f473fc7578b6fcec", func := "facade/facadelaw21.EvchOnce", spec := "evchOnce", named := ["facade/api.ErrRange", "facade/api.ErrMany", "facade/api.ErrNone", "facade/api.ErrEnd", "facade/api.ErrShape", "facade/api.ErrOp", "facade/api.ErrTwice", "facade/api.ErrFar", "facade/api.ErrMap", "facade/api.ErrOwner", "facade/api.ErrType", "facade/api.ErrBusy", "facade/api.ErrFull", "facade/api.ErrState", "facade/api.ErrWord", "facade/api.ErrNumber"], apart := false, laid := [("facade/api.ErrEnd", laid_facade_api_ErrEnd), ("facade/api.ErrShape", laid_facade_api_ErrShape), ("facade/api.ErrRange", laid_facade_api_ErrRange), ("facade/api.ErrMany", laid_facade_api_ErrMany), ("facade/api.ErrOp", laid_facade_api_ErrOp), ("facade/api.ErrTwice", laid_facade_api_ErrTwice), ("facade/api.ErrNone", laid_facade_api_ErrNone), ("facade/api.ErrFar", laid_facade_api_ErrFar), ("facade/api.ErrMap", laid_facade_api_ErrMap), ("facade/api.ErrOwner", laid_facade_api_ErrOwner), ("facade/api.ErrType", laid_facade_api_ErrType), ("facade/api.ErrBusy", laid_facade_api_ErrBusy), ("facade/api.ErrFull", laid_facade_api_ErrFull), ("facade/api.ErrState", laid_facade_api_ErrState), ("facade/api.ErrWord", laid_facade_api_ErrWord), ("facade/api.ErrNumber", laid_facade_api_ErrNumber)] }
def EvchOnceSaid : Prop := evchOnceRow.holds Tryd.pinned (OpenSpec.ofChange evchOnceSpec)

/-- ITS FALSE NEIGHBOUR: 'it returns false'. Refute it at one input. -/
def evchOnceWrong : ChangeSpec := { name := "evchOnce", fn := fun _ => fun
  | [d1, d2, d3] => { results := [.lit (.bool false)], args := [d1, d2, d3] }
  | _ => none }
def EvchOnceWrongFalsely : Prop := evchOnceRow.holds Tryd.pinned (OpenSpec.ofChange evchOnceWrong)

/-- 'facadelaw25.HcallBounds': WHATEVER THE INPUT: true; the input reads as it did. -/
def hcallBoundsSpec : ChangeSpec := { name := "hcallBounds", fn := fun _ => fun
  | [d1, d2] => { results := [.lit (.bool true)], args := [d1, d2] }
  | _ => none }
def hcallBoundsRow : OpenClaim := { program := "ytpmbbbgmaipmbaadoor", sum := "f60f07b8fa3f5965fe0e7d0e8d6178da02669e81c8dd7524f473fc7578b6fcec", func := "facade/facadelaw25.HcallBounds", spec := "hcallBounds", inPlace := ["internal/reflectlite.TypeOf"], unfollowed := true, recurses := true, named := ["facade/api.ErrFull", "facade/api.ErrEnd", "facade/api.ErrShape", "facade/api.ErrRange", "facade/api.ErrMany", "facade/api.ErrOp", "facade/api.ErrTwice", "facade/api.ErrNone", "facade/api.ErrFar", "facade/api.ErrMap", "facade/api.ErrOwner", "facade/api.ErrType", "facade/api.ErrBusy", "facade/api.ErrState", "facade/api.ErrWord", "facade/api.ErrNumber"], apart := false, laid := [("facade/api.ErrEnd", laid_facade_api_ErrEnd), ("facade/api.ErrShape", laid_facade_api_ErrShape), ("facade/api.ErrRange", laid_facade_api_ErrRange), ("facade/api.ErrMany", laid_facade_api_ErrMany), ("facade/api.ErrOp", laid_facade_api_ErrOp), ("facade/api.ErrTwice", laid_facade_api_ErrTwice), ("facade/api.ErrNone", laid_facade_api_ErrNone), ("facade/api.ErrFar", laid_facade_api_ErrFar), ("facade/api.ErrMap", laid_facade_api_ErrMap), ("facade/api.ErrOwner", laid_facade_api_ErrOwner), ("facade/api.ErrType", laid_facade_api_ErrType), ("facade/api.ErrBusy", laid_facade_api_ErrBusy), ("facade/api.ErrFull", laid_facade_api_ErrFull), ("facade/api.ErrState", laid_facade_api_ErrState), ("facade/api.ErrWord", laid_facade_api_ErrWord), ("facade/api.ErrNumber", laid_facade_api_ErrNumber)] }
def HcallBoundsSaid : Prop := hcallBoundsRow.holds Tryd.pinned (OpenSpec.ofChange hcallBoundsSpec)

/-- ITS FALSE NEIGHBOUR: 'it returns false'. Refute it at one input. -/
def hcallBoundsWrong : ChangeSpec := { name := "hcallBounds", fn := fun _ => fun
  | [d1, d2] => { results := [.lit (.bool false)], args := [d1, d2] }
  | _ => none }
def HcallBoundsWrongFalsely : Prop := hcallBoundsRow.holds Tryd.pinned (OpenSpec.ofChange hcallBoundsWrong)

/-- 'facadelaw25.HcallBack': WHATEVER THE INPUT: true; the input reads as it did. -/
def hcallBackSpec : ChangeSpec := { name := "hcallBack", fn := fun _ => fun
  | [d1, d2] => { results := [.lit (.bool true)], args := [d1, d2] }
  | _ => none }
def hcallBackRow : OpenClaim := { program := "ytpmbbbgmaipmbaadoor", sum := "f60f07b8fa3f5965fe0e7d0e8d6178da02669e81c8dd7524f473fc7578b6fcec", func := "facade/facadelaw25.HcallBack", spec := "hcallBack", inPlace := ["internal/reflectlite.TypeOf"], unfollowed := true, recurses := true, named := ["facade/api.ErrFull", "facade/api.ErrEnd", "facade/api.ErrShape", "facade/api.ErrRange", "facade/api.ErrMany", "facade/api.ErrOp", "facade/api.ErrTwice", "facade/api.ErrNone", "facade/api.ErrFar", "facade/api.ErrMap", "facade/api.ErrOwner", "facade/api.ErrType", "facade/api.ErrBusy", "facade/api.ErrState", "facade/api.ErrWord", "facade/api.ErrNumber"], apart := false, laid := [("facade/api.ErrEnd", laid_facade_api_ErrEnd), ("facade/api.ErrShape", laid_facade_api_ErrShape), ("facade/api.ErrRange", laid_facade_api_ErrRange), ("facade/api.ErrMany", laid_facade_api_ErrMany), ("facade/api.ErrOp", laid_facade_api_ErrOp), ("facade/api.ErrTwice", laid_facade_api_ErrTwice), ("facade/api.ErrNone", laid_facade_api_ErrNone), ("facade/api.ErrFar", laid_facade_api_ErrFar), ("facade/api.ErrMap", laid_facade_api_ErrMap), ("facade/api.ErrOwner", laid_facade_api_ErrOwner), ("facade/api.ErrType", laid_facade_api_ErrType), ("facade/api.ErrBusy", laid_facade_api_ErrBusy), ("facade/api.ErrFull", laid_facade_api_ErrFull), ("facade/api.ErrState", laid_facade_api_ErrState), ("facade/api.ErrWord", laid_facade_api_ErrWord), ("facade/api.ErrNumber", laid_facade_api_ErrNumber)] }
def HcallBackSaid : Prop := hcallBackRow.holds Tryd.pinned (OpenSpec.ofChange hcallBackSpec)

/-- ITS FALSE NEIGHBOUR: 'it returns false'. Refute it at one input. -/
def hcallBackWrong : ChangeSpec := { name := "hcallBack", fn := fun _ => fun
  | [d1, d2] => { results := [.lit (.bool false)], args := [d1, d2] }
  | _ => none }
def HcallBackWrongFalsely : Prop := hcallBackRow.holds Tryd.pinned (OpenSpec.ofChange hcallBackWrong)

/-- 'facadelaw25.HcallSays': WHATEVER THE INPUT: true; the input reads as it did. -/
def hcallSaysSpec : ChangeSpec := { name := "hcallSays", fn := fun _ => fun
  | [d1, d2, d3, d4, d5] => { results := [.lit (.bool true)], args := [d1, d2, d3, d4, d5] }
  | _ => none }
def hcallSaysRow : OpenClaim := { program := "ytpmbbbgmaipmbaadoor", sum := "f60f07b8fa3f5965fe0e7d0e8d6178da02669e81c8dd7524f473fc7578b6fcec", func := "facade/facadelaw25.HcallSays", spec := "hcallSays", inPlace := ["internal/reflectlite.TypeOf"], unfollowed := true, recurses := true, named := ["facade/api.ErrFull", "facade/api.ErrEnd", "facade/api.ErrShape", "facade/api.ErrRange", "facade/api.ErrMany", "facade/api.ErrOp", "facade/api.ErrTwice", "facade/api.ErrNone", "facade/api.ErrFar", "facade/api.ErrMap", "facade/api.ErrOwner", "facade/api.ErrType", "facade/api.ErrBusy", "facade/api.ErrState", "facade/api.ErrWord", "facade/api.ErrNumber"], apart := false, laid := [("facade/api.ErrEnd", laid_facade_api_ErrEnd), ("facade/api.ErrShape", laid_facade_api_ErrShape), ("facade/api.ErrRange", laid_facade_api_ErrRange), ("facade/api.ErrMany", laid_facade_api_ErrMany), ("facade/api.ErrOp", laid_facade_api_ErrOp), ("facade/api.ErrTwice", laid_facade_api_ErrTwice), ("facade/api.ErrNone", laid_facade_api_ErrNone), ("facade/api.ErrFar", laid_facade_api_ErrFar), ("facade/api.ErrMap", laid_facade_api_ErrMap), ("facade/api.ErrOwner", laid_facade_api_ErrOwner), ("facade/api.ErrType", laid_facade_api_ErrType), ("facade/api.ErrBusy", laid_facade_api_ErrBusy), ("facade/api.ErrFull", laid_facade_api_ErrFull), ("facade/api.ErrState", laid_facade_api_ErrState), ("facade/api.ErrWord", laid_facade_api_ErrWord), ("facade/api.ErrNumber", laid_facade_api_ErrNumber)] }
def HcallSaysSaid : Prop := hcallSaysRow.holds Tryd.pinned (OpenSpec.ofChange hcallSaysSpec)

/-- ITS FALSE NEIGHBOUR: 'it returns false'. Refute it at one input. -/
def hcallSaysWrong : ChangeSpec := { name := "hcallSays", fn := fun _ => fun
  | [d1, d2, d3, d4, d5] => { results := [.lit (.bool false)], args := [d1, d2, d3, d4, d5] }
  | _ => none }
def HcallSaysWrongFalsely : Prop := hcallSaysRow.holds Tryd.pinned (OpenSpec.ofChange hcallSaysWrong)

/-- 'facadelaw21.EvchPlays': WHATEVER THE INPUT: true; the input reads as it did. -/
def evchPlaysSpec : ChangeSpec := { name := "evchPlays", fn := fun _ => fun
  | [d1, d2] => { results := [.lit (.bool true)], args := [d1, d2] }
  | _ => none }
def evchPlaysRow : OpenClaim := { program := "ytpmbbbgmaipmbaadoor", sum := "f60f07b8fa3f5965fe0e7d0e8d6178da02669e81c8dd7524f473fc7578b6fcec", func := "facade/facadelaw21.EvchPlays", spec := "evchPlays", named := ["facade/api.ErrRange", "facade/api.ErrMany", "facade/api.ErrNone", "facade/api.ErrEnd", "facade/api.ErrShape", "facade/api.ErrOp", "facade/api.ErrTwice", "facade/api.ErrFar", "facade/api.ErrMap", "facade/api.ErrOwner", "facade/api.ErrType", "facade/api.ErrBusy", "facade/api.ErrFull", "facade/api.ErrState", "facade/api.ErrWord", "facade/api.ErrNumber"], apart := false, laid := [("facade/api.ErrEnd", laid_facade_api_ErrEnd), ("facade/api.ErrShape", laid_facade_api_ErrShape), ("facade/api.ErrRange", laid_facade_api_ErrRange), ("facade/api.ErrMany", laid_facade_api_ErrMany), ("facade/api.ErrOp", laid_facade_api_ErrOp), ("facade/api.ErrTwice", laid_facade_api_ErrTwice), ("facade/api.ErrNone", laid_facade_api_ErrNone), ("facade/api.ErrFar", laid_facade_api_ErrFar), ("facade/api.ErrMap", laid_facade_api_ErrMap), ("facade/api.ErrOwner", laid_facade_api_ErrOwner), ("facade/api.ErrType", laid_facade_api_ErrType), ("facade/api.ErrBusy", laid_facade_api_ErrBusy), ("facade/api.ErrFull", laid_facade_api_ErrFull), ("facade/api.ErrState", laid_facade_api_ErrState), ("facade/api.ErrWord", laid_facade_api_ErrWord), ("facade/api.ErrNumber", laid_facade_api_ErrNumber)] }
def EvchPlaysSaid : Prop := evchPlaysRow.holds Tryd.pinned (OpenSpec.ofChange evchPlaysSpec)

/-- ITS FALSE NEIGHBOUR: 'it returns false'. Refute it at one input. -/
def evchPlaysWrong : ChangeSpec := { name := "evchPlays", fn := fun _ => fun
  | [d1, d2] => { results := [.lit (.bool false)], args := [d1, d2] }
  | _ => none }
def EvchPlaysWrongFalsely : Prop := evchPlaysRow.holds Tryd.pinned (OpenSpec.ofChange evchPlaysWrong)

/- THE SECOND FORM. 'bulk': how many values and letters a reading holds, each counted each time it is reached (what is shared counts as often as it is met; a slice's spare places count too). A statement '..UptoSaid' is the law's where the arguments, and the package variables that the reading takes, are together of bulk at most 1048576: NARROWER than '..Said'. Prove '..Said' where nothing that the law and all that it calls make is longer than what came in: it says more and counts as full. Else prove '..UptoSaid'. A law counts once. -/
mutual
def uptoBulk {H : Type} : DataW H → Nat
  | .lit (.string bytes) => bytes.length + 1
  | .lit _ => 1
  | .nil => 1
  | .ptr d => uptoBulk d + 1
  | .slice elems spare => uptoBulkAll elems + uptoBulkAll spare + 1
  | .agg parts => uptoBulkAll parts + 1
  | .iface _ d => uptoBulk d + 1
  | .map entries => uptoBulkEntries entries + 1
  | .held _ => 1
def uptoBulkAll {H : Type} : List (DataW H) → Nat
  | [] => 0
  | d :: r => uptoBulk d + uptoBulkAll r
def uptoBulkEntries {H : Type} : List (Lit × DataW H) → Nat
  | [] => 0
  | x :: r => uptoBulkEntry x + uptoBulkEntries r
def uptoBulkEntry {H : Type} : Lit × DataW H → Nat
  | (.string bytes, d) => bytes.length + uptoBulk d + 1
  | (_, d) => uptoBulk d + 1
 end
def uptoSmall : (H : Type) → List (DataW H) → Bool := fun _ ds => decide (uptoBulkAll ds ≤ 1048576)
def OpenSpec.upto (s : _root_.Go.ChangeSpec) : _root_.Go.OpenSpec := { _root_.Go.OpenSpec.ofChange s with cond := some uptoSmall }

/-- 'facadelaw25.HcallCodes', WHERE WHAT IT READS IS OF BULK AT MOST 1048576: true; the input reads as it did. -/
def hcallCodesUptoRow : OpenClaim := { program := "ytpmbbbgmaipmbaadoor", sum := "f60f07b8fa3f5965fe0e7d0e8d6178da02669e81c8dd7524f473fc7578b6fcec", func := "facade/facadelaw25.HcallCodes", spec := "hcallCodes", inPlace := ["internal/reflectlite.TypeOf"], unfollowed := true, recurses := true, named := ["facade/api.ErrFull", "facade/api.ErrEnd", "facade/api.ErrShape", "facade/api.ErrRange", "facade/api.ErrMany", "facade/api.ErrOp", "facade/api.ErrTwice", "facade/api.ErrNone", "facade/api.ErrFar", "facade/api.ErrMap", "facade/api.ErrOwner", "facade/api.ErrType", "facade/api.ErrBusy", "facade/api.ErrState", "facade/api.ErrWord", "facade/api.ErrNumber"], apart := false, laid := [("facade/api.ErrEnd", laid_facade_api_ErrEnd), ("facade/api.ErrShape", laid_facade_api_ErrShape), ("facade/api.ErrRange", laid_facade_api_ErrRange), ("facade/api.ErrMany", laid_facade_api_ErrMany), ("facade/api.ErrOp", laid_facade_api_ErrOp), ("facade/api.ErrTwice", laid_facade_api_ErrTwice), ("facade/api.ErrNone", laid_facade_api_ErrNone), ("facade/api.ErrFar", laid_facade_api_ErrFar), ("facade/api.ErrMap", laid_facade_api_ErrMap), ("facade/api.ErrOwner", laid_facade_api_ErrOwner), ("facade/api.ErrType", laid_facade_api_ErrType), ("facade/api.ErrBusy", laid_facade_api_ErrBusy), ("facade/api.ErrFull", laid_facade_api_ErrFull), ("facade/api.ErrState", laid_facade_api_ErrState), ("facade/api.ErrWord", laid_facade_api_ErrWord), ("facade/api.ErrNumber", laid_facade_api_ErrNumber)], narrowed := true }
def HcallCodesUptoSaid : Prop := hcallCodesUptoRow.holds Tryd.pinned (OpenSpec.upto hcallCodesSpec)

/-- 'facadelaw21.EvchLoops', WHERE WHAT IT READS IS OF BULK AT MOST 1048576: true; the input reads as it did. -/
def evchLoopsUptoRow : OpenClaim := { program := "ytpmbbbgmaipmbaadoor", sum := "f60f07b8fa3f5965fe0e7d0e8d6178da02669e81c8dd7524f473fc7578b6fcec", func := "facade/facadelaw21.EvchLoops", spec := "evchLoops", named := ["facade/api.ErrRange", "facade/api.ErrMany", "facade/api.ErrNone", "facade/api.ErrEnd", "facade/api.ErrShape", "facade/api.ErrOp", "facade/api.ErrTwice", "facade/api.ErrFar", "facade/api.ErrMap", "facade/api.ErrOwner", "facade/api.ErrType", "facade/api.ErrBusy", "facade/api.ErrFull", "facade/api.ErrState", "facade/api.ErrWord", "facade/api.ErrNumber"], apart := false, laid := [("facade/api.ErrEnd", laid_facade_api_ErrEnd), ("facade/api.ErrShape", laid_facade_api_ErrShape), ("facade/api.ErrRange", laid_facade_api_ErrRange), ("facade/api.ErrMany", laid_facade_api_ErrMany), ("facade/api.ErrOp", laid_facade_api_ErrOp), ("facade/api.ErrTwice", laid_facade_api_ErrTwice), ("facade/api.ErrNone", laid_facade_api_ErrNone), ("facade/api.ErrFar", laid_facade_api_ErrFar), ("facade/api.ErrMap", laid_facade_api_ErrMap), ("facade/api.ErrOwner", laid_facade_api_ErrOwner), ("facade/api.ErrType", laid_facade_api_ErrType), ("facade/api.ErrBusy", laid_facade_api_ErrBusy), ("facade/api.ErrFull", laid_facade_api_ErrFull), ("facade/api.ErrState", laid_facade_api_ErrState), ("facade/api.ErrWord", laid_facade_api_ErrWord), ("facade/api.ErrNumber", laid_facade_api_ErrNumber)], narrowed := true }
def EvchLoopsUptoSaid : Prop := evchLoopsUptoRow.holds Tryd.pinned (OpenSpec.upto evchLoopsSpec)

/-- 'facadelaw25.HcallRegs', WHERE WHAT IT READS IS OF BULK AT MOST 1048576: true; the input reads as it did. -/
def hcallRegsUptoRow : OpenClaim := { program := "ytpmbbbgmaipmbaadoor", sum := "f60f07b8fa3f5965fe0e7d0e8d6178da02669e81c8dd7524f473fc7578b6fcec", func := "facade/facadelaw25.HcallRegs", spec := "hcallRegs", inPlace := ["internal/reflectlite.TypeOf"], unfollowed := true, recurses := true, named := ["facade/api.ErrFull", "facade/api.ErrEnd", "facade/api.ErrShape", "facade/api.ErrRange", "facade/api.ErrMany", "facade/api.ErrOp", "facade/api.ErrTwice", "facade/api.ErrNone", "facade/api.ErrFar", "facade/api.ErrMap", "facade/api.ErrOwner", "facade/api.ErrType", "facade/api.ErrBusy", "facade/api.ErrState", "facade/api.ErrWord", "facade/api.ErrNumber"], apart := false, laid := [("facade/api.ErrEnd", laid_facade_api_ErrEnd), ("facade/api.ErrShape", laid_facade_api_ErrShape), ("facade/api.ErrRange", laid_facade_api_ErrRange), ("facade/api.ErrMany", laid_facade_api_ErrMany), ("facade/api.ErrOp", laid_facade_api_ErrOp), ("facade/api.ErrTwice", laid_facade_api_ErrTwice), ("facade/api.ErrNone", laid_facade_api_ErrNone), ("facade/api.ErrFar", laid_facade_api_ErrFar), ("facade/api.ErrMap", laid_facade_api_ErrMap), ("facade/api.ErrOwner", laid_facade_api_ErrOwner), ("facade/api.ErrType", laid_facade_api_ErrType), ("facade/api.ErrBusy", laid_facade_api_ErrBusy), ("facade/api.ErrFull", laid_facade_api_ErrFull), ("facade/api.ErrState", laid_facade_api_ErrState), ("facade/api.ErrWord", laid_facade_api_ErrWord), ("facade/api.ErrNumber", laid_facade_api_ErrNumber)], narrowed := true }
def HcallRegsUptoSaid : Prop := hcallRegsUptoRow.holds Tryd.pinned (OpenSpec.upto hcallRegsSpec)

/-- 'facadelaw21.EvchMany', WHERE WHAT IT READS IS OF BULK AT MOST 1048576: true; the input reads as it did. -/
def evchManyUptoRow : OpenClaim := { program := "ytpmbbbgmaipmbaadoor", sum := "f60f07b8fa3f5965fe0e7d0e8d6178da02669e81c8dd7524f473fc7578b6fcec", func := "facade/facadelaw21.EvchMany", spec := "evchMany", named := ["facade/api.ErrRange", "facade/api.ErrMany", "facade/api.ErrNone", "facade/api.ErrEnd", "facade/api.ErrShape", "facade/api.ErrOp", "facade/api.ErrTwice", "facade/api.ErrFar", "facade/api.ErrMap", "facade/api.ErrOwner", "facade/api.ErrType", "facade/api.ErrBusy", "facade/api.ErrFull", "facade/api.ErrState", "facade/api.ErrWord", "facade/api.ErrNumber"], apart := false, laid := [("facade/api.ErrEnd", laid_facade_api_ErrEnd), ("facade/api.ErrShape", laid_facade_api_ErrShape), ("facade/api.ErrRange", laid_facade_api_ErrRange), ("facade/api.ErrMany", laid_facade_api_ErrMany), ("facade/api.ErrOp", laid_facade_api_ErrOp), ("facade/api.ErrTwice", laid_facade_api_ErrTwice), ("facade/api.ErrNone", laid_facade_api_ErrNone), ("facade/api.ErrFar", laid_facade_api_ErrFar), ("facade/api.ErrMap", laid_facade_api_ErrMap), ("facade/api.ErrOwner", laid_facade_api_ErrOwner), ("facade/api.ErrType", laid_facade_api_ErrType), ("facade/api.ErrBusy", laid_facade_api_ErrBusy), ("facade/api.ErrFull", laid_facade_api_ErrFull), ("facade/api.ErrState", laid_facade_api_ErrState), ("facade/api.ErrWord", laid_facade_api_ErrWord), ("facade/api.ErrNumber", laid_facade_api_ErrNumber)], narrowed := true }
def EvchManyUptoSaid : Prop := evchManyUptoRow.holds Tryd.pinned (OpenSpec.upto evchManySpec)

/-- 'facadelaw21.EvchBits', WHERE WHAT IT READS IS OF BULK AT MOST 1048576: true; the input reads as it did. -/
def evchBitsUptoRow : OpenClaim := { program := "ytpmbbbgmaipmbaadoor", sum := "f60f07b8fa3f5965fe0e7d0e8d6178da02669e81c8dd7524f473fc7578b6fcec", func := "facade/facadelaw21.EvchBits", spec := "evchBits", named := ["facade/api.ErrRange", "facade/api.ErrMany", "facade/api.ErrNone", "facade/api.ErrEnd", "facade/api.ErrShape", "facade/api.ErrOp", "facade/api.ErrTwice", "facade/api.ErrFar", "facade/api.ErrMap", "facade/api.ErrOwner", "facade/api.ErrType", "facade/api.ErrBusy", "facade/api.ErrFull", "facade/api.ErrState", "facade/api.ErrWord", "facade/api.ErrNumber"], apart := false, laid := [("facade/api.ErrEnd", laid_facade_api_ErrEnd), ("facade/api.ErrShape", laid_facade_api_ErrShape), ("facade/api.ErrRange", laid_facade_api_ErrRange), ("facade/api.ErrMany", laid_facade_api_ErrMany), ("facade/api.ErrOp", laid_facade_api_ErrOp), ("facade/api.ErrTwice", laid_facade_api_ErrTwice), ("facade/api.ErrNone", laid_facade_api_ErrNone), ("facade/api.ErrFar", laid_facade_api_ErrFar), ("facade/api.ErrMap", laid_facade_api_ErrMap), ("facade/api.ErrOwner", laid_facade_api_ErrOwner), ("facade/api.ErrType", laid_facade_api_ErrType), ("facade/api.ErrBusy", laid_facade_api_ErrBusy), ("facade/api.ErrFull", laid_facade_api_ErrFull), ("facade/api.ErrState", laid_facade_api_ErrState), ("facade/api.ErrWord", laid_facade_api_ErrWord), ("facade/api.ErrNumber", laid_facade_api_ErrNumber)], narrowed := true }
def EvchBitsUptoSaid : Prop := evchBitsUptoRow.holds Tryd.pinned (OpenSpec.upto evchBitsSpec)

/-- 'facadelaw21.EvchOnce', WHERE WHAT IT READS IS OF BULK AT MOST 1048576: true; the input reads as it did. -/
def evchOnceUptoRow : OpenClaim := { program := "ytpmbbbgmaipmbaadoor", sum := "f60f07b8fa3f5965fe0e7d0e8d6178da02669e81c8dd7524f473fc7578b6fcec", func := "facade/facadelaw21.EvchOnce", spec := "evchOnce", named := ["facade/api.ErrRange", "facade/api.ErrMany", "facade/api.ErrNone", "facade/api.ErrEnd", "facade/api.ErrShape", "facade/api.ErrOp", "facade/api.ErrTwice", "facade/api.ErrFar", "facade/api.ErrMap", "facade/api.ErrOwner", "facade/api.ErrType", "facade/api.ErrBusy", "facade/api.ErrFull", "facade/api.ErrState", "facade/api.ErrWord", "facade/api.ErrNumber"], apart := false, laid := [("facade/api.ErrEnd", laid_facade_api_ErrEnd), ("facade/api.ErrShape", laid_facade_api_ErrShape), ("facade/api.ErrRange", laid_facade_api_ErrRange), ("facade/api.ErrMany", laid_facade_api_ErrMany), ("facade/api.ErrOp", laid_facade_api_ErrOp), ("facade/api.ErrTwice", laid_facade_api_ErrTwice), ("facade/api.ErrNone", laid_facade_api_ErrNone), ("facade/api.ErrFar", laid_facade_api_ErrFar), ("facade/api.ErrMap", laid_facade_api_ErrMap), ("facade/api.ErrOwner", laid_facade_api_ErrOwner), ("facade/api.ErrType", laid_facade_api_ErrType), ("facade/api.ErrBusy", laid_facade_api_ErrBusy), ("facade/api.ErrFull", laid_facade_api_ErrFull), ("facade/api.ErrState", laid_facade_api_ErrState), ("facade/api.ErrWord", laid_facade_api_ErrWord), ("facade/api.ErrNumber", laid_facade_api_ErrNumber)], narrowed := true }
def EvchOnceUptoSaid : Prop := evchOnceUptoRow.holds Tryd.pinned (OpenSpec.upto evchOnceSpec)

/-- 'facadelaw25.HcallBounds', WHERE WHAT IT READS IS OF BULK AT MOST 1048576: true; the input reads as it did. -/
def hcallBoundsUptoRow : OpenClaim := { program := "ytpmbbbgmaipmbaadoor", sum := "f60f07b8fa3f5965fe0e7d0e8d6178da02669e81c8dd7524f473fc7578b6fcec", func := "facade/facadelaw25.HcallBounds", spec := "hcallBounds", inPlace := ["internal/reflectlite.TypeOf"], unfollowed := true, recurses := true, named := ["facade/api.ErrFull", "facade/api.ErrEnd", "facade/api.ErrShape", "facade/api.ErrRange", "facade/api.ErrMany", "facade/api.ErrOp", "facade/api.ErrTwice", "facade/api.ErrNone", "facade/api.ErrFar", "facade/api.ErrMap", "facade/api.ErrOwner", "facade/api.ErrType", "facade/api.ErrBusy", "facade/api.ErrState", "facade/api.ErrWord", "facade/api.ErrNumber"], apart := false, laid := [("facade/api.ErrEnd", laid_facade_api_ErrEnd), ("facade/api.ErrShape", laid_facade_api_ErrShape), ("facade/api.ErrRange", laid_facade_api_ErrRange), ("facade/api.ErrMany", laid_facade_api_ErrMany), ("facade/api.ErrOp", laid_facade_api_ErrOp), ("facade/api.ErrTwice", laid_facade_api_ErrTwice), ("facade/api.ErrNone", laid_facade_api_ErrNone), ("facade/api.ErrFar", laid_facade_api_ErrFar), ("facade/api.ErrMap", laid_facade_api_ErrMap), ("facade/api.ErrOwner", laid_facade_api_ErrOwner), ("facade/api.ErrType", laid_facade_api_ErrType), ("facade/api.ErrBusy", laid_facade_api_ErrBusy), ("facade/api.ErrFull", laid_facade_api_ErrFull), ("facade/api.ErrState", laid_facade_api_ErrState), ("facade/api.ErrWord", laid_facade_api_ErrWord), ("facade/api.ErrNumber", laid_facade_api_ErrNumber)], narrowed := true }
def HcallBoundsUptoSaid : Prop := hcallBoundsUptoRow.holds Tryd.pinned (OpenSpec.upto hcallBoundsSpec)

/-- 'facadelaw25.HcallBack', WHERE WHAT IT READS IS OF BULK AT MOST 1048576: true; the input reads as it did. -/
def hcallBackUptoRow : OpenClaim := { program := "ytpmbbbgmaipmbaadoor", sum := "f60f07b8fa3f5965fe0e7d0e8d6178da02669e81c8dd7524f473fc7578b6fcec", func := "facade/facadelaw25.HcallBack", spec := "hcallBack", inPlace := ["internal/reflectlite.TypeOf"], unfollowed := true, recurses := true, named := ["facade/api.ErrFull", "facade/api.ErrEnd", "facade/api.ErrShape", "facade/api.ErrRange", "facade/api.ErrMany", "facade/api.ErrOp", "facade/api.ErrTwice", "facade/api.ErrNone", "facade/api.ErrFar", "facade/api.ErrMap", "facade/api.ErrOwner", "facade/api.ErrType", "facade/api.ErrBusy", "facade/api.ErrState", "facade/api.ErrWord", "facade/api.ErrNumber"], apart := false, laid := [("facade/api.ErrEnd", laid_facade_api_ErrEnd), ("facade/api.ErrShape", laid_facade_api_ErrShape), ("facade/api.ErrRange", laid_facade_api_ErrRange), ("facade/api.ErrMany", laid_facade_api_ErrMany), ("facade/api.ErrOp", laid_facade_api_ErrOp), ("facade/api.ErrTwice", laid_facade_api_ErrTwice), ("facade/api.ErrNone", laid_facade_api_ErrNone), ("facade/api.ErrFar", laid_facade_api_ErrFar), ("facade/api.ErrMap", laid_facade_api_ErrMap), ("facade/api.ErrOwner", laid_facade_api_ErrOwner), ("facade/api.ErrType", laid_facade_api_ErrType), ("facade/api.ErrBusy", laid_facade_api_ErrBusy), ("facade/api.ErrFull", laid_facade_api_ErrFull), ("facade/api.ErrState", laid_facade_api_ErrState), ("facade/api.ErrWord", laid_facade_api_ErrWord), ("facade/api.ErrNumber", laid_facade_api_ErrNumber)], narrowed := true }
def HcallBackUptoSaid : Prop := hcallBackUptoRow.holds Tryd.pinned (OpenSpec.upto hcallBackSpec)

/-- 'facadelaw25.HcallSays', WHERE WHAT IT READS IS OF BULK AT MOST 1048576: true; the input reads as it did. -/
def hcallSaysUptoRow : OpenClaim := { program := "ytpmbbbgmaipmbaadoor", sum := "f60f07b8fa3f5965fe0e7d0e8d6178da02669e81c8dd7524f473fc7578b6fcec", func := "facade/facadelaw25.HcallSays", spec := "hcallSays", inPlace := ["internal/reflectlite.TypeOf"], unfollowed := true, recurses := true, named := ["facade/api.ErrFull", "facade/api.ErrEnd", "facade/api.ErrShape", "facade/api.ErrRange", "facade/api.ErrMany", "facade/api.ErrOp", "facade/api.ErrTwice", "facade/api.ErrNone", "facade/api.ErrFar", "facade/api.ErrMap", "facade/api.ErrOwner", "facade/api.ErrType", "facade/api.ErrBusy", "facade/api.ErrState", "facade/api.ErrWord", "facade/api.ErrNumber"], apart := false, laid := [("facade/api.ErrEnd", laid_facade_api_ErrEnd), ("facade/api.ErrShape", laid_facade_api_ErrShape), ("facade/api.ErrRange", laid_facade_api_ErrRange), ("facade/api.ErrMany", laid_facade_api_ErrMany), ("facade/api.ErrOp", laid_facade_api_ErrOp), ("facade/api.ErrTwice", laid_facade_api_ErrTwice), ("facade/api.ErrNone", laid_facade_api_ErrNone), ("facade/api.ErrFar", laid_facade_api_ErrFar), ("facade/api.ErrMap", laid_facade_api_ErrMap), ("facade/api.ErrOwner", laid_facade_api_ErrOwner), ("facade/api.ErrType", laid_facade_api_ErrType), ("facade/api.ErrBusy", laid_facade_api_ErrBusy), ("facade/api.ErrFull", laid_facade_api_ErrFull), ("facade/api.ErrState", laid_facade_api_ErrState), ("facade/api.ErrWord", laid_facade_api_ErrWord), ("facade/api.ErrNumber", laid_facade_api_ErrNumber)], narrowed := true }
def HcallSaysUptoSaid : Prop := hcallSaysUptoRow.holds Tryd.pinned (OpenSpec.upto hcallSaysSpec)

/-- 'facadelaw21.EvchPlays', WHERE WHAT IT READS IS OF BULK AT MOST 1048576: true; the input reads as it did. -/
def evchPlaysUptoRow : OpenClaim := { program := "ytpmbbbgmaipmbaadoor", sum := "f60f07b8fa3f5965fe0e7d0e8d6178da02669e81c8dd7524f473fc7578b6fcec", func := "facade/facadelaw21.EvchPlays", spec := "evchPlays", named := ["facade/api.ErrRange", "facade/api.ErrMany", "facade/api.ErrNone", "facade/api.ErrEnd", "facade/api.ErrShape", "facade/api.ErrOp", "facade/api.ErrTwice", "facade/api.ErrFar", "facade/api.ErrMap", "facade/api.ErrOwner", "facade/api.ErrType", "facade/api.ErrBusy", "facade/api.ErrFull", "facade/api.ErrState", "facade/api.ErrWord", "facade/api.ErrNumber"], apart := false, laid := [("facade/api.ErrEnd", laid_facade_api_ErrEnd), ("facade/api.ErrShape", laid_facade_api_ErrShape), ("facade/api.ErrRange", laid_facade_api_ErrRange), ("facade/api.ErrMany", laid_facade_api_ErrMany), ("facade/api.ErrOp", laid_facade_api_ErrOp), ("facade/api.ErrTwice", laid_facade_api_ErrTwice), ("facade/api.ErrNone", laid_facade_api_ErrNone), ("facade/api.ErrFar", laid_facade_api_ErrFar), ("facade/api.ErrMap", laid_facade_api_ErrMap), ("facade/api.ErrOwner", laid_facade_api_ErrOwner), ("facade/api.ErrType", laid_facade_api_ErrType), ("facade/api.ErrBusy", laid_facade_api_ErrBusy), ("facade/api.ErrFull", laid_facade_api_ErrFull), ("facade/api.ErrState", laid_facade_api_ErrState), ("facade/api.ErrWord", laid_facade_api_ErrWord), ("facade/api.ErrNumber", laid_facade_api_ErrNumber)], narrowed := true }
def EvchPlaysUptoSaid : Prop := evchPlaysUptoRow.holds Tryd.pinned (OpenSpec.upto evchPlaysSpec)

end Rows
end Go.Proofs.YtpmbbbgmaipmbaaDoor
