/-
  NARROWER THAN 'FOR EVERY INPUT', by the rows' own cells (each row's printed sentence says how): InfoSays: laid · InfoBack: laid · MapMany: laid · GrantLent: laid · MemCopies: laid · MemWords: laid · MapOnce: laid · MapPlays: laid · MemFills: laid · GrantOnce: laid · MemPlays: laid · GrantPlays: laid.
  DERIVED. THE GIVEN ROWS OF THIS SEAT. 12 by the template 'for every input the law returns true; each argument reads behind the call as it read before'; 0 by the template 'total and deterministic' (their statements: YtmeljclaocgoaaaDoorTotals.lean).
  GIVEN WITH THE SEED: the statements are not yours to turn. If you find one false, say at which input.
  Laid BY PROGRAM, IN A SANDBOX (cutbox-rows.mjs): the forced cells as the released guide's own fill.sh prints them over the translation 1693570b4fead1b1… (all of the seat's roots in one cut). By AI agents, Wed Nov 11 2026. No macro, syntax, notation, axiom, sorry.
-/
import Derived.Test.YtmeljclaocgoaaaDoorChecked
import GoSem.Claim
import GoSem.ClaimJoined
import GoSem.ClaimMapViews
import Derived.JoinedTies
import Derived.KernelRfl
namespace Go.Proofs.YtmeljclaocgoaaaDoor
/- THE CELL 'sum', in the pinned program and in every row, IS THE sha256 OF THE DUMP (.gsa) THAT YtmeljclaocgoaaaDoorProg.lean LOADS. Nothing in Lean hashes anything: it is a label: what it is worth is what the hold of that sum in a sandbox is worth. -/
noncomputable def Tryd.pinned : Pinned := { name := "ytmeljclaocgoaaadoor", sum := "1693570b4fead1b1af1b324ead437ca6c6180ceabb0c8dd7635b3fd907e50864", checked := Tryd.checked }
namespace Rows
def none {H : Type} : Left H := { results := [], args := [] }

/- WHAT THE LISTED PACKAGE-LEVEL VARIABLES READ AS WHEN THE CALL BEGINS. Each datum BY PROGRAM (the guide's laid-datum.mjs) off the statement by which the dump's own 'gosem.cut.vars' lays the variable. In a bare row this is a premise. The card (YtmeljclaocgoaaaDoorCards.lean) ties it to the program's text. -/
def laid_facade_api_ErrEnd {H : Type} : DataW H := .iface "*errors.errorString" (.ptr (.agg [.lit (.string [105, 116, 32, 101, 110, 100, 115, 32, 116, 111, 111, 32, 101, 97, 114, 108, 121])]))
def laid_facade_api_ErrShape {H : Type} : DataW H := .iface "*errors.errorString" (.ptr (.agg [.lit (.string [110, 111, 116, 32, 97, 115, 32, 105, 116, 32, 104, 97, 115, 32, 116, 111, 32, 98, 101])]))
def laid_facade_api_ErrRange {H : Type} : DataW H := .iface "*errors.errorString" (.ptr (.agg [.lit (.string [97, 32, 110, 117, 109, 98, 101, 114, 32, 111, 117, 116, 32, 111, 102, 32, 105, 116, 115, 32, 114, 97, 110, 103, 101])]))
def laid_facade_api_ErrMany {H : Type} : DataW H := .iface "*errors.errorString" (.ptr (.agg [.lit (.string [116, 111, 111, 32, 109, 97, 110, 121])]))
def laid_facade_api_ErrOp {H : Type} : DataW H := .iface "*errors.errorString" (.ptr (.agg [.lit (.string [110, 111, 32, 115, 117, 99, 104, 32, 105, 110, 115, 116, 114, 117, 99, 116, 105, 111, 110])]))
def laid_facade_api_ErrTwice {H : Type} : DataW H := .iface "*errors.errorString" (.ptr (.agg [.lit (.string [116, 104, 101, 114, 101, 32, 105, 115, 32, 111, 110, 101])]))
def laid_facade_api_ErrNone {H : Type} : DataW H := .iface "*errors.errorString" (.ptr (.agg [.lit (.string [116, 104, 101, 114, 101, 32, 105, 115, 32, 110, 111, 110, 101])]))
def laid_facade_api_ErrFar {H : Type} : DataW H := .iface "*errors.errorString" (.ptr (.agg [.lit (.string [116, 111, 111, 32, 102, 97, 114])]))
def laid_facade_api_ErrMap {H : Type} : DataW H := .iface "*errors.errorString" (.ptr (.agg [.lit (.string [110, 111, 116, 32, 97, 115, 32, 116, 104, 101, 32, 99, 111, 100, 101, 39, 115, 32, 109, 97, 112, 32, 104, 97, 115, 32, 105, 116])]))
def laid_facade_api_ErrOwner {H : Type} : DataW H := .iface "*errors.errorString" (.ptr (.agg [.lit (.string [97, 110, 111, 116, 104, 101, 114, 32, 111, 110, 101, 39, 115])]))
def laid_facade_api_ErrType {H : Type} : DataW H := .iface "*errors.errorString" (.ptr (.agg [.lit (.string [97, 32, 102, 114, 97, 109, 101, 32, 111, 102, 32, 97, 110, 111, 116, 104, 101, 114, 32, 107, 105, 110, 100])]))
def laid_facade_api_ErrBusy {H : Type} : DataW H := .iface "*errors.errorString" (.ptr (.agg [.lit (.string [115, 116, 105, 108, 108, 32, 105, 110, 32, 117, 115, 101])]))
def laid_facade_api_ErrFull {H : Type} : DataW H := .iface "*errors.errorString" (.ptr (.agg [.lit (.string [116, 104, 101, 114, 101, 32, 105, 115, 32, 110, 111, 32, 114, 111, 111, 109])]))
def laid_facade_api_ErrState {H : Type} : DataW H := .iface "*errors.errorString" (.ptr (.agg [.lit (.string [110, 111, 116, 32, 97, 115, 32, 105, 116, 32, 105, 115, 32, 110, 111, 119])]))
def laid_facade_api_ErrWord {H : Type} : DataW H := .iface "*errors.errorString" (.ptr (.agg [.lit (.string [110, 111, 32, 115, 117, 99, 104, 32, 119, 111, 114, 100])]))
def laid_facade_api_ErrNumber {H : Type} : DataW H := .iface "*errors.errorString" (.ptr (.agg [.lit (.string [110, 111, 116, 32, 97, 32, 110, 117, 109, 98, 101, 114])]))

/-- 'facadelaw23.InfoSays': WHATEVER THE INPUT: true; the input reads as it did. -/
def infoSaysSpec : ChangeSpec := { name := "infoSays", fn := fun _ => fun
  | [d1, d2] => { results := [.lit (.bool true)], args := [d1, d2] }
  | _ => none }
def infoSaysRow : OpenClaim := { program := "ytmeljclaocgoaaadoor", sum := "1693570b4fead1b1af1b324ead437ca6c6180ceabb0c8dd7635b3fd907e50864", func := "facade/facadelaw23.InfoSays", spec := "infoSays", unfollowed := true, recurses := true, named := ["facade/api.ErrShape", "facade/api.ErrEnd", "facade/api.ErrRange", "facade/api.ErrMany", "facade/api.ErrOp", "facade/api.ErrTwice", "facade/api.ErrNone", "facade/api.ErrFar", "facade/api.ErrMap", "facade/api.ErrOwner", "facade/api.ErrType", "facade/api.ErrBusy", "facade/api.ErrFull", "facade/api.ErrState", "facade/api.ErrWord", "facade/api.ErrNumber"], apart := false, laid := [("facade/api.ErrEnd", laid_facade_api_ErrEnd), ("facade/api.ErrShape", laid_facade_api_ErrShape), ("facade/api.ErrRange", laid_facade_api_ErrRange), ("facade/api.ErrMany", laid_facade_api_ErrMany), ("facade/api.ErrOp", laid_facade_api_ErrOp), ("facade/api.ErrTwice", laid_facade_api_ErrTwice), ("facade/api.ErrNone", laid_facade_api_ErrNone), ("facade/api.ErrFar", laid_facade_api_ErrFar), ("facade/api.ErrMap", laid_facade_api_ErrMap), ("facade/api.ErrOwner", laid_facade_api_ErrOwner), ("facade/api.ErrType", laid_facade_api_ErrType), ("facade/api.ErrBusy", laid_facade_api_ErrBusy), ("facade/api.ErrFull", laid_facade_api_ErrFull), ("facade/api.ErrState", laid_facade_api_ErrState), ("facade/api.ErrWord", laid_facade_api_ErrWord), ("facade/api.ErrNumber", laid_facade_api_ErrNumber)] }
def InfoSaysSaid : Prop := infoSaysRow.holds Tryd.pinned (OpenSpec.ofChange infoSaysSpec)

/-- ITS FALSE NEIGHBOUR: 'it returns false'. Refute it at one input. -/
def infoSaysWrong : ChangeSpec := { name := "infoSays", fn := fun _ => fun
  | [d1, d2] => { results := [.lit (.bool false)], args := [d1, d2] }
  | _ => none }
def InfoSaysWrongFalsely : Prop := infoSaysRow.holds Tryd.pinned (OpenSpec.ofChange infoSaysWrong)

/-- 'facadelaw23.InfoBack': WHATEVER THE INPUT: true; the input reads as it did. -/
def infoBackSpec : ChangeSpec := { name := "infoBack", fn := fun _ => fun
  | [d1, d2, d3] => { results := [.lit (.bool true)], args := [d1, d2, d3] }
  | _ => none }
def infoBackRow : OpenClaim := { program := "ytmeljclaocgoaaadoor", sum := "1693570b4fead1b1af1b324ead437ca6c6180ceabb0c8dd7635b3fd907e50864", func := "facade/facadelaw23.InfoBack", spec := "infoBack", unfollowed := true, recurses := true, named := ["facade/api.ErrShape"], apart := false, laid := [("facade/api.ErrShape", laid_facade_api_ErrShape)] }
def InfoBackSaid : Prop := infoBackRow.holds Tryd.pinned (OpenSpec.ofChange infoBackSpec)

/-- ITS FALSE NEIGHBOUR: 'it returns false'. Refute it at one input. -/
def infoBackWrong : ChangeSpec := { name := "infoBack", fn := fun _ => fun
  | [d1, d2, d3] => { results := [.lit (.bool false)], args := [d1, d2, d3] }
  | _ => none }
def InfoBackWrongFalsely : Prop := infoBackRow.holds Tryd.pinned (OpenSpec.ofChange infoBackWrong)

/-- 'facadelaw17.MapMany': WHATEVER THE INPUT: true; the input reads as it did. -/
def mapManySpec : ChangeSpec := { name := "mapMany", fn := fun _ => fun
  | [d1, d2, d3] => { results := [.lit (.bool true)], args := [d1, d2, d3] }
  | _ => none }
def mapManyRow : OpenClaim := { program := "ytmeljclaocgoaaadoor", sum := "1693570b4fead1b1af1b324ead437ca6c6180ceabb0c8dd7635b3fd907e50864", func := "facade/facadelaw17.MapMany", spec := "mapMany", named := ["facade/api.ErrRange", "facade/api.ErrTwice", "facade/api.ErrMany", "facade/api.ErrEnd", "facade/api.ErrShape", "facade/api.ErrOp", "facade/api.ErrNone", "facade/api.ErrFar", "facade/api.ErrMap", "facade/api.ErrOwner", "facade/api.ErrType", "facade/api.ErrBusy", "facade/api.ErrFull", "facade/api.ErrState", "facade/api.ErrWord", "facade/api.ErrNumber"], apart := false, laid := [("facade/api.ErrEnd", laid_facade_api_ErrEnd), ("facade/api.ErrShape", laid_facade_api_ErrShape), ("facade/api.ErrRange", laid_facade_api_ErrRange), ("facade/api.ErrMany", laid_facade_api_ErrMany), ("facade/api.ErrOp", laid_facade_api_ErrOp), ("facade/api.ErrTwice", laid_facade_api_ErrTwice), ("facade/api.ErrNone", laid_facade_api_ErrNone), ("facade/api.ErrFar", laid_facade_api_ErrFar), ("facade/api.ErrMap", laid_facade_api_ErrMap), ("facade/api.ErrOwner", laid_facade_api_ErrOwner), ("facade/api.ErrType", laid_facade_api_ErrType), ("facade/api.ErrBusy", laid_facade_api_ErrBusy), ("facade/api.ErrFull", laid_facade_api_ErrFull), ("facade/api.ErrState", laid_facade_api_ErrState), ("facade/api.ErrWord", laid_facade_api_ErrWord), ("facade/api.ErrNumber", laid_facade_api_ErrNumber)] }
def MapManySaid : Prop := mapManyRow.holds Tryd.pinned (OpenSpec.ofChange mapManySpec)

/-- ITS FALSE NEIGHBOUR: 'it returns false'. Refute it at one input. -/
def mapManyWrong : ChangeSpec := { name := "mapMany", fn := fun _ => fun
  | [d1, d2, d3] => { results := [.lit (.bool false)], args := [d1, d2, d3] }
  | _ => none }
def MapManyWrongFalsely : Prop := mapManyRow.holds Tryd.pinned (OpenSpec.ofChange mapManyWrong)

/-- 'facadelaw20.GrantLent': WHATEVER THE INPUT: true; the input reads as it did. -/
def grantLentSpec : ChangeSpec := { name := "grantLent", fn := fun _ => fun
  | [d1, d2, d3] => { results := [.lit (.bool true)], args := [d1, d2, d3] }
  | _ => none }
def grantLentRow : OpenClaim := { program := "ytmeljclaocgoaaadoor", sum := "1693570b4fead1b1af1b324ead437ca6c6180ceabb0c8dd7635b3fd907e50864", func := "facade/facadelaw20.GrantLent", spec := "grantLent", named := ["facade/api.ErrNone", "facade/api.ErrBusy", "facade/api.ErrEnd", "facade/api.ErrShape", "facade/api.ErrRange", "facade/api.ErrMany", "facade/api.ErrOp", "facade/api.ErrTwice", "facade/api.ErrFar", "facade/api.ErrMap", "facade/api.ErrOwner", "facade/api.ErrType", "facade/api.ErrFull", "facade/api.ErrState", "facade/api.ErrWord", "facade/api.ErrNumber"], apart := false, laid := [("facade/api.ErrEnd", laid_facade_api_ErrEnd), ("facade/api.ErrShape", laid_facade_api_ErrShape), ("facade/api.ErrRange", laid_facade_api_ErrRange), ("facade/api.ErrMany", laid_facade_api_ErrMany), ("facade/api.ErrOp", laid_facade_api_ErrOp), ("facade/api.ErrTwice", laid_facade_api_ErrTwice), ("facade/api.ErrNone", laid_facade_api_ErrNone), ("facade/api.ErrFar", laid_facade_api_ErrFar), ("facade/api.ErrMap", laid_facade_api_ErrMap), ("facade/api.ErrOwner", laid_facade_api_ErrOwner), ("facade/api.ErrType", laid_facade_api_ErrType), ("facade/api.ErrBusy", laid_facade_api_ErrBusy), ("facade/api.ErrFull", laid_facade_api_ErrFull), ("facade/api.ErrState", laid_facade_api_ErrState), ("facade/api.ErrWord", laid_facade_api_ErrWord), ("facade/api.ErrNumber", laid_facade_api_ErrNumber)] }
def GrantLentSaid : Prop := grantLentRow.holds Tryd.pinned (OpenSpec.ofChange grantLentSpec)

/-- ITS FALSE NEIGHBOUR: 'it returns false'. Refute it at one input. -/
def grantLentWrong : ChangeSpec := { name := "grantLent", fn := fun _ => fun
  | [d1, d2, d3] => { results := [.lit (.bool false)], args := [d1, d2, d3] }
  | _ => none }
def GrantLentWrongFalsely : Prop := grantLentRow.holds Tryd.pinned (OpenSpec.ofChange grantLentWrong)

/-- 'facadelaw2.MemCopies': WHATEVER THE INPUT: true; the input reads as it did. -/
def memCopiesSpec : ChangeSpec := { name := "memCopies", fn := fun _ => fun
  | [d1, d2] => { results := [.lit (.bool true)], args := [d1, d2] }
  | _ => none }
def memCopiesRow : OpenClaim := { program := "ytmeljclaocgoaaadoor", sum := "1693570b4fead1b1af1b324ead437ca6c6180ceabb0c8dd7635b3fd907e50864", func := "facade/facadelaw2.MemCopies", spec := "memCopies", named := ["facade/api.ErrRange"], apart := false, laid := [("facade/api.ErrRange", laid_facade_api_ErrRange)] }
def MemCopiesSaid : Prop := memCopiesRow.holds Tryd.pinned (OpenSpec.ofChange memCopiesSpec)

/-- ITS FALSE NEIGHBOUR: 'it returns false'. Refute it at one input. -/
def memCopiesWrong : ChangeSpec := { name := "memCopies", fn := fun _ => fun
  | [d1, d2] => { results := [.lit (.bool false)], args := [d1, d2] }
  | _ => none }
def MemCopiesWrongFalsely : Prop := memCopiesRow.holds Tryd.pinned (OpenSpec.ofChange memCopiesWrong)

/-- 'facadelaw2.MemWords': WHATEVER THE INPUT: true; the input reads as it did. -/
def memWordsSpec : ChangeSpec := { name := "memWords", fn := fun _ => fun
  | [d1, d2, d3] => { results := [.lit (.bool true)], args := [d1, d2, d3] }
  | _ => none }
def memWordsRow : OpenClaim := { program := "ytmeljclaocgoaaadoor", sum := "1693570b4fead1b1af1b324ead437ca6c6180ceabb0c8dd7635b3fd907e50864", func := "facade/facadelaw2.MemWords", spec := "memWords", named := ["facade/api.ErrRange"], apart := false, laid := [("facade/api.ErrRange", laid_facade_api_ErrRange)] }
def MemWordsSaid : Prop := memWordsRow.holds Tryd.pinned (OpenSpec.ofChange memWordsSpec)

/-- ITS FALSE NEIGHBOUR: 'it returns false'. Refute it at one input. -/
def memWordsWrong : ChangeSpec := { name := "memWords", fn := fun _ => fun
  | [d1, d2, d3] => { results := [.lit (.bool false)], args := [d1, d2, d3] }
  | _ => none }
def MemWordsWrongFalsely : Prop := memWordsRow.holds Tryd.pinned (OpenSpec.ofChange memWordsWrong)

/-- 'facadelaw17.MapOnce': WHATEVER THE INPUT: true; the input reads as it did. -/
def mapOnceSpec : ChangeSpec := { name := "mapOnce", fn := fun _ => fun
  | [d] => { results := [.lit (.bool true)], args := [d] }
  | _ => none }
def mapOnceRow : OpenClaim := { program := "ytmeljclaocgoaaadoor", sum := "1693570b4fead1b1af1b324ead437ca6c6180ceabb0c8dd7635b3fd907e50864", func := "facade/facadelaw17.MapOnce", spec := "mapOnce", named := ["facade/api.ErrRange", "facade/api.ErrTwice", "facade/api.ErrMany", "facade/api.ErrNone"], apart := false, laid := [("facade/api.ErrRange", laid_facade_api_ErrRange), ("facade/api.ErrMany", laid_facade_api_ErrMany), ("facade/api.ErrTwice", laid_facade_api_ErrTwice), ("facade/api.ErrNone", laid_facade_api_ErrNone)] }
def MapOnceSaid : Prop := mapOnceRow.holds Tryd.pinned (OpenSpec.ofChange mapOnceSpec)

/-- ITS FALSE NEIGHBOUR: 'it returns false'. Refute it at one input. -/
def mapOnceWrong : ChangeSpec := { name := "mapOnce", fn := fun _ => fun
  | [d] => { results := [.lit (.bool false)], args := [d] }
  | _ => none }
def MapOnceWrongFalsely : Prop := mapOnceRow.holds Tryd.pinned (OpenSpec.ofChange mapOnceWrong)

/-- 'facadelaw17.MapPlays': WHATEVER THE INPUT: true; the input reads as it did. -/
def mapPlaysSpec : ChangeSpec := { name := "mapPlays", fn := fun _ => fun
  | [d1, d2] => { results := [.lit (.bool true)], args := [d1, d2] }
  | _ => none }
def mapPlaysRow : OpenClaim := { program := "ytmeljclaocgoaaadoor", sum := "1693570b4fead1b1af1b324ead437ca6c6180ceabb0c8dd7635b3fd907e50864", func := "facade/facadelaw17.MapPlays", spec := "mapPlays", named := ["facade/api.ErrRange", "facade/api.ErrTwice", "facade/api.ErrMany", "facade/api.ErrEnd", "facade/api.ErrShape", "facade/api.ErrOp", "facade/api.ErrNone", "facade/api.ErrFar", "facade/api.ErrMap", "facade/api.ErrOwner", "facade/api.ErrType", "facade/api.ErrBusy", "facade/api.ErrFull", "facade/api.ErrState", "facade/api.ErrWord", "facade/api.ErrNumber"], apart := false, laid := [("facade/api.ErrEnd", laid_facade_api_ErrEnd), ("facade/api.ErrShape", laid_facade_api_ErrShape), ("facade/api.ErrRange", laid_facade_api_ErrRange), ("facade/api.ErrMany", laid_facade_api_ErrMany), ("facade/api.ErrOp", laid_facade_api_ErrOp), ("facade/api.ErrTwice", laid_facade_api_ErrTwice), ("facade/api.ErrNone", laid_facade_api_ErrNone), ("facade/api.ErrFar", laid_facade_api_ErrFar), ("facade/api.ErrMap", laid_facade_api_ErrMap), ("facade/api.ErrOwner", laid_facade_api_ErrOwner), ("facade/api.ErrType", laid_facade_api_ErrType), ("facade/api.ErrBusy", laid_facade_api_ErrBusy), ("facade/api.ErrFull", laid_facade_api_ErrFull), ("facade/api.ErrState", laid_facade_api_ErrState), ("facade/api.ErrWord", laid_facade_api_ErrWord), ("facade/api.ErrNumber", laid_facade_api_ErrNumber)] }
def MapPlaysSaid : Prop := mapPlaysRow.holds Tryd.pinned (OpenSpec.ofChange mapPlaysSpec)

/-- ITS FALSE NEIGHBOUR: 'it returns false'. Refute it at one input. -/
def mapPlaysWrong : ChangeSpec := { name := "mapPlays", fn := fun _ => fun
  | [d1, d2] => { results := [.lit (.bool false)], args := [d1, d2] }
  | _ => none }
def MapPlaysWrongFalsely : Prop := mapPlaysRow.holds Tryd.pinned (OpenSpec.ofChange mapPlaysWrong)

/-- 'facadelaw2.MemFills': WHATEVER THE INPUT: true; the input reads as it did. -/
def memFillsSpec : ChangeSpec := { name := "memFills", fn := fun _ => fun
  | [d1, d2, d3] => { results := [.lit (.bool true)], args := [d1, d2, d3] }
  | _ => none }
def memFillsRow : OpenClaim := { program := "ytmeljclaocgoaaadoor", sum := "1693570b4fead1b1af1b324ead437ca6c6180ceabb0c8dd7635b3fd907e50864", func := "facade/facadelaw2.MemFills", spec := "memFills", named := ["facade/api.ErrRange"], apart := false, laid := [("facade/api.ErrRange", laid_facade_api_ErrRange)] }
def MemFillsSaid : Prop := memFillsRow.holds Tryd.pinned (OpenSpec.ofChange memFillsSpec)

/-- ITS FALSE NEIGHBOUR: 'it returns false'. Refute it at one input. -/
def memFillsWrong : ChangeSpec := { name := "memFills", fn := fun _ => fun
  | [d1, d2, d3] => { results := [.lit (.bool false)], args := [d1, d2, d3] }
  | _ => none }
def MemFillsWrongFalsely : Prop := memFillsRow.holds Tryd.pinned (OpenSpec.ofChange memFillsWrong)

/-- 'facadelaw20.GrantOnce': WHATEVER THE INPUT: true; the input reads as it did. -/
def grantOnceSpec : ChangeSpec := { name := "grantOnce", fn := fun _ => fun
  | [d1, d2, d3, d4, d5] => { results := [.lit (.bool true)], args := [d1, d2, d3, d4, d5] }
  | _ => none }
def grantOnceRow : OpenClaim := { program := "ytmeljclaocgoaaadoor", sum := "1693570b4fead1b1af1b324ead437ca6c6180ceabb0c8dd7635b3fd907e50864", func := "facade/facadelaw20.GrantOnce", spec := "grantOnce", named := ["facade/api.ErrNone", "facade/api.ErrBusy", "facade/api.ErrEnd", "facade/api.ErrShape", "facade/api.ErrRange", "facade/api.ErrMany", "facade/api.ErrOp", "facade/api.ErrTwice", "facade/api.ErrFar", "facade/api.ErrMap", "facade/api.ErrOwner", "facade/api.ErrType", "facade/api.ErrFull", "facade/api.ErrState", "facade/api.ErrWord", "facade/api.ErrNumber"], apart := false, laid := [("facade/api.ErrEnd", laid_facade_api_ErrEnd), ("facade/api.ErrShape", laid_facade_api_ErrShape), ("facade/api.ErrRange", laid_facade_api_ErrRange), ("facade/api.ErrMany", laid_facade_api_ErrMany), ("facade/api.ErrOp", laid_facade_api_ErrOp), ("facade/api.ErrTwice", laid_facade_api_ErrTwice), ("facade/api.ErrNone", laid_facade_api_ErrNone), ("facade/api.ErrFar", laid_facade_api_ErrFar), ("facade/api.ErrMap", laid_facade_api_ErrMap), ("facade/api.ErrOwner", laid_facade_api_ErrOwner), ("facade/api.ErrType", laid_facade_api_ErrType), ("facade/api.ErrBusy", laid_facade_api_ErrBusy), ("facade/api.ErrFull", laid_facade_api_ErrFull), ("facade/api.ErrState", laid_facade_api_ErrState), ("facade/api.ErrWord", laid_facade_api_ErrWord), ("facade/api.ErrNumber", laid_facade_api_ErrNumber)] }
def GrantOnceSaid : Prop := grantOnceRow.holds Tryd.pinned (OpenSpec.ofChange grantOnceSpec)

/-- ITS FALSE NEIGHBOUR: 'it returns false'. Refute it at one input. -/
def grantOnceWrong : ChangeSpec := { name := "grantOnce", fn := fun _ => fun
  | [d1, d2, d3, d4, d5] => { results := [.lit (.bool false)], args := [d1, d2, d3, d4, d5] }
  | _ => none }
def GrantOnceWrongFalsely : Prop := grantOnceRow.holds Tryd.pinned (OpenSpec.ofChange grantOnceWrong)

/-- 'facadelaw2.MemPlays': WHATEVER THE INPUT: true; the input reads as it did. -/
def memPlaysSpec : ChangeSpec := { name := "memPlays", fn := fun _ => fun
  | [d1, d2, d3] => { results := [.lit (.bool true)], args := [d1, d2, d3] }
  | _ => none }
def memPlaysRow : OpenClaim := { program := "ytmeljclaocgoaaadoor", sum := "1693570b4fead1b1af1b324ead437ca6c6180ceabb0c8dd7635b3fd907e50864", func := "facade/facadelaw2.MemPlays", spec := "memPlays", named := ["facade/api.ErrRange", "facade/api.ErrEnd", "facade/api.ErrShape", "facade/api.ErrMany", "facade/api.ErrOp", "facade/api.ErrTwice", "facade/api.ErrNone", "facade/api.ErrFar", "facade/api.ErrMap", "facade/api.ErrOwner", "facade/api.ErrType", "facade/api.ErrBusy", "facade/api.ErrFull", "facade/api.ErrState", "facade/api.ErrWord", "facade/api.ErrNumber"], apart := false, laid := [("facade/api.ErrEnd", laid_facade_api_ErrEnd), ("facade/api.ErrShape", laid_facade_api_ErrShape), ("facade/api.ErrRange", laid_facade_api_ErrRange), ("facade/api.ErrMany", laid_facade_api_ErrMany), ("facade/api.ErrOp", laid_facade_api_ErrOp), ("facade/api.ErrTwice", laid_facade_api_ErrTwice), ("facade/api.ErrNone", laid_facade_api_ErrNone), ("facade/api.ErrFar", laid_facade_api_ErrFar), ("facade/api.ErrMap", laid_facade_api_ErrMap), ("facade/api.ErrOwner", laid_facade_api_ErrOwner), ("facade/api.ErrType", laid_facade_api_ErrType), ("facade/api.ErrBusy", laid_facade_api_ErrBusy), ("facade/api.ErrFull", laid_facade_api_ErrFull), ("facade/api.ErrState", laid_facade_api_ErrState), ("facade/api.ErrWord", laid_facade_api_ErrWord), ("facade/api.ErrNumber", laid_facade_api_ErrNumber)] }
def MemPlaysSaid : Prop := memPlaysRow.holds Tryd.pinned (OpenSpec.ofChange memPlaysSpec)

/-- ITS FALSE NEIGHBOUR: 'it returns false'. Refute it at one input. -/
def memPlaysWrong : ChangeSpec := { name := "memPlays", fn := fun _ => fun
  | [d1, d2, d3] => { results := [.lit (.bool false)], args := [d1, d2, d3] }
  | _ => none }
def MemPlaysWrongFalsely : Prop := memPlaysRow.holds Tryd.pinned (OpenSpec.ofChange memPlaysWrong)

/-- 'facadelaw20.GrantPlays': WHATEVER THE INPUT: true; the input reads as it did. -/
def grantPlaysSpec : ChangeSpec := { name := "grantPlays", fn := fun _ => fun
  | [d1, d2, d3] => { results := [.lit (.bool true)], args := [d1, d2, d3] }
  | _ => none }
def grantPlaysRow : OpenClaim := { program := "ytmeljclaocgoaaadoor", sum := "1693570b4fead1b1af1b324ead437ca6c6180ceabb0c8dd7635b3fd907e50864", func := "facade/facadelaw20.GrantPlays", spec := "grantPlays", named := ["facade/api.ErrNone", "facade/api.ErrBusy", "facade/api.ErrEnd", "facade/api.ErrShape", "facade/api.ErrRange", "facade/api.ErrMany", "facade/api.ErrOp", "facade/api.ErrTwice", "facade/api.ErrFar", "facade/api.ErrMap", "facade/api.ErrOwner", "facade/api.ErrType", "facade/api.ErrFull", "facade/api.ErrState", "facade/api.ErrWord", "facade/api.ErrNumber"], apart := false, laid := [("facade/api.ErrEnd", laid_facade_api_ErrEnd), ("facade/api.ErrShape", laid_facade_api_ErrShape), ("facade/api.ErrRange", laid_facade_api_ErrRange), ("facade/api.ErrMany", laid_facade_api_ErrMany), ("facade/api.ErrOp", laid_facade_api_ErrOp), ("facade/api.ErrTwice", laid_facade_api_ErrTwice), ("facade/api.ErrNone", laid_facade_api_ErrNone), ("facade/api.ErrFar", laid_facade_api_ErrFar), ("facade/api.ErrMap", laid_facade_api_ErrMap), ("facade/api.ErrOwner", laid_facade_api_ErrOwner), ("facade/api.ErrType", laid_facade_api_ErrType), ("facade/api.ErrBusy", laid_facade_api_ErrBusy), ("facade/api.ErrFull", laid_facade_api_ErrFull), ("facade/api.ErrState", laid_facade_api_ErrState), ("facade/api.ErrWord", laid_facade_api_ErrWord), ("facade/api.ErrNumber", laid_facade_api_ErrNumber)] }
def GrantPlaysSaid : Prop := grantPlaysRow.holds Tryd.pinned (OpenSpec.ofChange grantPlaysSpec)

/-- ITS FALSE NEIGHBOUR: 'it returns false'. Refute it at one input. -/
def grantPlaysWrong : ChangeSpec := { name := "grantPlays", fn := fun _ => fun
  | [d1, d2, d3] => { results := [.lit (.bool false)], args := [d1, d2, d3] }
  | _ => none }
def GrantPlaysWrongFalsely : Prop := grantPlaysRow.holds Tryd.pinned (OpenSpec.ofChange grantPlaysWrong)

/- THE SECOND FORM. 'bulk': how many values and letters a reading holds, each counted each time it is reached (what is shared counts as often as it is met; a slice's spare places count too). A statement '..UptoSaid' is the law's where the arguments, and the package variables that the reading takes, are together of bulk at most 1048576: NARROWER than '..Said'. Prove '..Said' where nothing that the law and all that it calls make is longer than what came in: it says more and counts as full. Else prove '..UptoSaid'. A law counts once. -/
mutual
def uptoBulk {H : Type} : DataW H → Nat
  | .lit (.string bytes) => bytes.length + 1
  | .lit _ => 1
  | .nil => 1
  | .ptr d => uptoBulk d + 1
  | .slice elems spare => uptoBulkAll elems + uptoBulkAll spare + 1
  | .agg parts => uptoBulkAll parts + 1
  | .iface _ d => uptoBulk d + 1
  | .map entries => uptoBulkEntries entries + 1
  | .held _ => 1
def uptoBulkAll {H : Type} : List (DataW H) → Nat
  | [] => 0
  | d :: r => uptoBulk d + uptoBulkAll r
def uptoBulkEntries {H : Type} : List (Lit × DataW H) → Nat
  | [] => 0
  | x :: r => uptoBulkEntry x + uptoBulkEntries r
def uptoBulkEntry {H : Type} : Lit × DataW H → Nat
  | (.string bytes, d) => bytes.length + uptoBulk d + 1
  | (_, d) => uptoBulk d + 1
 end
def uptoSmall : (H : Type) → List (DataW H) → Bool := fun _ ds => decide (uptoBulkAll ds ≤ 1048576)
def OpenSpec.upto (s : _root_.Go.ChangeSpec) : _root_.Go.OpenSpec := { _root_.Go.OpenSpec.ofChange s with cond := some uptoSmall }

/-- 'facadelaw23.InfoSays', WHERE WHAT IT READS IS OF BULK AT MOST 1048576: true; the input reads as it did. -/
def infoSaysUptoRow : OpenClaim := { program := "ytmeljclaocgoaaadoor", sum := "1693570b4fead1b1af1b324ead437ca6c6180ceabb0c8dd7635b3fd907e50864", func := "facade/facadelaw23.InfoSays", spec := "infoSays", unfollowed := true, recurses := true, named := ["facade/api.ErrShape", "facade/api.ErrEnd", "facade/api.ErrRange", "facade/api.ErrMany", "facade/api.ErrOp", "facade/api.ErrTwice", "facade/api.ErrNone", "facade/api.ErrFar", "facade/api.ErrMap", "facade/api.ErrOwner", "facade/api.ErrType", "facade/api.ErrBusy", "facade/api.ErrFull", "facade/api.ErrState", "facade/api.ErrWord", "facade/api.ErrNumber"], apart := false, laid := [("facade/api.ErrEnd", laid_facade_api_ErrEnd), ("facade/api.ErrShape", laid_facade_api_ErrShape), ("facade/api.ErrRange", laid_facade_api_ErrRange), ("facade/api.ErrMany", laid_facade_api_ErrMany), ("facade/api.ErrOp", laid_facade_api_ErrOp), ("facade/api.ErrTwice", laid_facade_api_ErrTwice), ("facade/api.ErrNone", laid_facade_api_ErrNone), ("facade/api.ErrFar", laid_facade_api_ErrFar), ("facade/api.ErrMap", laid_facade_api_ErrMap), ("facade/api.ErrOwner", laid_facade_api_ErrOwner), ("facade/api.ErrType", laid_facade_api_ErrType), ("facade/api.ErrBusy", laid_facade_api_ErrBusy), ("facade/api.ErrFull", laid_facade_api_ErrFull), ("facade/api.ErrState", laid_facade_api_ErrState), ("facade/api.ErrWord", laid_facade_api_ErrWord), ("facade/api.ErrNumber", laid_facade_api_ErrNumber)], narrowed := true }
def InfoSaysUptoSaid : Prop := infoSaysUptoRow.holds Tryd.pinned (OpenSpec.upto infoSaysSpec)

/-- 'facadelaw23.InfoBack', WHERE WHAT IT READS IS OF BULK AT MOST 1048576: true; the input reads as it did. -/
def infoBackUptoRow : OpenClaim := { program := "ytmeljclaocgoaaadoor", sum := "1693570b4fead1b1af1b324ead437ca6c6180ceabb0c8dd7635b3fd907e50864", func := "facade/facadelaw23.InfoBack", spec := "infoBack", unfollowed := true, recurses := true, named := ["facade/api.ErrShape"], apart := false, laid := [("facade/api.ErrShape", laid_facade_api_ErrShape)], narrowed := true }
def InfoBackUptoSaid : Prop := infoBackUptoRow.holds Tryd.pinned (OpenSpec.upto infoBackSpec)

/-- 'facadelaw17.MapMany', WHERE WHAT IT READS IS OF BULK AT MOST 1048576: true; the input reads as it did. -/
def mapManyUptoRow : OpenClaim := { program := "ytmeljclaocgoaaadoor", sum := "1693570b4fead1b1af1b324ead437ca6c6180ceabb0c8dd7635b3fd907e50864", func := "facade/facadelaw17.MapMany", spec := "mapMany", named := ["facade/api.ErrRange", "facade/api.ErrTwice", "facade/api.ErrMany", "facade/api.ErrEnd", "facade/api.ErrShape", "facade/api.ErrOp", "facade/api.ErrNone", "facade/api.ErrFar", "facade/api.ErrMap", "facade/api.ErrOwner", "facade/api.ErrType", "facade/api.ErrBusy", "facade/api.ErrFull", "facade/api.ErrState", "facade/api.ErrWord", "facade/api.ErrNumber"], apart := false, laid := [("facade/api.ErrEnd", laid_facade_api_ErrEnd), ("facade/api.ErrShape", laid_facade_api_ErrShape), ("facade/api.ErrRange", laid_facade_api_ErrRange), ("facade/api.ErrMany", laid_facade_api_ErrMany), ("facade/api.ErrOp", laid_facade_api_ErrOp), ("facade/api.ErrTwice", laid_facade_api_ErrTwice), ("facade/api.ErrNone", laid_facade_api_ErrNone), ("facade/api.ErrFar", laid_facade_api_ErrFar), ("facade/api.ErrMap", laid_facade_api_ErrMap), ("facade/api.ErrOwner", laid_facade_api_ErrOwner), ("facade/api.ErrType", laid_facade_api_ErrType), ("facade/api.ErrBusy", laid_facade_api_ErrBusy), ("facade/api.ErrFull", laid_facade_api_ErrFull), ("facade/api.ErrState", laid_facade_api_ErrState), ("facade/api.ErrWord", laid_facade_api_ErrWord), ("facade/api.ErrNumber", laid_facade_api_ErrNumber)], narrowed := true }
def MapManyUptoSaid : Prop := mapManyUptoRow.holds Tryd.pinned (OpenSpec.upto mapManySpec)

/-- 'facadelaw20.GrantLent', WHERE WHAT IT READS IS OF BULK AT MOST 1048576: true; the input reads as it did. -/
def grantLentUptoRow : OpenClaim := { program := "ytmeljclaocgoaaadoor", sum := "1693570b4fead1b1af1b324ead437ca6c6180ceabb0c8dd7635b3fd907e50864", func := "facade/facadelaw20.GrantLent", spec := "grantLent", named := ["facade/api.ErrNone", "facade/api.ErrBusy", "facade/api.ErrEnd", "facade/api.ErrShape", "facade/api.ErrRange", "facade/api.ErrMany", "facade/api.ErrOp", "facade/api.ErrTwice", "facade/api.ErrFar", "facade/api.ErrMap", "facade/api.ErrOwner", "facade/api.ErrType", "facade/api.ErrFull", "facade/api.ErrState", "facade/api.ErrWord", "facade/api.ErrNumber"], apart := false, laid := [("facade/api.ErrEnd", laid_facade_api_ErrEnd), ("facade/api.ErrShape", laid_facade_api_ErrShape), ("facade/api.ErrRange", laid_facade_api_ErrRange), ("facade/api.ErrMany", laid_facade_api_ErrMany), ("facade/api.ErrOp", laid_facade_api_ErrOp), ("facade/api.ErrTwice", laid_facade_api_ErrTwice), ("facade/api.ErrNone", laid_facade_api_ErrNone), ("facade/api.ErrFar", laid_facade_api_ErrFar), ("facade/api.ErrMap", laid_facade_api_ErrMap), ("facade/api.ErrOwner", laid_facade_api_ErrOwner), ("facade/api.ErrType", laid_facade_api_ErrType), ("facade/api.ErrBusy", laid_facade_api_ErrBusy), ("facade/api.ErrFull", laid_facade_api_ErrFull), ("facade/api.ErrState", laid_facade_api_ErrState), ("facade/api.ErrWord", laid_facade_api_ErrWord), ("facade/api.ErrNumber", laid_facade_api_ErrNumber)], narrowed := true }
def GrantLentUptoSaid : Prop := grantLentUptoRow.holds Tryd.pinned (OpenSpec.upto grantLentSpec)

/-- 'facadelaw2.MemCopies', WHERE WHAT IT READS IS OF BULK AT MOST 1048576: true; the input reads as it did. -/
def memCopiesUptoRow : OpenClaim := { program := "ytmeljclaocgoaaadoor", sum := "1693570b4fead1b1af1b324ead437ca6c6180ceabb0c8dd7635b3fd907e50864", func := "facade/facadelaw2.MemCopies", spec := "memCopies", named := ["facade/api.ErrRange"], apart := false, laid := [("facade/api.ErrRange", laid_facade_api_ErrRange)], narrowed := true }
def MemCopiesUptoSaid : Prop := memCopiesUptoRow.holds Tryd.pinned (OpenSpec.upto memCopiesSpec)

/-- 'facadelaw2.MemWords', WHERE WHAT IT READS IS OF BULK AT MOST 1048576: true; the input reads as it did. -/
def memWordsUptoRow : OpenClaim := { program := "ytmeljclaocgoaaadoor", sum := "1693570b4fead1b1af1b324ead437ca6c6180ceabb0c8dd7635b3fd907e50864", func := "facade/facadelaw2.MemWords", spec := "memWords", named := ["facade/api.ErrRange"], apart := false, laid := [("facade/api.ErrRange", laid_facade_api_ErrRange)], narrowed := true }
def MemWordsUptoSaid : Prop := memWordsUptoRow.holds Tryd.pinned (OpenSpec.upto memWordsSpec)

/-- 'facadelaw17.MapOnce', WHERE WHAT IT READS IS OF BULK AT MOST 1048576: true; the input reads as it did. -/
def mapOnceUptoRow : OpenClaim := { program := "ytmeljclaocgoaaadoor", sum := "1693570b4fead1b1af1b324ead437ca6c6180ceabb0c8dd7635b3fd907e50864", func := "facade/facadelaw17.MapOnce", spec := "mapOnce", named := ["facade/api.ErrRange", "facade/api.ErrTwice", "facade/api.ErrMany", "facade/api.ErrNone"], apart := false, laid := [("facade/api.ErrRange", laid_facade_api_ErrRange), ("facade/api.ErrMany", laid_facade_api_ErrMany), ("facade/api.ErrTwice", laid_facade_api_ErrTwice), ("facade/api.ErrNone", laid_facade_api_ErrNone)], narrowed := true }
def MapOnceUptoSaid : Prop := mapOnceUptoRow.holds Tryd.pinned (OpenSpec.upto mapOnceSpec)

/-- 'facadelaw17.MapPlays', WHERE WHAT IT READS IS OF BULK AT MOST 1048576: true; the input reads as it did. -/
def mapPlaysUptoRow : OpenClaim := { program := "ytmeljclaocgoaaadoor", sum := "1693570b4fead1b1af1b324ead437ca6c6180ceabb0c8dd7635b3fd907e50864", func := "facade/facadelaw17.MapPlays", spec := "mapPlays", named := ["facade/api.ErrRange", "facade/api.ErrTwice", "facade/api.ErrMany", "facade/api.ErrEnd", "facade/api.ErrShape", "facade/api.ErrOp", "facade/api.ErrNone", "facade/api.ErrFar", "facade/api.ErrMap", "facade/api.ErrOwner", "facade/api.ErrType", "facade/api.ErrBusy", "facade/api.ErrFull", "facade/api.ErrState", "facade/api.ErrWord", "facade/api.ErrNumber"], apart := false, laid := [("facade/api.ErrEnd", laid_facade_api_ErrEnd), ("facade/api.ErrShape", laid_facade_api_ErrShape), ("facade/api.ErrRange", laid_facade_api_ErrRange), ("facade/api.ErrMany", laid_facade_api_ErrMany), ("facade/api.ErrOp", laid_facade_api_ErrOp), ("facade/api.ErrTwice", laid_facade_api_ErrTwice), ("facade/api.ErrNone", laid_facade_api_ErrNone), ("facade/api.ErrFar", laid_facade_api_ErrFar), ("facade/api.ErrMap", laid_facade_api_ErrMap), ("facade/api.ErrOwner", laid_facade_api_ErrOwner), ("facade/api.ErrType", laid_facade_api_ErrType), ("facade/api.ErrBusy", laid_facade_api_ErrBusy), ("facade/api.ErrFull", laid_facade_api_ErrFull), ("facade/api.ErrState", laid_facade_api_ErrState), ("facade/api.ErrWord", laid_facade_api_ErrWord), ("facade/api.ErrNumber", laid_facade_api_ErrNumber)], narrowed := true }
def MapPlaysUptoSaid : Prop := mapPlaysUptoRow.holds Tryd.pinned (OpenSpec.upto mapPlaysSpec)

/-- 'facadelaw2.MemFills', WHERE WHAT IT READS IS OF BULK AT MOST 1048576: true; the input reads as it did. -/
def memFillsUptoRow : OpenClaim := { program := "ytmeljclaocgoaaadoor", sum := "1693570b4fead1b1af1b324ead437ca6c6180ceabb0c8dd7635b3fd907e50864", func := "facade/facadelaw2.MemFills", spec := "memFills", named := ["facade/api.ErrRange"], apart := false, laid := [("facade/api.ErrRange", laid_facade_api_ErrRange)], narrowed := true }
def MemFillsUptoSaid : Prop := memFillsUptoRow.holds Tryd.pinned (OpenSpec.upto memFillsSpec)

/-- 'facadelaw20.GrantOnce', WHERE WHAT IT READS IS OF BULK AT MOST 1048576: true; the input reads as it did. -/
def grantOnceUptoRow : OpenClaim := { program := "ytmeljclaocgoaaadoor", sum := "1693570b4fead1b1af1b324ead437ca6c6180ceabb0c8dd7635b3fd907e50864", func := "facade/facadelaw20.GrantOnce", spec := "grantOnce", named := ["facade/api.ErrNone", "facade/api.ErrBusy", "facade/api.ErrEnd", "facade/api.ErrShape", "facade/api.ErrRange", "facade/api.ErrMany", "facade/api.ErrOp", "facade/api.ErrTwice", "facade/api.ErrFar", "facade/api.ErrMap", "facade/api.ErrOwner", "facade/api.ErrType", "facade/api.ErrFull", "facade/api.ErrState", "facade/api.ErrWord", "facade/api.ErrNumber"], apart := false, laid := [("facade/api.ErrEnd", laid_facade_api_ErrEnd), ("facade/api.ErrShape", laid_facade_api_ErrShape), ("facade/api.ErrRange", laid_facade_api_ErrRange), ("facade/api.ErrMany", laid_facade_api_ErrMany), ("facade/api.ErrOp", laid_facade_api_ErrOp), ("facade/api.ErrTwice", laid_facade_api_ErrTwice), ("facade/api.ErrNone", laid_facade_api_ErrNone), ("facade/api.ErrFar", laid_facade_api_ErrFar), ("facade/api.ErrMap", laid_facade_api_ErrMap), ("facade/api.ErrOwner", laid_facade_api_ErrOwner), ("facade/api.ErrType", laid_facade_api_ErrType), ("facade/api.ErrBusy", laid_facade_api_ErrBusy), ("facade/api.ErrFull", laid_facade_api_ErrFull), ("facade/api.ErrState", laid_facade_api_ErrState), ("facade/api.ErrWord", laid_facade_api_ErrWord), ("facade/api.ErrNumber", laid_facade_api_ErrNumber)], narrowed := true }
def GrantOnceUptoSaid : Prop := grantOnceUptoRow.holds Tryd.pinned (OpenSpec.upto grantOnceSpec)

/-- 'facadelaw2.MemPlays', WHERE WHAT IT READS IS OF BULK AT MOST 1048576: true; the input reads as it did. -/
def memPlaysUptoRow : OpenClaim := { program := "ytmeljclaocgoaaadoor", sum := "1693570b4fead1b1af1b324ead437ca6c6180ceabb0c8dd7635b3fd907e50864", func := "facade/facadelaw2.MemPlays", spec := "memPlays", named := ["facade/api.ErrRange", "facade/api.ErrEnd", "facade/api.ErrShape", "facade/api.ErrMany", "facade/api.ErrOp", "facade/api.ErrTwice", "facade/api.ErrNone", "facade/api.ErrFar", "facade/api.ErrMap", "facade/api.ErrOwner", "facade/api.ErrType", "facade/api.ErrBusy", "facade/api.ErrFull", "facade/api.ErrState", "facade/api.ErrWord", "facade/api.ErrNumber"], apart := false, laid := [("facade/api.ErrEnd", laid_facade_api_ErrEnd), ("facade/api.ErrShape", laid_facade_api_ErrShape), ("facade/api.ErrRange", laid_facade_api_ErrRange), ("facade/api.ErrMany", laid_facade_api_ErrMany), ("facade/api.ErrOp", laid_facade_api_ErrOp), ("facade/api.ErrTwice", laid_facade_api_ErrTwice), ("facade/api.ErrNone", laid_facade_api_ErrNone), ("facade/api.ErrFar", laid_facade_api_ErrFar), ("facade/api.ErrMap", laid_facade_api_ErrMap), ("facade/api.ErrOwner", laid_facade_api_ErrOwner), ("facade/api.ErrType", laid_facade_api_ErrType), ("facade/api.ErrBusy", laid_facade_api_ErrBusy), ("facade/api.ErrFull", laid_facade_api_ErrFull), ("facade/api.ErrState", laid_facade_api_ErrState), ("facade/api.ErrWord", laid_facade_api_ErrWord), ("facade/api.ErrNumber", laid_facade_api_ErrNumber)], narrowed := true }
def MemPlaysUptoSaid : Prop := memPlaysUptoRow.holds Tryd.pinned (OpenSpec.upto memPlaysSpec)

/-- 'facadelaw20.GrantPlays', WHERE WHAT IT READS IS OF BULK AT MOST 1048576: true; the input reads as it did. -/
def grantPlaysUptoRow : OpenClaim := { program := "ytmeljclaocgoaaadoor", sum := "1693570b4fead1b1af1b324ead437ca6c6180ceabb0c8dd7635b3fd907e50864", func := "facade/facadelaw20.GrantPlays", spec := "grantPlays", named := ["facade/api.ErrNone", "facade/api.ErrBusy", "facade/api.ErrEnd", "facade/api.ErrShape", "facade/api.ErrRange", "facade/api.ErrMany", "facade/api.ErrOp", "facade/api.ErrTwice", "facade/api.ErrFar", "facade/api.ErrMap", "facade/api.ErrOwner", "facade/api.ErrType", "facade/api.ErrFull", "facade/api.ErrState", "facade/api.ErrWord", "facade/api.ErrNumber"], apart := false, laid := [("facade/api.ErrEnd", laid_facade_api_ErrEnd), ("facade/api.ErrShape", laid_facade_api_ErrShape), ("facade/api.ErrRange", laid_facade_api_ErrRange), ("facade/api.ErrMany", laid_facade_api_ErrMany), ("facade/api.ErrOp", laid_facade_api_ErrOp), ("facade/api.ErrTwice", laid_facade_api_ErrTwice), ("facade/api.ErrNone", laid_facade_api_ErrNone), ("facade/api.ErrFar", laid_facade_api_ErrFar), ("facade/api.ErrMap", laid_facade_api_ErrMap), ("facade/api.ErrOwner", laid_facade_api_ErrOwner), ("facade/api.ErrType", laid_facade_api_ErrType), ("facade/api.ErrBusy", laid_facade_api_ErrBusy), ("facade/api.ErrFull", laid_facade_api_ErrFull), ("facade/api.ErrState", laid_facade_api_ErrState), ("facade/api.ErrWord", laid_facade_api_ErrWord), ("facade/api.ErrNumber", laid_facade_api_ErrNumber)], narrowed := true }
def GrantPlaysUptoSaid : Prop := grantPlaysUptoRow.holds Tryd.pinned (OpenSpec.upto grantPlaysSpec)

end Rows
end Go.Proofs.YtmeljclaocgoaaaDoor
