/-
  NARROWER THAN 'FOR EVERY INPUT', by the rows' own cells (each row's printed sentence says how): TablesPlay: laid.
  DERIVED. THE GIVEN ROWS OF THIS SEAT. 1 by the template 'for every input the law returns true; each argument reads behind the call as it read before'; 0 by the template 'total and deterministic' (their statements: YtaoaachgnnengaaGreatDoorTotals.lean).
  GIVEN WITH THE SEED: the statements are not yours to turn. If you find one false, say at which input.
  Laid BY PROGRAM, IN A SANDBOX (cutbox-rows.mjs): the forced cells as the released guide's own fill.sh prints them over the translation 22769ff1e733972f… (all of the seat's roots in one cut). By AI agents, Wed Nov 11 2026. No macro, syntax, notation, axiom, sorry.
-/
import Derived.Test.YtaoaachgnnengaaGreatDoorChecked
import GoSem.Claim
import GoSem.ClaimJoined
import GoSem.ClaimMapViews
import Derived.JoinedTies
import Derived.KernelRfl
namespace Go.Proofs.YtaoaachgnnengaaGreatDoor
/- THE CELL 'sum', in the pinned program and in every row, IS THE sha256 OF THE DUMP (.gsa) THAT YtaoaachgnnengaaGreatDoorProg.lean LOADS. Nothing in Lean hashes anything: it is a label: what it is worth is what the hold of that sum in a sandbox is worth. -/
noncomputable def Tryz.pinned : Pinned := { name := "ytaoaachgnnengaagreatdoor", sum := "22769ff1e733972f67f111adac6da853a6acbb1ab7ab3413f85414f43a3f7a72", checked := Tryz.checked }
namespace Rows
def none {H : Type} : Left H := { results := [], args := [] }

/- WHAT THE LISTED PACKAGE-LEVEL VARIABLES READ AS WHEN THE CALL BEGINS. Each datum BY PROGRAM (the guide's laid-datum.mjs) off the statement by which the dump's own 'gosem.cut.vars' lays the variable. In a bare row this is a premise. The card (YtaoaachgnnengaaGreatDoorCards.lean) ties it to the program's text. -/
def laid_facade_api_ErrEnd {H : Type} : DataW H := .iface "*errors.errorString" (.ptr (.agg [.lit (.string [105, 116, 32, 101, 110, 100, 115, 32, 116, 111, 111, 32, 101, 97, 114, 108, 121])]))
def laid_facade_api_ErrShape {H : Type} : DataW H := .iface "*errors.errorString" (.ptr (.agg [.lit (.string [110, 111, 116, 32, 97, 115, 32, 105, 116, 32, 104, 97, 115, 32, 116, 111, 32, 98, 101])]))
def laid_facade_api_ErrRange {H : Type} : DataW H := .iface "*errors.errorString" (.ptr (.agg [.lit (.string [97, 32, 110, 117, 109, 98, 101, 114, 32, 111, 117, 116, 32, 111, 102, 32, 105, 116, 115, 32, 114, 97, 110, 103, 101])]))
def laid_facade_api_ErrMany {H : Type} : DataW H := .iface "*errors.errorString" (.ptr (.agg [.lit (.string [116, 111, 111, 32, 109, 97, 110, 121])]))
def laid_facade_api_ErrOp {H : Type} : DataW H := .iface "*errors.errorString" (.ptr (.agg [.lit (.string [110, 111, 32, 115, 117, 99, 104, 32, 105, 110, 115, 116, 114, 117, 99, 116, 105, 111, 110])]))
def laid_facade_api_ErrTwice {H : Type} : DataW H := .iface "*errors.errorString" (.ptr (.agg [.lit (.string [116, 104, 101, 114, 101, 32, 105, 115, 32, 111, 110, 101])]))
def laid_facade_api_ErrNone {H : Type} : DataW H := .iface "*errors.errorString" (.ptr (.agg [.lit (.string [116, 104, 101, 114, 101, 32, 105, 115, 32, 110, 111, 110, 101])]))
def laid_facade_api_ErrFar {H : Type} : DataW H := .iface "*errors.errorString" (.ptr (.agg [.lit (.string [116, 111, 111, 32, 102, 97, 114])]))
def laid_facade_api_ErrMap {H : Type} : DataW H := .iface "*errors.errorString" (.ptr (.agg [.lit (.string [110, 111, 116, 32, 97, 115, 32, 116, 104, 101, 32, 99, 111, 100, 101, 39, 115, 32, 109, 97, 112, 32, 104, 97, 115, 32, 105, 116])]))
def laid_facade_api_ErrOwner {H : Type} : DataW H := .iface "*errors.errorString" (.ptr (.agg [.lit (.string [97, 110, 111, 116, 104, 101, 114, 32, 111, 110, 101, 39, 115])]))
def laid_facade_api_ErrType {H : Type} : DataW H := .iface "*errors.errorString" (.ptr (.agg [.lit (.string [97, 32, 102, 114, 97, 109, 101, 32, 111, 102, 32, 97, 110, 111, 116, 104, 101, 114, 32, 107, 105, 110, 100])]))
def laid_facade_api_ErrBusy {H : Type} : DataW H := .iface "*errors.errorString" (.ptr (.agg [.lit (.string [115, 116, 105, 108, 108, 32, 105, 110, 32, 117, 115, 101])]))
def laid_facade_api_ErrFull {H : Type} : DataW H := .iface "*errors.errorString" (.ptr (.agg [.lit (.string [116, 104, 101, 114, 101, 32, 105, 115, 32, 110, 111, 32, 114, 111, 111, 109])]))
def laid_facade_api_ErrState {H : Type} : DataW H := .iface "*errors.errorString" (.ptr (.agg [.lit (.string [110, 111, 116, 32, 97, 115, 32, 105, 116, 32, 105, 115, 32, 110, 111, 119])]))
def laid_facade_api_ErrWord {H : Type} : DataW H := .iface "*errors.errorString" (.ptr (.agg [.lit (.string [110, 111, 32, 115, 117, 99, 104, 32, 119, 111, 114, 100])]))
def laid_facade_api_ErrNumber {H : Type} : DataW H := .iface "*errors.errorString" (.ptr (.agg [.lit (.string [110, 111, 116, 32, 97, 32, 110, 117, 109, 98, 101, 114])]))

/-- 'facadelaw18.TablesPlay': WHATEVER THE INPUT: true; the input reads as it did. -/
def tablesPlaySpec : ChangeSpec := { name := "tablesPlay", fn := fun _ => fun
  | [d1, d2, d3, d4] => { results := [.lit (.bool true)], args := [d1, d2, d3, d4] }
  | _ => none }
def tablesPlayRow : OpenClaim := { program := "ytaoaachgnnengaagreatdoor", sum := "22769ff1e733972f67f111adac6da853a6acbb1ab7ab3413f85414f43a3f7a72", func := "facade/facadelaw18.TablesPlay", spec := "tablesPlay", unfollowed := true, recurses := true, named := ["facade/api.ErrRange", "facade/api.ErrFull", "facade/api.ErrBusy", "facade/api.ErrNone", "facade/api.ErrOwner", "facade/api.ErrType", "facade/api.ErrTwice", "facade/api.ErrMany", "facade/api.ErrEnd", "facade/api.ErrShape", "facade/api.ErrOp", "facade/api.ErrFar", "facade/api.ErrMap", "facade/api.ErrState", "facade/api.ErrWord", "facade/api.ErrNumber"], apart := false, laid := [("facade/api.ErrEnd", laid_facade_api_ErrEnd), ("facade/api.ErrShape", laid_facade_api_ErrShape), ("facade/api.ErrRange", laid_facade_api_ErrRange), ("facade/api.ErrMany", laid_facade_api_ErrMany), ("facade/api.ErrOp", laid_facade_api_ErrOp), ("facade/api.ErrTwice", laid_facade_api_ErrTwice), ("facade/api.ErrNone", laid_facade_api_ErrNone), ("facade/api.ErrFar", laid_facade_api_ErrFar), ("facade/api.ErrMap", laid_facade_api_ErrMap), ("facade/api.ErrOwner", laid_facade_api_ErrOwner), ("facade/api.ErrType", laid_facade_api_ErrType), ("facade/api.ErrBusy", laid_facade_api_ErrBusy), ("facade/api.ErrFull", laid_facade_api_ErrFull), ("facade/api.ErrState", laid_facade_api_ErrState), ("facade/api.ErrWord", laid_facade_api_ErrWord), ("facade/api.ErrNumber", laid_facade_api_ErrNumber)] }
def TablesPlaySaid : Prop := tablesPlayRow.holds Tryz.pinned (OpenSpec.ofChange tablesPlaySpec)

/-- ITS FALSE NEIGHBOUR: 'it returns false'. Refute it at one input. -/
def tablesPlayWrong : ChangeSpec := { name := "tablesPlay", fn := fun _ => fun
  | [d1, d2, d3, d4] => { results := [.lit (.bool false)], args := [d1, d2, d3, d4] }
  | _ => none }
def TablesPlayWrongFalsely : Prop := tablesPlayRow.holds Tryz.pinned (OpenSpec.ofChange tablesPlayWrong)

/- THE SECOND FORM. 'bulk': how many values and letters a reading holds, each counted each time it is reached (what is shared counts as often as it is met; a slice's spare places count too). A statement '..UptoSaid' is the law's where the arguments, and the package variables that the reading takes, are together of bulk at most 1048576: NARROWER than '..Said'. Prove '..Said' where nothing that the law and all that it calls make is longer than what came in: it says more and counts as full. Else prove '..UptoSaid'. A law counts once. -/
mutual
def uptoBulk {H : Type} : DataW H → Nat
  | .lit (.string bytes) => bytes.length + 1
  | .lit _ => 1
  | .nil => 1
  | .ptr d => uptoBulk d + 1
  | .slice elems spare => uptoBulkAll elems + uptoBulkAll spare + 1
  | .agg parts => uptoBulkAll parts + 1
  | .iface _ d => uptoBulk d + 1
  | .map entries => uptoBulkEntries entries + 1
  | .held _ => 1
def uptoBulkAll {H : Type} : List (DataW H) → Nat
  | [] => 0
  | d :: r => uptoBulk d + uptoBulkAll r
def uptoBulkEntries {H : Type} : List (Lit × DataW H) → Nat
  | [] => 0
  | x :: r => uptoBulkEntry x + uptoBulkEntries r
def uptoBulkEntry {H : Type} : Lit × DataW H → Nat
  | (.string bytes, d) => bytes.length + uptoBulk d + 1
  | (_, d) => uptoBulk d + 1
 end
def uptoSmall : (H : Type) → List (DataW H) → Bool := fun _ ds => decide (uptoBulkAll ds ≤ 1048576)
def OpenSpec.upto (s : _root_.Go.ChangeSpec) : _root_.Go.OpenSpec := { _root_.Go.OpenSpec.ofChange s with cond := some uptoSmall }

/-- 'facadelaw18.TablesPlay', WHERE WHAT IT READS IS OF BULK AT MOST 1048576: true; the input reads as it did. -/
def tablesPlayUptoRow : OpenClaim := { program := "ytaoaachgnnengaagreatdoor", sum := "22769ff1e733972f67f111adac6da853a6acbb1ab7ab3413f85414f43a3f7a72", func := "facade/facadelaw18.TablesPlay", spec := "tablesPlay", unfollowed := true, recurses := true, named := ["facade/api.ErrRange", "facade/api.ErrFull", "facade/api.ErrBusy", "facade/api.ErrNone", "facade/api.ErrOwner", "facade/api.ErrType", "facade/api.ErrTwice", "facade/api.ErrMany", "facade/api.ErrEnd", "facade/api.ErrShape", "facade/api.ErrOp", "facade/api.ErrFar", "facade/api.ErrMap", "facade/api.ErrState", "facade/api.ErrWord", "facade/api.ErrNumber"], apart := false, laid := [("facade/api.ErrEnd", laid_facade_api_ErrEnd), ("facade/api.ErrShape", laid_facade_api_ErrShape), ("facade/api.ErrRange", laid_facade_api_ErrRange), ("facade/api.ErrMany", laid_facade_api_ErrMany), ("facade/api.ErrOp", laid_facade_api_ErrOp), ("facade/api.ErrTwice", laid_facade_api_ErrTwice), ("facade/api.ErrNone", laid_facade_api_ErrNone), ("facade/api.ErrFar", laid_facade_api_ErrFar), ("facade/api.ErrMap", laid_facade_api_ErrMap), ("facade/api.ErrOwner", laid_facade_api_ErrOwner), ("facade/api.ErrType", laid_facade_api_ErrType), ("facade/api.ErrBusy", laid_facade_api_ErrBusy), ("facade/api.ErrFull", laid_facade_api_ErrFull), ("facade/api.ErrState", laid_facade_api_ErrState), ("facade/api.ErrWord", laid_facade_api_ErrWord), ("facade/api.ErrNumber", laid_facade_api_ErrNumber)], narrowed := true }
def TablesPlayUptoSaid : Prop := tablesPlayUptoRow.holds Tryz.pinned (OpenSpec.upto tablesPlaySpec)

end Rows
end Go.Proofs.YtaoaachgnnengaaGreatDoor
