/-
  NARROWER THAN 'FOR EVERY INPUT', by the rows' own cells (each row's printed sentence says how): WalkShares: laid · WalkSays: laid · WalkPlaces: laid · WalkTurns: laid.
  DERIVED. THE GIVEN ROWS OF THIS SEAT. 4 by the template 'for every input the law returns true; each argument reads behind the call as it read before'; 0 by the template 'total and deterministic' (their statements: YtpaijiamcjbbcaaDoorTotals.lean).
  GIVEN WITH THE SEED: the statements are not yours to turn. If you find one false, say at which input.
  Laid BY PROGRAM, IN A SANDBOX (cutbox-rows.mjs): the forced cells as the released guide's own fill.sh prints them over the translation 7fb656f9b1e29fba… (all of the seat's roots in one cut). By AI agents, Wed Nov 11 2026. No macro, syntax, notation, axiom, sorry.
-/
import Derived.Test.YtpaijiamcjbbcaaDoorChecked
import GoSem.Claim
import GoSem.ClaimJoined
import GoSem.ClaimMapViews
import Derived.JoinedTies
import Derived.KernelRfl
namespace Go.Proofs.YtpaijiamcjbbcaaDoor
/- THE CELL 'sum', in the pinned program and in every row, IS THE sha256 OF THE DUMP (.gsa) THAT YtpaijiamcjbbcaaDoorProg.lean LOADS. Nothing in Lean hashes anything: it is a label: what it is worth is what the hold of that sum in a sandbox is worth. -/
noncomputable def Tryd.pinned : Pinned := { name := "ytpaijiamcjbbcaadoor", sum := "7fb656f9b1e29fbade6c3dc05c289d23feba4ed6be3d6169766dd7ab44d31f60", checked := Tryd.checked }
namespace Rows
def none {H : Type} : Left H := { results := [], args := [] }

/- WHAT THE LISTED PACKAGE-LEVEL VARIABLES READ AS WHEN THE CALL BEGINS. Each datum BY PROGRAM (the guide's laid-datum.mjs) off the statement by which the dump's own 'gosem.cut.vars' lays the variable. In a bare row this is a premise. The card (YtpaijiamcjbbcaaDoorCards.lean) ties it to the program's text. -/
def laid_facade_api_ErrRange {H : Type} : DataW H := .iface "*errors.errorString" (.ptr (.agg [.lit (.string [97, 32, 110, 117, 109, 98, 101, 114, 32, 111, 117, 116, 32, 111, 102, 32, 105, 116, 115, 32, 114, 97, 110, 103, 101])]))

/-- 'facadelaw3.WalkShares': WHATEVER THE INPUT: true; the input reads as it did. -/
def walkSharesSpec : ChangeSpec := { name := "walkShares", fn := fun _ => fun
  | [d1, d2, d3, d4, d5] => { results := [.lit (.bool true)], args := [d1, d2, d3, d4, d5] }
  | _ => none }
def walkSharesRow : OpenClaim := { program := "ytpaijiamcjbbcaadoor", sum := "7fb656f9b1e29fbade6c3dc05c289d23feba4ed6be3d6169766dd7ab44d31f60", func := "facade/facadelaw3.WalkShares", spec := "walkShares", named := ["facade/api.ErrRange"], apart := false, laid := [("facade/api.ErrRange", laid_facade_api_ErrRange)] }
def WalkSharesSaid : Prop := walkSharesRow.holds Tryd.pinned (OpenSpec.ofChange walkSharesSpec)

/-- ITS FALSE NEIGHBOUR: 'it returns false'. Refute it at one input. -/
def walkSharesWrong : ChangeSpec := { name := "walkShares", fn := fun _ => fun
  | [d1, d2, d3, d4, d5] => { results := [.lit (.bool false)], args := [d1, d2, d3, d4, d5] }
  | _ => none }
def WalkSharesWrongFalsely : Prop := walkSharesRow.holds Tryd.pinned (OpenSpec.ofChange walkSharesWrong)

/-- 'facadelaw3.WalkSays': WHATEVER THE INPUT: true; the input reads as it did. -/
def walkSaysSpec : ChangeSpec := { name := "walkSays", fn := fun _ => fun
  | [d1, d2, d3, d4, d5, d6, d7, d8] => { results := [.lit (.bool true)], args := [d1, d2, d3, d4, d5, d6, d7, d8] }
  | _ => none }
def walkSaysRow : OpenClaim := { program := "ytpaijiamcjbbcaadoor", sum := "7fb656f9b1e29fbade6c3dc05c289d23feba4ed6be3d6169766dd7ab44d31f60", func := "facade/facadelaw3.WalkSays", spec := "walkSays", named := ["facade/api.ErrRange"], apart := false, laid := [("facade/api.ErrRange", laid_facade_api_ErrRange)] }
def WalkSaysSaid : Prop := walkSaysRow.holds Tryd.pinned (OpenSpec.ofChange walkSaysSpec)

/-- ITS FALSE NEIGHBOUR: 'it returns false'. Refute it at one input. -/
def walkSaysWrong : ChangeSpec := { name := "walkSays", fn := fun _ => fun
  | [d1, d2, d3, d4, d5, d6, d7, d8] => { results := [.lit (.bool false)], args := [d1, d2, d3, d4, d5, d6, d7, d8] }
  | _ => none }
def WalkSaysWrongFalsely : Prop := walkSaysRow.holds Tryd.pinned (OpenSpec.ofChange walkSaysWrong)

/-- 'facadelaw3.WalkPlaces': WHATEVER THE INPUT: true; the input reads as it did. -/
def walkPlacesSpec : ChangeSpec := { name := "walkPlaces", fn := fun _ => fun
  | [d1, d2, d3, d4, d5] => { results := [.lit (.bool true)], args := [d1, d2, d3, d4, d5] }
  | _ => none }
def walkPlacesRow : OpenClaim := { program := "ytpaijiamcjbbcaadoor", sum := "7fb656f9b1e29fbade6c3dc05c289d23feba4ed6be3d6169766dd7ab44d31f60", func := "facade/facadelaw3.WalkPlaces", spec := "walkPlaces", named := ["facade/api.ErrRange"], apart := false, laid := [("facade/api.ErrRange", laid_facade_api_ErrRange)] }
def WalkPlacesSaid : Prop := walkPlacesRow.holds Tryd.pinned (OpenSpec.ofChange walkPlacesSpec)

/-- ITS FALSE NEIGHBOUR: 'it returns false'. Refute it at one input. -/
def walkPlacesWrong : ChangeSpec := { name := "walkPlaces", fn := fun _ => fun
  | [d1, d2, d3, d4, d5] => { results := [.lit (.bool false)], args := [d1, d2, d3, d4, d5] }
  | _ => none }
def WalkPlacesWrongFalsely : Prop := walkPlacesRow.holds Tryd.pinned (OpenSpec.ofChange walkPlacesWrong)

/-- 'facadelaw3.WalkTurns': WHATEVER THE INPUT: true; the input reads as it did. -/
def walkTurnsSpec : ChangeSpec := { name := "walkTurns", fn := fun _ => fun
  | [d1, d2, d3, d4] => { results := [.lit (.bool true)], args := [d1, d2, d3, d4] }
  | _ => none }
def walkTurnsRow : OpenClaim := { program := "ytpaijiamcjbbcaadoor", sum := "7fb656f9b1e29fbade6c3dc05c289d23feba4ed6be3d6169766dd7ab44d31f60", func := "facade/facadelaw3.WalkTurns", spec := "walkTurns", named := ["facade/api.ErrRange"], apart := false, laid := [("facade/api.ErrRange", laid_facade_api_ErrRange)] }
def WalkTurnsSaid : Prop := walkTurnsRow.holds Tryd.pinned (OpenSpec.ofChange walkTurnsSpec)

/-- ITS FALSE NEIGHBOUR: 'it returns false'. Refute it at one input. -/
def walkTurnsWrong : ChangeSpec := { name := "walkTurns", fn := fun _ => fun
  | [d1, d2, d3, d4] => { results := [.lit (.bool false)], args := [d1, d2, d3, d4] }
  | _ => none }
def WalkTurnsWrongFalsely : Prop := walkTurnsRow.holds Tryd.pinned (OpenSpec.ofChange walkTurnsWrong)

/- THE SECOND FORM. 'bulk': how many values and letters a reading holds, each counted each time it is reached (what is shared counts as often as it is met; a slice's spare places count too). A statement '..UptoSaid' is the law's where the arguments, and the package variables that the reading takes, are together of bulk at most 1048576: NARROWER than '..Said'. Prove '..Said' where nothing that the law and all that it calls make is longer than what came in: it says more and counts as full. Else prove '..UptoSaid'. A law counts once. -/
mutual
def uptoBulk {H : Type} : DataW H → Nat
  | .lit (.string bytes) => bytes.length + 1
  | .lit _ => 1
  | .nil => 1
  | .ptr d => uptoBulk d + 1
  | .slice elems spare => uptoBulkAll elems + uptoBulkAll spare + 1
  | .agg parts => uptoBulkAll parts + 1
  | .iface _ d => uptoBulk d + 1
  | .map entries => uptoBulkEntries entries + 1
  | .held _ => 1
def uptoBulkAll {H : Type} : List (DataW H) → Nat
  | [] => 0
  | d :: r => uptoBulk d + uptoBulkAll r
def uptoBulkEntries {H : Type} : List (Lit × DataW H) → Nat
  | [] => 0
  | x :: r => uptoBulkEntry x + uptoBulkEntries r
def uptoBulkEntry {H : Type} : Lit × DataW H → Nat
  | (.string bytes, d) => bytes.length + uptoBulk d + 1
  | (_, d) => uptoBulk d + 1
 end
def uptoSmall : (H : Type) → List (DataW H) → Bool := fun _ ds => decide (uptoBulkAll ds ≤ 1048576)
def OpenSpec.upto (s : _root_.Go.ChangeSpec) : _root_.Go.OpenSpec := { _root_.Go.OpenSpec.ofChange s with cond := some uptoSmall }

/-- 'facadelaw3.WalkShares', WHERE WHAT IT READS IS OF BULK AT MOST 1048576: true; the input reads as it did. -/
def walkSharesUptoRow : OpenClaim := { program := "ytpaijiamcjbbcaadoor", sum := "7fb656f9b1e29fbade6c3dc05c289d23feba4ed6be3d6169766dd7ab44d31f60", func := "facade/facadelaw3.WalkShares", spec := "walkShares", named := ["facade/api.ErrRange"], apart := false, laid := [("facade/api.ErrRange", laid_facade_api_ErrRange)], narrowed := true }
def WalkSharesUptoSaid : Prop := walkSharesUptoRow.holds Tryd.pinned (OpenSpec.upto walkSharesSpec)

/-- 'facadelaw3.WalkSays', WHERE WHAT IT READS IS OF BULK AT MOST 1048576: true; the input reads as it did. -/
def walkSaysUptoRow : OpenClaim := { program := "ytpaijiamcjbbcaadoor", sum := "7fb656f9b1e29fbade6c3dc05c289d23feba4ed6be3d6169766dd7ab44d31f60", func := "facade/facadelaw3.WalkSays", spec := "walkSays", named := ["facade/api.ErrRange"], apart := false, laid := [("facade/api.ErrRange", laid_facade_api_ErrRange)], narrowed := true }
def WalkSaysUptoSaid : Prop := walkSaysUptoRow.holds Tryd.pinned (OpenSpec.upto walkSaysSpec)

/-- 'facadelaw3.WalkPlaces', WHERE WHAT IT READS IS OF BULK AT MOST 1048576: true; the input reads as it did. -/
def walkPlacesUptoRow : OpenClaim := { program := "ytpaijiamcjbbcaadoor", sum := "7fb656f9b1e29fbade6c3dc05c289d23feba4ed6be3d6169766dd7ab44d31f60", func := "facade/facadelaw3.WalkPlaces", spec := "walkPlaces", named := ["facade/api.ErrRange"], apart := false, laid := [("facade/api.ErrRange", laid_facade_api_ErrRange)], narrowed := true }
def WalkPlacesUptoSaid : Prop := walkPlacesUptoRow.holds Tryd.pinned (OpenSpec.upto walkPlacesSpec)

/-- 'facadelaw3.WalkTurns', WHERE WHAT IT READS IS OF BULK AT MOST 1048576: true; the input reads as it did. -/
def walkTurnsUptoRow : OpenClaim := { program := "ytpaijiamcjbbcaadoor", sum := "7fb656f9b1e29fbade6c3dc05c289d23feba4ed6be3d6169766dd7ab44d31f60", func := "facade/facadelaw3.WalkTurns", spec := "walkTurns", named := ["facade/api.ErrRange"], apart := false, laid := [("facade/api.ErrRange", laid_facade_api_ErrRange)], narrowed := true }
def WalkTurnsUptoSaid : Prop := walkTurnsUptoRow.holds Tryd.pinned (OpenSpec.upto walkTurnsSpec)

end Rows
end Go.Proofs.YtpaijiamcjbbcaaDoor
