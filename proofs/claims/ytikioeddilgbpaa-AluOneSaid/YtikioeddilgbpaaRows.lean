/-
  No cell of these rows narrows 'for every input' (looked for: loops, veiled, ifaces, maps, wideKeys, modest, calm, conditions, laid).
  DERIVED. THE GIVEN ROWS OF THIS SEAT. 5 by the template 'for every input the law returns true; each argument reads behind the call as it read before'; 0 by the template 'total and deterministic' (their statements: YtikioeddilgbpaaTotals.lean).
  GIVEN WITH THE SEED: the statements are not yours to turn. If you find one false, say at which input.
  Laid BY PROGRAM, IN A SANDBOX (cutbox-rows.mjs): the forced cells as the released guide's own fill.sh prints them over the translation 17a8e81c54b09162… (all of the seat's roots in one cut). By AI agents, Wed Nov 11 2026. No macro, syntax, notation, axiom, sorry.
-/
import Derived.Test.YtikioeddilgbpaaChecked
import GoSem.Claim
import GoSem.ClaimJoined
import GoSem.ClaimMapViews
import Derived.JoinedTies
import Derived.KernelRfl
namespace Go.Proofs.Ytikioeddilgbpaa
/- THE CELL 'sum', in the pinned program and in every row, IS THE sha256 OF THE DUMP (.gsa) THAT YtikioeddilgbpaaProg.lean LOADS. Nothing in Lean hashes anything: it is a label: what it is worth is what the hold of that sum in a sandbox is worth. -/
noncomputable def Try.pinned : Pinned := { name := "ytikioeddilgbpaa", sum := "17a8e81c54b09162f2223edde343868c78d34733d72c5488f319caf7ab5ebf9f", checked := Try.checked }
namespace Rows
def none {H : Type} : Left H := { results := [], args := [] }

/-- 'facadelaw4.AluShifts': WHATEVER THE INPUT: true; the input reads as it did. -/
def aluShiftsSpec : ChangeSpec := { name := "aluShifts", fn := fun _ => fun
  | [d1, d2, d3] => { results := [.lit (.bool true)], args := [d1, d2, d3] }
  | _ => none }
def aluShiftsRow : OpenClaim := { program := "ytikioeddilgbpaa", sum := "17a8e81c54b09162f2223edde343868c78d34733d72c5488f319caf7ab5ebf9f", func := "facade/facadelaw4.AluShifts", spec := "aluShifts", unfollowed := true, recurses := true, apart := false }
def AluShiftsSaid : Prop := aluShiftsRow.holds Try.pinned (OpenSpec.ofChange aluShiftsSpec)

/-- ITS FALSE NEIGHBOUR: 'it returns false'. Refute it at one input. -/
def aluShiftsWrong : ChangeSpec := { name := "aluShifts", fn := fun _ => fun
  | [d1, d2, d3] => { results := [.lit (.bool false)], args := [d1, d2, d3] }
  | _ => none }
def AluShiftsWrongFalsely : Prop := aluShiftsRow.holds Try.pinned (OpenSpec.ofChange aluShiftsWrong)

/-- 'facadelaw4.AluOne': WHATEVER THE INPUT: true; the input reads as it did. -/
def aluOneSpec : ChangeSpec := { name := "aluOne", fn := fun _ => fun
  | [d1, d2, d3, d4] => { results := [.lit (.bool true)], args := [d1, d2, d3, d4] }
  | _ => none }
def aluOneRow : OpenClaim := { program := "ytikioeddilgbpaa", sum := "17a8e81c54b09162f2223edde343868c78d34733d72c5488f319caf7ab5ebf9f", func := "facade/facadelaw4.AluOne", spec := "aluOne", unfollowed := true, recurses := true, apart := false }
def AluOneSaid : Prop := aluOneRow.holds Try.pinned (OpenSpec.ofChange aluOneSpec)

/-- ITS FALSE NEIGHBOUR: 'it returns false'. Refute it at one input. -/
def aluOneWrong : ChangeSpec := { name := "aluOne", fn := fun _ => fun
  | [d1, d2, d3, d4] => { results := [.lit (.bool false)], args := [d1, d2, d3, d4] }
  | _ => none }
def AluOneWrongFalsely : Prop := aluOneRow.holds Try.pinned (OpenSpec.ofChange aluOneWrong)

/-- 'facadelaw4.AluMoves': WHATEVER THE INPUT: true; the input reads as it did. -/
def aluMovesSpec : ChangeSpec := { name := "aluMoves", fn := fun _ => fun
  | [d1, d2, d3, d4] => { results := [.lit (.bool true)], args := [d1, d2, d3, d4] }
  | _ => none }
def aluMovesRow : OpenClaim := { program := "ytikioeddilgbpaa", sum := "17a8e81c54b09162f2223edde343868c78d34733d72c5488f319caf7ab5ebf9f", func := "facade/facadelaw4.AluMoves", spec := "aluMoves", unfollowed := true, recurses := true, apart := false }
def AluMovesSaid : Prop := aluMovesRow.holds Try.pinned (OpenSpec.ofChange aluMovesSpec)

/-- ITS FALSE NEIGHBOUR: 'it returns false'. Refute it at one input. -/
def aluMovesWrong : ChangeSpec := { name := "aluMoves", fn := fun _ => fun
  | [d1, d2, d3, d4] => { results := [.lit (.bool false)], args := [d1, d2, d3, d4] }
  | _ => none }
def AluMovesWrongFalsely : Prop := aluMovesRow.holds Try.pinned (OpenSpec.ofChange aluMovesWrong)

/-- 'facadelaw4.AluSays': WHATEVER THE INPUT: true; the input reads as it did. -/
def aluSaysSpec : ChangeSpec := { name := "aluSays", fn := fun _ => fun
  | [d1, d2] => { results := [.lit (.bool true)], args := [d1, d2] }
  | _ => none }
def aluSaysRow : OpenClaim := { program := "ytikioeddilgbpaa", sum := "17a8e81c54b09162f2223edde343868c78d34733d72c5488f319caf7ab5ebf9f", func := "facade/facadelaw4.AluSays", spec := "aluSays", unfollowed := true, recurses := true, apart := false }
def AluSaysSaid : Prop := aluSaysRow.holds Try.pinned (OpenSpec.ofChange aluSaysSpec)

/-- ITS FALSE NEIGHBOUR: 'it returns false'. Refute it at one input. -/
def aluSaysWrong : ChangeSpec := { name := "aluSays", fn := fun _ => fun
  | [d1, d2] => { results := [.lit (.bool false)], args := [d1, d2] }
  | _ => none }
def AluSaysWrongFalsely : Prop := aluSaysRow.holds Try.pinned (OpenSpec.ofChange aluSaysWrong)

/-- 'facadelaw4.AluNot': WHATEVER THE INPUT: true; the input reads as it did. -/
def aluNotSpec : ChangeSpec := { name := "aluNot", fn := fun _ => fun
  | [d1, d2] => { results := [.lit (.bool true)], args := [d1, d2] }
  | _ => none }
def aluNotRow : OpenClaim := { program := "ytikioeddilgbpaa", sum := "17a8e81c54b09162f2223edde343868c78d34733d72c5488f319caf7ab5ebf9f", func := "facade/facadelaw4.AluNot", spec := "aluNot", unfollowed := true, recurses := true, apart := false }
def AluNotSaid : Prop := aluNotRow.holds Try.pinned (OpenSpec.ofChange aluNotSpec)

/-- ITS FALSE NEIGHBOUR: 'it returns false'. Refute it at one input. -/
def aluNotWrong : ChangeSpec := { name := "aluNot", fn := fun _ => fun
  | [d1, d2] => { results := [.lit (.bool false)], args := [d1, d2] }
  | _ => none }
def AluNotWrongFalsely : Prop := aluNotRow.holds Try.pinned (OpenSpec.ofChange aluNotWrong)

/- THE SECOND FORM. 'bulk': how many values and letters a reading holds, each counted each time it is reached (what is shared counts as often as it is met; a slice's spare places count too). A statement '..UptoSaid' is the law's where the arguments, and the package variables that the reading takes, are together of bulk at most 1048576: NARROWER than '..Said'. Prove '..Said' where nothing that the law and all that it calls make is longer than what came in: it says more and counts as full. Else prove '..UptoSaid'. A law counts once. -/
mutual
def uptoBulk {H : Type} : DataW H → Nat
  | .lit (.string bytes) => bytes.length + 1
  | .lit _ => 1
  | .nil => 1
  | .ptr d => uptoBulk d + 1
  | .slice elems spare => uptoBulkAll elems + uptoBulkAll spare + 1
  | .agg parts => uptoBulkAll parts + 1
  | .iface _ d => uptoBulk d + 1
  | .map entries => uptoBulkEntries entries + 1
  | .held _ => 1
def uptoBulkAll {H : Type} : List (DataW H) → Nat
  | [] => 0
  | d :: r => uptoBulk d + uptoBulkAll r
def uptoBulkEntries {H : Type} : List (Lit × DataW H) → Nat
  | [] => 0
  | x :: r => uptoBulkEntry x + uptoBulkEntries r
def uptoBulkEntry {H : Type} : Lit × DataW H → Nat
  | (.string bytes, d) => bytes.length + uptoBulk d + 1
  | (_, d) => uptoBulk d + 1
 end
def uptoSmall : (H : Type) → List (DataW H) → Bool := fun _ ds => decide (uptoBulkAll ds ≤ 1048576)
def OpenSpec.upto (s : _root_.Go.ChangeSpec) : _root_.Go.OpenSpec := { _root_.Go.OpenSpec.ofChange s with cond := some uptoSmall }

/-- 'facadelaw4.AluShifts', WHERE WHAT IT READS IS OF BULK AT MOST 1048576: true; the input reads as it did. -/
def aluShiftsUptoRow : OpenClaim := { program := "ytikioeddilgbpaa", sum := "17a8e81c54b09162f2223edde343868c78d34733d72c5488f319caf7ab5ebf9f", func := "facade/facadelaw4.AluShifts", spec := "aluShifts", unfollowed := true, recurses := true, apart := false, narrowed := true }
def AluShiftsUptoSaid : Prop := aluShiftsUptoRow.holds Try.pinned (OpenSpec.upto aluShiftsSpec)

/-- 'facadelaw4.AluOne', WHERE WHAT IT READS IS OF BULK AT MOST 1048576: true; the input reads as it did. -/
def aluOneUptoRow : OpenClaim := { program := "ytikioeddilgbpaa", sum := "17a8e81c54b09162f2223edde343868c78d34733d72c5488f319caf7ab5ebf9f", func := "facade/facadelaw4.AluOne", spec := "aluOne", unfollowed := true, recurses := true, apart := false, narrowed := true }
def AluOneUptoSaid : Prop := aluOneUptoRow.holds Try.pinned (OpenSpec.upto aluOneSpec)

/-- 'facadelaw4.AluMoves', WHERE WHAT IT READS IS OF BULK AT MOST 1048576: true; the input reads as it did. -/
def aluMovesUptoRow : OpenClaim := { program := "ytikioeddilgbpaa", sum := "17a8e81c54b09162f2223edde343868c78d34733d72c5488f319caf7ab5ebf9f", func := "facade/facadelaw4.AluMoves", spec := "aluMoves", unfollowed := true, recurses := true, apart := false, narrowed := true }
def AluMovesUptoSaid : Prop := aluMovesUptoRow.holds Try.pinned (OpenSpec.upto aluMovesSpec)

/-- 'facadelaw4.AluSays', WHERE WHAT IT READS IS OF BULK AT MOST 1048576: true; the input reads as it did. -/
def aluSaysUptoRow : OpenClaim := { program := "ytikioeddilgbpaa", sum := "17a8e81c54b09162f2223edde343868c78d34733d72c5488f319caf7ab5ebf9f", func := "facade/facadelaw4.AluSays", spec := "aluSays", unfollowed := true, recurses := true, apart := false, narrowed := true }
def AluSaysUptoSaid : Prop := aluSaysUptoRow.holds Try.pinned (OpenSpec.upto aluSaysSpec)

/-- 'facadelaw4.AluNot', WHERE WHAT IT READS IS OF BULK AT MOST 1048576: true; the input reads as it did. -/
def aluNotUptoRow : OpenClaim := { program := "ytikioeddilgbpaa", sum := "17a8e81c54b09162f2223edde343868c78d34733d72c5488f319caf7ab5ebf9f", func := "facade/facadelaw4.AluNot", spec := "aluNot", unfollowed := true, recurses := true, apart := false, narrowed := true }
def AluNotUptoSaid : Prop := aluNotUptoRow.holds Try.pinned (OpenSpec.upto aluNotSpec)

end Rows
end Go.Proofs.Ytikioeddilgbpaa
