/-
  No cell of these rows narrows 'for every input' (looked for: loops, veiled, ifaces, maps, wideKeys, modest, calm, conditions, laid).
  DERIVED. THE GIVEN ROWS OF THIS SEAT. 5 by the template 'for every input the law returns true; each argument reads behind the call as it read before'; 0 by the template 'total and deterministic' (their statements: YtljmdgoedmgikaaTotals.lean).
  GIVEN WITH THE SEED: the statements are not yours to turn. If you find one false, say at which input.
  Laid BY PROGRAM, IN A SANDBOX (cutbox-rows.mjs): the forced cells as the released guide's own fill.sh prints them over the translation eab456e9aa3bd9f1… (all of the seat's roots in one cut). By AI agents, Wed Nov 11 2026. No macro, syntax, notation, axiom, sorry.
-/
import Derived.Test.YtljmdgoedmgikaaChecked
import GoSem.Claim
import GoSem.ClaimJoined
import GoSem.ClaimMapViews
import Derived.JoinedTies
import Derived.KernelRfl
namespace Go.Proofs.Ytljmdgoedmgikaa
/- THE CELL 'sum', in the pinned program and in every row, IS THE sha256 OF THE DUMP (.gsa) THAT YtljmdgoedmgikaaProg.lean LOADS. Nothing in Lean hashes anything: it is a label: what it is worth is what the hold of that sum in a sandbox is worth. -/
noncomputable def Try.pinned : Pinned := { name := "ytljmdgoedmgikaa", sum := "eab456e9aa3bd9f15a0f947fee6d239d348df7bacb2fb09bb9c48cb583590c67", checked := Try.checked }
namespace Rows
def none {H : Type} : Left H := { results := [], args := [] }

/-- 'facadelaw5.DevKeys': WHATEVER THE INPUT: true; the input reads as it did. -/
def devKeysSpec : ChangeSpec := { name := "devKeys", fn := fun _ => fun
  | [d] => { results := [.lit (.bool true)], args := [d] }
  | _ => none }
def devKeysRow : OpenClaim := { program := "ytljmdgoedmgikaa", sum := "eab456e9aa3bd9f15a0f947fee6d239d348df7bacb2fb09bb9c48cb583590c67", func := "facade/facadelaw5.DevKeys", spec := "devKeys", apart := false }
def DevKeysSaid : Prop := devKeysRow.holds Try.pinned (OpenSpec.ofChange devKeysSpec)

/-- ITS FALSE NEIGHBOUR: 'it returns false'. Refute it at one input. -/
def devKeysWrong : ChangeSpec := { name := "devKeys", fn := fun _ => fun
  | [d] => { results := [.lit (.bool false)], args := [d] }
  | _ => none }
def DevKeysWrongFalsely : Prop := devKeysRow.holds Try.pinned (OpenSpec.ofChange devKeysWrong)

/-- 'facadelaw5.DevRings': WHATEVER THE INPUT: true; the input reads as it did. -/
def devRingsSpec : ChangeSpec := { name := "devRings", fn := fun _ => fun
  | [d1, d2, d3, d4] => { results := [.lit (.bool true)], args := [d1, d2, d3, d4] }
  | _ => none }
def devRingsRow : OpenClaim := { program := "ytljmdgoedmgikaa", sum := "eab456e9aa3bd9f15a0f947fee6d239d348df7bacb2fb09bb9c48cb583590c67", func := "facade/facadelaw5.DevRings", spec := "devRings", apart := false }
def DevRingsSaid : Prop := devRingsRow.holds Try.pinned (OpenSpec.ofChange devRingsSpec)

/-- ITS FALSE NEIGHBOUR: 'it returns false'. Refute it at one input. -/
def devRingsWrong : ChangeSpec := { name := "devRings", fn := fun _ => fun
  | [d1, d2, d3, d4] => { results := [.lit (.bool false)], args := [d1, d2, d3, d4] }
  | _ => none }
def DevRingsWrongFalsely : Prop := devRingsRow.holds Try.pinned (OpenSpec.ofChange devRingsWrong)

/-- 'facadelaw5.DevSectors': WHATEVER THE INPUT: true; the input reads as it did. -/
def devSectorsSpec : ChangeSpec := { name := "devSectors", fn := fun _ => fun
  | [d1, d2] => { results := [.lit (.bool true)], args := [d1, d2] }
  | _ => none }
def devSectorsRow : OpenClaim := { program := "ytljmdgoedmgikaa", sum := "eab456e9aa3bd9f15a0f947fee6d239d348df7bacb2fb09bb9c48cb583590c67", func := "facade/facadelaw5.DevSectors", spec := "devSectors", apart := false }
def DevSectorsSaid : Prop := devSectorsRow.holds Try.pinned (OpenSpec.ofChange devSectorsSpec)

/-- ITS FALSE NEIGHBOUR: 'it returns false'. Refute it at one input. -/
def devSectorsWrong : ChangeSpec := { name := "devSectors", fn := fun _ => fun
  | [d1, d2] => { results := [.lit (.bool false)], args := [d1, d2] }
  | _ => none }
def DevSectorsWrongFalsely : Prop := devSectorsRow.holds Try.pinned (OpenSpec.ofChange devSectorsWrong)

/-- 'facadelaw5.DevCopies': WHATEVER THE INPUT: true; the input reads as it did. -/
def devCopiesSpec : ChangeSpec := { name := "devCopies", fn := fun _ => fun
  | [d1, d2, d3, d4] => { results := [.lit (.bool true)], args := [d1, d2, d3, d4] }
  | _ => none }
def devCopiesRow : OpenClaim := { program := "ytljmdgoedmgikaa", sum := "eab456e9aa3bd9f15a0f947fee6d239d348df7bacb2fb09bb9c48cb583590c67", func := "facade/facadelaw5.DevCopies", spec := "devCopies", apart := false }
def DevCopiesSaid : Prop := devCopiesRow.holds Try.pinned (OpenSpec.ofChange devCopiesSpec)

/-- ITS FALSE NEIGHBOUR: 'it returns false'. Refute it at one input. -/
def devCopiesWrong : ChangeSpec := { name := "devCopies", fn := fun _ => fun
  | [d1, d2, d3, d4] => { results := [.lit (.bool false)], args := [d1, d2, d3, d4] }
  | _ => none }
def DevCopiesWrongFalsely : Prop := devCopiesRow.holds Try.pinned (OpenSpec.ofChange devCopiesWrong)

/-- 'facadelaw5.DevPlays': WHATEVER THE INPUT: true; the input reads as it did. -/
def devPlaysSpec : ChangeSpec := { name := "devPlays", fn := fun _ => fun
  | [d1, d2, d3] => { results := [.lit (.bool true)], args := [d1, d2, d3] }
  | _ => none }
def devPlaysRow : OpenClaim := { program := "ytljmdgoedmgikaa", sum := "eab456e9aa3bd9f15a0f947fee6d239d348df7bacb2fb09bb9c48cb583590c67", func := "facade/facadelaw5.DevPlays", spec := "devPlays", apart := false }
def DevPlaysSaid : Prop := devPlaysRow.holds Try.pinned (OpenSpec.ofChange devPlaysSpec)

/-- ITS FALSE NEIGHBOUR: 'it returns false'. Refute it at one input. -/
def devPlaysWrong : ChangeSpec := { name := "devPlays", fn := fun _ => fun
  | [d1, d2, d3] => { results := [.lit (.bool false)], args := [d1, d2, d3] }
  | _ => none }
def DevPlaysWrongFalsely : Prop := devPlaysRow.holds Try.pinned (OpenSpec.ofChange devPlaysWrong)

/- THE SECOND FORM. 'bulk': how many values and letters a reading holds, each counted each time it is reached (what is shared counts as often as it is met; a slice's spare places count too). A statement '..UptoSaid' is the law's where the arguments, and the package variables that the reading takes, are together of bulk at most 1048576: NARROWER than '..Said'. Prove '..Said' where nothing that the law and all that it calls make is longer than what came in: it says more and counts as full. Else prove '..UptoSaid'. A law counts once. -/
mutual
def uptoBulk {H : Type} : DataW H → Nat
  | .lit (.string bytes) => bytes.length + 1
  | .lit _ => 1
  | .nil => 1
  | .ptr d => uptoBulk d + 1
  | .slice elems spare => uptoBulkAll elems + uptoBulkAll spare + 1
  | .agg parts => uptoBulkAll parts + 1
  | .iface _ d => uptoBulk d + 1
  | .map entries => uptoBulkEntries entries + 1
  | .held _ => 1
def uptoBulkAll {H : Type} : List (DataW H) → Nat
  | [] => 0
  | d :: r => uptoBulk d + uptoBulkAll r
def uptoBulkEntries {H : Type} : List (Lit × DataW H) → Nat
  | [] => 0
  | x :: r => uptoBulkEntry x + uptoBulkEntries r
def uptoBulkEntry {H : Type} : Lit × DataW H → Nat
  | (.string bytes, d) => bytes.length + uptoBulk d + 1
  | (_, d) => uptoBulk d + 1
 end
def uptoSmall : (H : Type) → List (DataW H) → Bool := fun _ ds => decide (uptoBulkAll ds ≤ 1048576)
def OpenSpec.upto (s : _root_.Go.ChangeSpec) : _root_.Go.OpenSpec := { _root_.Go.OpenSpec.ofChange s with cond := some uptoSmall }

/-- 'facadelaw5.DevKeys', WHERE WHAT IT READS IS OF BULK AT MOST 1048576: true; the input reads as it did. -/
def devKeysUptoRow : OpenClaim := { program := "ytljmdgoedmgikaa", sum := "eab456e9aa3bd9f15a0f947fee6d239d348df7bacb2fb09bb9c48cb583590c67", func := "facade/facadelaw5.DevKeys", spec := "devKeys", apart := false, narrowed := true }
def DevKeysUptoSaid : Prop := devKeysUptoRow.holds Try.pinned (OpenSpec.upto devKeysSpec)

/-- 'facadelaw5.DevRings', WHERE WHAT IT READS IS OF BULK AT MOST 1048576: true; the input reads as it did. -/
def devRingsUptoRow : OpenClaim := { program := "ytljmdgoedmgikaa", sum := "eab456e9aa3bd9f15a0f947fee6d239d348df7bacb2fb09bb9c48cb583590c67", func := "facade/facadelaw5.DevRings", spec := "devRings", apart := false, narrowed := true }
def DevRingsUptoSaid : Prop := devRingsUptoRow.holds Try.pinned (OpenSpec.upto devRingsSpec)

/-- 'facadelaw5.DevSectors', WHERE WHAT IT READS IS OF BULK AT MOST 1048576: true; the input reads as it did. -/
def devSectorsUptoRow : OpenClaim := { program := "ytljmdgoedmgikaa", sum := "eab456e9aa3bd9f15a0f947fee6d239d348df7bacb2fb09bb9c48cb583590c67", func := "facade/facadelaw5.DevSectors", spec := "devSectors", apart := false, narrowed := true }
def DevSectorsUptoSaid : Prop := devSectorsUptoRow.holds Try.pinned (OpenSpec.upto devSectorsSpec)

/-- 'facadelaw5.DevCopies', WHERE WHAT IT READS IS OF BULK AT MOST 1048576: true; the input reads as it did. -/
def devCopiesUptoRow : OpenClaim := { program := "ytljmdgoedmgikaa", sum := "eab456e9aa3bd9f15a0f947fee6d239d348df7bacb2fb09bb9c48cb583590c67", func := "facade/facadelaw5.DevCopies", spec := "devCopies", apart := false, narrowed := true }
def DevCopiesUptoSaid : Prop := devCopiesUptoRow.holds Try.pinned (OpenSpec.upto devCopiesSpec)

/-- 'facadelaw5.DevPlays', WHERE WHAT IT READS IS OF BULK AT MOST 1048576: true; the input reads as it did. -/
def devPlaysUptoRow : OpenClaim := { program := "ytljmdgoedmgikaa", sum := "eab456e9aa3bd9f15a0f947fee6d239d348df7bacb2fb09bb9c48cb583590c67", func := "facade/facadelaw5.DevPlays", spec := "devPlays", apart := false, narrowed := true }
def DevPlaysUptoSaid : Prop := devPlaysUptoRow.holds Try.pinned (OpenSpec.upto devPlaysSpec)

end Rows
end Go.Proofs.Ytljmdgoedmgikaa
