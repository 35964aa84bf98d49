/-
  No cell of these rows narrows 'for every input' (looked for: loops, veiled, ifaces, maps, wideKeys, modest, calm, conditions, laid).
  DERIVED. THE GIVEN ROWS OF THIS SEAT. 3 by the template 'for every input the law returns true; each argument reads behind the call as it read before'; 0 by the template 'total and deterministic' (their statements: YtojbcefoofdpfaaTotals.lean).
  GIVEN WITH THE SEED: the statements are not yours to turn. If you find one false, say at which input.
  Laid BY PROGRAM, IN A SANDBOX (cutbox-rows.mjs): the forced cells as the released guide's own fill.sh prints them over the translation 6731c0a80faf649e… (all of the seat's roots in one cut). By AI agents, Wed Nov 11 2026. No macro, syntax, notation, axiom, sorry.
-/
import Derived.Test.YtojbcefoofdpfaaChecked
import GoSem.Claim
import GoSem.ClaimJoined
import GoSem.ClaimMapViews
import Derived.JoinedTies
import Derived.KernelRfl
namespace Go.Proofs.Ytojbcefoofdpfaa
/- THE CELL 'sum', in the pinned program and in every row, IS THE sha256 OF THE DUMP (.gsa) THAT YtojbcefoofdpfaaProg.lean LOADS. Nothing in Lean hashes anything: it is a label: what it is worth is what the hold of that sum in a sandbox is worth. -/
noncomputable def Try.pinned : Pinned := { name := "ytojbcefoofdpfaa", sum := "6731c0a80faf649ec86ee00509413f3fa4c42d71a8f4179d767fa7d0fbe289b1", checked := Try.checked }
namespace Rows
def none {H : Type} : Left H := { results := [], args := [] }

/-- 'facadelaw6.TrapSays': WHATEVER THE INPUT: true; the input reads as it did. -/
def trapSaysSpec : ChangeSpec := { name := "trapSays", fn := fun _ => fun
  | [d1, d2, d3, d4, d5, d6, d7] => { results := [.lit (.bool true)], args := [d1, d2, d3, d4, d5, d6, d7] }
  | _ => none }
def trapSaysRow : OpenClaim := { program := "ytojbcefoofdpfaa", sum := "6731c0a80faf649ec86ee00509413f3fa4c42d71a8f4179d767fa7d0fbe289b1", func := "facade/facadelaw6.TrapSays", spec := "trapSays", apart := false }
def TrapSaysSaid : Prop := trapSaysRow.holds Try.pinned (OpenSpec.ofChange trapSaysSpec)

/-- ITS FALSE NEIGHBOUR: 'it returns false'. Refute it at one input. -/
def trapSaysWrong : ChangeSpec := { name := "trapSays", fn := fun _ => fun
  | [d1, d2, d3, d4, d5, d6, d7] => { results := [.lit (.bool false)], args := [d1, d2, d3, d4, d5, d6, d7] }
  | _ => none }
def TrapSaysWrongFalsely : Prop := trapSaysRow.holds Try.pinned (OpenSpec.ofChange trapSaysWrong)

/-- 'facadelaw6.TrapBack': WHATEVER THE INPUT: true; the input reads as it did. -/
def trapBackSpec : ChangeSpec := { name := "trapBack", fn := fun _ => fun
  | [d1, d2, d3] => { results := [.lit (.bool true)], args := [d1, d2, d3] }
  | _ => none }
def trapBackRow : OpenClaim := { program := "ytojbcefoofdpfaa", sum := "6731c0a80faf649ec86ee00509413f3fa4c42d71a8f4179d767fa7d0fbe289b1", func := "facade/facadelaw6.TrapBack", spec := "trapBack", apart := false }
def TrapBackSaid : Prop := trapBackRow.holds Try.pinned (OpenSpec.ofChange trapBackSpec)

/-- ITS FALSE NEIGHBOUR: 'it returns false'. Refute it at one input. -/
def trapBackWrong : ChangeSpec := { name := "trapBack", fn := fun _ => fun
  | [d1, d2, d3] => { results := [.lit (.bool false)], args := [d1, d2, d3] }
  | _ => none }
def TrapBackWrongFalsely : Prop := trapBackRow.holds Try.pinned (OpenSpec.ofChange trapBackWrong)

/-- 'facadelaw6.TrapOrder': WHATEVER THE INPUT: true; the input reads as it did. -/
def trapOrderSpec : ChangeSpec := { name := "trapOrder", fn := fun _ => fun
  | [d1, d2, d3, d4] => { results := [.lit (.bool true)], args := [d1, d2, d3, d4] }
  | _ => none }
def trapOrderRow : OpenClaim := { program := "ytojbcefoofdpfaa", sum := "6731c0a80faf649ec86ee00509413f3fa4c42d71a8f4179d767fa7d0fbe289b1", func := "facade/facadelaw6.TrapOrder", spec := "trapOrder", apart := false }
def TrapOrderSaid : Prop := trapOrderRow.holds Try.pinned (OpenSpec.ofChange trapOrderSpec)

/-- ITS FALSE NEIGHBOUR: 'it returns false'. Refute it at one input. -/
def trapOrderWrong : ChangeSpec := { name := "trapOrder", fn := fun _ => fun
  | [d1, d2, d3, d4] => { results := [.lit (.bool false)], args := [d1, d2, d3, d4] }
  | _ => none }
def TrapOrderWrongFalsely : Prop := trapOrderRow.holds Try.pinned (OpenSpec.ofChange trapOrderWrong)

/- THE SECOND FORM. 'bulk': how many values and letters a reading holds, each counted each time it is reached (what is shared counts as often as it is met; a slice's spare places count too). A statement '..UptoSaid' is the law's where the arguments, and the package variables that the reading takes, are together of bulk at most 1048576: NARROWER than '..Said'. Prove '..Said' where nothing that the law and all that it calls make is longer than what came in: it says more and counts as full. Else prove '..UptoSaid'. A law counts once. -/
mutual
def uptoBulk {H : Type} : DataW H → Nat
  | .lit (.string bytes) => bytes.length + 1
  | .lit _ => 1
  | .nil => 1
  | .ptr d => uptoBulk d + 1
  | .slice elems spare => uptoBulkAll elems + uptoBulkAll spare + 1
  | .agg parts => uptoBulkAll parts + 1
  | .iface _ d => uptoBulk d + 1
  | .map entries => uptoBulkEntries entries + 1
  | .held _ => 1
def uptoBulkAll {H : Type} : List (DataW H) → Nat
  | [] => 0
  | d :: r => uptoBulk d + uptoBulkAll r
def uptoBulkEntries {H : Type} : List (Lit × DataW H) → Nat
  | [] => 0
  | x :: r => uptoBulkEntry x + uptoBulkEntries r
def uptoBulkEntry {H : Type} : Lit × DataW H → Nat
  | (.string bytes, d) => bytes.length + uptoBulk d + 1
  | (_, d) => uptoBulk d + 1
 end
def uptoSmall : (H : Type) → List (DataW H) → Bool := fun _ ds => decide (uptoBulkAll ds ≤ 1048576)
def OpenSpec.upto (s : _root_.Go.ChangeSpec) : _root_.Go.OpenSpec := { _root_.Go.OpenSpec.ofChange s with cond := some uptoSmall }

/-- 'facadelaw6.TrapSays', WHERE WHAT IT READS IS OF BULK AT MOST 1048576: true; the input reads as it did. -/
def trapSaysUptoRow : OpenClaim := { program := "ytojbcefoofdpfaa", sum := "6731c0a80faf649ec86ee00509413f3fa4c42d71a8f4179d767fa7d0fbe289b1", func := "facade/facadelaw6.TrapSays", spec := "trapSays", apart := false, narrowed := true }
def TrapSaysUptoSaid : Prop := trapSaysUptoRow.holds Try.pinned (OpenSpec.upto trapSaysSpec)

/-- 'facadelaw6.TrapBack', WHERE WHAT IT READS IS OF BULK AT MOST 1048576: true; the input reads as it did. -/
def trapBackUptoRow : OpenClaim := { program := "ytojbcefoofdpfaa", sum := "6731c0a80faf649ec86ee00509413f3fa4c42d71a8f4179d767fa7d0fbe289b1", func := "facade/facadelaw6.TrapBack", spec := "trapBack", apart := false, narrowed := true }
def TrapBackUptoSaid : Prop := trapBackUptoRow.holds Try.pinned (OpenSpec.upto trapBackSpec)

/-- 'facadelaw6.TrapOrder', WHERE WHAT IT READS IS OF BULK AT MOST 1048576: true; the input reads as it did. -/
def trapOrderUptoRow : OpenClaim := { program := "ytojbcefoofdpfaa", sum := "6731c0a80faf649ec86ee00509413f3fa4c42d71a8f4179d767fa7d0fbe289b1", func := "facade/facadelaw6.TrapOrder", spec := "trapOrder", apart := false, narrowed := true }
def TrapOrderUptoSaid : Prop := trapOrderUptoRow.holds Try.pinned (OpenSpec.upto trapOrderSpec)

end Rows
end Go.Proofs.Ytojbcefoofdpfaa
