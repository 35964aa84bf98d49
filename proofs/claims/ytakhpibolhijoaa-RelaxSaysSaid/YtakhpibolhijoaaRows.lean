/-
  No cell of these rows narrows 'for every input' (looked for: loops, veiled, ifaces, maps, wideKeys, modest, calm, conditions, laid).
  DERIVED. THE GIVEN ROWS OF THIS SEAT. 6 by the template 'for every input the law returns true; each argument reads behind the call as it read before'; 0 by the template 'total and deterministic' (their statements: YtakhpibolhijoaaTotals.lean).
  GIVEN WITH THE SEED: the statements are not yours to turn. If you find one false, say at which input.
  Laid BY PROGRAM, IN A SANDBOX (cutbox-rows.mjs): the forced cells as the released guide's own fill.sh prints them over the translation 7d96d91f2627f6a9… (all of the seat's roots in one cut). By AI agents, Wed Nov 11 2026. No macro, syntax, notation, axiom, sorry.
-/
import Derived.Test.YtakhpibolhijoaaChecked
import GoSem.Claim
import GoSem.ClaimJoined
import GoSem.ClaimMapViews
import Derived.JoinedTies
import Derived.KernelRfl
namespace Go.Proofs.Ytakhpibolhijoaa
/- THE CELL 'sum', in the pinned program and in every row, IS THE sha256 OF THE DUMP (.gsa) THAT YtakhpibolhijoaaProg.lean LOADS. Nothing in Lean hashes anything: it is a label: what it is worth is what the hold of that sum in a sandbox is worth. -/
noncomputable def Try.pinned : Pinned := { name := "ytakhpibolhijoaa", sum := "7d96d91f2627f6a93a778bede830479ee26faada07c9b6762313bddd8869d8c6", checked := Try.checked }
namespace Rows
def none {H : Type} : Left H := { results := [], args := [] }

/-- 'facadelaw12.RelaxMore': WHATEVER THE INPUT: true; the input reads as it did. -/
def relaxMoreSpec : ChangeSpec := { name := "relaxMore", fn := fun _ => fun
  | [d1, d2, d3] => { results := [.lit (.bool true)], args := [d1, d2, d3] }
  | _ => none }
def relaxMoreRow : OpenClaim := { program := "ytakhpibolhijoaa", sum := "7d96d91f2627f6a93a778bede830479ee26faada07c9b6762313bddd8869d8c6", func := "facade/facadelaw12.RelaxMore", spec := "relaxMore", unfollowed := true, recurses := true, apart := false }
def RelaxMoreSaid : Prop := relaxMoreRow.holds Try.pinned (OpenSpec.ofChange relaxMoreSpec)

/-- ITS FALSE NEIGHBOUR: 'it returns false'. Refute it at one input. -/
def relaxMoreWrong : ChangeSpec := { name := "relaxMore", fn := fun _ => fun
  | [d1, d2, d3] => { results := [.lit (.bool false)], args := [d1, d2, d3] }
  | _ => none }
def RelaxMoreWrongFalsely : Prop := relaxMoreRow.holds Try.pinned (OpenSpec.ofChange relaxMoreWrong)

/-- 'facadelaw12.RelaxFar': WHATEVER THE INPUT: true; the input reads as it did. -/
def relaxFarSpec : ChangeSpec := { name := "relaxFar", fn := fun _ => fun
  | [d1, d2] => { results := [.lit (.bool true)], args := [d1, d2] }
  | _ => none }
def relaxFarRow : OpenClaim := { program := "ytakhpibolhijoaa", sum := "7d96d91f2627f6a93a778bede830479ee26faada07c9b6762313bddd8869d8c6", func := "facade/facadelaw12.RelaxFar", spec := "relaxFar", unfollowed := true, recurses := true, apart := false }
def RelaxFarSaid : Prop := relaxFarRow.holds Try.pinned (OpenSpec.ofChange relaxFarSpec)

/-- ITS FALSE NEIGHBOUR: 'it returns false'. Refute it at one input. -/
def relaxFarWrong : ChangeSpec := { name := "relaxFar", fn := fun _ => fun
  | [d1, d2] => { results := [.lit (.bool false)], args := [d1, d2] }
  | _ => none }
def RelaxFarWrongFalsely : Prop := relaxFarRow.holds Try.pinned (OpenSpec.ofChange relaxFarWrong)

/-- 'facadelaw12.RelaxMany': WHATEVER THE INPUT: true; the input reads as it did. -/
def relaxManySpec : ChangeSpec := { name := "relaxMany", fn := fun _ => fun
  | [d1, d2] => { results := [.lit (.bool true)], args := [d1, d2] }
  | _ => none }
def relaxManyRow : OpenClaim := { program := "ytakhpibolhijoaa", sum := "7d96d91f2627f6a93a778bede830479ee26faada07c9b6762313bddd8869d8c6", func := "facade/facadelaw12.RelaxMany", spec := "relaxMany", unfollowed := true, recurses := true, apart := false }
def RelaxManySaid : Prop := relaxManyRow.holds Try.pinned (OpenSpec.ofChange relaxManySpec)

/-- ITS FALSE NEIGHBOUR: 'it returns false'. Refute it at one input. -/
def relaxManyWrong : ChangeSpec := { name := "relaxMany", fn := fun _ => fun
  | [d1, d2] => { results := [.lit (.bool false)], args := [d1, d2] }
  | _ => none }
def RelaxManyWrongFalsely : Prop := relaxManyRow.holds Try.pinned (OpenSpec.ofChange relaxManyWrong)

/-- 'facadelaw12.RelaxSays': WHATEVER THE INPUT: true; the input reads as it did. -/
def relaxSaysSpec : ChangeSpec := { name := "relaxSays", fn := fun _ => fun
  | [d1, d2] => { results := [.lit (.bool true)], args := [d1, d2] }
  | _ => none }
def relaxSaysRow : OpenClaim := { program := "ytakhpibolhijoaa", sum := "7d96d91f2627f6a93a778bede830479ee26faada07c9b6762313bddd8869d8c6", func := "facade/facadelaw12.RelaxSays", spec := "relaxSays", unfollowed := true, recurses := true, apart := false }
def RelaxSaysSaid : Prop := relaxSaysRow.holds Try.pinned (OpenSpec.ofChange relaxSaysSpec)

/-- ITS FALSE NEIGHBOUR: 'it returns false'. Refute it at one input. -/
def relaxSaysWrong : ChangeSpec := { name := "relaxSays", fn := fun _ => fun
  | [d1, d2] => { results := [.lit (.bool false)], args := [d1, d2] }
  | _ => none }
def RelaxSaysWrongFalsely : Prop := relaxSaysRow.holds Try.pinned (OpenSpec.ofChange relaxSaysWrong)

/-- 'facadelaw12.RelaxLeast': WHATEVER THE INPUT: true; the input reads as it did. -/
def relaxLeastSpec : ChangeSpec := { name := "relaxLeast", fn := fun _ => fun
  | [d1, d2] => { results := [.lit (.bool true)], args := [d1, d2] }
  | _ => none }
def relaxLeastRow : OpenClaim := { program := "ytakhpibolhijoaa", sum := "7d96d91f2627f6a93a778bede830479ee26faada07c9b6762313bddd8869d8c6", func := "facade/facadelaw12.RelaxLeast", spec := "relaxLeast", unfollowed := true, recurses := true, apart := false }
def RelaxLeastSaid : Prop := relaxLeastRow.holds Try.pinned (OpenSpec.ofChange relaxLeastSpec)

/-- ITS FALSE NEIGHBOUR: 'it returns false'. Refute it at one input. -/
def relaxLeastWrong : ChangeSpec := { name := "relaxLeast", fn := fun _ => fun
  | [d1, d2] => { results := [.lit (.bool false)], args := [d1, d2] }
  | _ => none }
def RelaxLeastWrongFalsely : Prop := relaxLeastRow.holds Try.pinned (OpenSpec.ofChange relaxLeastWrong)

/-- 'facadelaw12.RelaxChain': WHATEVER THE INPUT: true; the input reads as it did. -/
def relaxChainSpec : ChangeSpec := { name := "relaxChain", fn := fun _ => fun
  | [d1, d2] => { results := [.lit (.bool true)], args := [d1, d2] }
  | _ => none }
def relaxChainRow : OpenClaim := { program := "ytakhpibolhijoaa", sum := "7d96d91f2627f6a93a778bede830479ee26faada07c9b6762313bddd8869d8c6", func := "facade/facadelaw12.RelaxChain", spec := "relaxChain", unfollowed := true, recurses := true, apart := false }
def RelaxChainSaid : Prop := relaxChainRow.holds Try.pinned (OpenSpec.ofChange relaxChainSpec)

/-- ITS FALSE NEIGHBOUR: 'it returns false'. Refute it at one input. -/
def relaxChainWrong : ChangeSpec := { name := "relaxChain", fn := fun _ => fun
  | [d1, d2] => { results := [.lit (.bool false)], args := [d1, d2] }
  | _ => none }
def RelaxChainWrongFalsely : Prop := relaxChainRow.holds Try.pinned (OpenSpec.ofChange relaxChainWrong)

/- THE SECOND FORM. 'bulk': how many values and letters a reading holds, each counted each time it is reached (what is shared counts as often as it is met; a slice's spare places count too). A statement '..UptoSaid' is the law's where the arguments, and the package variables that the reading takes, are together of bulk at most 1048576: NARROWER than '..Said'. Prove '..Said' where nothing that the law and all that it calls make is longer than what came in: it says more and counts as full. Else prove '..UptoSaid'. A law counts once. -/
mutual
def uptoBulk {H : Type} : DataW H → Nat
  | .lit (.string bytes) => bytes.length + 1
  | .lit _ => 1
  | .nil => 1
  | .ptr d => uptoBulk d + 1
  | .slice elems spare => uptoBulkAll elems + uptoBulkAll spare + 1
  | .agg parts => uptoBulkAll parts + 1
  | .iface _ d => uptoBulk d + 1
  | .map entries => uptoBulkEntries entries + 1
  | .held _ => 1
def uptoBulkAll {H : Type} : List (DataW H) → Nat
  | [] => 0
  | d :: r => uptoBulk d + uptoBulkAll r
def uptoBulkEntries {H : Type} : List (Lit × DataW H) → Nat
  | [] => 0
  | x :: r => uptoBulkEntry x + uptoBulkEntries r
def uptoBulkEntry {H : Type} : Lit × DataW H → Nat
  | (.string bytes, d) => bytes.length + uptoBulk d + 1
  | (_, d) => uptoBulk d + 1
 end
def uptoSmall : (H : Type) → List (DataW H) → Bool := fun _ ds => decide (uptoBulkAll ds ≤ 1048576)
def OpenSpec.upto (s : _root_.Go.ChangeSpec) : _root_.Go.OpenSpec := { _root_.Go.OpenSpec.ofChange s with cond := some uptoSmall }

/-- 'facadelaw12.RelaxMore', WHERE WHAT IT READS IS OF BULK AT MOST 1048576: true; the input reads as it did. -/
def relaxMoreUptoRow : OpenClaim := { program := "ytakhpibolhijoaa", sum := "7d96d91f2627f6a93a778bede830479ee26faada07c9b6762313bddd8869d8c6", func := "facade/facadelaw12.RelaxMore", spec := "relaxMore", unfollowed := true, recurses := true, apart := false, narrowed := true }
def RelaxMoreUptoSaid : Prop := relaxMoreUptoRow.holds Try.pinned (OpenSpec.upto relaxMoreSpec)

/-- 'facadelaw12.RelaxFar', WHERE WHAT IT READS IS OF BULK AT MOST 1048576: true; the input reads as it did. -/
def relaxFarUptoRow : OpenClaim := { program := "ytakhpibolhijoaa", sum := "7d96d91f2627f6a93a778bede830479ee26faada07c9b6762313bddd8869d8c6", func := "facade/facadelaw12.RelaxFar", spec := "relaxFar", unfollowed := true, recurses := true, apart := false, narrowed := true }
def RelaxFarUptoSaid : Prop := relaxFarUptoRow.holds Try.pinned (OpenSpec.upto relaxFarSpec)

/-- 'facadelaw12.RelaxMany', WHERE WHAT IT READS IS OF BULK AT MOST 1048576: true; the input reads as it did. -/
def relaxManyUptoRow : OpenClaim := { program := "ytakhpibolhijoaa", sum := "7d96d91f2627f6a93a778bede830479ee26faada07c9b6762313bddd8869d8c6", func := "facade/facadelaw12.RelaxMany", spec := "relaxMany", unfollowed := true, recurses := true, apart := false, narrowed := true }
def RelaxManyUptoSaid : Prop := relaxManyUptoRow.holds Try.pinned (OpenSpec.upto relaxManySpec)

/-- 'facadelaw12.RelaxSays', WHERE WHAT IT READS IS OF BULK AT MOST 1048576: true; the input reads as it did. -/
def relaxSaysUptoRow : OpenClaim := { program := "ytakhpibolhijoaa", sum := "7d96d91f2627f6a93a778bede830479ee26faada07c9b6762313bddd8869d8c6", func := "facade/facadelaw12.RelaxSays", spec := "relaxSays", unfollowed := true, recurses := true, apart := false, narrowed := true }
def RelaxSaysUptoSaid : Prop := relaxSaysUptoRow.holds Try.pinned (OpenSpec.upto relaxSaysSpec)

/-- 'facadelaw12.RelaxLeast', WHERE WHAT IT READS IS OF BULK AT MOST 1048576: true; the input reads as it did. -/
def relaxLeastUptoRow : OpenClaim := { program := "ytakhpibolhijoaa", sum := "7d96d91f2627f6a93a778bede830479ee26faada07c9b6762313bddd8869d8c6", func := "facade/facadelaw12.RelaxLeast", spec := "relaxLeast", unfollowed := true, recurses := true, apart := false, narrowed := true }
def RelaxLeastUptoSaid : Prop := relaxLeastUptoRow.holds Try.pinned (OpenSpec.upto relaxLeastSpec)

/-- 'facadelaw12.RelaxChain', WHERE WHAT IT READS IS OF BULK AT MOST 1048576: true; the input reads as it did. -/
def relaxChainUptoRow : OpenClaim := { program := "ytakhpibolhijoaa", sum := "7d96d91f2627f6a93a778bede830479ee26faada07c9b6762313bddd8869d8c6", func := "facade/facadelaw12.RelaxChain", spec := "relaxChain", unfollowed := true, recurses := true, apart := false, narrowed := true }
def RelaxChainUptoSaid : Prop := relaxChainUptoRow.holds Try.pinned (OpenSpec.upto relaxChainSpec)

end Rows
end Go.Proofs.Ytakhpibolhijoaa
