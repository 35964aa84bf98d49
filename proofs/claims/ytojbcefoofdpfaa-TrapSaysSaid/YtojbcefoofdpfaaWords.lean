/-
  facaderef.Words: a copy of words, in new memory.
-/
import Derived.Test.YtojbcefoofdpfaaCloneU32
namespace Go.Proofs.Ytojbcefoofdpfaa
open Go.RowKit

/-- the first k words are copied -/
def WordsTo (xs : List Int) (w : World) (v i : Value) (wr : World) : Prop :=
  ∃ k : Nat, k ≤ xs.length ∧ i = .int .i64 k ∧ wr.ownsRow 0 22 1 v k (u32s (xs.take k)) ∧ (∀ j, inRow v j → w.heap.size ≤ j) ∧ Below w.heap.size w wr ∧ ∃ ao cap, v = .slice ao k cap