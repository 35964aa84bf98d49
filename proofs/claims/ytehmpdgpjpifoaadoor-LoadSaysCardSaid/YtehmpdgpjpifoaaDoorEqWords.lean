/-
  slices.Equal at words: are two lists the same?
-/
import Derived.Test.YtehmpdgpjpifoaaDoorRows
import Derived.Test.YtehmpdgpjpifoaaDoorLists
import Derived.BigQuiet
namespace Go.Proofs.YtehmpdgpjpifoaaDoor
open Go.RowKit

/-- the first k are the same -/
def EqWordsTo (xs ys : List Int) (w : World) (i : Value) (wr : World) : Prop := ∃ k : Nat, k ≤ xs.length ∧ i = .int .i64 k ∧ xs.take k = ys.take k ∧ ∃ n, wr = w.drewN n