/-
  mem.Differ: the frames that differ.
-/
import Derived.Test.YtehmpdgpjpifoaaDoorMm3
namespace Go.Proofs.YtehmpdgpjpifoaaDoor
open Go.RowKit

def DiffTo (l1 : List Int) (n1 : Nat) (l2 : List Int) (n2 : Nat) (w : World) (v i : Value) (wr : World) : Prop :=
  ∃ k : Nat, k ≤ max n1 n2 ∧ i = .int .i64 k ∧ wr.ownsRow 0 3 1 v (difL l1 n1 l2 n2 k).length (ints (difL l1 n1 l2 n2 k)) ∧ (∀ j, inRow v j → w.heap.size ≤ j) ∧ Below w.heap.size w wr ∧ ∃ ao cap, v = .slice ao (difL l1 n1 l2 n2 k).length cap