/-
  The nine sentinels that tables and their frames tell of.
-/
import Derived.Test.YtnhocmmgdkiepaaDoorSee
namespace Go.Proofs.YtnhocmmgdkiepaaDoor
open Go.RowKit

abbrev nine : List Nat := [1, 2, 3, 5, 6, 9, 10, 11, 12]
theorem nine_lt {k : Nat} (h : k ∈ nine) : k < 16 := by
  simp [nine] at h
  omega
theorem errs9 {W : World} {E : Nat → Addr} (h : ErrsAt errT gOf W E all16) : ErrsAt errT gOf W E nine :=
  ⟨fun k hk => h.1 k (mem16 (nine_lt hk)), fun i hi j hj hne => h.2 i (mem16 (nine_lt hi)) j (mem16 (nine_lt hj)) hne⟩
end Go.Proofs.YtnhocmmgdkiepaaDoor
