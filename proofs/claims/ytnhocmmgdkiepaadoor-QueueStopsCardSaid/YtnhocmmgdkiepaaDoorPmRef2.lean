/-
  PutFrame; p2m.Map's Clone; what Add, Put answer, all ways in one.
-/
import Derived.Test.YtnhocmmgdkiepaaDoorPmRef
import Derived.Test.YtnhocmmgdkiepaaDoorGr
namespace Go.Proofs.YtnhocmmgdkiepaaDoor
open Go.RowKit

theorem put_twice_iff {l : List Int} (hg : PGood l) {x r : Int} {n : Nat} (hn : n < l.length) (h : IdxIs l x r) : (0 ≤ r ∧ r ≠ (n : Int)) ↔ (x ∈ l ∧ l.getD n 0 ≠ x) := by
  constructor
  · rintro ⟨h0, hne⟩
    rcases h with ⟨rfl, -⟩ | ⟨k, hk, rfl, e, -⟩
    · omega
    · refine ⟨mem_getD.2 ⟨k, hk, e⟩, fun e2 => hne ?_⟩
      rw [hg.once k n hk hn (e.trans e2.symm)]
  · rintro ⟨hm, hne⟩
    obtain ⟨k, hk, rfl, e, -⟩ := h.pos hm
    refine ⟨by omega, fun e2 => hne ?_⟩
    have : k = n := by omega
    rw [← this, e]