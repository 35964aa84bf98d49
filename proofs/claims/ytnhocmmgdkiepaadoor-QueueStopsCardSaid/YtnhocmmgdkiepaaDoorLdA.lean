/-
  An entry's word read again.
-/
import Derived.Test.YtnhocmmgdkiepaaDoorWk
namespace Go.Proofs.YtnhocmmgdkiepaaDoor
open Go.RowKit

theorem ofA_ent'' {f : Int} {t wr u : Bool} (h : entOk f t wr u) : ofA (entW f t wr u) = (⟨f, t, wr, u⟩, true) := by
  unfold ofA
  rw [if_pos ((isEntB_iff _).2 (ent_is h))]
  obtain ⟨e1, e2, e3, e4⟩ := ent_back h
  rw [e1, e2, e3, e4]
end Go.Proofs.YtnhocmmgdkiepaaDoor
