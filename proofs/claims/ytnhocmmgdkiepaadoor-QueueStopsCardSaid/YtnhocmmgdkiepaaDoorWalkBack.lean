/-
  WalkBack returns true for every pair of entries and every word; nothing that was there is turned. No conditions.
-/
import Derived.Test.YtnhocmmgdkiepaaDoorLaw
import Derived.Test.YtnhocmmgdkiepaaDoorWalkLaws
namespace Go.Proofs.YtnhocmmgdkiepaaDoor
open Go.ChangeShapes Go.WideShapes Go.ChangeAt Go.RowKit Go.Joins

theorem of_ent (f : Int) (t wr u : Bool) (w : World) (h : entOk f t wr u) :
    Calls Tryd.prog 63 #[.int .u32 (entW f t wr u)] w fun e w' => e = .returned (.tuple #[.agg #[.int .i64 f, .bool t, .bool wr, .bool u], .bool true]) ∧ Below w.heap.size w w' := by
  have hr := entW_range h
  obtain ⟨e1, e2, e3, e4⟩ := ent_back h
  have := of_yes (entW f t wr u) w hr.1 (by omega) (ent_is h)
  rw [e1, e2, e3, e4] at this
  exact this

theorem same_refl (f : Int) (t wr u : Bool) (w : World) :
    Calls Tryd.prog 46 #[.agg #[.int .i64 f, .bool t, .bool wr, .bool u], .agg #[.int .i64 f, .bool t, .bool wr, .bool u]] w fun e w' => e = .returned (.bool true) ∧ Below w.heap.size w w' :=
  (sameEnt_any f f t t wr wr u u w).mono fun _ _ ⟨he, hb⟩ => ⟨by simpa using he, hb⟩
theorem same_ne (f g : Int) (t1 t2 w1 w2 u1 u2 : Bool) (w : World) (h : ¬ (f = g ∧ t1 = t2 ∧ w1 = w2 ∧ u1 = u2)) :
    Calls Tryd.prog 46 #[.agg #[.int .i64 f, .bool t1, .bool w1, .bool u1], .agg #[.int .i64 g, .bool t2, .bool w2, .bool u2]] w fun e w' => e = .returned (.bool false) ∧ Below w.heap.size w w' :=
  (sameEnt_any f g t1 t2 w1 w2 u1 u2 w).mono fun _ _ ⟨he, hb⟩ => ⟨by
    have : (f == g && t1 == t2 && w1 == w2 && u1 == u2) = false := by
      rw [Bool.eq_false_iff]
      intro hh
      simp only [Bool.and_eq_true, beq_iff_eq] at hh
      exact h ⟨hh.1.1.1, hh.1.1.2, hh.1.2, hh.2⟩
    rw [he, this], hb⟩