/-
  The fields of a struct that came in, read off its cells: numbers, bools, rows of numbers.
-/
import Derived.Test.YtnhocmmgdkiepaaDoorLaw
namespace Go.Proofs.YtnhocmmgdkiepaaDoor
open Go.ChangeShapes Go.WideShapes Go.ChangeAt Go.RowKit Go.Joins
section
variable {H : Type} {enc : TypeId × Value → H} {P : Program} {w : World} {base : Nat} {spare : Nat → Bool} {held : Bool} {n : Nat}

theorem cut1 {cs : List Value} {o : Nat} {v : Value} (h : (cs.drop o).take 1 = [v]) : cs[o]? = some v := by
  have := congrArg (fun l => l[0]?) h
  simpa [List.getElem?_take, List.getElem?_drop] using this
theorem fld_int {cs : List Value} {o : Nat} {t : TypeId} {k : IntKind} {y : DataW H × List MemPlace} (ht : P.underlying t = some (.int k)) (hc : P.cellsOf t = 1)
    (h : DataW.trod enc P w base spare held n t ((cs.drop o).take (P.cellsOf t)) = some y) : ∃ z, cs[o]? = some (.int k z) ∧ (Lit.int k z).wf = true := by
  rw [hc] at h
  obtain ⟨z, e, -, wz⟩ := DataW.trod_int ht h
  exact ⟨z, cut1 e, wz⟩
theorem fld_bool {cs : List Value} {o : Nat} {t : TypeId} {y : DataW H × List MemPlace} (ht : P.underlying t = some .bool) (hc : P.cellsOf t = 1)
    (h : DataW.trod enc P w base spare held n t ((cs.drop o).take (P.cellsOf t)) = some y) : ∃ z, cs[o]? = some (.bool z) := by
  rw [hc] at h
  obtain ⟨z, e, -⟩ := DataW.trod_bool ht h
  exact ⟨z, cut1 e⟩
theorem ints_row {k : IntKind} : ∀ {m : Nat} {l : List Value}, l.length = m → (∀ i, i < m → ∃ z, l[i]? = some (.int k z) ∧ (Lit.int k z).wf = true) → ∃ zs : List Int, zs.length = m ∧ l = zs.map (Value.int k) ∧ ∀ z ∈ zs, (Lit.int k z).wf = true
  | 0, l, hl, _ => ⟨[], rfl, List.eq_nil_of_length_eq_zero hl, by simp⟩
  | m + 1, [], hl, _ => by simp at hl
  | m + 1, v :: l, hl, h => by
    obtain ⟨z, hz, wz⟩ := h 0 (by omega)
    simp at hz
    subst hz
    obtain ⟨zs, h1, h2, h3⟩ := ints_row (l := l) (m := m) (by simpa using hl) (fun i hi => by simpa using h (i + 1) (by omega))
    exact ⟨z :: zs, by simp [h1], by simp [h2], by simp [wz]; exact h3⟩
theorem fld_ints {cs : List Value} {o m : Nat} {t e : TypeId} {k : IntKind} {y : DataW H × List MemPlace} (ht : P.underlying t = some (.array m e)) (he : P.underlying e = some (.int k)) (hce : P.cellsOf e = 1) (hc : P.cellsOf t = m)
    (h : DataW.trod enc P w base spare held n t ((cs.drop o).take (P.cellsOf t)) = some y) : ∃ zs : List Int, zs.length = m ∧ (cs.drop o).take m = zs.map (Value.int k) ∧ ∀ z ∈ zs, (Lit.int k z).wf = true := by
  obtain ⟨xs, n', -, -, hl, hx, hi⟩ := DataW.trod_array ht h
  rw [hc] at hl hi
  refine ints_row hl fun i him => ?_
  have hsome : ∃ y, xs[i]? = some y := ⟨_, List.getElem?_eq_getElem (by omega)⟩
  obtain ⟨y', hy'⟩ := hsome
  have := (hi i him).trans hy'
  rw [hce] at this
  obtain ⟨z, e', -, wz⟩ := DataW.trod_int he this
  rw [Nat.mul_one] at e'
  exact ⟨z, cut1 e', wz⟩
end
end Go.Proofs.YtnhocmmgdkiepaaDoor
