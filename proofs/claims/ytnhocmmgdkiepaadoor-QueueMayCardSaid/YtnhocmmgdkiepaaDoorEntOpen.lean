/-
  An entry that came in by value.
-/
import Derived.Test.YtnhocmmgdkiepaaDoorWk
import Derived.Test.YtnhocmmgdkiepaaDoorFields
namespace Go.Proofs.YtnhocmmgdkiepaaDoor
open Go.ChangeShapes Go.WideShapes Go.ChangeAt Go.RowKit Go.Joins

theorem cellsEnt : Tryd.prog.cellsOf 42 = 4 := by kernel_rfl
set_option maxRecDepth 100000 in
theorem open_entry {H : Type} {enc : TypeId × Value → H} {W : World} {v : Value} {d : DataW H} {p : List MemPlace} {r : Reach} {b0 : Nat}
    (hv : Value.okWide Tryd.prog W r b0 42 v) (h : DataW.Trod enc Tryd.prog W 0 (fun _ => true) true 42 v d p) : ∃ e : Ent, v = e.v ∧ True := by
  obtain ⟨c0, c1, c2, c3, y0, y1, y2, y3, m, rfl, -, -, hy0, hy1, hy2, hy3⟩ := open_agg4 Tryd.underlying42 (by kernel_rfl) cellsEnt hv h
  obtain ⟨f, e0, -, wf⟩ := DataW.trod_int Tryd.underlying3 hy0
  obtain ⟨t1, e1, -⟩ := DataW.trod_bool Tryd.underlying4 hy1
  obtain ⟨w1, e2, -⟩ := DataW.trod_bool Tryd.underlying4 hy2
  obtain ⟨u1, e3, -⟩ := DataW.trod_bool Tryd.underlying4 hy3
  simp only [List.cons.injEq, and_true] at e0 e1 e2 e3
  subst e0 e1 e2 e3
  exact ⟨⟨f, t1, w1, u1⟩, rfl, trivial⟩
end Go.Proofs.YtnhocmmgdkiepaaDoor
