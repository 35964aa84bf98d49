/-
  An instruction, registers, that came in by value.
-/
import Derived.Test.YtikioeddilgbpaaFields
import Derived.Test.YtikioeddilgbpaaAlu7
namespace Go.Proofs.Ytikioeddilgbpaa
open Go.ChangeShapes Go.WideShapes Go.ChangeAt Go.RowKit Go.Joins

def regsOk (r : List Int) : Prop := r.length = 16 ∧ ∀ z ∈ r, U32 z
set_option maxRecDepth 100000 in
theorem open_regs {H : Type} {enc : TypeId × Value → H} {W : World} {base : Nat} {spare : Nat → Bool} {held : Bool} {r : Reach} {b0 : Nat} {v : Value} {d : DataW H} {p : List MemPlace}
    (hv : Value.okWide Try.prog W r b0 24 v) (h : DataW.Trod enc Try.prog W base spare held 24 v d p) : ∃ x : List Int, v = .agg (regCells x) ∧ regsOk x := by
  simp only [Value.okWide, Try.underlying24] at hv
  obtain ⟨cs, rfl, hsz, -⟩ := hv
  have h16 : cs.size = 16 := hsz.trans (by kernel_rfl)
  obtain ⟨fuel, hf⟩ := h
  have hcells : (Value.agg cs).cells.toList = cs.toList := rfl
  rw [hcells] at hf
  have hcl : cs.toList.length = 16 := by rw [Array.length_toList]; exact h16
  have hf' : DataW.trod enc Try.prog W base spare held fuel 24 ((cs.toList.drop 0).take (Try.prog.cellsOf 24)) = some (d, p) := by
    rw [List.drop_zero, List.take_of_length_le (by rw [hcl]; exact (show 16 ≤ Try.prog.cellsOf 24 by rw [show Try.prog.cellsOf 24 = 16 by kernel_rfl]; exact Nat.le_refl _))]
    exact hf
  obtain ⟨zs, hz1, hz2, hz3⟩ := fld_ints (m := 16) (o := 0) Try.underlying24 Try.underlying22 (by kernel_rfl) (by kernel_rfl) hf'
  rw [List.drop_zero, List.take_of_length_le (by omega)] at hz2
  refine ⟨zs, ?_, hz1, fun z hz => ?_⟩
  · congr 1
    apply Array.toList_inj.1
    rw [hz2]
    rfl
  · have := hz3 z hz
    simpa [U32, Lit.wf, IntKind.min, IntKind.max, IntKind.signed, IntKind.bits] using this

def insOk (i : Ins) : Prop := U32 i.imm
set_option maxRecDepth 100000 in
theorem open_ins {H : Type} {enc : TypeId × Value → H} {W : World} {r : Reach} {b0 : Nat} {v : Value} {d : DataW H} {p : List MemPlace}
    (hv : Value.okWide Try.prog W r b0 29 v) (h : DataW.Trod enc Try.prog W 0 (fun _ => true) true 29 v d p) :
    ∃ x : Ins, v = insV x ∧ insOk x := by
  obtain ⟨cs, rfl, hsz⟩ := okWide_struct Try.underlying29 hv
  have h5 : cs.size = 5 := hsz.trans (by kernel_rfl)
  obtain ⟨fuel, hf⟩ := h
  obtain ⟨xs, n, -, -, hl, hx, hi⟩ := DataW.trod_struct Try.underlying29 hf
  have hx5 : xs.length = 5 := hx
  have get : ∀ i, i < 5 → ∃ y, xs[i]? = some y := fun i hi => ⟨_, List.getElem?_eq_getElem (by omega)⟩
  have hcells : (Value.agg cs).cells.toList = cs.toList := rfl
  rw [hcells] at hi
  obtain ⟨y0, g0⟩ := get 0 (by omega)
  obtain ⟨y1, g1⟩ := get 1 (by omega)
  obtain ⟨y2, g2⟩ := get 2 (by omega)
  obtain ⟨y3, g3⟩ := get 3 (by omega)
  obtain ⟨y4, g4⟩ := get 4 (by omega)
  obtain ⟨a, e0, -⟩ := fld_int Try.underlying3 (by kernel_rfl) ((hi 0 _ rfl).trans g0)
  obtain ⟨b, e1, -⟩ := fld_int Try.underlying3 (by kernel_rfl) ((hi 1 _ rfl).trans g1)
  obtain ⟨c, e2, -⟩ := fld_int Try.underlying3 (by kernel_rfl) ((hi 2 _ rfl).trans g2)
  obtain ⟨f, e3, -⟩ := fld_int Try.underlying3 (by kernel_rfl) ((hi 3 _ rfl).trans g3)
  obtain ⟨m, e4, w4⟩ := fld_int Try.underlying22 (by kernel_rfl) ((hi 4 _ rfl).trans g4)
  refine ⟨⟨a, b, c, f, m⟩, ?_, ?_⟩
  · obtain ⟨L⟩ := cs
    have hL : L.length = 5 := h5
    match L, hL with
    | [b0, b1, b2, b3, b4], _ =>
      have q0 : some b0 = some _ := e0
      have q1 : some b1 = some _ := e1
      have q2 : some b2 = some _ := e2
      have q3 : some b3 = some _ := e3
      have q4 : some b4 = some _ := e4
      cases q0
      cases q1
      cases q2
      cases q3
      cases q4
      rfl
  · simpa [insOk, U32, Lit.wf, IntKind.min, IntKind.max, IntKind.signed, IntKind.bits] using w4
end Go.Proofs.Ytikioeddilgbpaa
