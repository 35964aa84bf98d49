/-
  Items that came in.
-/
import Derived.Test.YtakhpibolhijoaaStructs
import Derived.Test.YtakhpibolhijoaaRxBase
namespace Go.Proofs.Ytakhpibolhijoaa
open Go.ChangeShapes Go.WideShapes Go.ChangeAt Go.RowKit Go.Joins Go.Deep

def itIn (x : Rx.It) : Prop := (-9223372036854775808 ≤ x.size ∧ x.size ≤ 9223372036854775807) ∧ -9223372036854775808 ≤ x.to_ ∧ x.to_ ≤ 9223372036854775807
theorem i64In_of {z : Int} (h : (Lit.int .i64 z).wf = true) : -9223372036854775808 ≤ z ∧ z ≤ 9223372036854775807 := by simpa [Lit.wf, IntKind.min, IntKind.max, IntKind.signed, IntKind.bits] using h

theorem open_its {H : Type} {enc : TypeId × Value → H} {W : World} {v : Value} {d : DataW H} {p : List MemPlace} {r : Reach} {b0 : Nat}
    (hv : Value.okWide Try.prog W r b0 22 v) (h : DataW.Trod enc Try.prog W 0 (fun _ => true) true 22 v d p) :
    ∃ (ao : Option Addr) (cap : Nat) (l : List Rx.It), v = .slice ao l.length cap ∧ l.length ≤ maxLen ∧ (∀ x ∈ l, itIn x) ∧ AtL W ao (itCells l) ∧ l.length ≤ cap := by
  refine open_structs (C := 3) Try.underlying22 (by kernel_rfl) (by decide) (fun x : Rx.It => [.int .i64 x.size, .int .i64 x.to_, .bool x.br]) itIn hv h ?_
  intro n cs y hl hd
  obtain ⟨xs, n', -, -, hl2, hx, hi⟩ := DataW.trod_struct Try.underlying29 hd
  have hx3 : xs.length = 3 := hx
  have get : ∀ i, i < 3 → ∃ y, xs[i]? = some y := fun i hi => ⟨_, List.getElem?_eq_getElem (by omega)⟩
  obtain ⟨y0, g0⟩ := get 0 (by omega)
  obtain ⟨y1, g1⟩ := get 1 (by omega)
  obtain ⟨y2, g2⟩ := get 2 (by omega)
  obtain ⟨s, e0, w0⟩ := fld_int Try.underlying3 (by kernel_rfl) ((hi 0 _ rfl).trans g0)
  obtain ⟨t, e1, w1⟩ := fld_int Try.underlying3 (by kernel_rfl) ((hi 1 _ rfl).trans g1)
  obtain ⟨b, e2⟩ := fld_bool Try.underlying4 (by kernel_rfl) ((hi 2 _ rfl).trans g2)
  refine ⟨⟨s, t, b⟩, ?_, i64In_of w0, i64In_of w1⟩
  match cs, hl with
  | [a, c, f], _ =>
    have q0 : some a = some (Value.int .i64 s) := e0
    have q1 : some c = some (Value.int .i64 t) := e1
    have q2 : some f = some (Value.bool b) := e2
    cases q0
    cases q1
    cases q2
    rfl
end Go.Proofs.Ytakhpibolhijoaa
