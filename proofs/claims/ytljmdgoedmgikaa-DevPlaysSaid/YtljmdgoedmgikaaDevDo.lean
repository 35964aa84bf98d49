/-
  facadelaw5.Do: a list of things that devices are told, as it came in.
-/
import Derived.Test.YtljmdgoedmgikaaStructs
import Derived.Test.YtljmdgoedmgikaaTwo
import Derived.Test.YtljmdgoedmgikaaSameSeens
import Derived.Test.YtljmdgoedmgikaaDevClone
import Derived.Test.YtljmdgoedmgikaaDevFirst
namespace Go.Proofs.Ytljmdgoedmgikaa
open Go.ChangeShapes Go.WideShapes Go.ChangeAt Go.RowKit Go.Joins Go.Deep

structure DDo where
  kind : Int
  n : Int
  v : Int
  u : Int
deriving Inhabited
def ddoCells (x : DDo) : List Value := [.int .i64 x.kind, .int .i64 x.n, .int .u32 x.v, .int .u32 x.u]
def ddoOk (x : DDo) : Prop := (0 ≤ x.v ∧ x.v ≤ 4294967295) ∧ 0 ≤ x.u ∧ x.u ≤ 4294967295
theorem ddo_get (l : List DDo) (k : Nat) (h : k < l.length) : (l.flatMap ddoCells)[k * 4]? = some (.int .i64 (l.getD k default).kind) ∧ (l.flatMap ddoCells)[k * 4 + 1]? = some (.int .i64 (l.getD k default).n) ∧ (l.flatMap ddoCells)[k * 4 + 2]? = some (.int .u32 (l.getD k default).v) ∧ (l.flatMap ddoCells)[k * 4 + 3]? = some (.int .u32 (l.getD k default).u) := by
  induction l generalizing k with
  | nil => simp at h
  | cons x l ih =>
    cases k with
    | zero => exact ⟨rfl, rfl, rfl, rfl⟩
    | succ k =>
      have := ih k (by simpa using h)
      have e : (k + 1) * 4 = k * 4 + 4 := by omega
      rw [e]
      exact this
theorem open_ddo {H : Type} {enc : TypeId × Value → H} {W : World} {v : Value} {d : DataW H} {p : List MemPlace} {r : Reach} {b0 : Nat}
    (hv : Value.okWide Try.prog W r b0 48 v) (h : DataW.Trod enc Try.prog W 0 (fun _ => true) true 48 v d p) :
    ∃ (ao : Option Addr) (cap : Nat) (l : List DDo), v = .slice ao l.length cap ∧ l.length ≤ maxLen ∧ (∀ x ∈ l, ddoOk x) ∧ AtL W ao (l.flatMap ddoCells) ∧ l.length ≤ cap :=
  open_structs (C := 4) Try.underlying48 (by kernel_rfl) (by decide) ddoCells ddoOk hv h fun n cs y hl hd => by
    obtain ⟨xs, n', -, -, hxl, hx, hi⟩ := DataW.trod_struct Try.underlying53 hd
    have hx4 : xs.length = 4 := hx
    have get : ∀ i, i < 4 → ∃ y, xs[i]? = some y := fun i hi => ⟨_, List.getElem?_eq_getElem (by omega)⟩
    obtain ⟨y0, g0⟩ := get 0 (by omega)
    obtain ⟨y1, g1⟩ := get 1 (by omega)
    obtain ⟨y2, g2⟩ := get 2 (by omega)
    obtain ⟨y3, g3⟩ := get 3 (by omega)
    obtain ⟨a, e0, -⟩ := fld_int Try.underlying3 (by kernel_rfl) ((hi 0 _ rfl).trans g0)
    obtain ⟨b, e1, -⟩ := fld_int Try.underlying2 (by kernel_rfl) ((hi 1 _ rfl).trans g1)
    obtain ⟨c, e2, w2⟩ := fld_int Try.underlying24 (by kernel_rfl) ((hi 2 _ rfl).trans g2)
    obtain ⟨f, e3, w3⟩ := fld_int Try.underlying24 (by kernel_rfl) ((hi 3 _ rfl).trans g3)
    refine ⟨⟨a, b, c, f⟩, ?_, ?_⟩
    · match cs, hl with
      | [b0, b1, b2, b3], _ =>
        have q0 : some b0 = some _ := e0
        have q1 : some b1 = some _ := e1
        have q2 : some b2 = some _ := e2
        have q3 : some b3 = some _ := e3
        cases q0
        cases q1
        cases q2
        cases q3
        rfl
    · exact ⟨by simpa [Lit.wf, IntKind.min, IntKind.max, IntKind.signed, IntKind.bits] using w2, by simpa [Lit.wf, IntKind.min, IntKind.max, IntKind.signed, IntKind.bits] using w3⟩
end Go.Proofs.Ytljmdgoedmgikaa
