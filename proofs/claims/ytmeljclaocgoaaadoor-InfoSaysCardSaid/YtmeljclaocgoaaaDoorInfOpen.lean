/-
  info.Info that came in by value; a slice of words that came in, with its room.
-/
import Derived.Test.YtmeljclaocgoaaaDoorStructs
import Derived.Test.YtmeljclaocgoaaaDoorFields
import Derived.Test.YtmeljclaocgoaaaDoorInf
namespace Go.Proofs.YtmeljclaocgoaaaDoor
open Go.ChangeShapes Go.WideShapes Go.ChangeAt Go.RowKit Go.Joins Go.Deep

theorem flat_one (l : List Int) : l.flatMap (fun x => [Value.int .u32 x]) = u32s l := by
  induction l with
  | nil => rfl
  | cons x l ih => exact congrArg (Value.int .u32 x :: ·) ih
set_option maxRecDepth 100000 in
theorem open_words {H : Type} {enc : TypeId × Value → H} {W : World} {v : Value} {d : DataW H} {p : List MemPlace} {r : Reach} {b0 : Nat}
    (hv : Value.okWide Tryd.prog W r b0 25 v) (h : DataW.Trod enc Tryd.prog W 0 (fun _ => true) true 25 v d p) :
    ∃ (ao : Option Addr) (cap : Nat) (l : List Int), v = .slice ao l.length cap ∧ l.length ≤ maxLen ∧ (∀ x ∈ l, 0 ≤ x ∧ x ≤ 4294967295) ∧ AtL W ao (u32s l) ∧ l.length ≤ cap := by
  obtain ⟨ao, cap, l, e, h1, h2, h3, h4⟩ := open_structs (C := 1) Tryd.underlying25 (by kernel_rfl) (by decide) (fun x : Int => [Value.int .u32 x]) (fun x => 0 ≤ x ∧ x ≤ 4294967295) hv h fun n cs y hl hd => by
    obtain ⟨z, e, -, wz⟩ := DataW.trod_int Tryd.underlying22 hd
    exact ⟨z, e, by simpa [Lit.wf, IntKind.min, IntKind.max, IntKind.signed, IntKind.bits] using wz⟩
  rw [flat_one] at h3
  exact ⟨ao, cap, l, e, h1, h2, h3, h4⟩

def infoOk (x : InfS) : Prop := (0 ≤ x.p ∧ x.p ≤ 4294967295) ∧ (0 ≤ x.m ∧ x.m ≤ 4294967295) ∧ (-9223372036854775808 ≤ x.t ∧ x.t ≤ 9223372036854775807) ∧ (-9223372036854775808 ≤ x.q ∧ x.q ≤ 9223372036854775807) ∧ (-9223372036854775808 ≤ x.f ∧ x.f ≤ 9223372036854775807)
set_option maxRecDepth 100000 in
theorem open_info {H : Type} {enc : TypeId × Value → H} {W : World} {r : Reach} {b0 : Nat} {v : Value} {d : DataW H} {p : List MemPlace}
    (hv : Value.okWide Tryd.prog W r b0 24 v) (h : DataW.Trod enc Tryd.prog W 0 (fun _ => true) true 24 v d p) :
    ∃ x : InfS, v = infV x ∧ infoOk x := by
  obtain ⟨cs, rfl, hsz⟩ := okWide_struct Tryd.underlying24 hv
  have h6 : cs.size = 6 := hsz.trans (by kernel_rfl)
  obtain ⟨fuel, hf⟩ := h
  obtain ⟨xs, n, -, -, hl, hx, hi⟩ := DataW.trod_struct Tryd.underlying24 hf
  have hx6 : xs.length = 6 := hx
  have get : ∀ i, i < 6 → ∃ y, xs[i]? = some y := fun i hi => ⟨_, List.getElem?_eq_getElem (by omega)⟩
  have hcells : (Value.agg cs).cells.toList = cs.toList := rfl
  rw [hcells] at hi
  obtain ⟨y0, g0⟩ := get 0 (by omega)
  obtain ⟨y1, g1⟩ := get 1 (by omega)
  obtain ⟨y2, g2⟩ := get 2 (by omega)
  obtain ⟨y3, g3⟩ := get 3 (by omega)
  obtain ⟨y4, g4⟩ := get 4 (by omega)
  obtain ⟨y5, g5⟩ := get 5 (by omega)
  obtain ⟨a, e0, w0⟩ := fld_int Tryd.underlying22 (by kernel_rfl) ((hi 0 _ rfl).trans g0)
  obtain ⟨b, e1, w1⟩ := fld_int Tryd.underlying22 (by kernel_rfl) ((hi 1 _ rfl).trans g1)
  obtain ⟨c, e2, w2⟩ := fld_int Tryd.underlying2 (by kernel_rfl) ((hi 2 _ rfl).trans g2)
  obtain ⟨o, e3⟩ := fld_bool Tryd.underlying4 (by kernel_rfl) ((hi 3 _ rfl).trans g3)
  obtain ⟨q, e4, w4⟩ := fld_int Tryd.underlying3 (by kernel_rfl) ((hi 4 _ rfl).trans g4)
  obtain ⟨f, e5, w5⟩ := fld_int Tryd.underlying3 (by kernel_rfl) ((hi 5 _ rfl).trans g5)
  refine ⟨⟨a, b, c, o, q, f⟩, ?_, ?_⟩
  · obtain ⟨L⟩ := cs
    have hL : L.length = 6 := h6
    match L, hL with
    | [b0, b1, b2, b3, b4, b5], _ =>
      have q0 : some b0 = some _ := e0
      have q1 : some b1 = some _ := e1
      have q2 : some b2 = some _ := e2
      have q3 : some b3 = some _ := e3
      have q4 : some b4 = some _ := e4
      have q5 : some b5 = some _ := e5
      cases q0
      cases q1
      cases q2
      cases q3
      cases q4
      cases q5
      rfl
  · refine ⟨?_, ?_, ?_, ?_, ?_⟩
    · simpa [Lit.wf, IntKind.min, IntKind.max, IntKind.signed, IntKind.bits] using w0
    · simpa [Lit.wf, IntKind.min, IntKind.max, IntKind.signed, IntKind.bits] using w1
    · simpa [Lit.wf, IntKind.min, IntKind.max, IntKind.signed, IntKind.bits] using w2
    · simpa [Lit.wf, IntKind.min, IntKind.max, IntKind.signed, IntKind.bits] using w4
    · simpa [Lit.wf, IntKind.min, IntKind.max, IntKind.signed, IntKind.bits] using w5
end Go.Proofs.YtmeljclaocgoaaaDoor
