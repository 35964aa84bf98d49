/-
  An image that came in by value: its two rows of words and their range, the lengths of the others.
-/
import Derived.Test.YtehmpdgpjpifoaaDoorStructs
import Derived.Test.YtehmpdgpjpifoaaDoorFields
namespace Go.Proofs.YtehmpdgpjpifoaaDoor
open Go.ChangeShapes Go.WideShapes Go.ChangeAt Go.RowKit Go.Joins Go.Deep

theorem wf32 {z : Int} (h : (Lit.int .u32 z).wf = true) : 0 ≤ z ∧ z ≤ 4294967295 := by simpa [Lit.wf, IntKind.min, IntKind.max, IntKind.signed, IntKind.bits] using h
theorem open_cellsB {H : Type} {enc : TypeId × Value → H} {P : Program} {W : World} {t e : TypeId} {fuel : Nat} {vs : List Value} {y : DataW H × List MemPlace}
    (ht : P.underlying t = some (.slice e)) (hC : P.cellsOf e = 1) (hf : DataW.trod enc P W 0 (fun _ => true) true fuel t vs = some y) {k : IntKind} (he : P.underlying e = some (.int k)) :
    ∃ (ao : Option Addr) (cap : Nat) (l : List Int), vs = [.slice ao l.length cap] ∧ AtL W ao (l.map (Value.int k)) ∧ l.length ≤ cap ∧ ∀ z ∈ l, (Lit.int k z).wf = true := by
  rcases open_slice ht hf with ⟨hcs, _⟩ | ⟨a, l, c, m, n, D, Pl, hcs, _, hl, hm, hmm, _, hi⟩
  · exact ⟨none, 0, [], hcs, atL_nil _ _, by simp, fun z hz => by cases hz⟩
  · have hmc : m = c := by simpa using hmm
    subst hmc
    have hx : ∀ i, i < m → ∃ x : Int, W.cell? (a.add i) = some (.int k x) ∧ (Lit.int k x).wf = true := fun i him => by
      obtain ⟨cs, hc, hd⟩ := hi i him
      rw [hC] at hc
      obtain ⟨_, hcl, hat⟩ := World.cells?_some hc
      obtain ⟨z, rfl, -, hwf⟩ := DataW.trod_int he hd
      have := hat 0 (by decide)
      rw [Go.Deep.add_add, Nat.mul_one, Nat.add_zero] at this
      exact ⟨z, this, hwf⟩
    obtain ⟨f, hfx⟩ := choose_lt (α := Int) hx
    have hlen : ((List.range l).map f).length = l := by simp
    refine ⟨some a, m, (List.range l).map f, by rw [hlen]; exact hcs, ?_, by rw [hlen]; exact hl, fun z hz => by
      obtain ⟨i, hi', rfl⟩ := List.mem_map.1 hz
      exact (hfx i (by have := List.mem_range.1 hi'; omega)).2⟩
    intro q u hk
    have hkl := (List.getElem?_eq_some_iff.1 hk).1
    rw [List.length_map, hlen] at hkl
    simp only [List.getElem?_map, List.getElem?_range hkl, Option.map_some, Option.some.injEq] at hk
    subst hk
    have hcell := (hfx q (by omega)).1
    have hspot : a.spot = none := by
      have hs := World.cell?_spot (hfx 0 (by omega)).1
      simpa [Addr.add] using hs
    obtain ⟨b, off, spot⟩ := a
    have hspot' : spot = none := hspot
    subst hspot'
    rw [Addr.add_lit] at hcell
    exact ⟨b, off, rfl, hcell, World.block_lt_of_cell? W ⟨b, off + q, none⟩ hcell⟩

theorem fld_sliceB {H : Type} {enc : TypeId × Value → H} {P : Program} {W : World} {t e : TypeId} {n : Nat} {cs : List Value} {o : Nat} {y : DataW H × List MemPlace}
    (ht : P.underlying t = some (.slice e)) (hc : P.cellsOf t = 1) (hC : P.cellsOf e = 1) {k : IntKind} (he : P.underlying e = some (.int k)) (h : DataW.trod enc P W 0 (fun _ => true) true n t ((cs.drop o).take (P.cellsOf t)) = some y) :
    ∃ (ao : Option Addr) (cap : Nat) (l : List Int), cs[o]? = some (.slice ao l.length cap) ∧ AtL W ao (l.map (Value.int k)) ∧ l.length ≤ cap ∧ ∀ z ∈ l, (Lit.int k z).wf = true := by
  rw [hc] at h
  obtain ⟨ao, cap, l, e1, h1, h2⟩ := open_cellsB ht hC h he
  exact ⟨ao, cap, l, cut1 e1, h1, h2⟩

set_option maxRecDepth 100000 in
theorem open_imageB {H : Type} {enc : TypeId × Value → H} {W : World} {r : Reach} {b0 : Nat} {v : Value} {d : DataW H} {p : List MemPlace}
    (hv : Value.okWide Tryd.prog W r b0 28 v) (h : DataW.Trod enc Tryd.prog W 0 (fun _ => true) true 28 v d p) :
    ∃ (e : Int) (l1 l2 l3 l4 l5 : List Int) (a1 a2 a3 a4 a5 : Option Addr) (k1 k2 k3 k4 k5 : Nat), v = .agg #[.int .u32 e, .slice a1 l1.length k1, .slice a2 l2.length k2, .slice a3 l3.length k3, .slice a4 l4.length k4, .slice a5 l5.length k5] ∧
      (l1.length ≤ k1 ∧ l2.length ≤ k2) ∧ AtL W a1 (u32s l1) ∧ AtL W a2 (u32s l2) ∧ (0 ≤ e ∧ e ≤ 4294967295) ∧ (∀ z ∈ l1, 0 ≤ z ∧ z ≤ 4294967295) ∧ (∀ z ∈ l2, 0 ≤ z ∧ z ≤ 4294967295) := by
  obtain ⟨cs, rfl, hsz⟩ := okWide_struct Tryd.underlying28 hv
  have h6 : cs.size = 6 := hsz.trans (by kernel_rfl)
  obtain ⟨fuel, hf⟩ := h
  obtain ⟨xs, n, -, -, hl, hx, hi⟩ := DataW.trod_struct Tryd.underlying28 hf
  have hx6 : xs.length = 6 := hx
  have get : ∀ i, i < 6 → ∃ y, xs[i]? = some y := fun i hi => ⟨_, List.getElem?_eq_getElem (by omega)⟩
  have hcells : (Value.agg cs).cells.toList = cs.toList := rfl
  rw [hcells] at hi
  obtain ⟨y0, g0⟩ := get 0 (by omega)
  obtain ⟨y1, g1⟩ := get 1 (by omega)
  obtain ⟨y2, g2⟩ := get 2 (by omega)
  obtain ⟨y3, g3⟩ := get 3 (by omega)
  obtain ⟨y4, g4⟩ := get 4 (by omega)
  obtain ⟨y5, g5⟩ := get 5 (by omega)
  obtain ⟨e, e0, we⟩ := fld_int Tryd.underlying24 (by kernel_rfl) ((hi 0 _ rfl).trans g0)
  obtain ⟨a1, k1, l1, e1, h1, c1, w1⟩ := fld_sliceB Tryd.underlying25 (by kernel_rfl) (by kernel_rfl) Tryd.underlying24 ((hi 1 _ rfl).trans g1)
  obtain ⟨a2, k2, l2, e2, h2, c2, w2⟩ := fld_sliceB Tryd.underlying25 (by kernel_rfl) (by kernel_rfl) Tryd.underlying24 ((hi 2 _ rfl).trans g2)
  obtain ⟨a3, k3, l3, e3, -, -, -⟩ := fld_sliceB Tryd.underlying26 (by kernel_rfl) (by kernel_rfl) Tryd.underlying3 ((hi 3 _ rfl).trans g3)
  obtain ⟨a4, k4, l4, e4, -, -, -⟩ := fld_sliceB Tryd.underlying26 (by kernel_rfl) (by kernel_rfl) Tryd.underlying3 ((hi 4 _ rfl).trans g4)
  obtain ⟨a5, k5, l5, e5, -, -, -⟩ := fld_sliceB Tryd.underlying26 (by kernel_rfl) (by kernel_rfl) Tryd.underlying3 ((hi 5 _ rfl).trans g5)
  refine ⟨e, l1, l2, l3, l4, l5, a1, a2, a3, a4, a5, k1, k2, k3, k4, k5, ?_, ⟨c1, c2⟩, h1, h2, ?_, fun z hz => wf32 (w1 z hz), fun z hz => wf32 (w2 z hz)⟩
  rotate_left
  · exact wf32 we
  obtain ⟨L⟩ := cs
  have hL : L.length = 6 := h6
  match L, hL with
  | [b0, b1, b2, b3, b4, b5], _ =>
    have q0 : some b0 = some _ := e0
    have q1 : some b1 = some _ := e1
    have q2 : some b2 = some _ := e2
    have q3 : some b3 = some _ := e3
    have q4 : some b4 = some _ := e4
    have q5 : some b5 = some _ := e5
    cases q0
    cases q1
    cases q2
    cases q3
    cases q4
    cases q5
    rfl
end Go.Proofs.YtehmpdgpjpifoaaDoor
