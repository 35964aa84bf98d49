/-
  facadelaw2.Do: a list of things that a memory is told, as it came in: each with words of its own.
-/
import Derived.Test.YtmeljclaocgoaaaDoorStructs
namespace Go.Proofs.YtmeljclaocgoaaaDoor
open Go.ChangeShapes Go.WideShapes Go.ChangeAt Go.RowKit Go.Joins Go.Deep

/-- a field that is a slice of numbers -/
theorem fld_slice {H : Type} {enc : TypeId × Value → H} {P : Program} {W : World} {n : Nat} {cs : List Value} {o : Nat} {t e : TypeId} {k : IntKind} {y : DataW H × List MemPlace} (ht : P.underlying t = some (.slice e)) (he : P.underlying e = some (.int k)) (hce : P.cellsOf e = 1) (hc : P.cellsOf t = 1)
    (h : DataW.trod enc P W 0 (fun _ => true) true n t ((cs.drop o).take (P.cellsOf t)) = some y) : ∃ (ao : Option Addr) (cap : Nat) (zs : List Int), cs[o]? = some (.slice ao zs.length cap) ∧ AtL W ao (zs.map (Value.int k)) ∧ (∀ z ∈ zs, (Lit.int k z).wf = true) ∧ zs.length ≤ maxLen := by
  rw [hc] at h
  rcases open_ints ht he hce h with ⟨hcs, _⟩ | ⟨x, l, c, zs, hcs, _, hl, hm, hz, _, hcell, hwz⟩
  · exact ⟨none, 0, [], cut1 hcs, atL_nil _ _, by simp, by simp⟩
  · have hzl : zs.length = c := by simpa using hz
    have hlen : (zs.take l).length = l := by rw [List.length_take]; omega
    have hr : Reads W (.slice (some x) l c) l ((zs.take l).map (Value.int k)) := by
      refine .inr ⟨x, c, rfl, fun j u hj => ?_⟩
      have hj' := (List.getElem?_eq_some_iff.1 hj).1
      simp only [List.length_map, hlen] at hj'
      rw [hcell j (by omega)]
      simp only [List.getElem?_map, List.getElem?_take_of_lt hj'] at hj
      rw [← hj, List.getD_eq_getElem?_getD, List.getElem?_eq_getElem (by omega)]
      simp
    obtain ⟨ao, cap, e1, hat⟩ := atL_of_reads hr
    cases e1
    exact ⟨some x, c, zs.take l, by rw [hlen]; exact cut1 hcs, hat, fun z hz => hwz z (List.mem_of_mem_take hz), by omega⟩

structure FDo where
  kind : Int
  n : Int
  w : Int
  ao : Option Addr
  cap : Nat
  l : List Int
deriving Inhabited
def fdoCells (x : FDo) : List Value := [.int .i64 x.kind, .int .i64 x.n, .int .u32 x.w, .slice x.ao x.l.length x.cap]
theorem fdo_get (l : List FDo) (k : Nat) (h : k < l.length) : (l.flatMap fdoCells)[k * 4]? = some (.int .i64 (l.getD k default).kind) ∧ (l.flatMap fdoCells)[k * 4 + 1]? = some (.int .i64 (l.getD k default).n) ∧ (l.flatMap fdoCells)[k * 4 + 2]? = some (.int .u32 (l.getD k default).w) ∧ (l.flatMap fdoCells)[k * 4 + 3]? = some (.slice (l.getD k default).ao (l.getD k default).l.length (l.getD k default).cap) := by
  induction l generalizing k with
  | nil => simp at h
  | cons x l ih =>
    cases k with
    | zero => exact ⟨rfl, rfl, rfl, rfl⟩
    | succ k =>
      have := ih k (by simpa using h)
      have e : (k + 1) * 4 = k * 4 + 4 := by omega
      rw [e]
      exact this
set_option maxRecDepth 100000 in
theorem open_fdo {H : Type} {enc : TypeId × Value → H} {W : World} {v : Value} {d : DataW H} {p : List MemPlace} {r : Reach} {b0 : Nat}
    (hv : Value.okWide Tryd.prog W r b0 95 v) (h : DataW.Trod enc Tryd.prog W 0 (fun _ => true) true 95 v d p) :
    ∃ (ao : Option Addr) (cap : Nat) (l : List FDo), v = .slice ao l.length cap ∧ l.length ≤ maxLen ∧ (∀ x ∈ l, AtL W x.ao (u32s x.l)) ∧ AtL W ao (l.flatMap fdoCells) ∧ l.length ≤ cap :=
  open_structs (C := 4) Tryd.underlying95 (by kernel_rfl) (by decide) fdoCells (fun x => AtL W x.ao (u32s x.l)) hv h fun n cs y hl hd => by
    obtain ⟨xs, n', -, -, hxl, hx, hi⟩ := DataW.trod_struct Tryd.underlying99 hd
    have hx4 : xs.length = 4 := hx
    have get : ∀ i, i < 4 → ∃ y, xs[i]? = some y := fun i hi => ⟨_, List.getElem?_eq_getElem (by omega)⟩
    obtain ⟨y0, g0⟩ := get 0 (by omega)
    obtain ⟨y1, g1⟩ := get 1 (by omega)
    obtain ⟨y2, g2⟩ := get 2 (by omega)
    obtain ⟨y3, g3⟩ := get 3 (by omega)
    obtain ⟨a, e0, -⟩ := fld_int Tryd.underlying3 (by kernel_rfl) ((hi 0 _ rfl).trans g0)
    obtain ⟨b, e1, -⟩ := fld_int Tryd.underlying3 (by kernel_rfl) ((hi 1 _ rfl).trans g1)
    obtain ⟨c, e2, -⟩ := fld_int Tryd.underlying22 (by kernel_rfl) ((hi 2 _ rfl).trans g2)
    obtain ⟨fa, fc, fz, e3, hat, -⟩ := fld_slice Tryd.underlying25 Tryd.underlying22 (by kernel_rfl) (by kernel_rfl) ((hi 3 _ rfl).trans g3)
    refine ⟨⟨a, b, c, fa, fc, fz⟩, ?_, hat⟩
    match cs, hl with
    | [b0, b1, b2, b3], _ =>
      have q0 : some b0 = some _ := e0
      have q1 : some b1 = some _ := e1
      have q2 : some b2 = some _ := e2
      have q3 : some b3 = some _ := e3
      cases q0
      cases q1
      cases q2
      cases q3
      rfl
end Go.Proofs.YtmeljclaocgoaaaDoor
