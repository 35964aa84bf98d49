/-
  Lists of numbers and of bools as values, and slices that read as them. Plain facts, over any program.
-/
import Derived.Test.YtnhocmmgdkiepaaDoorOwn
import Derived.WalkSmall
import Derived.Maps.AppendAt
namespace Go.Proofs.YtnhocmmgdkiepaaDoor
open Go Go.RowKit

def ints (l : List Int) : List Value := l.map (Value.int .i64)
def bls (l : List Bool) : List Value := l.map Value.bool
theorem ints_one (l : List Int) : ∀ u ∈ ints l, u.oneCell' = true := ints_oneCell _ _
theorem bls_one (l : List Bool) : ∀ u ∈ bls l, u.oneCell' = true := by
  intro u hu
  simp only [bls, List.mem_map] at hu
  obtain ⟨b, -, rfl⟩ := hu
  rfl
theorem ints_len (l : List Int) : (ints l).length = l.length * 1 := by simp [ints]
theorem bls_len (l : List Bool) : (bls l).length = l.length * 1 := by simp [bls]
theorem ints_get (l : List Int) (k : Nat) (h : k < l.length) : (ints l)[k]? = some (.int .i64 (l.getD k 0)) := by simp [ints, h]
theorem bls_get (l : List Bool) (k : Nat) (h : k < l.length) : (bls l)[k]? = some (.bool (l.getD k false)) := by simp [bls, h]
theorem u32s_get (l : List Int) (k : Nat) (h : k < l.length) : (u32s l)[k]? = some (.int .u32 (l.getD k 0)) := by simp [u32s, h]
theorem ints_take (xs : List Int) (k : Nat) (h : k < xs.length) : ints (xs.take (k + 1)) = ints (xs.take k) ++ [.int .i64 (xs.getD k 0)] := by
  rw [List.take_succ_eq_append_getElem h, List.getD_eq_getElem?_getD, List.getElem?_eq_getElem h]
  unfold ints
  rw [List.map_append]
  rfl
theorem bls_take (xs : List Bool) (k : Nat) (h : k < xs.length) : bls (xs.take (k + 1)) = bls (xs.take k) ++ [.bool (xs.getD k false)] := by
  rw [List.take_succ_eq_append_getElem h, List.getD_eq_getElem?_getD, List.getElem?_eq_getElem h]
  unfold bls
  rw [List.map_append]
  rfl

theorem cell_one_new2 (w : World) (o : Obj) (x : Value) (t : TypeId) : ∀ j u, [x][j]? = some u → ((w.alloc o).alloc (.cells #[x] t)).cell? ((⟨w.heap.size + 1, 0, none⟩ : Addr).add j) = some u := by
  have := cell_one_new (w.alloc o) x t
  rw [World.size_alloc] at this
  exact this

/-- a cell that is there is there behind a new block -/
theorem cell_past {w : World} {a : Addr} {u : Value} (h : w.cell? a = some u) (o : Obj) : (w.alloc o).cell? a = some u :=
  (((Below.refl _ _).alloc (Nat.le_refl _) o).cell (World.block_lt_of_cell? w a h)).trans h
theorem cell_under {w w' : World} {a : Addr} {u : Value} (h : w.cell? a = some u) (hb : Below w.heap.size w w') : w'.cell? a = some u :=
  (hb.cell (World.block_lt_of_cell? w a h)).trans h

theorem take_eq {α : Type} [Inhabited α] (d : α) {xs ys : List α} {k : Nat} (hx : k < xs.length) (hy : k < ys.length) (h : xs.take k = ys.take k) (e : xs.getD k d = ys.getD k d) : xs.take (k + 1) = ys.take (k + 1) := by
  rw [List.take_succ_eq_append_getElem hx, List.take_succ_eq_append_getElem hy, h]
  rw [List.getD_eq_getElem?_getD, List.getElem?_eq_getElem hx, List.getD_eq_getElem?_getD, List.getElem?_eq_getElem hy] at e
  simp only [Option.getD_some] at e
  rw [e]

/-- a slice's cells, at an address that may be none -/
def AtL (w : World) (ao : Option Addr) (vs : List Value) : Prop := ∀ k u, vs[k]? = some u → ∃ b off, ao = some ⟨b, off, none⟩ ∧ w.cell? ⟨b, off + k, none⟩ = some u ∧ b < w.heap.size
theorem AtL.mono {W w : World} {ao : Option Addr} {vs : List Value} (h : AtL W ao vs) (hb : Below W.heap.size W w) : AtL w ao vs := fun k u hk => by
  obtain ⟨b, off, e, hc, hl⟩ := h k u hk
  exact ⟨b, off, e, (hb.cell (p := ⟨b, off + k, none⟩) hl).trans hc, Nat.lt_of_lt_of_le hl hb.size⟩
theorem AtL.mono' {W w : World} {ao : Option Addr} {vs : List Value} (h : AtL W ao vs) {B : Nat} (hb : Below B W w) (hB : W.heap.size ≤ B) : AtL w ao vs := fun k u hk => by
  obtain ⟨b, off, e, hc, hl⟩ := h k u hk
  exact ⟨b, off, e, (hb.cell (p := ⟨b, off + k, none⟩) (by exact Nat.lt_of_lt_of_le hl hB)).trans hc, Nat.lt_of_lt_of_le hl hb.size⟩
theorem AtL.drewN {W : World} {ao : Option Addr} {vs : List Value} (h : AtL W ao vs) (n : Nat) : AtL (W.drewN n) ao vs := h.mono (below_drewN (Below.refl _ _) n)
theorem atL_of_reads {w : World} {v : Value} {n : Nat} {xs : List Value} (h : Reads w v n xs) : ∃ ao cap, v = .slice ao n cap ∧ AtL w ao xs := reads_cells h
theorem atL_of_own {w : World} {e : TypeId} {size : Nat} {v : Value} {n : Nat} {xs : List Value} (h : w.ownsRow 0 e size v n xs) : ∃ ao cap, v = .slice ao n cap ∧ AtL w ao xs := reads_cells (own_reads h)
theorem atL_nil (w : World) (ao : Option Addr) : AtL w ao [] := fun k u hk => by simp at hk
theorem AtL.take {w : World} {ao : Option Addr} {vs : List Value} (h : AtL w ao vs) (n : Nat) : AtL w ao (vs.take n) := fun k u hk => h k u (by
  rw [List.getElem?_take] at hk
  split at hk
  · exact hk
  · cases hk)
theorem AtL.reads {w : World} {ao : Option Addr} {vs : List Value} {n cap : Nat} (h : AtL w ao vs) (hn : vs = [] → n = 0 ∧ cap = 0) : Reads w (.slice ao n cap) n vs := by
  cases vs with
  | nil =>
    obtain ⟨rfl, rfl⟩ := hn rfl
    cases ao with
    | none => exact .inl ⟨rfl, rfl, rfl⟩
    | some a => exact .inr ⟨a, 0, rfl, fun j u hj => by simp at hj⟩
  | cons x xs =>
    obtain ⟨b, off, rfl, -, -⟩ := h 0 x rfl
    refine .inr ⟨⟨b, off, none⟩, cap, rfl, fun j u hj => ?_⟩
    obtain ⟨b', off', e, hc, -⟩ := h j u hj
    cases e
    rw [Addr.add_lit]
    exact hc

theorem emod_of_tmod {n m : Int} (hn : n < 0) (hm : 0 < m) : (n.tmod m < 0 → n.tmod m + m = n % m) ∧ (¬ n.tmod m < 0 → n.tmod m = n % m) ∧ -m < n.tmod m ∧ n.tmod m ≤ 0 := by
  have h1 := Int.emod_nonneg n (show m ≠ 0 by omega)
  have h2 := Int.emod_lt_of_pos n hm
  have h3 := @Int.tmod_eq_emod n m
  by_cases hd : m ∣ n
  · rw [if_pos (.inr hd)] at h3
    have h4 := Int.emod_eq_zero_of_dvd hd
    omega
  · have hno : ¬ (0 ≤ n ∨ m ∣ n) := fun h => h.elim (fun h => by omega) hd
    rw [if_neg hno] at h3
    have h4 : n % m ≠ 0 := fun h => hd (Int.dvd_of_emod_eq_zero h)
    omega
end Go.Proofs.YtnhocmmgdkiepaaDoor
