/-
  Tables while they are made: where their parts lie.
-/
import Derived.Test.YtnhocmmgdkiepaaDoorPtNewL
import Derived.Test.YtnhocmmgdkiepaaDoorPtDrop
namespace Go.Proofs.YtnhocmmgdkiepaaDoor
open Go.RowKit

structure NAt (w : World) (p : Pl) (n : Nat) (M : List Int) (F : List Fr) (P T : List Int) (who : Int) : Prop where
  row : w.heap[p.tb]? = some (.cells (ptCells p who) 133 (0, 0))
  mem : MAt w p.mb p.mv n M
  fr : FrAt 128 126 w p.fb p.fg n F
  pm : PAt w p.pb p.pv P
  tl : w.ownsRow 0 3 1 p.lv T.length (ints T)
  apart : p.Apart
theorem NAt.keep {G : Nat → Prop} {w w' : World} {p : Pl} {n : Nat} {M : List Int} {F : List Fr} {P T : List Int} {who : Int} (h : NAt w p n M F P T who) (ho : Only G w w') (h0 : ∀ k, p.z0 k → ¬ G k) (h1 : ∀ k, p.z1 k → ¬ G k) (h2 : ∀ k, p.z2 k → ¬ G k) (h3 : ∀ k, p.z3 k → ¬ G k) : NAt w' p n M F P T who :=
  ⟨ho.blk h.row (h0 _ (.inl rfl)), h.mem.only ho (h0 _ (.inr (.inl rfl))) h1, h.fr.only ho (h0 _ (.inr (.inr (.inl rfl)))) (h2 _ rfl), h.pm.only ho (h3 _ (.inl rfl)) (fun k hk => h3 k (.inr hk)), own_only h.tl ho (fun k hk => h0 k (.inr (.inr (.inr hk)))), h.apart⟩
theorem NAt.below {w w' : World} {p : Pl} {n : Nat} {M : List Int} {F : List Fr} {P T : List Int} {who : Int} (h : NAt w p n M F P T who) (hb : Below w.heap.size w w') : NAt w' p n M F P T who :=
  h.keep (G := fun _ => False) (Only.of_below hb) (fun _ _ h => h) (fun _ _ h => h) (fun _ _ h => h) (fun _ _ h => h)
theorem NAt.mem' {w w' : World} {p : Pl} {n : Nat} {M M' : List Int} {F : List Fr} {P T : List Int} {who : Int} (h : NAt w p n M F P T who) (ho : Only (fun k => inRow p.mv k) w w') (hm : MAt w' p.mb p.mv n M') : NAt w' p n M' F P T who :=
  ⟨ho.blk h.row (h.apart.a01 _ (.inl rfl)), hm, h.fr.only ho (h.apart.a01 _ (.inr (.inr (.inl rfl)))) (fun h' => h.apart.a12 _ h' rfl), h.pm.only ho (fun h' => h.apart.a13 _ h' (.inl rfl)) (fun k hk h' => h.apart.a13 _ h' (.inr hk)), own_only h.tl ho (fun k hk => h.apart.a01 k (.inr (.inr (.inr hk)))), h.apart⟩
theorem NAt.fr' {w w' : World} {p : Pl} {n : Nat} {M : List Int} {F F' : List Fr} {P T : List Int} {who : Int} (h : NAt w p n M F P T who) (ho : Only (fun k => k = p.fg) w w') (hm : FrAt 128 126 w' p.fb p.fg n F') : NAt w' p n M F' P T who :=
  ⟨ho.blk h.row (h.apart.a02 _ (.inl rfl)), h.mem.only ho (h.apart.a02 _ (.inr (.inl rfl))) (fun k hk h' => h.apart.a12 _ hk h'), hm, h.pm.only ho (fun h' => h.apart.a23 _ h' (.inl rfl)) (fun k hk h' => h.apart.a23 _ h' (.inr hk)), own_only h.tl ho (fun k hk => h.apart.a02 k (.inr (.inr (.inr hk)))), h.apart⟩
theorem NAt.lt {w : World} {p : Pl} {n : Nat} {M : List Int} {F : List Fr} {P T : List Int} {who : Int} (h : NAt w p n M F P T who) : ∀ k, (p.z0 k ∨ p.z1 k ∨ p.z2 k ∨ p.z3 k) → k < w.heap.size := fun k hk => by
  rcases hk with (rfl | rfl | rfl | hk) | hk | hk | (rfl | hk)
  · exact blk_lt h.row
  · exact blk_lt h.mem.1
  · exact h.fr.lt.1
  · exact own_lt h.tl hk
  · exact own_lt h.mem.2.1 hk
  · rw [show k = p.fg from hk]; exact h.fr.lt.2
  · exact blk_lt h.pm.1
  · exact own_lt h.pm.2 hk
/-- the map has another one -/
theorem NAt.pm' {w w' : World} {p : Pl} {n : Nat} {M : List Int} {F : List Fr} {P P' T : List Int} {who : Int} {pv' : Value} (h : NAt w p n M F P T who) (ho : Only (fun k => k = p.pb ∨ inRow p.pv k) w w') (hm : PAt w' p.pb pv' P') (hr : ∀ k, inRow pv' k → inRow p.pv k ∨ w.heap.size ≤ k) : NAt w' { p with pv := pv' } n M F P' T who := by
  have hz3 : ∀ k, Pl.z3 { p with pv := pv' } k → p.z3 k ∨ w.heap.size ≤ k := fun k hk => by
    rcases hk with hk | hk
    · exact .inl (.inl hk)
    · rcases hr k hk with h | h
      · exact .inl (.inr h)
      · exact .inr h
  exact ⟨ho.blk h.row (fun h' => h.apart.a03 p.tb (.inl rfl) h'), h.mem.only ho (fun h' => h.apart.a03 p.mb (.inr (.inl rfl)) h') (fun k hk h' => h.apart.a13 _ hk h'), h.fr.only ho (fun h' => h.apart.a03 p.fb (.inr (.inr (.inl rfl))) h') (fun h' => h.apart.a23 p.fg rfl h'), hm, own_only h.tl ho (fun k hk h' => h.apart.a03 k (.inr (.inr (.inr hk))) h'),
    ⟨h.apart.a01, h.apart.a02, fun k h0 h3 => by
      rcases hz3 k h3 with h' | h'
      · exact h.apart.a03 k h0 h'
      · have := h.lt k (.inl h0); omega, h.apart.a12, fun k h0 h3 => by
      rcases hz3 k h3 with h' | h'
      · exact h.apart.a13 k h0 h'
      · have := h.lt k (.inr (.inl h0)); omega, fun k h0 h3 => by
      rcases hz3 k h3 with h' | h'
      · exact h.apart.a23 k h0 h'
      · have := h.lt k (.inr (.inr (.inl h0))); omega⟩⟩
/-- the list has another one -/
theorem NAt.list' {w w' : World} {p : Pl} {n : Nat} {M : List Int} {F : List Fr} {P T T' : List Int} {who : Int} {lv' : Value} (h : NAt w p n M F P T who) (ho : Only (fun k => k = p.tb ∨ inRow p.lv k) w w') (hrow : w'.heap[p.tb]? = some (.cells (ptCells { p with lv := lv' } who) 133 (0, 0))) (ht : w'.ownsRow 0 3 1 lv' T'.length (ints T')) (hmb : p.mb ≠ p.tb ∧ ¬ inRow p.lv p.mb) (hfb : p.fb ≠ p.tb ∧ ¬ inRow p.lv p.fb) (hr : ∀ k, inRow lv' k → inRow p.lv k ∨ w.heap.size ≤ k) : NAt w' { p with lv := lv' } n M F P T' who := by
  have hG : ∀ k, (k = p.tb ∨ inRow p.lv k) → p.z0 k := fun k hk => by
    rcases hk with hk | hk
    · exact .inl hk
    · exact .inr (.inr (.inr hk))
  have hz0 : ∀ k, Pl.z0 { p with lv := lv' } k → p.z0 k ∨ w.heap.size ≤ k := fun k hk => by
    rcases hk with hk | hk | hk | hk
    · exact .inl (.inl hk)
    · exact .inl (.inr (.inl hk))
    · exact .inl (.inr (.inr (.inl hk)))
    · rcases hr k hk with h | h
      · exact .inl (.inr (.inr (.inr h)))
      · exact .inr h
  exact ⟨hrow, h.mem.only ho (fun h' => by rcases h' with h' | h'; exact hmb.1 h'; exact hmb.2 h') (fun k hk h' => h.apart.a01 k (hG k h') hk), h.fr.only ho (fun h' => by rcases h' with h' | h'; exact hfb.1 h'; exact hfb.2 h') (fun h' => h.apart.a02 _ (hG _ h') rfl), h.pm.only ho (fun h' => h.apart.a03 _ (hG _ h') (.inl rfl)) (fun k hk h' => h.apart.a03 _ (hG _ h') (.inr hk)), ht,
    ⟨fun k h0 h1 => by
      rcases hz0 k h0 with h' | h'
      · exact h.apart.a01 k h' h1
      · have := h.lt k (.inr (.inl h1)); omega, fun k h0 h1 => by
      rcases hz0 k h0 with h' | h'
      · exact h.apart.a02 k h' h1
      · have := h.lt k (.inr (.inr (.inl h1))); omega, fun k h0 h1 => by
      rcases hz0 k h0 with h' | h'
      · exact h.apart.a03 k h' h1
      · have := h.lt k (.inr (.inr (.inr h1))); omega, h.apart.a12, h.apart.a13, h.apart.a23⟩⟩
theorem NAt.done {w : World} {p : Pl} {n : Nat} {M : List Int} {F : List Fr} {P T : List Int} {who : Int} (h : NAt w p n M F P T who) (hT : T = P.take 17) (hl : T.length = 17) : PtAt w p ⟨n, M, F, P, who⟩ :=
  ⟨h.row, h.mem, h.fr, h.pm, by rw [← hT, ← hl]; exact h.tl, h.apart⟩
theorem NAt.cells {w : World} {p : Pl} {n : Nat} {M : List Int} {F : List Fr} {P T : List Int} {who : Int} (h : NAt w p n M F P T who) : w.cell? ⟨p.tb, 3, none⟩ = some (.pointer (some ⟨p.pb, 0, none⟩)) ∧ w.cell? ⟨p.tb, 4, none⟩ = some p.lv ∧ w.frozen? ⟨p.tb, 4, none⟩ = false :=
  ⟨blk_cell h.row 3, blk_cell h.row 4, blk_free h.row 4⟩
end Go.Proofs.YtnhocmmgdkiepaaDoor
