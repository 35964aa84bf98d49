/-
  The program's devices and the document's, side by side in memory.
-/
import Derived.Test.YtljmdgoedmgikaaRDev2
namespace Go.Proofs.Ytljmdgoedmgikaa
open Go.RowKit

theorem DevAt.tight' {w : World} {b : Nat} {D : DevS} {F : Nat → Prop} (h : DevAt w b D F) : DevAt w b D (fun k => F k ∧ k < w.heap.size) := by
  obtain ⟨kv, sv, ⟨h1, h2, h3, h4⟩, hk⟩ := h
  refine ⟨kv, sv, ⟨h1, h2, h3, h4⟩, fun k hk' => ⟨hk k hk', ?_⟩⟩
  rcases hk' with rfl | h | h
  · exact blk_lt h1
  · exact own_lt h3 h
  · exact own_lt h4 h
theorem RDevAt.tight' {w : World} {b : Nat} {D : DevS} {F : Nat → Prop} (h : RDevAt w b D F) : RDevAt w b D (fun k => F k ∧ k < w.heap.size) := by
  obtain ⟨kv, sv, ⟨h1, h2, h3, h4⟩, hk⟩ := h
  refine ⟨kv, sv, ⟨h1, h2, h3, h4⟩, fun k hk' => ⟨hk k hk', ?_⟩⟩
  rcases hk' with rfl | h | h
  · exact blk_lt h1
  · exact own_lt h3 h
  · exact own_lt h4 h

/-- devices D at bd, the document's X at bx, each in blocks of its own from B on -/
def TwoAt (w : World) (B bd bx : Nat) (D X : DevS) : Prop :=
  ∃ F1 F2 : Nat → Prop, DevAt w bd D F1 ∧ RDevAt w bx X F2 ∧ (∀ k, F1 k → B ≤ k) ∧ (∀ k, F2 k → B ≤ k) ∧ (∀ k, F1 k → ¬ F2 k) ∧ B ≤ w.heap.size
theorem TwoAt.d {w : World} {B bd bx : Nat} {D X : DevS} (h : TwoAt w B bd bx D X) : ∃ F, DevAt w bd D F ∧ (∀ k, F k → B ≤ k) ∧
    ∀ w' D' G, DevAt w' bd D' G → (∀ k, G k → F k ∨ w.heap.size ≤ k) → Only F w w' → TwoAt w' B bd bx D' X := by
  obtain ⟨F1, F2, h1, h2, b1, b2, hd, hB⟩ := h
  refine ⟨F1, h1, b1, fun w' D' G hD hG ho => ⟨G, fun k => F2 k ∧ k < w.heap.size, hD, ?_, ?_, fun k hk => b2 k hk.1, ?_, Nat.le_trans hB ho.size⟩⟩
  · exact h2.tight'.only ho fun k hk _ hF => hd k hF hk.1
  · intro k hk
    rcases hG k hk with h | h
    · exact b1 k h
    · omega
  · intro k hk hk2
    rcases hG k hk with h | h
    · exact hd k h hk2.1
    · have := hk2.2; omega
theorem TwoAt.x {w : World} {B bd bx : Nat} {D X : DevS} (h : TwoAt w B bd bx D X) : ∃ F, RDevAt w bx X F ∧ (∀ k, F k → B ≤ k) ∧
    ∀ w' X' G, RDevAt w' bx X' G → (∀ k, G k → F k ∨ w.heap.size ≤ k) → Only F w w' → TwoAt w' B bd bx D X' := by
  obtain ⟨F1, F2, h1, h2, b1, b2, hd, hB⟩ := h
  refine ⟨F2, h2, b2, fun w' D' G hD hG ho => ⟨fun k => F1 k ∧ k < w.heap.size, G, ?_, hD, fun k hk => b1 k hk.1, ?_, ?_, Nat.le_trans hB ho.size⟩⟩
  · exact h1.tight'.only ho fun k hk _ hF => hd k hk.1 hF
  · intro k hk
    rcases hG k hk with h | h
    · exact b2 k h
    · omega
  · intro k hk hk2
    rcases hG k hk2 with h | h
    · exact hd k hk.1 h
    · have := hk.2; omega
theorem TwoAt.below {w w' : World} {B bd bx : Nat} {D X : DevS} (h : TwoAt w B bd bx D X) (hb : Below w.heap.size w w') : TwoAt w' B bd bx D X := by
  obtain ⟨F1, F2, h1, h2, b1, b2, hd, hB⟩ := h
  exact ⟨F1, F2, h1.below hb, h2.only (G := fun _ => False) (Only.of_below hb) (fun _ _ _ h => h), b1, b2, hd, Nat.le_trans hB hb.size⟩
theorem TwoAt.drew {w : World} {B bd bx : Nat} {D X : DevS} (h : TwoAt w B bd bx D X) : TwoAt w.drew B bd bx D X := h.below ⟨rfl, rfl, rfl, Nat.le_refl _, fun _ _ => rfl⟩
theorem two_new (w : World) : TwoAt ((w.alloc (.cells (devCells (.slice none 0 0) (List.replicate 16 0) false 0 (.slice none 0 0)) 28)).alloc (.cells (rdevCells (.slice none 0 0) (List.replicate 16 0) false 0 (.slice none 0 0)) 51)) w.heap.size w.heap.size (w.heap.size + 1) {} {} := by
  refine ⟨fun k => k = w.heap.size, fun k => k = w.heap.size + 1, ⟨_, _, ⟨blk_old (blk_new _ _) _, rfl, own_nil _ _ _, own_nil _ _ _⟩, ?_⟩, ⟨_, _, ⟨?_, rfl, own_nil _ _ _, own_nil _ _ _⟩, ?_⟩, fun k h => by omega, fun k h => by omega, fun k h => by omega, by simp; omega⟩
  · rintro k (rfl | h | h)
    · rfl
    · simp [inRow, Value.ownBlock] at h
    · simp [inRow, Value.ownBlock] at h
  · have := blk_new (w.alloc (.cells (devCells (.slice none 0 0) (List.replicate 16 0) false 0 (.slice none 0 0)) 28)) (.cells (rdevCells (.slice none 0 0) (List.replicate 16 0) false 0 (.slice none 0 0)) 51)
    simpa using this
  · rintro k (rfl | h | h)
    · rfl
    · simp [inRow, Value.ownBlock] at h
    · simp [inRow, Value.ownBlock] at h
end Go.Proofs.Ytljmdgoedmgikaa
