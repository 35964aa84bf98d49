/-
  Two devices of the program side by side in memory.
-/
import Derived.Test.YtljmdgoedmgikaaDevFirst
import Derived.Test.YtljmdgoedmgikaaDevClone
import Derived.Test.YtljmdgoedmgikaaLists
namespace Go.Proofs.Ytljmdgoedmgikaa
open Go.RowKit

def DevPair (w : World) (B bd bx : Nat) (D X : DevS) : Prop :=
  ∃ F1 F2 : Nat → Prop, DevAt w bd D F1 ∧ DevAt w bx X F2 ∧ (∀ k, F1 k → B ≤ k) ∧ (∀ k, F2 k → B ≤ k) ∧ (∀ k, F1 k → ¬ F2 k) ∧ B ≤ w.heap.size
theorem DevPair.d {w : World} {B bd bx : Nat} {D X : DevS} (h : DevPair w B bd bx D X) : ∃ F, DevAt w bd D F ∧ (∀ k, F k → B ≤ k) ∧
    ∀ w' D' G, DevAt w' bd D' G → (∀ k, G k → F k ∨ w.heap.size ≤ k) → Only F w w' → DevPair w' B bd bx D' X := by
  obtain ⟨F1, F2, h1, h2, b1, b2, hd, hB⟩ := h
  refine ⟨F1, h1, b1, fun w' D' G hD hG ho => ⟨G, fun k => F2 k ∧ k < w.heap.size, hD, ?_, ?_, fun k hk => b2 k hk.1, ?_, Nat.le_trans hB ho.size⟩⟩
  · exact h2.tight.only ho fun k hk _ hF => hd k hF hk.1
  · intro k hk
    rcases hG k hk with h | h
    · exact b1 k h
    · omega
  · intro k hk hk2
    rcases hG k hk with h | h
    · exact hd k h hk2.1
    · have := hk2.2; omega
theorem DevPair.x {w : World} {B bd bx : Nat} {D X : DevS} (h : DevPair w B bd bx D X) : ∃ F, DevAt w bx X F ∧ (∀ k, F k → B ≤ k) ∧
    ∀ w' X' G, DevAt w' bx X' G → (∀ k, G k → F k ∨ w.heap.size ≤ k) → Only F w w' → DevPair w' B bd bx D X' := by
  obtain ⟨F1, F2, h1, h2, b1, b2, hd, hB⟩ := h
  refine ⟨F2, h2, b2, fun w' D' G hD hG ho => ⟨fun k => F1 k ∧ k < w.heap.size, G, ?_, hD, fun k hk => b1 k hk.1, ?_, ?_, Nat.le_trans hB ho.size⟩⟩
  · exact h1.tight.only ho fun k hk _ hF => hd k hk.1 hF
  · intro k hk
    rcases hG k hk with h | h
    · exact b2 k h
    · omega
  · intro k hk hk2
    rcases hG k hk2 with h | h
    · exact hd k hk.1 h
    · have := hk.2; omega
theorem DevPair.below {w w' : World} {B bd bx : Nat} {D X : DevS} (h : DevPair w B bd bx D X) (hb : Below w.heap.size w w') : DevPair w' B bd bx D X := by
  obtain ⟨F1, F2, h1, h2, b1, b2, hd, hB⟩ := h
  exact ⟨F1, F2, h1.below hb, h2.below hb, b1, b2, hd, Nat.le_trans hB hb.size⟩
theorem devPair_new {w w' : World} {B bd bx : Nat} {D X : DevS} {F : Nat → Prop} (h : DevAt w bd D F) (hF : ∀ k, F k → B ≤ k) (hB : B ≤ w.heap.size) (hb : Below w.heap.size w w') (h2 : DevAt w' bx X (fun k => w.heap.size ≤ k)) : DevPair w' B bd bx D X :=
  ⟨fun k => F k ∧ k < w.heap.size, fun k => w.heap.size ≤ k, h.tight.below hb, h2, fun k hk => hF k hk.1, fun k hk => Nat.le_trans hB hk, fun k hk h => by have := hk.2; omega, Nat.le_trans hB hb.size⟩

theorem set_any (D : DevS) (w : World) (b : Nat) (F : Nat → Prop) (h : DevAt w b D F) (now a : Int) (ha0 : 0 ≤ a) (ha1 : a ≤ 4294967295) (hn0 : 0 ≤ now) (hn1 : now ≤ 2251799813685248) :
    Calls Try.prog 14 #[.pointer (some ⟨b, 0, none⟩), .int .i64 now, .int .u32 a] w fun e w' => e = .returned (.tuple #[]) ∧ DevAt w' b { D with set := decide (0 < a), due := if 0 < a then now + a else 0 } F ∧ Only F w w' := by
  by_cases h0 : 0 < a
  · rw [decide_eq_true h0, if_pos h0]
    exact set_pos D w b F h now a h0 ha1 hn0 hn1
  · obtain rfl : a = 0 := by omega
    exact set_zero D w b F h now
end Go.Proofs.Ytljmdgoedmgikaa
