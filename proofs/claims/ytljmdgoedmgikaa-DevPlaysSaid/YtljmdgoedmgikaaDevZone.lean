/-
  The two devices beside a zone of memory that stays.
-/
import Derived.Test.YtljmdgoedmgikaaDevDo
namespace Go.Proofs.Ytljmdgoedmgikaa
open Go.RowKit

structure Sim (D X : DevS) : Prop where
  keys : X.keys = D.keys
  sec : X.sec = D.sec
  seen : X.seen = D.seen
  set : X.set = D.set
  due : D.set = true → X.due = D.due

/-- devices D, document's X; the blocks from L on that w0 has stay -/
def Zone (w w0 : World) (B L bd bx : Nat) (D X : DevS) (wx : World) : Prop :=
  (∃ F1 F2 : Nat → Prop, DevAt wx bd D F1 ∧ RDevAt wx bx X F2 ∧ (∀ k, F1 k → B ≤ k ∧ (k < L ∨ w0.heap.size ≤ k)) ∧ (∀ k, F2 k → B ≤ k ∧ (k < L ∨ w0.heap.size ≤ k)) ∧ ∀ k, F1 k → ¬ F2 k) ∧ Only (fun k => k < L) w0 wx ∧ Below w.heap.size w wx ∧ w.heap.size ≤ B
theorem Only.zone {F : Nat → Prop} {L : Nat} {w0 wx w' : World} (h : Only (fun k => k < L) w0 wx) (ho : Only F wx w') (hF : ∀ k, F k → k < L ∨ w0.heap.size ≤ k) : Only (fun k => k < L) w0 w' := h.trans' ho hF
theorem Zone.d {w w0 wx : World} {B L bd bx : Nat} {D X : DevS} (h : Zone w w0 B L bd bx D X wx) : ∃ F, DevAt wx bd D F ∧
    ∀ w' D' G, DevAt w' bd D' G → (∀ k, G k → F k ∨ wx.heap.size ≤ k) → Only F wx w' → Zone w w0 B L bd bx D' X w' := by
  obtain ⟨⟨F1, F2, h1, h2, b1, b2, hd⟩, hz, hb, hB⟩ := h
  refine ⟨fun k => F1 k ∧ k < wx.heap.size, h1.tight', fun w' D' G hD hG ho => ⟨⟨fun k => G k ∧ B ≤ k ∧ (k < L ∨ w0.heap.size ≤ k), fun k => F2 k ∧ k < wx.heap.size, hD.mono ?_, ?_, fun k hk => hk.2, fun k hk => b2 k hk.1, ?_⟩, hz.zone ho (fun k hk => (b1 k hk.1).2), hb.trans (ho.below hb.size (fun k hk => Nat.le_trans hB (b1 k hk.1).1)), hB⟩⟩
  · intro k hk
    rcases hG k hk with h | h
    · exact ⟨hk, b1 k h.1⟩
    · obtain ⟨kv, sv, h3, h4⟩ := h1
      have h5 := (b1 bd (h4 bd (.inl rfl))).1
      have h6 := blk_lt h3.blk
      exact ⟨hk, by omega, .inr (Nat.le_trans hz.size h)⟩
  · exact h2.tight'.only ho fun k hk _ hF => hd k hF.1 hk.1
  · intro k hk hk2
    rcases hG k hk.1 with h | h
    · exact hd k h.1 hk2.1
    · have := hk2.2; omega
theorem Zone.x {w w0 wx : World} {B L bd bx : Nat} {D X : DevS} (h : Zone w w0 B L bd bx D X wx) : ∃ F, RDevAt wx bx X F ∧
    ∀ w' X' G, RDevAt w' bx X' G → (∀ k, G k → F k ∨ wx.heap.size ≤ k) → Only F wx w' → Zone w w0 B L bd bx D X' w' := by
  obtain ⟨⟨F1, F2, h1, h2, b1, b2, hd⟩, hz, hb, hB⟩ := h
  refine ⟨fun k => F2 k ∧ k < wx.heap.size, h2.tight', fun w' X' G hD hG ho => ⟨⟨fun k => F1 k ∧ k < wx.heap.size, fun k => G k ∧ B ≤ k ∧ (k < L ∨ w0.heap.size ≤ k), ?_, hD.mono ?_, fun k hk => b1 k hk.1, fun k hk => hk.2, ?_⟩, hz.zone ho (fun k hk => (b2 k hk.1).2), hb.trans (ho.below hb.size (fun k hk => Nat.le_trans hB (b2 k hk.1).1)), hB⟩⟩
  · exact h1.tight'.only ho fun k hk _ hF => hd k hk.1 hF.1
  · intro k hk
    rcases hG k hk with h | h
    · exact ⟨hk, b2 k h.1⟩
    · obtain ⟨kv, sv, h3, h4⟩ := h2
      have h5 := (b2 bx (h4 bx (.inl rfl))).1
      have h6 := blk_lt h3.blk
      exact ⟨hk, by omega, .inr (Nat.le_trans hz.size h)⟩
  · intro k hk hk2
    rcases hG k hk2.1 with h | h
    · exact hd k hk.1 h.1
    · have := hk.2; omega
theorem Zone.below {w w0 wx w' : World} {B L bd bx : Nat} {D X : DevS} (h : Zone w w0 B L bd bx D X wx) (hb : Below wx.heap.size wx w') : Zone w w0 B L bd bx D X w' := by
  obtain ⟨F, hF, hback⟩ := h.d
  exact hback w' D F (hF.below hb) (fun k hk => .inl hk) (Only.of_below hb)
theorem Zone.drew {w w0 wx : World} {B L bd bx : Nat} {D X : DevS} (h : Zone w w0 B L bd bx D X wx) : Zone w w0 B L bd bx D X wx.drew := h.below ⟨rfl, rfl, rfl, Nat.le_refl _, fun _ _ => rfl⟩
theorem Zone.of {w wr w0 : World} {B bd bx : Nat} {D X : DevS} (h : TwoAt wr B bd bx D X) (hb : Below wr.heap.size wr w0) (hw : Below w.heap.size w w0) (hB : w.heap.size ≤ B) : Zone w w0 B wr.heap.size bd bx D X w0 := by
  obtain ⟨F1, F2, h1, h2, b1, b2, hd, -⟩ := h
  refine ⟨⟨fun k => F1 k ∧ k < wr.heap.size, fun k => F2 k ∧ k < wr.heap.size, h1.tight'.below hb, h2.tight'.below hb, fun k hk => ⟨b1 k hk.1, .inl hk.2⟩, fun k hk => ⟨b2 k hk.1, .inl hk.2⟩, fun k hk hk2 => hd k hk.1 hk2.1⟩, Only.refl _ _, hw, hB⟩
theorem Zone.two {w w0 wx : World} {B L bd bx : Nat} {D X : DevS} (h : Zone w w0 B L bd bx D X wx) : TwoAt wx B bd bx D X := by
  obtain ⟨⟨F1, F2, h1, h2, b1, b2, hd⟩, hz, hb, hB⟩ := h
  obtain ⟨kv, sv, h3, h4⟩ := h1
  have h5 := (b1 bd (h4 bd (.inl rfl))).1
  have h6 := blk_lt h3.blk
  exact ⟨F1, F2, ⟨kv, sv, h3, h4⟩, h2, fun k hk => (b1 k hk).1, fun k hk => (b2 k hk).1, hd, by omega⟩
theorem Zone.blk {w w0 wx : World} {B L bd bx : Nat} {D X : DevS} (h : Zone w w0 B L bd bx D X wx) {k : Nat} (hL : L ≤ k) (hk : k < w0.heap.size) : wx.heap[k]? = w0.heap[k]? := h.2.1.block k hk (by omega)

/-- behind the switch -/
def DpMid (k : Nat) (w w0 : World) (B L bd bx : Nat) (wc : World) : Prop :=
  ∃ (D X : DevS), Zone w w0 B L bd bx D X wc ∧ Sim D X ∧ D.keys.length ≤ 64 ∧ D.seen.length ≤ k + 1
end Go.Proofs.Ytljmdgoedmgikaa
