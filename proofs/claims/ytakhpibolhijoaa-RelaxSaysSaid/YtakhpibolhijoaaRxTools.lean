/-
  Fits, Places at slices of n items; items appended.
-/
import Derived.Test.YtakhpibolhijoaaRxFirst
namespace Go.Proofs.Ytakhpibolhijoaa
open Go.RowKit

theorem Fits_n (l : List Rx.It) (bs : List Bool) (n m : Nat) (ao bo : Option Addr) (c1 c2 : Nat) (w : World) (hl : AtL w ao (itCells l)) (hbl : AtL w bo (bls bs)) (hn : l.length = n) (hm : bs.length = m) (hnm : m = n) (hf : Rx.Fair l) (h : n ≤ 5000) :
    Calls Try.prog 19 #[.slice ao n c1, .slice bo m c2] w fun e w' => e = .returned (.bool (allOk l bs)) ∧ Below w.heap.size w w' := by
  subst hn hm
  exact Fits_any l bs ao bo c1 c2 w (AtIt.of hl) hbl hnm hf h
theorem places_n (l : List Rx.It) (bs : List Bool) (n m : Nat) (ao bo : Option Addr) (c1 c2 : Nat) (w : World) (hl : AtL w ao (itCells l)) (hbl : AtL w bo (bls bs)) (hn : l.length = n) (hm : bs.length = m) (hnm : m = n) (hf : Rx.Fair l) (h : n ≤ 5000) :
    Calls Try.prog 12 #[.slice ao n c1, .slice bo m c2] w fun e w' => ∃ v', e = .returned v' ∧ w'.ownsRow 0 3 1 v' (n + 1) (ints (Rx.pl 0 l bs)) ∧ (∀ k, inRow v' k → w.heap.size ≤ k) ∧ Below w.heap.size w w' := by
  subst hn hm
  exact places_any l bs ao bo c1 c2 w (AtIt.of hl) hbl hnm hf h
set_option maxHeartbeats 400000 in
theorem places_none (n m : Nat) (ao bo : Option Addr) (c1 c2 : Nat) (w : World) (h : n ≠ m) :
    Calls Try.prog 12 #[.slice ao n c1, .slice bo m c2] w fun e w' => e = .returned (.slice none 0 0) ∧ Below w.heap.size w w' := by
  have hne : ((n : Int) != (m : Int)) = true := by rw [bne_iff_ne]; omega
  clear h
  go_enter Try.func12, Try.ntmps12
  go_wp2
  go_ret
  exact ⟨rfl, Below.refl _ _⟩
theorem cells3_new (w : World) (x : Rx.It) (t : TypeId) : ∀ j u, (itCells [x])[j]? = some u → (w.alloc (.cells #[.int .i64 x.size, .int .i64 x.to_, .bool x.br] t)).cell? ((⟨w.heap.size, 0, none⟩ : Addr).add j) = some u := by
  intro j u hj
  rw [Addr.add_lit]
  obtain ⟨b, off, e, hc, -⟩ := atL_blk (vs := itCells [x]) (blk_new w (.cells #[.int .i64 x.size, .int .i64 x.to_, .bool x.br] t)) rfl j u hj
  cases e
  exact hc
theorem cells6_new (w : World) (x y : Rx.It) (t : TypeId) : ∀ j u, (itCells [x, y])[j]? = some u → (w.alloc (.cells #[.int .i64 x.size, .int .i64 x.to_, .bool x.br, .int .i64 y.size, .int .i64 y.to_, .bool y.br] t)).cell? ((⟨w.heap.size, 0, none⟩ : Addr).add j) = some u := by
  intro j u hj
  rw [Addr.add_lit]
  obtain ⟨b, off, e, hc, -⟩ := atL_blk (vs := itCells [x, y]) (blk_new w (.cells #[.int .i64 x.size, .int .i64 x.to_, .bool x.br, .int .i64 y.size, .int .i64 y.to_, .bool y.br] t)) rfl j u hj
  cases e
  exact hc
end Go.Proofs.Ytakhpibolhijoaa
