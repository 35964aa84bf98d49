/-
  The first check of chapter 12; items made by append; Do at a slice of n items.
-/
import Derived.Test.YtakhpibolhijoaaRxDo
import Derived.Test.YtakhpibolhijoaaNumber
namespace Go.Proofs.Ytakhpibolhijoaa
open Go.RowKit

theorem infoIt : (Try.prog.info? 29).map (fun i => (i.zero, i.size, i.bytes)) = some (some (.agg #[.int .i64 0, .int .i64 0, .bool false]), 3, 24) := by kernel_rfl

theorem do_n (l : List Rx.It) (n : Nat) (ao : Option Addr) (c1 : Nat) (w : World) (hl : AtL w ao (itCells l)) (hn : l.length = n) (h : n ≤ 4096) :
    Calls Try.prog 10 #[.slice ao n c1] w (DoAns l w) := by
  subst hn
  exact do_any l ao c1 w (AtIt.of hl) h

/-- a block that holds items -/
theorem atL_blk {w : World} {b : Nat} {vs : List Value} {cs : Array Value} {t : TypeId} {fr : Nat × Nat} (h : w.heap[b]? = some (.cells cs t fr)) (e : cs.toList = vs) : AtL w (some ⟨b, 0, none⟩) vs := fun k u hk => by
  refine ⟨b, 0, rfl, ?_, blk_lt h⟩
  rw [Nat.zero_add, blk_cell h k, ← Array.getElem?_toList, e]
  exact hk

/-- what Do answers of a list is reckoned -/
def doIs (l : List Rx.It) (r : Nat) : Bool := decide (Rx.step l (Rx.it l r) = Rx.it l r) && (List.range r).all fun j => decide (Rx.step l (Rx.it l j) ≠ Rx.it l j)
theorem isDo_of {l : List Rx.It} {r : Nat} (h : doIs l r = true) : Rx.IsDo l (Rx.it l r) r := by
  simp only [doIs, Bool.and_eq_true, decide_eq_true_eq, List.all_eq_true, List.mem_range] at h
  exact ⟨rfl, h.1, fun j hj => h.2 j hj⟩
theorem do_known {l : List Rx.It} {r : Nat} (h : doIs l r = true) {a : List Bool} {k : Nat} (hd : Rx.IsDo l a k) : a = Rx.it l r ∧ k = r := hd.unique (isDo_of h)

theorem first_true (w : World) : Calls Try.prog 9 #[] w fun e w' => e = .returned (.bool true) ∧ Below w.heap.size w w' := by
  have hblk := blk_new w (.cells #[.int .i64 1, .int .i64 0, .bool true] 29)
  have HA := Lib.hid (atL_blk (vs := itCells [⟨1, 0, true⟩]) hblk rfl)
  have HB : Hid (Below w.heap.size w (w.alloc (.cells #[.int .i64 1, .int .i64 0, .bool true] 29))) := Lib.hid ((Below.refl _ _).alloc (Nat.le_refl _) _)
  clear hblk
  go_enter Try.func9, Try.ntmps9
  go_wp2_with fail
  refine (do_n [⟨1, 0, true⟩] 1 _ _ _ HA.out rfl (by decide)).mono ?_
  rintro e w1 ⟨-, hd⟩
  obtain ⟨v, a, k, rfl, hdo, hown, hf, hb⟩ := hd (by decide +kernel)
  obtain ⟨rfl, rfl⟩ := do_known (r := 0) (by decide +kernel) hdo
  obtain ⟨ao, cap, rfl, ha⟩ := atL_of_own hown
  obtain ⟨b, off, rfl, c0, -⟩ := ha 0 (.bool false) rfl
  rw [Nat.add_zero] at c0
  have HB2 := Lib.hid (HB.out.trans (hb.mono (by simp)))
  clear hdo hown hf hb ha hd
  go_wp2
  go_ret
  exact ⟨rfl, HB2.out⟩
end Go.Proofs.Ytakhpibolhijoaa
