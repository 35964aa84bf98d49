/-
  facaderef.SameRegs, SameCPU.
-/
import Derived.Test.YtehmpdgpjpifoaaDoorTrap
namespace Go.Proofs.YtehmpdgpjpifoaaDoor
open Go.RowKit

/-- the first k registers are the same; both lie in memory -/
def SameTo (ra rb : List Int) (w : World) (i : Value) (wr : World) : Prop :=
  ∃ k : Nat, k ≤ 16 ∧ i = .int .i64 k ∧ (∀ j, j < k → ra.getD j 0 = rb.getD j 0) ∧ wr.heap[w.heap.size]? = some (.cells (regCells ra) 57 (0, 0)) ∧ wr.heap[w.heap.size + 1]? = some (.cells (regCells rb) 57 (0, 0)) ∧ Below w.heap.size w wr
theorem list16_eq {a b : List Int} (ha : a.length = 16) (hb : b.length = 16) (h : ∀ j, j < 16 → a.getD j 0 = b.getD j 0) : a = b := by
  apply List.ext_getElem (by omega)
  intro i h1 h2
  have := h i (by omega)
  simpa [List.getD_eq_getElem?_getD, h1, h2] using this

set_option maxHeartbeats 800000 in
theorem regs_same (ra rb : List Int) (ha : ra.length = 16) (hb : rb.length = 16) (w : World) :
    Calls Tryd.prog 40 #[.agg (regCells ra), .agg (regCells rb)] w fun e w' => e = .returned (.bool (decide (ra = rb))) ∧ Below w.heap.size w w' := by
  have HA := Lib.hid ha
  have HB := Lib.hid hb
  clear ha hb
  go_enter Tryd.func40, Tryd.ntmps40
  go_wp2
  go_loopw [5] (fun i wr => SameTo ra rb w i wr) (fun i _ => 16 - (intOf i).toNat)
  case atStart =>
    refine ⟨0, by omega, rfl, fun j hj => by omega, blk_old (blk_new w _) _, ?_, by repeat (first | exact Below.refl _ _ | refine Below.alloc ?_ (by simp) _)⟩
    have := blk_new (w.alloc (.cells (regCells ra) 57)) (.cells (regCells rb) 57)
    simpa using this
  case round =>
    obtain ⟨k, hk, rfl, hs, h1, h2, hbw⟩ := hrel
    by_cases hlt : k < 16
    · have c1 : wr.cell? ⟨w.heap.size, k, none⟩ = some (.int .u32 (ra.getD k 0)) := (blk_cell h1 k).trans (regCells_get ra k (by rw [HA.out]; exact hlt))
      have c2 : wr.cell? ⟨w.heap.size + 1, k, none⟩ = some (.int .u32 (rb.getD k 0)) := (blk_cell h2 k).trans (regCells_get rb k (by rw [HB.out]; exact hlt))
      obtain ⟨x, hx⟩ : ∃ x, ra.getD k 0 = x := ⟨_, rfl⟩
      obtain ⟨y, hy⟩ : ∃ y, rb.getD k 0 = y := ⟨_, rfl⟩
      rw [hx] at c1
      rw [hy] at c2
      have HX := Lib.hid hx
      have HY := Lib.hid hy
      have HS := Lib.hid hs
      have H1 := Lib.hid h1
      have H2 := Lib.hid h2
      have HW := Lib.hid hbw
      have hki : (k : Int) < 16 := by omega
      clear hx hy hs h1 h2 hbw
      by_cases hxy : x = y
      · subst hxy
        go_wp2_with fail
        go_quiet (fail)
        go_wp2
        go_roundw
        case rel =>
          refine ⟨k + 1, by omega, by go_num, ?_, by exact H1.out, by exact H2.out, below_drewN HW.out _⟩
          intro j hj
          rcases Nat.lt_succ_iff_lt_or_eq.1 hj with h | rfl
          · exact HS.out j h
          · exact HX.out.trans HY.out.symm
        case measure => simp [intOf]; omega
      · have hne : (x != y) = true := by simp [hxy]
        go_wp2_with fail
        go_quiet (fail)
        go_wp2
        go_ret
        refine ⟨ret_bool ?_, below_drewN HW.out _⟩
        symm
        rw [decide_eq_false_iff_not]
        intro h
        subst h
        exact hxy (HX.out.symm.trans HY.out)
    · obtain rfl : k = 16 := by omega
      have HS := Lib.hid hs
      clear hs
      go_wp2
      go_ret
      refine ⟨ret_bool ?_, hbw⟩
      symm
      rw [decide_eq_true_eq]
      exact list16_eq HA.out HB.out HS.out

end Go.Proofs.YtehmpdgpjpifoaaDoor
