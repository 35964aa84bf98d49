/-
  facadelaw4.first; AluShifts' shift.
-/
import Derived.Test.YtikioeddilgbpaaAlu7
namespace Go.Proofs.Ytikioeddilgbpaa
open Go.RowKit

set_option linter.unusedSimpArgs false
def r57 : List Int := [0, 0, 5, 7, 0, 0, 0, 0, 0, 0, 0, 0, 0, 0, 0, 0]
def r57d : List Int := [0, 12, 5, 7, 0, 0, 0, 0, 0, 0, 0, 0, 0, 0, 0, 0]
theorem wok_add : wok ⟨3, 1, 2, 3, 0⟩ = true := by decide
set_option maxRecDepth 100000 in
set_option maxHeartbeats 1600000 in
theorem alu_first (w : World) : Calls Try.prog 8 #[] w fun e w' => e = .returned (.bool true) ∧ Below w.heap.size w w' := by
  have HD : Hid (∀ wx, Calls Try.prog 10 #[insV ⟨3, 1, 2, 3, 0⟩, .agg (regCells r57)] wx fun e w' => e = .returned (.tuple #[.agg (regCells r57d), .bool true]) ∧ Below wx.heap.size wx w') := Lib.hid fun wx =>
    (do_any ⟨3, 1, 2, 3, 0⟩ r57 rfl (fun z hz => by simp [r57] at hz; unfold U32; omega) wx).mono fun e w' ⟨he, hb⟩ => ⟨by rw [he]; unfold aluV; rw [show aluR ⟨3, 1, 2, 3, 0⟩ r57 = (r57d, true) from aluR_fn (ia := 1) (ib := 2) (ic := 3) wok_add (by decide)], hb⟩
  have hz : (regCells r57).size = 16 := rfl
  have hz2 : (regCells r57d).size = 16 := rfl
  have hz3 : (regCells r57d)[1]? = some (.int .u32 12) := rfl
  have hz4 : ∀ h : 1 < (regCells r57d).size, (regCells r57d)[1] = .int .u32 12 := fun _ => rfl
  go_enter Try.func8, Try.ntmps8
  go_wp2_with fail
  refine (HD.out _).mono ?_
  rintro e w1 ⟨rfl, hb1⟩
  have HB : Hid (∀ o : Obj, Below w.heap.size w (w1.alloc o)) := Lib.hid fun o => by
    have := ((Below.refl w.heap.size w).alloc (Nat.le_refl _) (.cells (regCells r57) 24)).trans (hb1.mono (by simp))
    exact this.alloc this.size o
  clear hb1
  go_wp2
  trace_state
  go_ret
  exact ⟨rfl, HB.out _⟩
end Go.Proofs.Ytikioeddilgbpaa
