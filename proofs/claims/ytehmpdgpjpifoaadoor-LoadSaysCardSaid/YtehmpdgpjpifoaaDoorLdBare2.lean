/-
  load.CPU, bare.New, load.Bare.
-/
import Derived.Test.YtehmpdgpjpifoaaDoorLdBare
import Derived.Test.YtehmpdgpjpifoaaDoorMm2
import Derived.Test.YtehmpdgpjpifoaaDoorTrap
import Derived.Laws.CopyRow
import Derived.Laws.CopyOwn
namespace Go.Proofs.YtehmpdgpjpifoaaDoor
open Go.RowKit

/-- the processor at the beginning -/
def ldC (e q Q : Int) : Cpu := { r := [0, q, Q, 0, 0, 0, 0, 0, 0, 0, 0, 0, 0, 0, 0, 0], hr := rfl, pc := e, ie := false, eie := false, epc := 0, tv := 0, cause := 0, addr := 0 }
theorem ldC_cells (e q Q : Int) : #[.int .u32 0, .int .u32 q, .int .u32 Q, .int .u32 0, .int .u32 0, .int .u32 0, .int .u32 0, .int .u32 0, .int .u32 0, .int .u32 0, .int .u32 0, .int .u32 0, .int .u32 0, .int .u32 0, .int .u32 0, .int .u32 0, .int .u32 e, .bool false, .bool false, .int .u32 0, .int .u32 0, .int .u32 0, .int .u32 0] = cpuCells (ldC e q Q) := rfl

set_option maxRecDepth 100000 in
set_option maxHeartbeats 3200000 in
theorem cpu_any (e : Int) (a1 a2 : Option Addr) (d c k1 k2 : Nat) (rv pv sv : Value) (q0 q Q : Int) (w : World) (hd : d ≤ 100000) (hq : IntKind.u32.wrap q0 = q) (hQ : (17 : Int) + ((pg d : Nat) : Int) = Q) :
    Calls Tryd.prog 27 #[.agg #[.int .u32 e, .slice a1 d k1, .slice a2 c k2, rv, pv, sv], .int .i64 q0] w fun x w' => x = .returned (.agg (cpuCells (ldC e q Q))) ∧ Below w.heap.size w w' := by
  have HQT := Lib.hid (fun wx => quota_any e a1 a2 d k1 c k2 rv pv sv wx hd)
  have hpg : pg d ≤ 100000 := by unfold pg; omega
  have hwQ := IntWalk.u32_in Q (by omega)
  rw [hQ] at HQT
  clear hd hQ hpg
  have ho1 : allOne #[.int .u32 0, .int .u32 0, .int .u32 0, .int .u32 0, .int .u32 0, .int .u32 0, .int .u32 0, .int .u32 0, .int .u32 0, .int .u32 0, .int .u32 0, .int .u32 0, .int .u32 0, .int .u32 0, .int .u32 0, .int .u32 0, .int .u32 e, .bool false, .bool false, .int .u32 0, .int .u32 0, .int .u32 0, .int .u32 0] = true := by simp [allOne, Value.oneCell']
  have ho2 : allOne #[.int .u32 0, .int .u32 q, .int .u32 Q, .int .u32 0, .int .u32 0, .int .u32 0, .int .u32 0, .int .u32 0, .int .u32 0, .int .u32 0, .int .u32 0, .int .u32 0, .int .u32 0, .int .u32 0, .int .u32 0, .int .u32 0, .int .u32 e, .bool false, .bool false, .int .u32 0, .int .u32 0, .int .u32 0, .int .u32 0] = true := by simp [allOne, Value.oneCell']
  go_enter Tryd.func27, Tryd.ntmps27
  go_wp2_with fail
  refine (HQT.out _).mono ?_
  rintro x w1 ⟨rfl, hb1⟩
  have hk2 : w1.heap[w.heap.size + 1 + 1]? = some (.cells #[.int .u32 0, .int .u32 0, .int .u32 0, .int .u32 0, .int .u32 0, .int .u32 0, .int .u32 0, .int .u32 0, .int .u32 0, .int .u32 0, .int .u32 0, .int .u32 0, .int .u32 0, .int .u32 0, .int .u32 0, .int .u32 0, .int .u32 e, .bool false, .bool false, .int .u32 0, .int .u32 0, .int .u32 0, .int .u32 0] 59 (0, 0)) := by
    rw [hb1.block _ (by simp)]
    have := blk_new ((w.alloc (.cells #[.int .u32 e, .slice a1 d k1, .slice a2 c k2, rv, pv, sv] 28)).alloc (.cells #[.int .u32 0, .int .u32 0, .int .u32 0, .int .u32 0, .int .u32 0, .int .u32 0, .int .u32 0, .int .u32 0, .int .u32 0, .int .u32 0, .int .u32 0, .int .u32 0, .int .u32 0, .int .u32 0, .int .u32 0, .int .u32 0, .int .u32 0, .bool false, .bool false, .int .u32 0, .int .u32 0, .int .u32 0, .int .u32 0] 59)) (.cells #[.int .u32 0, .int .u32 0, .int .u32 0, .int .u32 0, .int .u32 0, .int .u32 0, .int .u32 0, .int .u32 0, .int .u32 0, .int .u32 0, .int .u32 0, .int .u32 0, .int .u32 0, .int .u32 0, .int .u32 0, .int .u32 0, .int .u32 e, .bool false, .bool false, .int .u32 0, .int .u32 0, .int .u32 0, .int .u32 0] 59)
    simpa using this
  have hk1 : w1.heap[w.heap.size + 1]? = some (.cells #[.int .u32 0, .int .u32 0, .int .u32 0, .int .u32 0, .int .u32 0, .int .u32 0, .int .u32 0, .int .u32 0, .int .u32 0, .int .u32 0, .int .u32 0, .int .u32 0, .int .u32 0, .int .u32 0, .int .u32 0, .int .u32 0, .int .u32 0, .bool false, .bool false, .int .u32 0, .int .u32 0, .int .u32 0, .int .u32 0] 59 (0, 0)) := by
    rw [hb1.block _ (by simp)]
    have := blk_old (blk_new (w.alloc (.cells #[.int .u32 e, .slice a1 d k1, .slice a2 c k2, rv, pv, sv] 28)) (.cells #[.int .u32 0, .int .u32 0, .int .u32 0, .int .u32 0, .int .u32 0, .int .u32 0, .int .u32 0, .int .u32 0, .int .u32 0, .int .u32 0, .int .u32 0, .int .u32 0, .int .u32 0, .int .u32 0, .int .u32 0, .int .u32 0, .int .u32 0, .bool false, .bool false, .int .u32 0, .int .u32 0, .int .u32 0, .int .u32 0] 59)) (.cells #[.int .u32 0, .int .u32 0, .int .u32 0, .int .u32 0, .int .u32 0, .int .u32 0, .int .u32 0, .int .u32 0, .int .u32 0, .int .u32 0, .int .u32 0, .int .u32 0, .int .u32 0, .int .u32 0, .int .u32 0, .int .u32 0, .int .u32 e, .bool false, .bool false, .int .u32 0, .int .u32 0, .int .u32 0, .int .u32 0] 59)
    simpa using this
  have HB1 : Hid (Below w.heap.size w w1) := Lib.hid ((((Below.refl _ _).alloc (Nat.le_refl _) _).alloc (by simp) _).alloc (by simp <;> omega) _ |>.trans (hb1.mono (by simp <;> omega)))
  have HK1 := Lib.hid hk1
  have f1 := blk_free hk2 1
  have f2 := blk_free hk2 2
  have z1 := blk_cell hk2 1
  have z2 := blk_cell hk2 2
  have r1 := row?_of hk1
  have r2 := row?_of hk2
  have l1 := blk_lt hk1
  have l2 := blk_lt hk2
  clear hb1 hk1 hk2
  go_wp2
  have hks : ((w1.setCell ⟨w.heap.size + 1 + 1, 1, none⟩ (.int .u32 q)).setCell ⟨w.heap.size + 1 + 1, 2, none⟩ (.int .u32 Q)).heap[w.heap.size + 1]? = some (.cells #[.int .u32 0, .int .u32 0, .int .u32 0, .int .u32 0, .int .u32 0, .int .u32 0, .int .u32 0, .int .u32 0, .int .u32 0, .int .u32 0, .int .u32 0, .int .u32 0, .int .u32 0, .int .u32 0, .int .u32 0, .int .u32 0, .int .u32 0, .bool false, .bool false, .int .u32 0, .int .u32 0, .int .u32 0, .int .u32 0] 59 (0, 0)) := blk_set (blk_set HK1.out (by show ¬ w.heap.size + 1 = w.heap.size + 1 + 1; omega) _) (by show ¬ w.heap.size + 1 = w.heap.size + 1 + 1; omega) _
  have hkF := setRow_heap _ _ _ #[.int .u32 0, .int .u32 q, .int .u32 Q, .int .u32 0, .int .u32 0, .int .u32 0, .int .u32 0, .int .u32 0, .int .u32 0, .int .u32 0, .int .u32 0, .int .u32 0, .int .u32 0, .int .u32 0, .int .u32 0, .int .u32 0, .int .u32 e, .bool false, .bool false, .int .u32 0, .int .u32 0, .int .u32 0, .int .u32 0] _ _ hks
  have HBF : Hid (Below w.heap.size w (((w1.setCell ⟨w.heap.size + 1 + 1, 1, none⟩ (.int .u32 q)).setCell ⟨w.heap.size + 1 + 1, 2, none⟩ (.int .u32 Q)).setRow (w.heap.size + 1) #[.int .u32 0, .int .u32 q, .int .u32 Q, .int .u32 0, .int .u32 0, .int .u32 0, .int .u32 0, .int .u32 0, .int .u32 0, .int .u32 0, .int .u32 0, .int .u32 0, .int .u32 0, .int .u32 0, .int .u32 0, .int .u32 0, .int .u32 e, .bool false, .bool false, .int .u32 0, .int .u32 0, .int .u32 0, .int .u32 0])) := Lib.hid (below_setRow ((HB1.out.setCell (p := ⟨w.heap.size + 1 + 1, 1, none⟩) (by simp <;> omega) _).setCell (p := ⟨w.heap.size + 1 + 1, 2, none⟩) (by simp <;> omega) _) (by omega) _)
  generalize ((w1.setCell ⟨w.heap.size + 1 + 1, 1, none⟩ (.int .u32 q)).setCell ⟨w.heap.size + 1 + 1, 2, none⟩ (.int .u32 Q)).setRow (w.heap.size + 1) #[.int .u32 0, .int .u32 q, .int .u32 Q, .int .u32 0, .int .u32 0, .int .u32 0, .int .u32 0, .int .u32 0, .int .u32 0, .int .u32 0, .int .u32 0, .int .u32 0, .int .u32 0, .int .u32 0, .int .u32 0, .int .u32 0, .int .u32 e, .bool false, .bool false, .int .u32 0, .int .u32 0, .int .u32 0, .int .u32 0] = wF at hkF HBF ⊢
  have hrow : row? wF (w.heap.size + 1) = some (cpuCells (ldC e q Q)) := (row?_of hkF).trans (congrArg some (ldC_cells e q Q))
  exact bodyPost_ret (cpu_ret (c := ldC e q Q) rfl rfl hrow) rfl ⟨rfl, HBF.out⟩
end Go.Proofs.YtehmpdgpjpifoaaDoor
