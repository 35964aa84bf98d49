/-
  Contracts of trap.Enter, trap.Return, facaderef.SameRegs, SameCPU and their fellows of the document.
-/
import Derived.Test.YtojbcefoofdpfaaCpu
import Derived.Deep.QuietTactic
import Derived.BigQuiet
namespace Go.Proofs.Ytojbcefoofdpfaa
open Go.RowKit

/-- a processor behind a trap that it takes -/
def enterS (c : Cpu) (cause addr : Int) : Cpu := { c with epc := c.pc, eie := c.ie, ie := false, cause := cause % 4294967296, addr := addr, pc := c.tv }
def returnS (c : Cpu) : Cpu := { c with pc := c.epc, ie := c.eie, epc := 0, eie := false }

theorem cpu_load {w : World} {g : Nat} {c : Cpu} (h : row? w g = some (cpuCells c)) : (loadVar 26 ⟨g, 0, none⟩).run Try.prog w = .ok (.agg (cpuCells c)) w := by
  have := run_load_by (P := Try.prog) 26 23 _ Try.underlying26 rfl infoCpu ⟨g, 0, none⟩ w
  rw [this, loadBy_lit, h]
  simp [cpuCells_size]
theorem cpu_ret {fn : Func} {p : Tmp} {tmps : Array Value} {w : World} {g : Nat} {c : Cpu} (hf : fn.results = #[.cell p 26]) (hp : tmps.getD p undef = .pointer (some ⟨g, 0, none⟩)) (h : row? w g = some (cpuCells c)) :
    (results fn tmps).run Try.prog w = .ok (.agg (cpuCells c)) w := by
  have hp' : tmps[p]?.getD undef = .pointer (some ⟨g, 0, none⟩) := by simpa using hp
  simp [results, hf, hp', asAddr, cpu_load h]
theorem cpu_ret_tmp {fn : Func} {p u : Tmp} {tmps : Array Value} {w : World} {g : Nat} {c : Cpu} (hf : fn.results = #[.cell p 26, .tmp u]) (hp : tmps.getD p undef = .pointer (some ⟨g, 0, none⟩)) (h : row? w g = some (cpuCells c)) :
    (results fn tmps).run Try.prog w = .ok (.tuple #[.agg (cpuCells c), tmps.getD u undef]) w := by
  rw [results_cell_tmp hf, hp]
  simp [asAddr, cpu_load h]

set_option maxHeartbeats 400000 in
theorem enter_yes (c : Cpu) (cause addr : Int) (w : World) (h : (c.tv == 0) = false) :
    Calls Try.prog 7 #[.agg (cpuCells c), .int .i64 cause, .int .u32 addr] w fun e w' => e = .returned (.tuple #[.agg (cpuCells (enterS c cause addr)), .bool true]) ∧ Below w.heap.size w w' := by
  go_enter Try.func7, Try.ntmps7
  go_wp2
  refine bodyPost_ret (cpu_ret_tmp (c := enterS c cause addr) rfl rfl (row?_alloc_at _ _ _ (by simp))) rfl ⟨rfl, ?_⟩
  exact ((Below.refl _ _).alloc (Nat.le_refl _) _).alloc (by simp) _

set_option maxHeartbeats 400000 in
theorem enter_no (c : Cpu) (cause addr : Int) (w : World) (h : c.tv = 0) :
    Calls Try.prog 7 #[.agg (cpuCells c), .int .i64 cause, .int .u32 addr] w fun e w' => e = .returned (.tuple #[.agg (cpuCells c), .bool false]) ∧ Below w.heap.size w w' := by
  go_enter Try.func7, Try.ntmps7
  go_wp2
  refine bodyPost_ret (cpu_ret_tmp (c := c) rfl rfl (row?_alloc_at _ _ _ (by simp))) rfl ⟨rfl, ?_⟩
  exact ((Below.refl _ _).alloc (Nat.le_refl _) _).alloc (by simp) _

set_option maxHeartbeats 400000 in
theorem return_any (c : Cpu) (w : World) :
    Calls Try.prog 14 #[.agg (cpuCells c)] w fun e w' => e = .returned (.agg (cpuCells (returnS c))) ∧ Below w.heap.size w w' := by
  go_enter Try.func14, Try.ntmps14
  go_wp2
  refine bodyPost_ret (cpu_ret (c := returnS c) rfl rfl (row?_alloc_at _ _ _ (by simp))) rfl ⟨rfl, ?_⟩
  exact ((Below.refl _ _).alloc (Nat.le_refl _) _).alloc (by simp) _

set_option maxHeartbeats 400000 in
theorem enter_yesR (c : Cpu) (cause addr : Int) (w : World) (h : (c.tv == 0) = false) :
    Calls Try.prog 8 #[.agg (cpuCells c), .int .i64 cause, .int .u32 addr] w fun e w' => e = .returned (.tuple #[.agg (cpuCells (enterS c cause addr)), .bool true]) ∧ Below w.heap.size w w' := by
  go_enter Try.func8, Try.ntmps8
  go_wp2
  refine bodyPost_ret (cpu_ret_tmp (c := enterS c cause addr) rfl rfl (row?_alloc_at _ _ _ (by simp))) rfl ⟨rfl, ?_⟩
  exact ((Below.refl _ _).alloc (Nat.le_refl _) _).alloc (by simp) _

set_option maxHeartbeats 400000 in
theorem enter_noR (c : Cpu) (cause addr : Int) (w : World) (h : c.tv = 0) :
    Calls Try.prog 8 #[.agg (cpuCells c), .int .i64 cause, .int .u32 addr] w fun e w' => e = .returned (.tuple #[.agg (cpuCells c), .bool false]) ∧ Below w.heap.size w w' := by
  go_enter Try.func8, Try.ntmps8
  go_wp2
  refine bodyPost_ret (cpu_ret_tmp (c := c) rfl rfl (row?_alloc_at _ _ _ (by simp))) rfl ⟨rfl, ?_⟩
  exact ((Below.refl _ _).alloc (Nat.le_refl _) _).alloc (by simp) _

set_option maxHeartbeats 400000 in
theorem return_anyR (c : Cpu) (w : World) :
    Calls Try.prog 15 #[.agg (cpuCells c)] w fun e w' => e = .returned (.agg (cpuCells (returnS c))) ∧ Below w.heap.size w w' := by
  go_enter Try.func15, Try.ntmps15
  go_wp2
  refine bodyPost_ret (cpu_ret (c := returnS c) rfl rfl (row?_alloc_at _ _ _ (by simp))) rfl ⟨rfl, ?_⟩
  exact ((Below.refl _ _).alloc (Nat.le_refl _) _).alloc (by simp) _

end Go.Proofs.Ytojbcefoofdpfaa
