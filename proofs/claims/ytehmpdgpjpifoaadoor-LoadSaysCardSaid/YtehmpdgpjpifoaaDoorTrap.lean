/-
  Contracts of trap.Enter, trap.Return, facaderef.SameRegs, SameCPU and their fellows of the document.
-/
import Derived.Test.YtehmpdgpjpifoaaDoorCpu
import Derived.Deep.QuietTactic
import Derived.BigQuiet
namespace Go.Proofs.YtehmpdgpjpifoaaDoor
open Go.RowKit

/-- a processor behind a trap that it takes -/
def enterS (c : Cpu) (cause addr : Int) : Cpu := { c with epc := c.pc, eie := c.ie, ie := false, cause := cause % 4294967296, addr := addr, pc := c.tv }
def returnS (c : Cpu) : Cpu := { c with pc := c.epc, ie := c.eie, epc := 0, eie := false }

theorem cpu_load {w : World} {g : Nat} {c : Cpu} (h : row? w g = some (cpuCells c)) : (loadVar 59 ⟨g, 0, none⟩).run Tryd.prog w = .ok (.agg (cpuCells c)) w := by
  have := run_load_by (P := Tryd.prog) 59 23 _ Tryd.underlying59 rfl infoCpu ⟨g, 0, none⟩ w
  rw [this, loadBy_lit, h]
  simp [cpuCells_size]
theorem cpu_ret {fn : Func} {p : Tmp} {tmps : Array Value} {w : World} {g : Nat} {c : Cpu} (hf : fn.results = #[.cell p 59]) (hp : tmps.getD p undef = .pointer (some ⟨g, 0, none⟩)) (h : row? w g = some (cpuCells c)) :
    (results fn tmps).run Tryd.prog w = .ok (.agg (cpuCells c)) w := by
  have hp' : tmps[p]?.getD undef = .pointer (some ⟨g, 0, none⟩) := by simpa using hp
  simp [results, hf, hp', asAddr, cpu_load h]
theorem cpu_ret_tmp {fn : Func} {p u : Tmp} {tmps : Array Value} {w : World} {g : Nat} {c : Cpu} (hf : fn.results = #[.cell p 59, .tmp u]) (hp : tmps.getD p undef = .pointer (some ⟨g, 0, none⟩)) (h : row? w g = some (cpuCells c)) :
    (results fn tmps).run Tryd.prog w = .ok (.tuple #[.agg (cpuCells c), tmps.getD u undef]) w := by
  rw [results_cell_tmp hf, hp]
  simp [asAddr, cpu_load h]

end Go.Proofs.YtehmpdgpjpifoaaDoor
