/-
  Contracts of trap.Enter, trap.Return, facaderef.SameRegs, SameCPU and their fellows of the document.
-/
import Derived.Test.YtikioeddilgbpaaCpu
import Derived.Deep.QuietTactic
import Derived.BigQuiet
namespace Go.Proofs.Ytikioeddilgbpaa
open Go.RowKit

/-- a processor behind a trap that it takes -/
def enterS (c : Cpu) (cause addr : Int) : Cpu := { c with epc := c.pc, eie := c.ie, ie := false, cause := cause % 4294967296, addr := addr, pc := c.tv }
def returnS (c : Cpu) : Cpu := { c with pc := c.epc, ie := c.eie, epc := 0, eie := false }

end Go.Proofs.Ytikioeddilgbpaa
