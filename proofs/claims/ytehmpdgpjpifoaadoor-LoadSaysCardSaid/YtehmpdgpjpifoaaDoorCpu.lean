/-
  A processor's state: its cells, and how they are loaded and stored.
-/
import Derived.Test.YtehmpdgpjpifoaaDoorRows
import Derived.Test.YtehmpdgpjpifoaaDoorRow
namespace Go.Proofs.YtehmpdgpjpifoaaDoor
open Go Go.RowKit

/-- a processor's state -/
structure Cpu where
  r : List Int
  hr : r.length = 16
  pc : Int
  ie : Bool
  eie : Bool
  epc : Int
  tv : Int
  cause : Int
  addr : Int

def cpuTail (c : Cpu) : List Value := [.int .u32 c.pc, .bool c.ie, .bool c.eie, .int .u32 c.epc, .int .u32 c.tv, .int .u32 c.cause, .int .u32 c.addr]
def cpuCells (c : Cpu) : Array Value := (u32s c.r ++ cpuTail c).toArray

theorem u32s_length (c : Cpu) : (u32s c.r).length = 16 := by simp [u32s, c.hr]
@[go_sem] theorem cpuCells_size (c : Cpu) : (cpuCells c).size = 23 := by simp [cpuCells, u32s, c.hr, cpuTail]
@[go_sem] theorem cpuCells_one (c : Cpu) : allOne (cpuCells c) = true := by
  unfold allOne
  rw [Array.all_eq_true']
  intro u hu
  simp only [cpuCells, List.mem_toArray, List.mem_append] at hu
  rcases hu with hu | hu
  · exact u32s_one _ u hu
  · simp only [cpuTail, List.mem_cons, List.not_mem_nil, or_false] at hu
    rcases hu with rfl | rfl | rfl | rfl | rfl | rfl | rfl <;> rfl
def regCells (r : List Int) : Array Value := (u32s r).toArray
@[go_sem] theorem regCells_size (c : Cpu) : (regCells c.r).size = 16 := by simp [regCells, u32s, c.hr]
@[go_sem] theorem regCells_one (r : List Int) : allOne (regCells r) = true := by
  unfold allOne
  rw [Array.all_eq_true']
  intro u hu
  exact u32s_one r u (by simpa [regCells] using hu)
theorem regCells_get (r : List Int) (i : Nat) (h : i < r.length) : (regCells r)[i]? = some (.int .u32 (r.getD i 0)) := by
  simp [regCells, u32s, h]
@[go_sem] theorem cpuCells_regs (c : Cpu) : (cpuCells c).extract 0 16 = regCells c.r := by
  unfold regCells
  have h := u32s_length c
  simp [cpuCells, List.take_append, h]
theorem cpuCells_reg (c : Cpu) (i : Nat) (h : i < 16) : (cpuCells c)[i]? = some (.int .u32 (c.r.getD i 0)) := by
  have hl := c.hr
  simp [cpuCells, u32s, List.getElem?_append_left, hl, h]
def cpuSetReg (c : Cpu) (i : Nat) (x : Int) : Cpu := { c with r := c.r.set i x, hr := by simp [c.hr] }
theorem cpuCells_setReg (c : Cpu) (i : Nat) (x : Int) (h : i < 16) : (cpuCells c).setIfInBounds i (.int .u32 x) = cpuCells (cpuSetReg c i x) := by
  have hl := c.hr
  simp [cpuCells, cpuSetReg, u32s, List.set_append_left, hl, h, List.map_set, cpuTail]
@[go_sem] theorem cpuCells_pc (c : Cpu) : (cpuCells c)[16]? = some (.int .u32 c.pc) := by
  have h := u32s_length c
  simp [cpuCells, List.getElem?_append_right, h, cpuTail]
@[go_sem] theorem cpuCells_set_pc (c : Cpu) (x : Int) : (cpuCells c).setIfInBounds 16 (.int .u32 x) = cpuCells { c with pc := x } := by
  have h := u32s_length c
  simp [cpuCells, List.set_append_right, h, cpuTail]
@[go_sem] theorem cpuCells_ie (c : Cpu) : (cpuCells c)[17]? = some (.bool c.ie) := by
  have h := u32s_length c
  simp [cpuCells, List.getElem?_append_right, h, cpuTail]
@[go_sem] theorem cpuCells_set_ie (c : Cpu) (x : Bool) : (cpuCells c).setIfInBounds 17 (.bool x) = cpuCells { c with ie := x } := by
  have h := u32s_length c
  simp [cpuCells, List.set_append_right, h, cpuTail]
@[go_sem] theorem cpuCells_eie (c : Cpu) : (cpuCells c)[18]? = some (.bool c.eie) := by
  have h := u32s_length c
  simp [cpuCells, List.getElem?_append_right, h, cpuTail]
@[go_sem] theorem cpuCells_set_eie (c : Cpu) (x : Bool) : (cpuCells c).setIfInBounds 18 (.bool x) = cpuCells { c with eie := x } := by
  have h := u32s_length c
  simp [cpuCells, List.set_append_right, h, cpuTail]
@[go_sem] theorem cpuCells_epc (c : Cpu) : (cpuCells c)[19]? = some (.int .u32 c.epc) := by
  have h := u32s_length c
  simp [cpuCells, List.getElem?_append_right, h, cpuTail]
@[go_sem] theorem cpuCells_set_epc (c : Cpu) (x : Int) : (cpuCells c).setIfInBounds 19 (.int .u32 x) = cpuCells { c with epc := x } := by
  have h := u32s_length c
  simp [cpuCells, List.set_append_right, h, cpuTail]
@[go_sem] theorem cpuCells_tv (c : Cpu) : (cpuCells c)[20]? = some (.int .u32 c.tv) := by
  have h := u32s_length c
  simp [cpuCells, List.getElem?_append_right, h, cpuTail]
@[go_sem] theorem cpuCells_set_tv (c : Cpu) (x : Int) : (cpuCells c).setIfInBounds 20 (.int .u32 x) = cpuCells { c with tv := x } := by
  have h := u32s_length c
  simp [cpuCells, List.set_append_right, h, cpuTail]
@[go_sem] theorem cpuCells_cause (c : Cpu) : (cpuCells c)[21]? = some (.int .u32 c.cause) := by
  have h := u32s_length c
  simp [cpuCells, List.getElem?_append_right, h, cpuTail]
@[go_sem] theorem cpuCells_set_cause (c : Cpu) (x : Int) : (cpuCells c).setIfInBounds 21 (.int .u32 x) = cpuCells { c with cause := x } := by
  have h := u32s_length c
  simp [cpuCells, List.set_append_right, h, cpuTail]
@[go_sem] theorem cpuCells_addr (c : Cpu) : (cpuCells c)[22]? = some (.int .u32 c.addr) := by
  have h := u32s_length c
  simp [cpuCells, List.getElem?_append_right, h, cpuTail]
@[go_sem] theorem cpuCells_set_addr (c : Cpu) (x : Int) : (cpuCells c).setIfInBounds 22 (.int .u32 x) = cpuCells { c with addr := x } := by
  have h := u32s_length c
  simp [cpuCells, List.set_append_right, h, cpuTail]

@[go_sem] theorem cpuCells_get_pc (c : Cpu) (h : 16 < (cpuCells c).size) : (cpuCells c)[16] = .int .u32 c.pc := Option.some.inj ((Array.getElem?_eq_getElem h).symm.trans (cpuCells_pc c))
@[go_sem] theorem cpuCells_get_ie (c : Cpu) (h : 17 < (cpuCells c).size) : (cpuCells c)[17] = .bool c.ie := Option.some.inj ((Array.getElem?_eq_getElem h).symm.trans (cpuCells_ie c))
@[go_sem] theorem cpuCells_get_eie (c : Cpu) (h : 18 < (cpuCells c).size) : (cpuCells c)[18] = .bool c.eie := Option.some.inj ((Array.getElem?_eq_getElem h).symm.trans (cpuCells_eie c))
@[go_sem] theorem cpuCells_get_epc (c : Cpu) (h : 19 < (cpuCells c).size) : (cpuCells c)[19] = .int .u32 c.epc := Option.some.inj ((Array.getElem?_eq_getElem h).symm.trans (cpuCells_epc c))
@[go_sem] theorem cpuCells_get_tv (c : Cpu) (h : 20 < (cpuCells c).size) : (cpuCells c)[20] = .int .u32 c.tv := Option.some.inj ((Array.getElem?_eq_getElem h).symm.trans (cpuCells_tv c))
@[go_sem] theorem cpuCells_get_cause (c : Cpu) (h : 21 < (cpuCells c).size) : (cpuCells c)[21] = .int .u32 c.cause := Option.some.inj ((Array.getElem?_eq_getElem h).symm.trans (cpuCells_cause c))
@[go_sem] theorem cpuCells_get_addr (c : Cpu) (h : 22 < (cpuCells c).size) : (cpuCells c)[22] = .int .u32 c.addr := Option.some.inj ((Array.getElem?_eq_getElem h).symm.trans (cpuCells_addr c))
theorem cpuCells_get_reg (c : Cpu) (i : Nat) (h : i < (cpuCells c).size) (h16 : i < 16) : (cpuCells c)[i] = .int .u32 (c.r.getD i 0) := Option.some.inj ((Array.getElem?_eq_getElem h).symm.trans (cpuCells_reg c i h16))
theorem infoCpu : (Tryd.prog.info? 59).map (·.size) = some 23 := by kernel_rfl
theorem infoRegs : (Tryd.prog.info? 57).map (·.size) = some 16 := by kernel_rfl
@[go_sem ↓] theorem load_cpu (a : Addr) : loadVar 59 a = loadT 59 a := rfl
@[go_sem] theorem run_load_cpu (a : Addr) (w : World) : (loadT 59 a).run Tryd.prog w = loadBy 23 a w (origLoad Tryd.prog 59 a w) := run_load_by _ 23 _ Tryd.underlying59 rfl infoCpu a w
@[go_sem ↓] theorem store_cpu (a : Addr) (v : Value) : storeVar 59 a v = storeT 59 a v := rfl
@[go_sem] theorem run_store_cpu (a : Addr) (v : Value) (w : World) : (storeT 59 a v).run Tryd.prog w = storeBy 23 a v w (origStore Tryd.prog 59 a v w) := run_store_by _ 23 infoCpu a v w
@[go_sem ↓] theorem load_regs (a : Addr) : loadVar 57 a = loadT 57 a := rfl
@[go_sem] theorem run_load_regs (a : Addr) (w : World) : (loadT 57 a).run Tryd.prog w = loadBy 16 a w (origLoad Tryd.prog 57 a w) := run_load_by _ 16 _ Tryd.underlying57 rfl infoRegs a w
@[go_sem ↓] theorem store_regs (a : Addr) (v : Value) : storeVar 57 a v = storeT 57 a v := rfl
@[go_sem] theorem run_store_regs (a : Addr) (v : Value) (w : World) : (storeT 57 a v).run Tryd.prog w = storeBy 16 a v w (origStore Tryd.prog 57 a v w) := run_store_by _ 16 infoRegs a v w
end Go.Proofs.YtehmpdgpjpifoaaDoor
