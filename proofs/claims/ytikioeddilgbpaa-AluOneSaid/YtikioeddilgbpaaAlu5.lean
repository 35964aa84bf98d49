/-
  Chapter 4: alu.Do.
-/
import Derived.Test.YtikioeddilgbpaaAlu4
namespace Go.Proofs.Ytikioeddilgbpaa
open Go.RowKit

set_option linter.unusedSimpArgs false
theorem infoRg : (Try.prog.info? 24).map (·.size) = some 16 := by kernel_rfl
@[go_sem ↓] theorem load_rg (a : Addr) : loadVar 24 a = loadT 24 a := rfl
@[go_sem] theorem run_load_rg (a : Addr) (w : World) : (loadT 24 a).run Try.prog w = loadBy 16 a w (origLoad Try.prog 24 a w) := run_load_by _ 16 _ Try.underlying24 rfl infoRg a w
@[go_sem ↓] theorem store_rg (a : Addr) (v : Value) : storeVar 24 a v = storeT 24 a v := rfl
@[go_sem] theorem run_store_rg (a : Addr) (v : Value) (w : World) : (storeT 24 a v).run Try.prog w = storeBy 16 a v w (origStore Try.prog 24 a v w) := run_store_by _ 16 infoRg a v w
theorem regs_load {w : World} {g : Nat} {r : List Int} (hr : r.length = 16) (h : row? w g = some (regCells r)) : (loadVar 24 ⟨g, 0, none⟩).run Try.prog w = .ok (.agg (regCells r)) w := by
  have := run_load_by (P := Try.prog) 24 16 _ Try.underlying24 rfl infoRg ⟨g, 0, none⟩ w
  rw [this, loadBy_lit, h]
  simp [regCells, u32s, hr]
theorem regs_ret_tmp {fn : Func} {p u : Tmp} {tmps : Array Value} {w : World} {g : Nat} {r : List Int} (hr : r.length = 16) (hf : fn.results = #[.cell p 24, .tmp u]) (hp : tmps.getD p undef = .pointer (some ⟨g, 0, none⟩)) (h : row? w g = some (regCells r)) :
    (results fn tmps).run Try.prog w = .ok (.tuple #[.agg (regCells r), tmps.getD u undef]) w := by
  rw [results_cell_tmp hf, hp]
  simp [asAddr, regs_load hr h]
theorem row?_setRow {w : World} {g : Nat} {cs old : Array Value} (h : row? w g = some old) : row? (w.setRow g cs) g = some cs := by
  obtain ⟨t, hg⟩ := of_row? h
  exact row?_of (t := t) (by simp [World.setRow, Array.getElem?_modify, hg])
theorem row?_setRow_other {w : World} {g k : Nat} {cs : Array Value} (h : k ≠ g) : row? (w.setRow g cs) k = row? w k := by
  have h' : ¬ g = k := fun e => h e.symm
  simp [row?, World.setRow, Array.getElem?_modify, h']
theorem below_setRow {B : Nat} {a w : World} {g : Nat} {cs : Array Value} (h : Below B a w) (hg : B ≤ g) : Below B a (w.setRow g cs) :=
  ⟨h.os, h.tape, h.output, by simp only [World.setRow, Array.size_modify]; exact h.size, fun k hk => by
    have : ¬ g = k := by omega
    simp only [World.setRow, Array.getElem?_modify, this, if_false]
    exact h.block k hk⟩
def zr : List Int := [0, 0, 0, 0, 0, 0, 0, 0, 0, 0, 0, 0, 0, 0, 0, 0]
def aluR (i : Ins) (r : List Int) : List Int × Bool :=
  if wok i = true then (if i.op = 14 ∨ i.op = 15 then (r.set i.a.toNat i.imm, true) else if i.op ∈ lkR then (r.set i.a.toNat (rk i.op (r.getD i.b.toNat 0) (r.getD (i.c % 16).toNat 0)), true) else if i.op = 1 then (r, true) else (zr, false)) else (zr, false)
theorem opk_low (op : Int) : ((opk op).1 = 0 ∨ (opk op).1 = 1) ∧ ((opk op).2.1 = 0 ∨ (opk op).2.1 = 1) := by
  unfold opk
  repeat' split
  all_goals decide
theorem fit_le {n k m : Int} (h : fit n k = true) (hm : most k ≤ m) : 0 ≤ n ∧ n ≤ m := by
  unfold fit at h
  simp only [Bool.and_eq_true, decide_eq_true_eq] at h
  omega
theorem wok_in {i : Ins} (h : wok i = true) : (0 ≤ i.a ∧ i.a ≤ 15) ∧ (0 ≤ i.b ∧ i.b ≤ 15) ∧ (0 ≤ i.c ∧ i.c ≤ 255) := by
  unfold wok at h
  simp only [Bool.and_eq_true] at h
  obtain ⟨⟨⟨⟨-, ha⟩, hb⟩, hc⟩, -⟩ := h
  obtain ⟨h1, h2⟩ := opk_low i.op
  obtain ⟨-, -, h3⟩ := opk_kind i.op
  refine ⟨fit_le ha ?_, fit_le hb ?_, fit_le hc ?_⟩
  · rcases h1 with h | h <;> rw [h] <;> decide
  · rcases h2 with h | h <;> rw [h] <;> decide
  · rcases h3 with h | h | h <;> rw [h] <;> decide
theorem wok_cls {i : Ins} (h : wok i = true) : cls i.op ≠ 0 := by
  unfold wok at h
  intro e
  rw [e] at h
  simp at h

@[go_sem] theorem one_zr : allOne #[.int .u32 0, .int .u32 0, .int .u32 0, .int .u32 0, .int .u32 0, .int .u32 0, .int .u32 0, .int .u32 0, .int .u32 0, .int .u32 0, .int .u32 0, .int .u32 0, .int .u32 0, .int .u32 0, .int .u32 0, .int .u32 0] = true := regCells_one zr
set_option maxRecDepth 100000 in
set_option maxHeartbeats 4000000 in
theorem do_bad (i : Ins) (r : List Int) (hl : r.length = 16) (w : World) (hno : wok i = false) : Calls Try.prog 10 #[insV i, .agg (regCells r)] w fun e w' => e = .returned (.tuple #[.agg (regCells zr), .bool false]) ∧ Below w.heap.size w w' := by
  obtain ⟨op, a, b, c, imm⟩ := i
  have HL : Hid (row? (((w.alloc (.cells #[.int .i64 op, .int .i64 a, .int .i64 b, .int .i64 c, .int .u32 imm] 29)).alloc (.cells (regCells r) 24)).alloc (.cells (regCells zr) 24)) (w.heap.size + 2) = some (regCells zr)) := Lib.hid (row?_alloc_at _ _ _ (by simp))
  have HNO := Lib.hid hno
  have hsz : (regCells r).size = 16 := by simp [regCells, u32s, hl]
  clear hno
  go_enter Try.func10, Try.ntmps10
  go_wp2_with fail
  refine (word_any ⟨op, a, b, c, imm⟩ _).mono ?_
  rintro e w1 ⟨u, rfl, hb1⟩
  rw [HNO.out]
  have HB : Hid (Below w.heap.size w w1) := Lib.hid ((((Below.refl w.heap.size w).alloc (Nat.le_refl _) _).alloc (by simp) _ |>.alloc (by simp; omega) _).trans (hb1.mono (by simp; omega)))
  have hz : row? w1 (w.heap.size + 2) = some (regCells zr) := by
    have e : w1.heap[w.heap.size + 2]? = (((w.alloc (.cells #[.int .i64 op, .int .i64 a, .int .i64 b, .int .i64 c, .int .u32 imm] 29)).alloc (.cells (regCells r) 24)).alloc (.cells (regCells zr) 24)).heap[w.heap.size + 2]? := hb1.block _ (by simp)
    have := HL.out
    unfold row? at this ⊢
    rw [e]
    exact this
  rw [show w.heap.size + 2 = w.heap.size + 1 + 1 from rfl] at hz
  have hzs : (regCells zr).size = 16 := rfl
  clear hb1
  go_wp2
  refine bodyPost_ret (regs_ret_tmp (r := zr) rfl rfl rfl (row?_setRow hz)) rfl ⟨rfl, below_setRow HB.out (by omega)⟩
end Go.Proofs.Ytikioeddilgbpaa
