/-
  A processor's state that came in by value.
-/
import Derived.Test.YtojbcefoofdpfaaFields
import Derived.Test.YtojbcefoofdpfaaCpu
namespace Go.Proofs.Ytojbcefoofdpfaa
open Go.ChangeShapes Go.WideShapes Go.ChangeAt Go.RowKit Go.Joins

def u32In (z : Int) : Prop := 0 ≤ z ∧ z ≤ 4294967295
theorem u32In_of {z : Int} (h : (Lit.int .u32 z).wf = true) : u32In z := by simpa [u32In, Lit.wf, IntKind.min, IntKind.max, IntKind.signed, IntKind.bits] using h
/-- each word is one of 32 bits -/
structure CpuWf (c : Cpu) : Prop where
  r : ∀ z ∈ c.r, u32In z
  pc : u32In c.pc
  epc : u32In c.epc
  tv : u32In c.tv
  cause : u32In c.cause
  addr : u32In c.addr

theorem list7 {α : Type} {l : List α} (h : l.length = 7) : ∃ a b c d e f g, l = [a, b, c, d, e, f, g] := by
  match l, h with
  | [a, b, c, d, e, f, g], _ => exact ⟨a, b, c, d, e, f, g, rfl⟩

set_option maxRecDepth 100000 in
theorem open_cpu {H : Type} {enc : TypeId × Value → H} {W : World} {base : Nat} {spare : Nat → Bool} {held : Bool} {r : Reach} {b0 : Nat} {v : Value} {d : DataW H} {p : List MemPlace}
    (hv : Value.okWide Try.prog W r b0 26 v) (h : DataW.Trod enc Try.prog W base spare held 26 v d p) : ∃ c : Cpu, v = .agg (cpuCells c) ∧ CpuWf c := by
  obtain ⟨cs, rfl, hsz⟩ := okWide_struct Try.underlying26 hv
  have h23 : cs.size = 23 := hsz.trans (by kernel_rfl)
  obtain ⟨fuel, hf⟩ := h
  obtain ⟨xs, n, -, -, hl, hx, hi⟩ := DataW.trod_struct Try.underlying26 hf
  have hx8 : xs.length = 8 := hx
  have get : ∀ i, i < 8 → ∃ y, xs[i]? = some y := fun i hi => ⟨_, List.getElem?_eq_getElem (by omega)⟩
  have hcells : (Value.agg cs).cells.toList = cs.toList := rfl
  rw [hcells] at hi
  obtain ⟨y0, g0⟩ := get 0 (by omega)
  obtain ⟨y1, g1⟩ := get 1 (by omega)
  obtain ⟨y2, g2⟩ := get 2 (by omega)
  obtain ⟨y3, g3⟩ := get 3 (by omega)
  obtain ⟨y4, g4⟩ := get 4 (by omega)
  obtain ⟨y5, g5⟩ := get 5 (by omega)
  obtain ⟨y6, g6⟩ := get 6 (by omega)
  obtain ⟨y7, g7⟩ := get 7 (by omega)
  obtain ⟨rs, k0, e0, w0⟩ := fld_ints Try.underlying24 Try.underlying22 (by kernel_rfl) (by kernel_rfl) ((hi 0 _ rfl).trans g0)
  obtain ⟨pc, e1, w1⟩ := fld_int Try.underlying22 (by kernel_rfl) ((hi 1 _ rfl).trans g1)
  obtain ⟨ie, e2⟩ := fld_bool Try.underlying4 (by kernel_rfl) ((hi 2 _ rfl).trans g2)
  obtain ⟨eie, e3⟩ := fld_bool Try.underlying4 (by kernel_rfl) ((hi 3 _ rfl).trans g3)
  obtain ⟨epc, e4, w4⟩ := fld_int Try.underlying22 (by kernel_rfl) ((hi 4 _ rfl).trans g4)
  obtain ⟨tv, e5, w5⟩ := fld_int Try.underlying22 (by kernel_rfl) ((hi 5 _ rfl).trans g5)
  obtain ⟨ca, e6, w6⟩ := fld_int Try.underlying22 (by kernel_rfl) ((hi 6 _ rfl).trans g6)
  obtain ⟨ad, e7, w7⟩ := fld_int Try.underlying22 (by kernel_rfl) ((hi 7 _ rfl).trans g7)
  have hlen : (cs.toList.drop 16).length = 7 := by simp [h23]
  obtain ⟨a, b, c, d', e, f, g, hd⟩ := list7 hlen
  have at_ : ∀ i, cs.toList[16 + i]? = (cs.toList.drop 16)[i]? := fun i => by rw [List.getElem?_drop]
  have q1 : some a = some (Value.int .u32 pc) := by have := at_ 0; rw [hd] at this; exact this.symm.trans e1
  have q2 : some b = some (Value.bool ie) := by have := at_ 1; rw [hd] at this; exact this.symm.trans e2
  have q3 : some c = some (Value.bool eie) := by have := at_ 2; rw [hd] at this; exact this.symm.trans e3
  have q4 : some d' = some (Value.int .u32 epc) := by have := at_ 3; rw [hd] at this; exact this.symm.trans e4
  have q5 : some e = some (Value.int .u32 tv) := by have := at_ 4; rw [hd] at this; exact this.symm.trans e5
  have q6 : some f = some (Value.int .u32 ca) := by have := at_ 5; rw [hd] at this; exact this.symm.trans e6
  have q7 : some g = some (Value.int .u32 ad) := by have := at_ 6; rw [hd] at this; exact this.symm.trans e7
  cases q1; cases q2; cases q3; cases q4; cases q5; cases q6; cases q7
  refine ⟨⟨rs, k0, pc, ie, eie, epc, tv, ca, ad⟩, ?_, ⟨fun z hz => u32In_of (w0 z hz), u32In_of w1, u32In_of w4, u32In_of w5, u32In_of w6, u32In_of w7⟩⟩
  congr 1
  apply Array.toList_inj.1
  have e0' : cs.toList.take 16 = rs.map (Value.int .u32) := by simpa using e0
  rw [← List.take_append_drop 16 cs.toList, e0', hd]
  rfl
end Go.Proofs.Ytojbcefoofdpfaa
