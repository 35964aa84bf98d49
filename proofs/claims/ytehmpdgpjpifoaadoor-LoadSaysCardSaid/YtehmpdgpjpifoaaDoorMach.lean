/-
  bare.New: a machine's cells.
-/
import Derived.Test.YtehmpdgpjpifoaaDoorTrap
import Derived.Test.YtehmpdgpjpifoaaDoorMm2
import Derived.Test.YtehmpdgpjpifoaaDoorSee
import Derived.Deep.RegionHeld3
namespace Go.Proofs.YtehmpdgpjpifoaaDoor
open Go Go.RowKit

/-- a machine's cells -/
def machCells (mb : Nat) (c : Cpu) (db : Nat) (quota now : Int) (over : Bool) (waits : Value) : Array Value :=
  (Value.pointer (some ⟨mb, 0, none⟩) :: (u32s c.r ++ (cpuTail c ++ [.pointer (some ⟨db, 0, none⟩), .int .i64 quota, .int .i64 now, .bool over, waits]))).toArray
theorem list16 (r : List Int) (h : r.length = 16) : ∃ a0 a1 a2 a3 a4 a5 a6 a7 a8 a9 b0 b1 b2 b3 b4 b5 : Int, r = [a0, a1, a2, a3, a4, a5, a6, a7, a8, a9, b0, b1, b2, b3, b4, b5] := by
  match r, h with
  | [a0, a1, a2, a3, a4, a5, a6, a7, a8, a9, b0, b1, b2, b3, b4, b5], _ => exact ⟨a0, a1, a2, a3, a4, a5, a6, a7, a8, a9, b0, b1, b2, b3, b4, b5, rfl⟩
def buildMach (parts : Array (Nat × Value)) : Sem Value := Instr.build 78 parts
@[go_sem ↓] theorem build_mach (parts : Array (Nat × Value)) : Instr.build 78 parts = buildMach parts := rfl
@[go_sem] theorem run_build_mach (mb db : Nat) (c : Cpu) (quota : Int) (w : World) :
    (buildMach #[(0, .pointer (some ⟨mb, 0, none⟩)), (1, .agg (cpuCells c)), (2, .pointer (some ⟨db, 0, none⟩)), (3, .int .i64 quota)]).run Tryd.prog w = .ok (.agg (machCells mb c db quota 0 false (.slice none 0 0))) w := by
  obtain ⟨r, hr, pc, ie, eie, epc, tv, cause, addr⟩ := c
  obtain ⟨a0, a1, a2, a3, a4, a5, a6, a7, a8, a9, b0, b1, b2, b3, b4, b5, rfl⟩ := list16 r hr
  kernel_rfl
@[go_sem] theorem machCells_size (mb : Nat) (c : Cpu) (db : Nat) (quota now : Int) (over : Bool) (waits : Value) : (machCells mb c db quota now over waits).size = 29 := by simp [machCells, u32s, c.hr, cpuTail]
@[go_sem] theorem machCells_one (mb : Nat) (c : Cpu) (db : Nat) (quota now : Int) (over : Bool) : allOne (machCells mb c db quota now over (.slice none 0 0)) = true := by
  unfold allOne
  rw [Array.all_eq_true']
  intro u hu
  simp only [machCells, List.mem_toArray, List.mem_cons, List.mem_append] at hu
  rcases hu with rfl | hu | hu | hu
  · rfl
  · exact u32s_one _ u hu
  · simp only [cpuTail, List.mem_cons, List.not_mem_nil, or_false] at hu
    rcases hu with rfl | rfl | rfl | rfl | rfl | rfl | rfl <;> rfl
  · simp only [List.not_mem_nil, or_false] at hu
    rcases hu with rfl | rfl | rfl | rfl | rfl <;> rfl

/-- a machine on the heap, just made -/
def MachAt (w : World) (bb mb : Nat) (c : Cpu) (quota now : Int) (over : Bool) : Prop := ∃ db, w.heap[bb]? = some (.cells (machCells mb c db quota now over (.slice none 0 0)) 78 (0, 0))

theorem blk_new1 (w : World) (o : Obj) (c : Array Value) (t : TypeId) : ((w.alloc o).alloc (.cells c t)).heap[w.heap.size + 1]? = some (.cells c t (0, 0)) := by
  have := blk_new (w.alloc o) (.cells c t)
  simpa using this
theorem mk_keep {w wx : World} {c : Cpu} {o : Obj} (h : Below (w.heap.size + 1) (w.alloc (.cells (cpuCells c) 59)) wx ∧ row? wx w.heap.size = some (cpuCells c)) :
    Below (w.heap.size + 1) (w.alloc (.cells (cpuCells c) 59)) (wx.alloc o) ∧ row? (wx.alloc o) w.heap.size = some (cpuCells c) := by
  have hs := h.1.size
  simp at hs
  exact ⟨h.1.alloc (by omega) _, (row?_alloc_past o _ (by omega)).trans h.2⟩
theorem mk_next {w wx w3 : World} {c : Cpu} (h : Below (w.heap.size + 1) (w.alloc (.cells (cpuCells c) 59)) wx ∧ row? wx w.heap.size = some (cpuCells c)) (hb : Below wx.heap.size wx w3) :
    Below (w.heap.size + 1) (w.alloc (.cells (cpuCells c) 59)) w3 ∧ row? w3 w.heap.size = some (cpuCells c) := by
  have hs := h.1.size
  simp at hs
  obtain ⟨t, ht⟩ := of_row? h.2
  exact ⟨h.1.trans (hb.mono (by omega)), row?_of (blk_below ht hb (blk_lt ht))⟩
theorem mk_base {w wx : World} {c : Cpu} (h : Below (w.heap.size + 1) (w.alloc (.cells (cpuCells c) 59)) wx) : Below w.heap.size w wx :=
  ((Below.refl _ _).alloc (Nat.le_refl _) _).trans (h.mono (Nat.le_succ _))

set_option maxRecDepth 100000 in
set_option maxHeartbeats 3200000 in
theorem bnew_ok (c : Cpu) (l : List Int) (b n : Nat) (v : Value) (qq : Nat) (w : World) (h : MAt w b v n l) (hn : n ≤ 1024) (h1 : 17 ≤ qq) (h2 : qq ≤ 256) :
    Calls Tryd.prog 34 #[.pointer (some ⟨b, 0, none⟩), .agg (cpuCells c), .int .i64 (qq : Int)] w fun x w' => ∃ bb mb mv, x = .returned (.tuple #[.pointer (some ⟨bb, 0, none⟩), .nilIface]) ∧ MachAt w' bb mb c qq 0 false ∧ MAt w' mb mv n l ∧ w.heap.size ≤ mb ∧ w.heap.size ≤ bb ∧ bb ≠ mb ∧ (∀ k, inRow mv k → w.heap.size ≤ k) ∧ Below w.heap.size w w' := by
  have hb0 : Below w.heap.size w (w.alloc (.cells (cpuCells c) 59)) := (Below.refl _ _).alloc (Nat.le_refl _) _
  have HM : Hid (∀ wx, Below w.heap.size w wx → MAt wx b v n l) := Lib.hid fun wx hx => h.below hx
  have HK : Hid (∀ wx, Below (w.heap.size + 1) (w.alloc (.cells (cpuCells c) 59)) wx → Below (w.heap.size + 1) (w.alloc (.cells (cpuCells c) 59)) wx ∧ row? wx w.heap.size = some (cpuCells c)) := Lib.hid fun wx hx => by
    have hk : wx.heap[w.heap.size]? = some (.cells (cpuCells c) 59 (0, 0)) := by
      rw [hx.block _ (by omega)]
      exact blk_new _ _
    exact ⟨hx, row?_of hk⟩
  have HB0 := Lib.hid hb0
  have hB0 : Below (w.heap.size + 1) (w.alloc (.cells (cpuCells c) 59)) (w.alloc (.cells (cpuCells c) 59)).drew := (Below.refl _ _).drew
  have n1 : ¬ (qq : Int) < 17 := by omega
  have n2 : ¬ (256 : Int) < (qq : Int) := by omega
  obtain ⟨-, c0⟩ := HK.out _ (Below.refl _ _)
  clear h h1 h2 hb0
  go_enter Tryd.func34, Tryd.ntmps34
  go_wp2_with fail
  have HS0 := Lib.hid (HK.out _ hB0)
  have hP0 := HS0.out
  clear hB0
  go_region_held3 (fun wx => Below (w.heap.size + 1) (w.alloc (.cells (cpuCells c) 59)) wx ∧ row? wx w.heap.size = some (cpuCells c)) (first | exact HS0.out | exact mk_keep (by assumption) | exact mk_next (by assumption) (by assumption))
    (first | (go_at_call 37; refine (mm_clone l b n v _ (HM.out _ (mk_base (And.left (by assumption)))) hn).mono ?_; rintro e w3 ⟨cb, cv, rfl, hm3, hs3, hf3, hb3⟩))
  all_goals
    have HM3 := Lib.hid hm3
    have HL3 := Lib.hid (blk_lt hm3.1)
    have HF3 := Lib.hid hf3
    have HS3 : Hid (w.heap.size ≤ cb) := Lib.hid (Nat.le_trans (by simp <;> omega) hs3)
    have HB3 : Hid (w.heap.size ≤ w3.heap.size) := Lib.hid (Nat.le_trans (by simp <;> omega) hb3.size)
    have HBF := Lib.hid (mk_base (And.left (by assumption)))
    clear hm3 hf3 hs3 hb3
    go_wp2
    go_ret2
    first
    | exact ⟨_, _, _, rfl, ⟨_, blk_new _ _⟩, HM3.out.below ((Below.refl _ _).alloc (Nat.le_refl _) _), HS3.out, HB3.out, Nat.ne_of_gt HL3.out, fun k hk => Nat.le_trans (by simp <;> omega) (HF3.out k hk), HBF.out⟩
    | exact ⟨_, _, _, rfl, ⟨_, blk_new1 _ _ _ _⟩, HM3.out.below (((Below.refl _ _).alloc (Nat.le_refl _) _).alloc (by simp) _), HS3.out, by have := HB3.out; omega, by have := HL3.out; omega, fun k hk => Nat.le_trans (by simp <;> omega) (HF3.out k hk), HBF.out⟩
end Go.Proofs.YtehmpdgpjpifoaaDoor
