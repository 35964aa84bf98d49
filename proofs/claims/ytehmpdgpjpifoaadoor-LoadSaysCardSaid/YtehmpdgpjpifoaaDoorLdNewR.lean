/-
  facaderef1.NewMachine; what a machine tells of itself; a processor is as itself.
-/
import Derived.Test.YtehmpdgpjpifoaaDoorMach
import Derived.Test.YtehmpdgpjpifoaaDoorMrB
import Derived.Test.YtehmpdgpjpifoaaDoorCopyWords
import Derived.Test.YtehmpdgpjpifoaaDoorSame
namespace Go.Proofs.YtehmpdgpjpifoaaDoor
open Go Go.RowKit

set_option maxHeartbeats 800000 in
theorem mr_clone (l : List Int) (b n : Nat) (v : Value) (w : World) (h : MAr w b v n l) (hn : n ≤ 1024) :
    Calls Tryd.prog 59 #[.pointer (some ⟨b, 0, none⟩)] w fun e w' => ∃ cb cv, e = .returned (.pointer (some ⟨cb, 0, none⟩)) ∧ MAr w' cb cv n l ∧ w.heap.size ≤ cb ∧ (∀ k, inRow cv k → w.heap.size ≤ k) ∧ Below w.heap.size w w' := by
  have c := h.cell
  have HLN := Lib.hid h.2.2
  obtain ⟨ao, cap, rfl, hat⟩ := h.slice
  have hcw := copyWords_any ao cap l w hat (by rw [h.2.2]; omega)
  rw [h.2.2] at hcw
  have HCW := Lib.hid hcw
  clear h hat hcw
  go_enter Tryd.func59, Tryd.ntmps59
  go_wp2_with fail
  refine HCW.out.mono ?_
  rintro e w1 ⟨v', rfl, ho, hf, hb⟩
  have HP : Hid (MAr (w1.alloc (.cells #[v'] 80)) w1.heap.size v' n l) := Lib.hid ⟨blk_new _ _, ho.alloc _, HLN.out⟩
  have HF := Lib.hid hf
  have HB := Lib.hid (hb.alloc hb.size (.cells #[v'] 80))
  have HS := Lib.hid hb.size
  obtain ⟨ao2, cap2, rfl⟩ := own_slice ho
  clear ho hf hb
  go_wp2
  go_ret
  exact ⟨_, _, rfl, HP.out, HS.out, HF.out, HB.out⟩

/-- the document's machine's cells, just made -/
def machCellsR (mb : Nat) (c : Cpu) (db : Nat) (quota : Int) : Array Value :=
  (Value.pointer (some ⟨mb, 0, none⟩) :: (u32s c.r ++ (cpuTail c ++ [.int .i64 quota, .pointer (some ⟨db, 0, none⟩), .int .i64 0, .bool false, .slice none 0 0]))).toArray
@[go_sem] theorem machCellsR_size (mb : Nat) (c : Cpu) (db : Nat) (quota : Int) : (machCellsR mb c db quota).size = 29 := by simp [machCellsR, u32s, c.hr, cpuTail]
@[go_sem] theorem machCellsR_one (mb : Nat) (c : Cpu) (db : Nat) (quota : Int) : allOne (machCellsR mb c db quota) = true := by
  unfold allOne
  rw [Array.all_eq_true']
  intro u hu
  simp only [machCellsR, List.mem_toArray, List.mem_cons, List.mem_append] at hu
  rcases hu with rfl | hu | hu | hu
  · rfl
  · exact u32s_one _ u hu
  · simp only [cpuTail, List.mem_cons, List.not_mem_nil, or_false] at hu
    rcases hu with rfl | rfl | rfl | rfl | rfl | rfl | rfl <;> rfl
  · simp only [List.not_mem_nil, or_false] at hu
    rcases hu with rfl | rfl | rfl | rfl | rfl <;> rfl
def buildMachR (parts : Array (Nat × Value)) : Sem Value := Instr.build 95 parts
@[go_sem ↓] theorem build_machR (parts : Array (Nat × Value)) : Instr.build 95 parts = buildMachR parts := rfl
@[go_sem] theorem run_build_machR (mb db : Nat) (c : Cpu) (quota : Int) (w : World) :
    (buildMachR #[(0, .pointer (some ⟨mb, 0, none⟩)), (1, .agg (cpuCells c)), (2, .int .i64 quota), (3, .pointer (some ⟨db, 0, none⟩))]).run Tryd.prog w = .ok (.agg (machCellsR mb c db quota)) w := by
  obtain ⟨r, hr, pc, ie, eie, epc, tv, cause, addr⟩ := c
  obtain ⟨a0, a1, a2, a3, a4, a5, a6, a7, a8, a9, b0, b1, b2, b3, b4, b5, rfl⟩ := list16 r hr
  kernel_rfl

/-- a machine of the document's on the heap, just made -/
def MachR (w : World) (bb mb : Nat) (c : Cpu) (quota : Int) : Prop := ∃ db, w.heap[bb]? = some (.cells (machCellsR mb c db quota) 95 (0, 0))

set_option maxRecDepth 100000 in
set_option maxHeartbeats 3200000 in
theorem rnewm_ok (c : Cpu) (l : List Int) (b n : Nat) (v : Value) (qq : Nat) (w : World) (h : MAr w b v n l) (hn : n ≤ 1024) (h2 : qq ≤ 256) :
    Calls Tryd.prog 43 #[.pointer (some ⟨b, 0, none⟩), .agg (cpuCells c), .int .i64 (qq : Int)] w fun x w' => ∃ bb mb mv, x = .returned (.pointer (some ⟨bb, 0, none⟩)) ∧ MachR w' bb mb c qq ∧ MAr w' mb mv n l ∧ w.heap.size ≤ mb ∧ w.heap.size ≤ bb ∧ bb ≠ mb ∧ (∀ k, inRow mv k → w.heap.size ≤ k) ∧ Below w.heap.size w w' := by
  have hb0 : Below w.heap.size w (w.alloc (.cells (cpuCells c) 59)) := (Below.refl _ _).alloc (Nat.le_refl _) _
  have HM : Hid (∀ wx, Below w.heap.size w wx → MAr wx b v n l) := Lib.hid fun wx hx => h.below hx
  have HK : Hid (∀ wx, Below (w.heap.size + 1) (w.alloc (.cells (cpuCells c) 59)) wx → Below (w.heap.size + 1) (w.alloc (.cells (cpuCells c) 59)) wx ∧ row? wx w.heap.size = some (cpuCells c)) := Lib.hid fun wx hx => by
    have hk : wx.heap[w.heap.size]? = some (.cells (cpuCells c) 59 (0, 0)) := by
      rw [hx.block _ (by omega)]
      exact blk_new _ _
    exact ⟨hx, row?_of hk⟩
  have hB0 : Below (w.heap.size + 1) (w.alloc (.cells (cpuCells c) 59)) (w.alloc (.cells (cpuCells c) 59)).drew := (Below.refl _ _).drew
  obtain ⟨-, c0⟩ := HK.out _ (Below.refl _ _)
  clear h h2 hb0
  go_enter Tryd.func43, Tryd.ntmps43
  go_wp2_with fail
  have HS0 := Lib.hid (HK.out _ hB0)
  have hP0 := HS0.out
  clear hB0
  go_region_held3 (fun wx => Below (w.heap.size + 1) (w.alloc (.cells (cpuCells c) 59)) wx ∧ row? wx w.heap.size = some (cpuCells c)) (first | exact HS0.out | exact mk_keep (by assumption) | exact mk_next (by assumption) (by assumption))
    (first | (go_at_call 59; refine (mr_clone l b n v _ (HM.out _ (mk_base (And.left (by assumption)))) hn).mono ?_; rintro e w3 ⟨cb, cv, rfl, hm3, hs3, hf3, hb3⟩))
  all_goals
    have HM3 := Lib.hid hm3
    have HL3 := Lib.hid (blk_lt hm3.1)
    have HF3 := Lib.hid hf3
    have HS3 : Hid (w.heap.size ≤ cb) := Lib.hid (Nat.le_trans (by simp <;> omega) hs3)
    have HB3 : Hid (w.heap.size ≤ w3.heap.size) := Lib.hid (Nat.le_trans (by simp <;> omega) hb3.size)
    have HBF := Lib.hid (mk_base (And.left (by assumption)))
    clear hm3 hf3 hs3 hb3
    go_wp2
    go_ret
    first
    | exact ⟨_, _, _, rfl, ⟨_, blk_new _ _⟩, HM3.out.below ((Below.refl _ _).alloc (Nat.le_refl _) _), HS3.out, HB3.out, Nat.ne_of_gt HL3.out, fun k hk => Nat.le_trans (by simp <;> omega) (HF3.out k hk), HBF.out⟩
    | exact ⟨_, _, _, rfl, ⟨_, blk_new1 _ _ _ _⟩, HM3.out.below (((Below.refl _ _).alloc (Nat.le_refl _) _).alloc (by simp) _), HS3.out, by have := HB3.out; omega, by have := HL3.out; omega, fun k hk => Nat.le_trans (by simp <;> omega) (HF3.out k hk), HBF.out⟩

/-- the processor within a machine's cells -/
theorem cut_cpu (a : Value) (c : Cpu) (t : List Value) : ((a :: (u32s c.r ++ (cpuTail c ++ t))).toArray).extract 1 24 = cpuCells c := by
  have h := u32s_length c
  unfold cpuCells
  simp [List.take_append, h, cpuTail, List.take_of_length_le]
@[go_sem] theorem machCells_cpu (mb : Nat) (c : Cpu) (db : Nat) (quota now : Int) (over : Bool) (waits : Value) : (machCells mb c db quota now over waits).extract 1 24 = cpuCells c := cut_cpu _ c _
@[go_sem] theorem machCellsR_cpu (mb : Nat) (c : Cpu) (db : Nat) (quota : Int) : (machCellsR mb c db quota).extract 1 24 = cpuCells c := cut_cpu _ c _
theorem machCells_tail (mb : Nat) (c : Cpu) (db : Nat) (quota now : Int) (over : Bool) (waits : Value) (i : Nat) : (machCells mb c db quota now over waits)[24 + i]? = [Value.pointer (some ⟨db, 0, none⟩), .int .i64 quota, .int .i64 now, .bool over, waits][i]? := by
  have h := u32s_length c
  unfold machCells
  rw [List.getElem?_toArray, show 24 + i = (16 + (7 + i)) + 1 by omega, List.getElem?_cons_succ, List.getElem?_append_right (by omega), h, show 16 + (7 + i) - 16 = 7 + i by omega, List.getElem?_append_right (by simp [cpuTail])]
  congr 1
  simp [cpuTail]

set_option maxRecDepth 100000 in
set_option maxHeartbeats 1600000 in
theorem bcpu_any (w : World) (bb mb : Nat) (c : Cpu) (q now : Int) (over : Bool) (h : MachAt w bb mb c q now over) :
    Calls Tryd.prog 44 #[.pointer (some ⟨bb, 0, none⟩)] w fun y w' => y = .returned (.agg (cpuCells c)) ∧ Below w.heap.size w w' := by
  obtain ⟨db, hb⟩ := h
  have hr := row?_of hb
  have hl := blk_lt hb
  clear hb
  go_enter Tryd.func44, Tryd.ntmps44
  go_wp2
  refine bodyPost_ret (cpu_ret (c := c) rfl rfl (row?_alloc_at _ _ _ rfl)) rfl ⟨rfl, ?_⟩
  exact (Below.refl _ _).alloc (Nat.le_refl _) _
set_option maxHeartbeats 1600000 in
theorem bnow_any (w : World) (bb mb : Nat) (c : Cpu) (q now : Int) (over : Bool) (h : MachAt w bb mb c q now over) :
    Calls Tryd.prog 45 #[.pointer (some ⟨bb, 0, none⟩)] w fun y w' => y = .returned (.int .i64 now) ∧ w = w' := by
  obtain ⟨db, hb⟩ := h
  have c1 : w.cell? ⟨bb, 26, none⟩ = some (.int .i64 now) := (blk_cell hb 26).trans (machCells_tail mb c db q now over _ 2)
  clear hb
  go_enter Tryd.func45, Tryd.ntmps45
  go_wp2
  go_ret
  exact ⟨rfl, rfl⟩
set_option maxHeartbeats 1600000 in
theorem bover_any (w : World) (bb mb : Nat) (c : Cpu) (q now : Int) (over : Bool) (h : MachAt w bb mb c q now over) :
    Calls Tryd.prog 46 #[.pointer (some ⟨bb, 0, none⟩)] w fun y w' => y = .returned (.bool over) ∧ w = w' := by
  obtain ⟨db, hb⟩ := h
  have c1 : w.cell? ⟨bb, 27, none⟩ = some (.bool over) := (blk_cell hb 27).trans (machCells_tail mb c db q now over _ 3)
  clear hb
  go_enter Tryd.func46, Tryd.ntmps46
  go_wp2
  go_ret
  exact ⟨rfl, rfl⟩

theorem regs_self (r : List Int) (h : r.length = 16) (w : World) :
    Calls Tryd.prog 40 #[.agg (regCells r), .agg (regCells r)] w fun e w' => e = .returned (.bool true) ∧ Below w.heap.size w w' :=
  (regs_same r r h h w).mono fun _ _ ⟨he, hb⟩ => ⟨by simpa using he, hb⟩
set_option maxHeartbeats 400000 in
theorem cpu_self (c : Cpu) (w : World) :
    Calls Tryd.prog 26 #[.agg (cpuCells c), .agg (cpuCells c)] w fun e w' => e = .returned (.bool true) ∧ Below w.heap.size w w' := by
  go_enter Tryd.func26, Tryd.ntmps26
  go_wp2_with fail
  refine (regs_self c.r c.hr _).mono ?_
  rintro e w1 ⟨rfl, hb⟩
  have bE := blk_below (blk_old (blk_new w _) _) hb (by simp; omega)
  have bF := blk_below (blk_new (w.alloc _) _) hb (by simp)
  simp only [World.size_alloc] at bF
  have hB : Below w.heap.size w w1 := (((Below.refl _ _).alloc (Nat.le_refl _) _).alloc (by simp) _).trans (hb.mono (by simp; omega))
  have cE := blk_cell bE
  have cF := blk_cell bF
  clear hb bE bF
  go_wp2
  go_ret
  exact ⟨rfl, hB⟩
end Go.Proofs.YtehmpdgpjpifoaaDoor
