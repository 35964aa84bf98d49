/-
  SameCPU, Waits; the chapter's examples.
-/
import Derived.Test.YtojbcefoofdpfaaSame
import Derived.Test.YtojbcefoofdpfaaDev3
namespace Go.Proofs.Ytojbcefoofdpfaa
open Go.RowKit

theorem regs_refl (r : List Int) (h : r.length = 16) (w : World) :
    Calls Try.prog 18 #[.agg (regCells r), .agg (regCells r)] w fun e w' => e = .returned (.bool true) ∧ Below w.heap.size w w' :=
  (regs_same r r h h w).mono fun _ _ ⟨he, hb⟩ => ⟨by simpa using he, hb⟩

set_option maxHeartbeats 400000 in
theorem cpu_refl (c : Cpu) (w : World) :
    Calls Try.prog 13 #[.agg (cpuCells c), .agg (cpuCells c)] w fun e w' => e = .returned (.bool true) ∧ Below w.heap.size w w' := by
  go_enter Try.func13, Try.ntmps13
  go_wp2_with fail
  refine (regs_refl c.r c.hr _).mono ?_
  rintro e w1 ⟨rfl, hb⟩
  have bE := blk_below (blk_old (blk_new w _) _) hb (by simp; omega)
  have bF := blk_below (blk_new (w.alloc _) _) hb (by simp)
  simp only [World.size_alloc] at bF
  have hB : Below w.heap.size w w1 := (((Below.refl _ _).alloc (Nat.le_refl _) _).alloc (by simp) _).trans (hb.mono (by simp; omega))
  have cE := blk_cell bE
  have cF := blk_cell bF
  clear hb bE bF
  go_wp2
  go_ret
  exact ⟨rfl, hB⟩

/-- what would interrupt -/
def waitsS (ie : Bool) (D : DevS) (now : Int) (port : Bool) : Int := if ie = false then 0 else if (D.set && decide (D.due ≤ now)) = true then 2 else if D.keys ≠ [] then 3 else if port = true then 5 else 0

theorem due_is (D : DevS) (w : World) (b : Nat) (F : Nat → Prop) (h : DevAt w b D F) (now : Int) (r : Bool) (hr : (D.set && decide (D.due ≤ now)) = r) :
    Calls Try.prog 19 #[.pointer (some ⟨b, 0, none⟩), .int .i64 now] w fun e w' => e = .returned (.bool r) ∧ w = w' := by
  subst hr
  exact due_any D w b F h now

theorem keys_is (D : DevS) (w : World) (b : Nat) (F : Nat → Prop) (h : DevAt w b D F) (x : Int) (hx : (D.keys.length : Int) = x) :
    Calls Try.prog 20 #[.pointer (some ⟨b, 0, none⟩)] w fun e w' => e = .returned (.int .i64 x) ∧ w = w' := by
  subst hx
  exact keys_any D w b F h

theorem dev_new (w : World) : DevAt (w.alloc (.cells (devCells (.slice none 0 0) (List.replicate 16 0) false 0 (.slice none 0 0)) 34)) w.heap.size {} (fun k => w.heap.size ≤ k) := by
  refine ⟨_, _, ⟨blk_new _ _, rfl, own_nil _ _ _, own_nil _ _ _⟩, ?_⟩
  rintro k (rfl | h | h)
  · exact Nat.le_refl _
  · simp [inRow, Value.ownBlock] at h
  · simp [inRow, Value.ownBlock] at h

set_option maxHeartbeats 400000 in
theorem waits_off (c : Cpu) (p : Value) (now : Int) (port : Bool) (w : World) (hi : c.ie = false) :
    Calls Try.prog 16 #[.agg (cpuCells c), p, .int .i64 now, .bool port] w fun e w' => e = .returned (.int .i64 0) ∧ Below w.heap.size w w' := by
  go_enter Try.func16, Try.ntmps16
  go_wp2
  go_ret
  exact ⟨rfl, (Below.refl _ _).alloc (Nat.le_refl _) _⟩

set_option maxHeartbeats 400000 in
theorem waits_due (c : Cpu) (D : DevS) (b : Nat) (F : Nat → Prop) (now : Int) (port : Bool) (w : World) (h : DevAt w b D F) (hi : c.ie = true) (hd : (D.set && decide (D.due ≤ now)) = true) :
    Calls Try.prog 16 #[.agg (cpuCells c), .pointer (some ⟨b, 0, none⟩), .int .i64 now, .bool port] w fun e w' => e = .returned (.int .i64 2) ∧ Below w.heap.size w w' := by
  have HA := Lib.hid (h.below ((Below.refl _ _).alloc (Nat.le_refl _) (.cells (cpuCells c) 26)))
  have HD := Lib.hid hd
  clear hd
  go_enter Try.func16, Try.ntmps16
  go_wp2_with fail
  refine (due_is _ _ _ _ HA.out _ true HD.out).mono ?_
  rintro e w1 ⟨rfl, rfl⟩
  go_wp2
  go_ret
  exact ⟨rfl, (Below.refl _ _).alloc (Nat.le_refl _) _⟩

set_option maxHeartbeats 400000 in
theorem waits_key (c : Cpu) (D : DevS) (b : Nat) (F : Nat → Prop) (now : Int) (port : Bool) (w : World) (h : DevAt w b D F) (hi : c.ie = true) (hd : (D.set && decide (D.due ≤ now)) = false) (hk : 0 < D.keys.length) :
    Calls Try.prog 16 #[.agg (cpuCells c), .pointer (some ⟨b, 0, none⟩), .int .i64 now, .bool port] w fun e w' => e = .returned (.int .i64 3) ∧ Below w.heap.size w w' := by
  have HA := Lib.hid (h.below ((Below.refl _ _).alloc (Nat.le_refl _) (.cells (cpuCells c) 26)))
  have HD := Lib.hid hd
  clear hd
  have hk' : (0 : Int) < (D.keys.length : Int) := by omega
  go_enter Try.func16, Try.ntmps16
  go_wp2_with fail
  refine (due_is _ _ _ _ HA.out _ false HD.out).mono ?_
  rintro e w1 ⟨rfl, rfl⟩
  go_wp2_with fail
  refine (keys_is _ _ _ _ HA.out (D.keys.length : Int) rfl).mono ?_
  rintro e w1 ⟨rfl, rfl⟩
  go_wp2
  go_ret
  exact ⟨rfl, (Below.refl _ _).alloc (Nat.le_refl _) _⟩

set_option maxHeartbeats 400000 in
theorem waits_port (c : Cpu) (D : DevS) (b : Nat) (F : Nat → Prop) (now : Int) (w : World) (h : DevAt w b D F) (hi : c.ie = true) (hd : (D.set && decide (D.due ≤ now)) = false) (hk : D.keys = []) :
    Calls Try.prog 16 #[.agg (cpuCells c), .pointer (some ⟨b, 0, none⟩), .int .i64 now, .bool true] w fun e w' => e = .returned (.int .i64 5) ∧ Below w.heap.size w w' := by
  have HA := Lib.hid (h.below ((Below.refl _ _).alloc (Nat.le_refl _) (.cells (cpuCells c) 26)))
  have HD := Lib.hid hd
  clear hd
  go_enter Try.func16, Try.ntmps16
  go_wp2_with fail
  refine (due_is _ _ _ _ HA.out _ false HD.out).mono ?_
  rintro e w1 ⟨rfl, rfl⟩
  go_wp2_with fail
  refine (keys_is _ _ _ _ HA.out 0 (by rw [hk]; rfl)).mono ?_
  rintro e w1 ⟨rfl, rfl⟩
  go_wp2
  go_ret
  exact ⟨rfl, (Below.refl _ _).alloc (Nat.le_refl _) _⟩

set_option maxHeartbeats 400000 in
theorem waits_none (c : Cpu) (D : DevS) (b : Nat) (F : Nat → Prop) (now : Int) (w : World) (h : DevAt w b D F) (hi : c.ie = true) (hd : (D.set && decide (D.due ≤ now)) = false) (hk : D.keys = []) :
    Calls Try.prog 16 #[.agg (cpuCells c), .pointer (some ⟨b, 0, none⟩), .int .i64 now, .bool false] w fun e w' => e = .returned (.int .i64 0) ∧ Below w.heap.size w w' := by
  have HA := Lib.hid (h.below ((Below.refl _ _).alloc (Nat.le_refl _) (.cells (cpuCells c) 26)))
  have HD := Lib.hid hd
  clear hd
  go_enter Try.func16, Try.ntmps16
  go_wp2_with fail
  refine (due_is _ _ _ _ HA.out _ false HD.out).mono ?_
  rintro e w1 ⟨rfl, rfl⟩
  go_wp2_with fail
  refine (keys_is _ _ _ _ HA.out 0 (by rw [hk]; rfl)).mono ?_
  rintro e w1 ⟨rfl, rfl⟩
  go_wp2
  go_ret
  exact ⟨rfl, (Below.refl _ _).alloc (Nat.le_refl _) _⟩

theorem waits_any (c : Cpu) (D : DevS) (b : Nat) (F : Nat → Prop) (now : Int) (port : Bool) (w : World) (h : DevAt w b D F) :
    Calls Try.prog 16 #[.agg (cpuCells c), .pointer (some ⟨b, 0, none⟩), .int .i64 now, .bool port] w fun e w' => e = .returned (.int .i64 (waitsS c.ie D now port)) ∧ Below w.heap.size w w' := by
  unfold waitsS
  by_cases hi : c.ie = false
  · rw [if_pos hi]; exact waits_off c _ now port w hi
  · rw [if_neg hi]
    have hi' : c.ie = true := by simpa using hi
    by_cases hd : (D.set && decide (D.due ≤ now)) = true
    · rw [if_pos hd]; exact waits_due c D b F now port w h hi' hd
    · rw [if_neg hd]
      have hd' : (D.set && decide (D.due ≤ now)) = false := by simpa using hd
      by_cases hk : D.keys ≠ []
      · rw [if_pos hk]; exact waits_key c D b F now port w h hi' hd' (List.length_pos_iff.2 hk)
      · rw [if_neg hk]
        have hk' : D.keys = [] := by simpa using hk
        by_cases hp : port = true
        · subst hp; exact waits_port c D b F now w h hi' hd' hk'
        · have : port = false := by simpa using hp
          subst this; exact waits_none c D b F now w h hi' hd' hk'

/-- the examples' processor -/
def cpu0 : Cpu := { r := List.replicate 16 0, hr := rfl, pc := 9, ie := true, eie := false, epc := 0, tv := 5, cause := 0, addr := 0 }

set_option maxHeartbeats 400000 in
theorem first_true (w : World) :
    Calls Try.prog 6 #[] w fun e w' => e = .returned (.bool true) ∧ Below w.heap.size w w' := by
  have h0 : (#[.int .u32 0, .int .u32 0, .int .u32 0, .int .u32 0, .int .u32 0, .int .u32 0, .int .u32 0, .int .u32 0, .int .u32 0, .int .u32 0, .int .u32 0, .int .u32 0, .int .u32 0, .int .u32 0, .int .u32 0, .int .u32 0, .int .u32 9, .bool true, .bool false, .int .u32 0, .int .u32 5, .int .u32 0, .int .u32 0] : Array Value) = cpuCells cpu0 := rfl
  go_enter Try.func6, Try.ntmps6
  go_wp2_with fail
  refine (enter_yes cpu0 1 3 _ rfl).mono ?_
  rintro e wA ⟨rfl, hb⟩
  have hB : Below w.heap.size w wA := ((Below.refl _ _).alloc (Nat.le_refl _) _).trans (hb.mono (by simp))
  clear hb h0
  go_wp2_with fail
  refine (return_any (enterS cpu0 1 3) _).mono ?_
  rintro e wB ⟨rfl, hb⟩
  have bD := blk_below (blk_new wA _) hb (by simp)
  have cD := blk_cell bD
  have zD := blk_lt bD
  replace hB := (hB.alloc hB.size (.cells (cpuCells (enterS cpu0 1 3)) 26)).trans (hb.mono (Nat.le_trans hB.size (by simp)))
  clear hb bD
  have e1 : (enterS cpu0 1 3).pc = 5 := rfl
  have e2 : (enterS cpu0 1 3).ie = false := rfl
  have e3 : (enterS cpu0 1 3).cause = 1 := rfl
  have e4 : (enterS cpu0 1 3).addr = 3 := rfl
  have e5 : (returnS (enterS cpu0 1 3)).pc = 9 := rfl
  have e6 : (returnS (enterS cpu0 1 3)).ie = true := rfl
  go_wp2
  go_ret
  exact ⟨rfl, hB.alloc hB.size _⟩

set_option maxHeartbeats 1000000 in
theorem back_none (c : Cpu) (cause addr : Int) (w : World) (h : c.tv = 0) :
    Calls Try.prog 4 #[.agg (cpuCells c), .int .i64 cause, .int .u32 addr] w fun e w' => e = .returned (.bool true) ∧ Below w.heap.size w w' := by
  go_enter Try.func4, Try.ntmps4
  go_wp2_with fail
  refine (first_true _).mono ?_
  rintro e wA ⟨rfl, hb⟩
  have bC := blk_below (blk_new w _) hb (by simp)
  have hB : Below w.heap.size w wA := ((Below.refl _ _).alloc (Nat.le_refl _) _).trans (hb.mono (by simp))
  clear hb
  have cC := blk_cell bC
  have rC := row?_of bC
  have zC := blk_lt bC
  go_wp2_with fail
  refine (enter_no c cause addr _ h).mono ?_
  rintro e wB ⟨rfl, hb⟩
  replace bC := blk_below bC hb (blk_lt bC)
  replace cC := blk_cell bC
  replace rC := row?_of bC
  replace zC := blk_lt bC
  replace hB := hB.trans (hb.mono hB.size)
  clear hb
  go_wp2_with fail
  refine (cpu_refl c _).mono ?_
  rintro e wD ⟨rfl, hb⟩
  replace hB := (hB.alloc hB.size (.cells (cpuCells c) 26)).trans (hb.mono (Nat.le_trans hB.size (by simp)))
  clear hb
  go_wp2
  go_ret
  exact ⟨rfl, hB⟩

set_option maxHeartbeats 1000000 in
theorem back_some (c : Cpu) (cause addr : Int) (w : World) (h : (c.tv == 0) = false) :
    Calls Try.prog 4 #[.agg (cpuCells c), .int .i64 cause, .int .u32 addr] w fun e w' => e = .returned (.bool true) ∧ Below w.heap.size w w' := by
  go_enter Try.func4, Try.ntmps4
  go_wp2_with fail
  refine (first_true _).mono ?_
  rintro e wA ⟨rfl, hb⟩
  have bC := blk_below (blk_new w _) hb (by simp)
  have hB : Below w.heap.size w wA := ((Below.refl _ _).alloc (Nat.le_refl _) _).trans (hb.mono (by simp))
  clear hb
  have cC := blk_cell bC
  have rC := row?_of bC
  have zC := blk_lt bC
  go_wp2_with fail
  refine (enter_yes c cause addr _ h).mono ?_
  rintro e wB ⟨rfl, hb⟩
  replace bC := blk_below bC hb (blk_lt bC)
  replace cC := blk_cell bC
  replace rC := row?_of bC
  replace zC := blk_lt bC
  replace hB := hB.trans (hb.mono hB.size)
  clear hb
  have bD := blk_old (blk_new wB (.cells (cpuCells (enterS c cause addr)) 26)) (.cells (devCells (.slice none 0 0) (List.replicate 16 0) false 0 (.slice none 0 0)) 34)
  have bC' := blk_old (blk_old bC (.cells (cpuCells (enterS c cause addr)) 26)) (.cells (devCells (.slice none 0 0) (List.replicate 16 0) false 0 (.slice none 0 0)) 34)
  have hV := dev_new (wB.alloc (.cells (cpuCells (enterS c cause addr)) 26))
  replace hB := (hB.alloc hB.size (.cells (cpuCells (enterS c cause addr)) 26)).alloc (Nat.le_trans hB.size (by simp)) (.cells (devCells (.slice none 0 0) (List.replicate 16 0) false 0 (.slice none 0 0)) 34)
  have zW : wB.heap.size + 1 < ((wB.alloc (.cells (cpuCells (enterS c cause addr)) 26)).alloc (.cells (devCells (.slice none 0 0) (List.replicate 16 0) false 0 (.slice none 0 0)) 34)).heap.size := by simp
  simp only [World.size_alloc] at hV
  have HV := Lib.hid hV
  have HBC := Lib.hid bC'
  have HBD := Lib.hid bD
  have HB := Lib.hid hB
  have HZ := Lib.hid zW
  clear hV bC' bD hB zW
  go_wp2_with fail
  refine (press_room _ _ _ 1 _ HV.out (by decide)).mono ?_
  rintro e wP ⟨rfl, hd, ho⟩
  have HV2 := Lib.hid (hd.mono (G := fun k => wB.heap.size + 1 ≤ k) (fun k hk => by have := HZ.out; rcases hk with h | h <;> omega))
  replace HBC := Lib.hid (ho.blk HBC.out (by omega))
  replace HBD := Lib.hid (ho.blk HBD.out (by omega))
  replace HB := Lib.hid (HB.out.trans (ho.below (B := w.heap.size) HB.out.size (fun k hk => by omega)))
  clear hd ho HV HZ
  go_wp2_with fail
  refine (set_pos _ _ _ _ HV2.out 0 1 (by omega) (by omega) (by omega) (by omega)).mono ?_
  rintro e wQ ⟨rfl, hd, ho⟩
  have bC2 := ho.blk HBC.out (by omega)
  have bD2 := ho.blk HBD.out (by omega)
  replace hB := HB.out.trans (ho.below (B := w.heap.size) HB.out.size (fun k hk => by omega))
  clear hd ho HV2 HBC HBD HB bC cC rC zC
  have bC := bC2
  have bD := bD2
  clear bC2 bD2
  have cC := blk_cell bC
  have rC := row?_of bC
  have zC := blk_lt bC
  have cD := blk_cell bD
  have rD := row?_of bD
  have zD := blk_lt bD
  go_wp2_with fail
  refine (waits_off (enterS c cause addr) _ 9 true _ rfl).mono ?_
  rintro e wR ⟨rfl, hb⟩
  replace bC := blk_below bC hb (blk_lt bC)
  replace cC := blk_cell bC
  replace rC := row?_of bC
  replace zC := blk_lt bC
  replace bD := blk_below bD hb (blk_lt bD)
  replace cD := blk_cell bD
  replace rD := row?_of bD
  replace zD := blk_lt bD
  replace hB := hB.trans (hb.mono hB.size)
  clear hb
  go_wp2_with fail
  refine (return_any (enterS c cause addr) _).mono ?_
  rintro e wS ⟨rfl, hb⟩
  replace bC := blk_below bC hb (blk_lt bC)
  replace cC := blk_cell bC
  replace rC := row?_of bC
  replace zC := blk_lt bC
  replace bD := blk_below bD hb (blk_lt bD)
  replace cD := blk_cell bD
  replace rD := row?_of bD
  replace zD := blk_lt bD
  replace hB := hB.trans (hb.mono hB.size)
  clear hb
  have bE := blk_new wS (.cells (cpuCells (returnS (enterS c cause addr))) 26)
  have bC' := blk_old bC (.cells (cpuCells (returnS (enterS c cause addr))) 26)
  replace hB := hB.alloc hB.size (.cells (cpuCells (returnS (enterS c cause addr))) 26)
  go_wp2_with fail
  refine (return_any (returnS (enterS c cause addr)) _).mono ?_
  rintro e wT ⟨rfl, hb⟩
  clear bC cC rC zC cD rD zD bD
  have bC := blk_below bC' hb (blk_lt bC')
  replace bE := blk_below bE hb (blk_lt bE)
  replace hB := hB.trans (hb.mono hB.size)
  clear hb bC'
  have cC := blk_cell bC
  have rC := row?_of bC
  have zC := blk_lt bC
  have cE := blk_cell bE
  have rE := row?_of bE
  have zE := blk_lt bE
  go_wp2_with fail
  refine (regs_refl c.r c.hr _).mono ?_
  rintro e wU ⟨rfl, hb⟩
  have bF := blk_below (blk_new wT (.cells (cpuCells (returnS (returnS (enterS c cause addr)))) 26)) hb (by simp)
  have bC' := blk_below (blk_old bC (.cells (cpuCells (returnS (returnS (enterS c cause addr)))) 26)) hb (by simp; omega)
  have bE' := blk_below (blk_old bE (.cells (cpuCells (returnS (returnS (enterS c cause addr)))) 26)) hb (by simp; omega)
  replace hB := (hB.alloc hB.size (.cells (cpuCells (returnS (returnS (enterS c cause addr)))) 26)).trans (hb.mono (Nat.le_trans hB.size (by simp)))
  clear hb cC rC zC cE rE zE bC bE
  have cC := blk_cell bC'
  have cE := blk_cell bE'
  have cF := blk_cell bF
  clear bC' bE' bF
  have e1 : (returnS (enterS c cause addr)).pc = c.pc := rfl
  have e2 : (returnS (enterS c cause addr)).ie = c.ie := rfl
  have e3 : (returnS (enterS c cause addr)).tv = c.tv := rfl
  have e4 : (returnS (enterS c cause addr)).cause = cause % 4294967296 := rfl
  have e5 : (returnS (enterS c cause addr)).addr = addr := rfl
  have e6 : (returnS (returnS (enterS c cause addr))).pc = 0 := rfl
  have e7 : (returnS (returnS (enterS c cause addr))).ie = false := rfl
  go_wp2
  go_ret
  exact ⟨rfl, hB⟩

theorem back_walk (c : Cpu) (cause addr : Int) (w : World) :
    Calls Try.prog 4 #[.agg (cpuCells c), .int .i64 cause, .int .u32 addr] w fun e w' => e = .returned (.bool true) ∧ Below w.heap.size w w' := by
  by_cases h : c.tv = 0
  · exact back_none c cause addr w h
  · exact back_some c cause addr w (by simpa using h)

end Go.Proofs.Ytojbcefoofdpfaa
