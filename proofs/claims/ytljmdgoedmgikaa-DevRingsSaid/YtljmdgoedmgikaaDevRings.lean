/-
  DevRings: for every time, every two durations and every delay the call returns true; nothing that was there is turned. No conditions.
-/
import Derived.Test.YtljmdgoedmgikaaDevFirst
namespace Go.Proofs.Ytljmdgoedmgikaa
open Go.RowKit

set_option maxHeartbeats 1000000 in
theorem rings_zz (now late : Int) (w : World) (h0 : 0 ≤ now) (h1 : now ≤ 1099511627776) (h2 : 0 ≤ late) (h3 : late ≤ 1099511627776) :
    Calls Try.prog 4 #[.int .i64 now, .int .u32 0, .int .u32 0, .int .i64 late] w fun e w' => e = .returned (.bool true) ∧ Below w.heap.size w w' := by
  go_enter Try.func4, Try.ntmps4
  go_wp2_with fail
  refine (first_true _).mono ?_
  rintro e w1 ⟨rfl, hb⟩
  have HD := Lib.hid (dev_new w1)
  have HO := Lib.hid ((Only.of_below (F := fun k => w.heap.size ≤ k) hb).alloc' (.cells (devCells (.slice none 0 0) (List.replicate 16 0) false 0 (.slice none 0 0)) 28))
  have hz := hb.size
  clear hb
  go_wp2_with fail
  refine (due_is _ _ _ _ HD.out now false rfl).mono ?_
  rintro e w2 ⟨rfl, rfl⟩
  go_wp2_with fail
  refine (set_zero _ _ _ _ HD.out now).mono ?_
  rintro e w2 ⟨rfl, hd, ho⟩
  have HD1 := Lib.hid hd
  have HO1 := Lib.hid (HO.out.trans' ho (fun k hk => .inr (Nat.le_trans hz hk)))
  clear hd ho HD HO
  go_wp2_with fail
  refine (due_is _ _ _ _ HD1.out (now + late) false (by simp)).mono ?_
  rintro e w' ⟨rfl, rfl⟩
  go_wp2_with fail
  refine (set_zero _ _ _ _ HD1.out now).mono ?_
  rintro e w3 ⟨rfl, hd, ho⟩
  have HD2 := Lib.hid hd
  have HO2 := Lib.hid (HO1.out.trans' ho (fun k hk => .inr (Nat.le_trans hz hk)))
  clear hd ho HD1 HO1
  go_wp2_with fail
  refine (due_is _ _ _ _ HD2.out (now + late) false (by simp)).mono ?_
  rintro e w' ⟨rfl, rfl⟩
  go_wp2_with fail
  refine (rang_any _ _ _ _ HD2.out).mono ?_
  rintro e w4 ⟨rfl, hd, ho⟩
  have HD3 := Lib.hid hd
  have HO3 := Lib.hid (HO2.out.trans' ho (fun k hk => .inr (Nat.le_trans hz hk)))
  clear hd ho HD2 HO2
  go_wp2_with fail
  refine (due_is _ _ _ _ HD3.out (now + late) false rfl).mono ?_
  rintro e w' ⟨rfl, rfl⟩
  go_wp2
  go_ret
  exact ⟨ret_bool (by first | rfl | (simp; omega)), HO3.out.below (Nat.le_refl _) (fun k hk => hk)⟩

set_option maxHeartbeats 1000000 in
theorem rings_zy (now late : Int) (w : World) (h0 : 0 ≤ now) (h1 : now ≤ 1099511627776) (h2 : 0 ≤ late) (h3 : late ≤ 1099511627776) (b : Int) (hb0 : 0 < b) (hb1 : b ≤ 4294967295) (hb2 : b ≤ late) :
    Calls Try.prog 4 #[.int .i64 now, .int .u32 0, .int .u32 b, .int .i64 late] w fun e w' => e = .returned (.bool true) ∧ Below w.heap.size w w' := by
  go_enter Try.func4, Try.ntmps4
  go_wp2_with fail
  refine (first_true _).mono ?_
  rintro e w1 ⟨rfl, hb⟩
  have HD := Lib.hid (dev_new w1)
  have HO := Lib.hid ((Only.of_below (F := fun k => w.heap.size ≤ k) hb).alloc' (.cells (devCells (.slice none 0 0) (List.replicate 16 0) false 0 (.slice none 0 0)) 28))
  have hz := hb.size
  clear hb
  go_wp2_with fail
  refine (due_is _ _ _ _ HD.out now false rfl).mono ?_
  rintro e w2 ⟨rfl, rfl⟩
  go_wp2_with fail
  refine (set_zero _ _ _ _ HD.out now).mono ?_
  rintro e w2 ⟨rfl, hd, ho⟩
  have HD1 := Lib.hid hd
  have HO1 := Lib.hid (HO.out.trans' ho (fun k hk => .inr (Nat.le_trans hz hk)))
  clear hd ho HD HO
  go_wp2_with fail
  refine (due_is _ _ _ _ HD1.out (now + late) false (by simp)).mono ?_
  rintro e w' ⟨rfl, rfl⟩
  go_wp2_with fail
  refine (set_pos _ _ _ _ HD1.out now b hb0 hb1 h0 (by omega)).mono ?_
  rintro e w3 ⟨rfl, hd, ho⟩
  have HD2 := Lib.hid hd
  have HO2 := Lib.hid (HO1.out.trans' ho (fun k hk => .inr (Nat.le_trans hz hk)))
  clear hd ho HD1 HO1
  go_wp2_with fail
  refine (due_is _ _ _ _ HD2.out (now + late) true (by simp; omega)).mono ?_
  rintro e w' ⟨rfl, rfl⟩
  go_wp2_with fail
  refine (rang_any _ _ _ _ HD2.out).mono ?_
  rintro e w4 ⟨rfl, hd, ho⟩
  have HD3 := Lib.hid hd
  have HO3 := Lib.hid (HO2.out.trans' ho (fun k hk => .inr (Nat.le_trans hz hk)))
  clear hd ho HD2 HO2
  go_wp2_with fail
  refine (due_is _ _ _ _ HD3.out (now + late) false rfl).mono ?_
  rintro e w' ⟨rfl, rfl⟩
  go_wp2
  go_ret
  exact ⟨ret_bool (by first | rfl | (simp; omega)), HO3.out.below (Nat.le_refl _) (fun k hk => hk)⟩

set_option maxHeartbeats 1000000 in
theorem rings_zn (now late : Int) (w : World) (h0 : 0 ≤ now) (h1 : now ≤ 1099511627776) (h2 : 0 ≤ late) (h3 : late ≤ 1099511627776) (b : Int) (hb0 : 0 < b) (hb1 : b ≤ 4294967295) (hb2 : ¬ b ≤ late) :
    Calls Try.prog 4 #[.int .i64 now, .int .u32 0, .int .u32 b, .int .i64 late] w fun e w' => e = .returned (.bool true) ∧ Below w.heap.size w w' := by
  go_enter Try.func4, Try.ntmps4
  go_wp2_with fail
  refine (first_true _).mono ?_
  rintro e w1 ⟨rfl, hb⟩
  have HD := Lib.hid (dev_new w1)
  have HO := Lib.hid ((Only.of_below (F := fun k => w.heap.size ≤ k) hb).alloc' (.cells (devCells (.slice none 0 0) (List.replicate 16 0) false 0 (.slice none 0 0)) 28))
  have hz := hb.size
  clear hb
  go_wp2_with fail
  refine (due_is _ _ _ _ HD.out now false rfl).mono ?_
  rintro e w2 ⟨rfl, rfl⟩
  go_wp2_with fail
  refine (set_zero _ _ _ _ HD.out now).mono ?_
  rintro e w2 ⟨rfl, hd, ho⟩
  have HD1 := Lib.hid hd
  have HO1 := Lib.hid (HO.out.trans' ho (fun k hk => .inr (Nat.le_trans hz hk)))
  clear hd ho HD HO
  go_wp2_with fail
  refine (due_is _ _ _ _ HD1.out (now + late) false (by simp)).mono ?_
  rintro e w' ⟨rfl, rfl⟩
  go_wp2_with fail
  refine (set_pos _ _ _ _ HD1.out now b hb0 hb1 h0 (by omega)).mono ?_
  rintro e w3 ⟨rfl, hd, ho⟩
  have HD2 := Lib.hid hd
  have HO2 := Lib.hid (HO1.out.trans' ho (fun k hk => .inr (Nat.le_trans hz hk)))
  clear hd ho HD1 HO1
  go_wp2_with fail
  refine (due_is _ _ _ _ HD2.out (now + late) false (by simp; omega)).mono ?_
  rintro e w' ⟨rfl, rfl⟩
  go_wp2_with fail
  refine (rang_any _ _ _ _ HD2.out).mono ?_
  rintro e w4 ⟨rfl, hd, ho⟩
  have HD3 := Lib.hid hd
  have HO3 := Lib.hid (HO2.out.trans' ho (fun k hk => .inr (Nat.le_trans hz hk)))
  clear hd ho HD2 HO2
  go_wp2_with fail
  refine (due_is _ _ _ _ HD3.out (now + late) false rfl).mono ?_
  rintro e w' ⟨rfl, rfl⟩
  go_wp2
  go_ret
  exact ⟨ret_bool (by first | rfl | (simp; omega)), HO3.out.below (Nat.le_refl _) (fun k hk => hk)⟩

set_option maxHeartbeats 1000000 in
theorem rings_yz (now late : Int) (w : World) (h0 : 0 ≤ now) (h1 : now ≤ 1099511627776) (h2 : 0 ≤ late) (h3 : late ≤ 1099511627776) (a : Int) (ha0 : 0 < a) (ha1 : a ≤ 4294967295) (ha2 : a ≤ late) :
    Calls Try.prog 4 #[.int .i64 now, .int .u32 a, .int .u32 0, .int .i64 late] w fun e w' => e = .returned (.bool true) ∧ Below w.heap.size w w' := by
  go_enter Try.func4, Try.ntmps4
  go_wp2_with fail
  refine (first_true _).mono ?_
  rintro e w1 ⟨rfl, hb⟩
  have HD := Lib.hid (dev_new w1)
  have HO := Lib.hid ((Only.of_below (F := fun k => w.heap.size ≤ k) hb).alloc' (.cells (devCells (.slice none 0 0) (List.replicate 16 0) false 0 (.slice none 0 0)) 28))
  have hz := hb.size
  clear hb
  go_wp2_with fail
  refine (due_is _ _ _ _ HD.out now false rfl).mono ?_
  rintro e w2 ⟨rfl, rfl⟩
  go_wp2_with fail
  refine (set_pos _ _ _ _ HD.out now a ha0 ha1 h0 (by omega)).mono ?_
  rintro e w2 ⟨rfl, hd, ho⟩
  have HD1 := Lib.hid hd
  have HO1 := Lib.hid (HO.out.trans' ho (fun k hk => .inr (Nat.le_trans hz hk)))
  clear hd ho HD HO
  go_wp2_with fail
  refine (due_is _ _ _ _ HD1.out (now + late) true (by simp; omega)).mono ?_
  rintro e w' ⟨rfl, rfl⟩
  go_wp2_with fail
  refine (set_zero _ _ _ _ HD1.out now).mono ?_
  rintro e w3 ⟨rfl, hd, ho⟩
  have HD2 := Lib.hid hd
  have HO2 := Lib.hid (HO1.out.trans' ho (fun k hk => .inr (Nat.le_trans hz hk)))
  clear hd ho HD1 HO1
  go_wp2_with fail
  refine (due_is _ _ _ _ HD2.out (now + late) false (by simp)).mono ?_
  rintro e w' ⟨rfl, rfl⟩
  go_wp2_with fail
  refine (rang_any _ _ _ _ HD2.out).mono ?_
  rintro e w4 ⟨rfl, hd, ho⟩
  have HD3 := Lib.hid hd
  have HO3 := Lib.hid (HO2.out.trans' ho (fun k hk => .inr (Nat.le_trans hz hk)))
  clear hd ho HD2 HO2
  go_wp2_with fail
  refine (due_is _ _ _ _ HD3.out (now + late) false rfl).mono ?_
  rintro e w' ⟨rfl, rfl⟩
  go_wp2
  go_ret
  exact ⟨ret_bool (by first | rfl | (simp; omega)), HO3.out.below (Nat.le_refl _) (fun k hk => hk)⟩

set_option maxHeartbeats 1000000 in
theorem rings_yy (now late : Int) (w : World) (h0 : 0 ≤ now) (h1 : now ≤ 1099511627776) (h2 : 0 ≤ late) (h3 : late ≤ 1099511627776) (a : Int) (ha0 : 0 < a) (ha1 : a ≤ 4294967295) (ha2 : a ≤ late) (b : Int) (hb0 : 0 < b) (hb1 : b ≤ 4294967295) (hb2 : b ≤ late) :
    Calls Try.prog 4 #[.int .i64 now, .int .u32 a, .int .u32 b, .int .i64 late] w fun e w' => e = .returned (.bool true) ∧ Below w.heap.size w w' := by
  go_enter Try.func4, Try.ntmps4
  go_wp2_with fail
  refine (first_true _).mono ?_
  rintro e w1 ⟨rfl, hb⟩
  have HD := Lib.hid (dev_new w1)
  have HO := Lib.hid ((Only.of_below (F := fun k => w.heap.size ≤ k) hb).alloc' (.cells (devCells (.slice none 0 0) (List.replicate 16 0) false 0 (.slice none 0 0)) 28))
  have hz := hb.size
  clear hb
  go_wp2_with fail
  refine (due_is _ _ _ _ HD.out now false rfl).mono ?_
  rintro e w2 ⟨rfl, rfl⟩
  go_wp2_with fail
  refine (set_pos _ _ _ _ HD.out now a ha0 ha1 h0 (by omega)).mono ?_
  rintro e w2 ⟨rfl, hd, ho⟩
  have HD1 := Lib.hid hd
  have HO1 := Lib.hid (HO.out.trans' ho (fun k hk => .inr (Nat.le_trans hz hk)))
  clear hd ho HD HO
  go_wp2_with fail
  refine (due_is _ _ _ _ HD1.out (now + late) true (by simp; omega)).mono ?_
  rintro e w' ⟨rfl, rfl⟩
  go_wp2_with fail
  refine (set_pos _ _ _ _ HD1.out now b hb0 hb1 h0 (by omega)).mono ?_
  rintro e w3 ⟨rfl, hd, ho⟩
  have HD2 := Lib.hid hd
  have HO2 := Lib.hid (HO1.out.trans' ho (fun k hk => .inr (Nat.le_trans hz hk)))
  clear hd ho HD1 HO1
  go_wp2_with fail
  refine (due_is _ _ _ _ HD2.out (now + late) true (by simp; omega)).mono ?_
  rintro e w' ⟨rfl, rfl⟩
  go_wp2_with fail
  refine (rang_any _ _ _ _ HD2.out).mono ?_
  rintro e w4 ⟨rfl, hd, ho⟩
  have HD3 := Lib.hid hd
  have HO3 := Lib.hid (HO2.out.trans' ho (fun k hk => .inr (Nat.le_trans hz hk)))
  clear hd ho HD2 HO2
  go_wp2_with fail
  refine (due_is _ _ _ _ HD3.out (now + late) false rfl).mono ?_
  rintro e w' ⟨rfl, rfl⟩
  go_wp2
  go_ret
  exact ⟨ret_bool (by first | rfl | (simp; omega)), HO3.out.below (Nat.le_refl _) (fun k hk => hk)⟩

set_option maxHeartbeats 1000000 in
theorem rings_yn (now late : Int) (w : World) (h0 : 0 ≤ now) (h1 : now ≤ 1099511627776) (h2 : 0 ≤ late) (h3 : late ≤ 1099511627776) (a : Int) (ha0 : 0 < a) (ha1 : a ≤ 4294967295) (ha2 : a ≤ late) (b : Int) (hb0 : 0 < b) (hb1 : b ≤ 4294967295) (hb2 : ¬ b ≤ late) :
    Calls Try.prog 4 #[.int .i64 now, .int .u32 a, .int .u32 b, .int .i64 late] w fun e w' => e = .returned (.bool true) ∧ Below w.heap.size w w' := by
  go_enter Try.func4, Try.ntmps4
  go_wp2_with fail
  refine (first_true _).mono ?_
  rintro e w1 ⟨rfl, hb⟩
  have HD := Lib.hid (dev_new w1)
  have HO := Lib.hid ((Only.of_below (F := fun k => w.heap.size ≤ k) hb).alloc' (.cells (devCells (.slice none 0 0) (List.replicate 16 0) false 0 (.slice none 0 0)) 28))
  have hz := hb.size
  clear hb
  go_wp2_with fail
  refine (due_is _ _ _ _ HD.out now false rfl).mono ?_
  rintro e w2 ⟨rfl, rfl⟩
  go_wp2_with fail
  refine (set_pos _ _ _ _ HD.out now a ha0 ha1 h0 (by omega)).mono ?_
  rintro e w2 ⟨rfl, hd, ho⟩
  have HD1 := Lib.hid hd
  have HO1 := Lib.hid (HO.out.trans' ho (fun k hk => .inr (Nat.le_trans hz hk)))
  clear hd ho HD HO
  go_wp2_with fail
  refine (due_is _ _ _ _ HD1.out (now + late) true (by simp; omega)).mono ?_
  rintro e w' ⟨rfl, rfl⟩
  go_wp2_with fail
  refine (set_pos _ _ _ _ HD1.out now b hb0 hb1 h0 (by omega)).mono ?_
  rintro e w3 ⟨rfl, hd, ho⟩
  have HD2 := Lib.hid hd
  have HO2 := Lib.hid (HO1.out.trans' ho (fun k hk => .inr (Nat.le_trans hz hk)))
  clear hd ho HD1 HO1
  go_wp2_with fail
  refine (due_is _ _ _ _ HD2.out (now + late) false (by simp; omega)).mono ?_
  rintro e w' ⟨rfl, rfl⟩
  go_wp2_with fail
  refine (rang_any _ _ _ _ HD2.out).mono ?_
  rintro e w4 ⟨rfl, hd, ho⟩
  have HD3 := Lib.hid hd
  have HO3 := Lib.hid (HO2.out.trans' ho (fun k hk => .inr (Nat.le_trans hz hk)))
  clear hd ho HD2 HO2
  go_wp2_with fail
  refine (due_is _ _ _ _ HD3.out (now + late) false rfl).mono ?_
  rintro e w' ⟨rfl, rfl⟩
  go_wp2
  go_ret
  exact ⟨ret_bool (by first | rfl | (simp; omega)), HO3.out.below (Nat.le_refl _) (fun k hk => hk)⟩

set_option maxHeartbeats 1000000 in
theorem rings_nz (now late : Int) (w : World) (h0 : 0 ≤ now) (h1 : now ≤ 1099511627776) (h2 : 0 ≤ late) (h3 : late ≤ 1099511627776) (a : Int) (ha0 : 0 < a) (ha1 : a ≤ 4294967295) (ha2 : ¬ a ≤ late) :
    Calls Try.prog 4 #[.int .i64 now, .int .u32 a, .int .u32 0, .int .i64 late] w fun e w' => e = .returned (.bool true) ∧ Below w.heap.size w w' := by
  go_enter Try.func4, Try.ntmps4
  go_wp2_with fail
  refine (first_true _).mono ?_
  rintro e w1 ⟨rfl, hb⟩
  have HD := Lib.hid (dev_new w1)
  have HO := Lib.hid ((Only.of_below (F := fun k => w.heap.size ≤ k) hb).alloc' (.cells (devCells (.slice none 0 0) (List.replicate 16 0) false 0 (.slice none 0 0)) 28))
  have hz := hb.size
  clear hb
  go_wp2_with fail
  refine (due_is _ _ _ _ HD.out now false rfl).mono ?_
  rintro e w2 ⟨rfl, rfl⟩
  go_wp2_with fail
  refine (set_pos _ _ _ _ HD.out now a ha0 ha1 h0 (by omega)).mono ?_
  rintro e w2 ⟨rfl, hd, ho⟩
  have HD1 := Lib.hid hd
  have HO1 := Lib.hid (HO.out.trans' ho (fun k hk => .inr (Nat.le_trans hz hk)))
  clear hd ho HD HO
  go_wp2_with fail
  refine (due_is _ _ _ _ HD1.out (now + late) false (by simp; omega)).mono ?_
  rintro e w' ⟨rfl, rfl⟩
  go_wp2_with fail
  refine (set_zero _ _ _ _ HD1.out now).mono ?_
  rintro e w3 ⟨rfl, hd, ho⟩
  have HD2 := Lib.hid hd
  have HO2 := Lib.hid (HO1.out.trans' ho (fun k hk => .inr (Nat.le_trans hz hk)))
  clear hd ho HD1 HO1
  go_wp2_with fail
  refine (due_is _ _ _ _ HD2.out (now + late) false (by simp)).mono ?_
  rintro e w' ⟨rfl, rfl⟩
  go_wp2_with fail
  refine (rang_any _ _ _ _ HD2.out).mono ?_
  rintro e w4 ⟨rfl, hd, ho⟩
  have HD3 := Lib.hid hd
  have HO3 := Lib.hid (HO2.out.trans' ho (fun k hk => .inr (Nat.le_trans hz hk)))
  clear hd ho HD2 HO2
  go_wp2_with fail
  refine (due_is _ _ _ _ HD3.out (now + late) false rfl).mono ?_
  rintro e w' ⟨rfl, rfl⟩
  go_wp2
  go_ret
  exact ⟨ret_bool (by first | rfl | (simp; omega)), HO3.out.below (Nat.le_refl _) (fun k hk => hk)⟩

set_option maxHeartbeats 1000000 in
theorem rings_ny (now late : Int) (w : World) (h0 : 0 ≤ now) (h1 : now ≤ 1099511627776) (h2 : 0 ≤ late) (h3 : late ≤ 1099511627776) (a : Int) (ha0 : 0 < a) (ha1 : a ≤ 4294967295) (ha2 : ¬ a ≤ late) (b : Int) (hb0 : 0 < b) (hb1 : b ≤ 4294967295) (hb2 : b ≤ late) :
    Calls Try.prog 4 #[.int .i64 now, .int .u32 a, .int .u32 b, .int .i64 late] w fun e w' => e = .returned (.bool true) ∧ Below w.heap.size w w' := by
  go_enter Try.func4, Try.ntmps4
  go_wp2_with fail
  refine (first_true _).mono ?_
  rintro e w1 ⟨rfl, hb⟩
  have HD := Lib.hid (dev_new w1)
  have HO := Lib.hid ((Only.of_below (F := fun k => w.heap.size ≤ k) hb).alloc' (.cells (devCells (.slice none 0 0) (List.replicate 16 0) false 0 (.slice none 0 0)) 28))
  have hz := hb.size
  clear hb
  go_wp2_with fail
  refine (due_is _ _ _ _ HD.out now false rfl).mono ?_
  rintro e w2 ⟨rfl, rfl⟩
  go_wp2_with fail
  refine (set_pos _ _ _ _ HD.out now a ha0 ha1 h0 (by omega)).mono ?_
  rintro e w2 ⟨rfl, hd, ho⟩
  have HD1 := Lib.hid hd
  have HO1 := Lib.hid (HO.out.trans' ho (fun k hk => .inr (Nat.le_trans hz hk)))
  clear hd ho HD HO
  go_wp2_with fail
  refine (due_is _ _ _ _ HD1.out (now + late) false (by simp; omega)).mono ?_
  rintro e w' ⟨rfl, rfl⟩
  go_wp2_with fail
  refine (set_pos _ _ _ _ HD1.out now b hb0 hb1 h0 (by omega)).mono ?_
  rintro e w3 ⟨rfl, hd, ho⟩
  have HD2 := Lib.hid hd
  have HO2 := Lib.hid (HO1.out.trans' ho (fun k hk => .inr (Nat.le_trans hz hk)))
  clear hd ho HD1 HO1
  go_wp2_with fail
  refine (due_is _ _ _ _ HD2.out (now + late) true (by simp; omega)).mono ?_
  rintro e w' ⟨rfl, rfl⟩
  go_wp2_with fail
  refine (rang_any _ _ _ _ HD2.out).mono ?_
  rintro e w4 ⟨rfl, hd, ho⟩
  have HD3 := Lib.hid hd
  have HO3 := Lib.hid (HO2.out.trans' ho (fun k hk => .inr (Nat.le_trans hz hk)))
  clear hd ho HD2 HO2
  go_wp2_with fail
  refine (due_is _ _ _ _ HD3.out (now + late) false rfl).mono ?_
  rintro e w' ⟨rfl, rfl⟩
  go_wp2
  go_ret
  exact ⟨ret_bool (by first | rfl | (simp; omega)), HO3.out.below (Nat.le_refl _) (fun k hk => hk)⟩

set_option maxHeartbeats 1000000 in
theorem rings_nn (now late : Int) (w : World) (h0 : 0 ≤ now) (h1 : now ≤ 1099511627776) (h2 : 0 ≤ late) (h3 : late ≤ 1099511627776) (a : Int) (ha0 : 0 < a) (ha1 : a ≤ 4294967295) (ha2 : ¬ a ≤ late) (b : Int) (hb0 : 0 < b) (hb1 : b ≤ 4294967295) (hb2 : ¬ b ≤ late) :
    Calls Try.prog 4 #[.int .i64 now, .int .u32 a, .int .u32 b, .int .i64 late] w fun e w' => e = .returned (.bool true) ∧ Below w.heap.size w w' := by
  go_enter Try.func4, Try.ntmps4
  go_wp2_with fail
  refine (first_true _).mono ?_
  rintro e w1 ⟨rfl, hb⟩
  have HD := Lib.hid (dev_new w1)
  have HO := Lib.hid ((Only.of_below (F := fun k => w.heap.size ≤ k) hb).alloc' (.cells (devCells (.slice none 0 0) (List.replicate 16 0) false 0 (.slice none 0 0)) 28))
  have hz := hb.size
  clear hb
  go_wp2_with fail
  refine (due_is _ _ _ _ HD.out now false rfl).mono ?_
  rintro e w2 ⟨rfl, rfl⟩
  go_wp2_with fail
  refine (set_pos _ _ _ _ HD.out now a ha0 ha1 h0 (by omega)).mono ?_
  rintro e w2 ⟨rfl, hd, ho⟩
  have HD1 := Lib.hid hd
  have HO1 := Lib.hid (HO.out.trans' ho (fun k hk => .inr (Nat.le_trans hz hk)))
  clear hd ho HD HO
  go_wp2_with fail
  refine (due_is _ _ _ _ HD1.out (now + late) false (by simp; omega)).mono ?_
  rintro e w' ⟨rfl, rfl⟩
  go_wp2_with fail
  refine (set_pos _ _ _ _ HD1.out now b hb0 hb1 h0 (by omega)).mono ?_
  rintro e w3 ⟨rfl, hd, ho⟩
  have HD2 := Lib.hid hd
  have HO2 := Lib.hid (HO1.out.trans' ho (fun k hk => .inr (Nat.le_trans hz hk)))
  clear hd ho HD1 HO1
  go_wp2_with fail
  refine (due_is _ _ _ _ HD2.out (now + late) false (by simp; omega)).mono ?_
  rintro e w' ⟨rfl, rfl⟩
  go_wp2_with fail
  refine (rang_any _ _ _ _ HD2.out).mono ?_
  rintro e w4 ⟨rfl, hd, ho⟩
  have HD3 := Lib.hid hd
  have HO3 := Lib.hid (HO2.out.trans' ho (fun k hk => .inr (Nat.le_trans hz hk)))
  clear hd ho HD2 HO2
  go_wp2_with fail
  refine (due_is _ _ _ _ HD3.out (now + late) false rfl).mono ?_
  rintro e w' ⟨rfl, rfl⟩
  go_wp2
  go_ret
  exact ⟨ret_bool (by first | rfl | (simp; omega)), HO3.out.below (Nat.le_refl _) (fun k hk => hk)⟩

set_option maxHeartbeats 1000000 in
theorem rings_out (now a b late : Int) (w : World) (h : now < 0 ∨ 1099511627776 < now ∨ late < 0 ∨ 1099511627776 < late) :
    Calls Try.prog 4 #[.int .i64 now, .int .u32 a, .int .u32 b, .int .i64 late] w fun e w' => e = .returned (.bool true) ∧ Below w.heap.size w w' := by
  by_cases c1 : now < 0
  · clear h
    go_enter Try.func4, Try.ntmps4
    go_wp2_with (go_at_call 8; refine (first_true _).mono ?_; rintro e w1 ⟨rfl, hb⟩)
    go_ret
    exact ⟨rfl, by assumption⟩
  · by_cases c2 : 1099511627776 < now
    · clear h
      go_enter Try.func4, Try.ntmps4
      go_wp2_with (go_at_call 8; refine (first_true _).mono ?_; rintro e w1 ⟨rfl, hb⟩)
      go_ret
      exact ⟨rfl, by assumption⟩
    · by_cases c3 : late < 0
      · clear h
        go_enter Try.func4, Try.ntmps4
        go_wp2_with (go_at_call 8; refine (first_true _).mono ?_; rintro e w1 ⟨rfl, hb⟩)
        go_ret
        exact ⟨rfl, by assumption⟩
      · have c4 : 1099511627776 < late := by omega
        clear h
        go_enter Try.func4, Try.ntmps4
        go_wp2_with (go_at_call 8; refine (first_true _).mono ?_; rintro e w1 ⟨rfl, hb⟩)
        go_ret
        exact ⟨rfl, by assumption⟩

theorem rings_walk (now a b late : Int) (w : World) (ha0 : 0 ≤ a) (ha1 : a ≤ 4294967295) (hb0 : 0 ≤ b) (hb1 : b ≤ 4294967295) :
    Calls Try.prog 4 #[.int .i64 now, .int .u32 a, .int .u32 b, .int .i64 late] w fun e w' => e = .returned (.bool true) ∧ Below w.heap.size w w' := by
  by_cases h : now < 0 ∨ 1099511627776 < now ∨ late < 0 ∨ 1099511627776 < late
  · exact rings_out now a b late w h
  · have h0 : 0 ≤ now := by omega
    have h1 : now ≤ 1099511627776 := by omega
    have h2 : 0 ≤ late := by omega
    have h3 : late ≤ 1099511627776 := by omega
    rcases (show a = 0 ∨ (0 < a ∧ a ≤ late) ∨ (0 < a ∧ ¬ a ≤ late) from by omega) with rfl | ⟨hap, hal⟩ | ⟨hap, hal⟩ <;> rcases (show b = 0 ∨ (0 < b ∧ b ≤ late) ∨ (0 < b ∧ ¬ b ≤ late) from by omega) with rfl | ⟨hbp, hbl⟩ | ⟨hbp, hbl⟩
    · exact rings_zz now late w h0 h1 h2 h3
    · exact rings_zy now late w h0 h1 h2 h3 b hbp hb1 hbl
    · exact rings_zn now late w h0 h1 h2 h3 b hbp hb1 hbl
    · exact rings_yz now late w h0 h1 h2 h3 a hap ha1 hal
    · exact rings_yy now late w h0 h1 h2 h3 a hap ha1 hal b hbp hb1 hbl
    · exact rings_yn now late w h0 h1 h2 h3 a hap ha1 hal b hbp hb1 hbl
    · exact rings_nz now late w h0 h1 h2 h3 a hap ha1 hal
    · exact rings_ny now late w h0 h1 h2 h3 a hap ha1 hal b hbp hb1 hbl
    · exact rings_nn now late w h0 h1 h2 h3 a hap ha1 hal b hbp hb1 hbl
end Go.Proofs.Ytljmdgoedmgikaa
