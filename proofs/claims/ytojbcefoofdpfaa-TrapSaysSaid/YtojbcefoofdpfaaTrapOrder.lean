/-
  TrapOrder: for every processor and every three answers the call returns true; nothing that was there is turned. No conditions.
-/
import Derived.Test.YtojbcefoofdpfaaTrap2
namespace Go.Proofs.Ytojbcefoofdpfaa
open Go.RowKit

theorem Only.one (w : World) (n o : Nat) (v : Value) : Only (fun k => k = n) w (w.setCell ⟨n, o, none⟩ v) := Only.setCell (F := fun k => k = n) (Only.refl _ w) (p := ⟨n, o, none⟩) (.inl rfl) v
theorem waits_is (c : Cpu) (D : DevS) (b : Nat) (F : Nat → Prop) (now : Int) (port : Bool) (w : World) (h : DevAt w b D F) (r : Int) (hr : waitsS c.ie D now port = r) :
    Calls Try.prog 16 #[.agg (cpuCells c), .pointer (some ⟨b, 0, none⟩), .int .i64 now, .bool port] w fun e w' => e = .returned (.int .i64 r) ∧ Below w.heap.size w w' := by
  subst hr
  exact waits_any c D b F now port w h

set_option maxHeartbeats 1000000 in
theorem order_yyy (c : Cpu) (w : World) :
    Calls Try.prog 5 #[.agg (cpuCells c), .bool true, .bool true, .bool true] w fun e w' => e = .returned (.bool true) ∧ Below w.heap.size w w' := by
  go_enter Try.func5, Try.ntmps5
  go_wp2_with fail
  refine (first_true _).mono ?_
  rintro e wA ⟨rfl, hb⟩
  have bC := blk_below (blk_new w _) hb (by simp)
  have hB : Below w.heap.size w wA := ((Below.refl _ _).alloc (Nat.le_refl _) _).trans (hb.mono (by simp))
  clear hb
  have zA := blk_lt bC
  have fA := blk_free bC 17
  have cA := blk_cell bC
  have rA := row?_of bC
  have HV := Lib.hid (dev_new wA)
  have HC := Lib.hid (blk_old bC (.cells (devCells (.slice none 0 0) (List.replicate 16 0) false 0 (.slice none 0 0)) 34))
  have HB := Lib.hid (hB.alloc hB.size (.cells (devCells (.slice none 0 0) (List.replicate 16 0) false 0 (.slice none 0 0)) 34))
  have HZ := Lib.hid (show wA.heap.size < (wA.alloc (.cells (devCells (.slice none 0 0) (List.replicate 16 0) false 0 (.slice none 0 0)) 34)).heap.size by simp)
  clear bC hB
  go_wp2_with fail
  refine (set_pos _ _ _ _ HV.out 0 5 (by omega) (by omega) (by omega) (by omega)).mono ?_
  rintro e wP ⟨rfl, hd, ho⟩
  have HV' := Lib.hid (hd.mono (G := fun k => wA.heap.size ≤ k) (fun k hk => hk))
  replace HC := Lib.hid (ho.blk HC.out (by omega))
  replace HB := Lib.hid (HB.out.trans (ho.below (B := w.heap.size) HB.out.size (fun k hk => by omega)))
  replace HZ := Lib.hid (Nat.lt_of_lt_of_le HZ.out ho.size)
  clear hd ho HV
  have HV := Lib.hid HV'.out
  clear HV'
  go_wp2_with fail
  refine (press_room _ _ _ 0 _ HV.out (by decide)).mono ?_
  rintro e wQ ⟨rfl, hd, ho⟩
  have HV' := Lib.hid (hd.mono (G := fun k => wA.heap.size ≤ k) (fun k hk => by have := HZ.out; rcases hk with h | h <;> omega))
  replace HC := Lib.hid (ho.blk HC.out (by omega))
  replace HB := Lib.hid (HB.out.trans (ho.below (B := w.heap.size) HB.out.size (fun k hk => by omega)))
  replace HZ := Lib.hid (Nat.lt_of_lt_of_le HZ.out ho.size)
  clear hd ho HV
  have HV := Lib.hid HV'.out
  clear HV'
  have bC := HC.out
  have cC := blk_cell bC
  have fC := blk_free bC 17
  have rC := row?_of bC
  have zC := blk_lt bC
  have zD : w.heap.size < wA.heap.size := zA
  have HV1 := Lib.hid (HV.out.only (Only.one _ w.heap.size 17 (.bool true)) (fun k h1 _ h2 => by omega))
  have HC1 := Lib.hid (blk_put bC 17 (.bool true))
  have HB1 := Lib.hid (HB.out.trans ((Only.one wQ w.heap.size 17 (.bool true)).below (B := w.heap.size) HB.out.size (fun k hk => by omega)))
  clear bC HC HB
  go_wp2_with fail
  refine (waits_is _ _ _ _ 5 true _ HV1.out 2 (by first | (simp [waitsS]; done) | rfl)).mono ?_
  rintro e wR ⟨rfl, hb⟩
  have HV2 := Lib.hid (HV1.out.below hb)
  have bC := blk_below HC1.out hb (blk_lt HC1.out)
  rw [cpuCells_set_ie] at bC
  have HB2 := Lib.hid (HB1.out.trans (hb.mono HB1.out.size))
  clear hb HV1 HC1 HB1 cC fC rC zC
  have cC := blk_cell bC
  have rC := row?_of bC
  go_wp2_with fail
  refine (waits_is _ _ _ _ 4 true _ HV2.out 3 (by first | (simp [waitsS]; done) | rfl)).mono ?_
  rintro e wS ⟨rfl, hb⟩
  have HV3 := Lib.hid (HV2.out.below hb)
  replace bC := blk_below bC hb (blk_lt bC)
  have HB3 := Lib.hid (HB2.out.trans (hb.mono HB2.out.size))
  clear hb HV2 HB2 cC rC
  have cC := blk_cell bC
  have fC := blk_free bC 17
  have rC := row?_of bC
  have HB4 := Lib.hid (HB3.out.trans ((Only.one wS w.heap.size 17 (.bool false)).below (B := w.heap.size) HB3.out.size (fun k hk => by omega)))
  clear bC HB3
  go_wp2_with fail
  refine (waits_off _ _ _ _ _ (by rfl)).mono ?_
  rintro e wT ⟨rfl, hb⟩
  have HB5 := HB4.out.trans (hb.mono HB4.out.size)
  clear hb HB4 cC fC rC
  go_wp2
  go_ret
  exact ⟨rfl, HB5⟩

set_option maxHeartbeats 1000000 in
theorem order_yyn (c : Cpu) (w : World) :
    Calls Try.prog 5 #[.agg (cpuCells c), .bool true, .bool true, .bool false] w fun e w' => e = .returned (.bool true) ∧ Below w.heap.size w w' := by
  go_enter Try.func5, Try.ntmps5
  go_wp2_with fail
  refine (first_true _).mono ?_
  rintro e wA ⟨rfl, hb⟩
  have bC := blk_below (blk_new w _) hb (by simp)
  have hB : Below w.heap.size w wA := ((Below.refl _ _).alloc (Nat.le_refl _) _).trans (hb.mono (by simp))
  clear hb
  have zA := blk_lt bC
  have fA := blk_free bC 17
  have cA := blk_cell bC
  have rA := row?_of bC
  have HV := Lib.hid (dev_new wA)
  have HC := Lib.hid (blk_old bC (.cells (devCells (.slice none 0 0) (List.replicate 16 0) false 0 (.slice none 0 0)) 34))
  have HB := Lib.hid (hB.alloc hB.size (.cells (devCells (.slice none 0 0) (List.replicate 16 0) false 0 (.slice none 0 0)) 34))
  have HZ := Lib.hid (show wA.heap.size < (wA.alloc (.cells (devCells (.slice none 0 0) (List.replicate 16 0) false 0 (.slice none 0 0)) 34)).heap.size by simp)
  clear bC hB
  go_wp2_with fail
  refine (set_pos _ _ _ _ HV.out 0 5 (by omega) (by omega) (by omega) (by omega)).mono ?_
  rintro e wP ⟨rfl, hd, ho⟩
  have HV' := Lib.hid (hd.mono (G := fun k => wA.heap.size ≤ k) (fun k hk => hk))
  replace HC := Lib.hid (ho.blk HC.out (by omega))
  replace HB := Lib.hid (HB.out.trans (ho.below (B := w.heap.size) HB.out.size (fun k hk => by omega)))
  replace HZ := Lib.hid (Nat.lt_of_lt_of_le HZ.out ho.size)
  clear hd ho HV
  have HV := Lib.hid HV'.out
  clear HV'
  go_wp2_with fail
  refine (press_room _ _ _ 0 _ HV.out (by decide)).mono ?_
  rintro e wQ ⟨rfl, hd, ho⟩
  have HV' := Lib.hid (hd.mono (G := fun k => wA.heap.size ≤ k) (fun k hk => by have := HZ.out; rcases hk with h | h <;> omega))
  replace HC := Lib.hid (ho.blk HC.out (by omega))
  replace HB := Lib.hid (HB.out.trans (ho.below (B := w.heap.size) HB.out.size (fun k hk => by omega)))
  replace HZ := Lib.hid (Nat.lt_of_lt_of_le HZ.out ho.size)
  clear hd ho HV
  have HV := Lib.hid HV'.out
  clear HV'
  have bC := HC.out
  have cC := blk_cell bC
  have fC := blk_free bC 17
  have rC := row?_of bC
  have zC := blk_lt bC
  have zD : w.heap.size < wA.heap.size := zA
  have HV1 := Lib.hid (HV.out.only (Only.one _ w.heap.size 17 (.bool true)) (fun k h1 _ h2 => by omega))
  have HC1 := Lib.hid (blk_put bC 17 (.bool true))
  have HB1 := Lib.hid (HB.out.trans ((Only.one wQ w.heap.size 17 (.bool true)).below (B := w.heap.size) HB.out.size (fun k hk => by omega)))
  clear bC HC HB
  go_wp2_with fail
  refine (waits_is _ _ _ _ 5 false _ HV1.out 2 (by first | (simp [waitsS]; done) | rfl)).mono ?_
  rintro e wR ⟨rfl, hb⟩
  have HV2 := Lib.hid (HV1.out.below hb)
  have bC := blk_below HC1.out hb (blk_lt HC1.out)
  rw [cpuCells_set_ie] at bC
  have HB2 := Lib.hid (HB1.out.trans (hb.mono HB1.out.size))
  clear hb HV1 HC1 HB1 cC fC rC zC
  have cC := blk_cell bC
  have rC := row?_of bC
  go_wp2_with fail
  refine (waits_is _ _ _ _ 4 false _ HV2.out 3 (by first | (simp [waitsS]; done) | rfl)).mono ?_
  rintro e wS ⟨rfl, hb⟩
  have HV3 := Lib.hid (HV2.out.below hb)
  replace bC := blk_below bC hb (blk_lt bC)
  have HB3 := Lib.hid (HB2.out.trans (hb.mono HB2.out.size))
  clear hb HV2 HB2 cC rC
  have cC := blk_cell bC
  have fC := blk_free bC 17
  have rC := row?_of bC
  have HB4 := Lib.hid (HB3.out.trans ((Only.one wS w.heap.size 17 (.bool false)).below (B := w.heap.size) HB3.out.size (fun k hk => by omega)))
  clear bC HB3
  go_wp2_with fail
  refine (waits_off _ _ _ _ _ (by rfl)).mono ?_
  rintro e wT ⟨rfl, hb⟩
  have HB5 := HB4.out.trans (hb.mono HB4.out.size)
  clear hb HB4 cC fC rC
  go_wp2
  go_ret
  exact ⟨rfl, HB5⟩

set_option maxHeartbeats 1000000 in
theorem order_yny (c : Cpu) (w : World) :
    Calls Try.prog 5 #[.agg (cpuCells c), .bool true, .bool false, .bool true] w fun e w' => e = .returned (.bool true) ∧ Below w.heap.size w w' := by
  go_enter Try.func5, Try.ntmps5
  go_wp2_with fail
  refine (first_true _).mono ?_
  rintro e wA ⟨rfl, hb⟩
  have bC := blk_below (blk_new w _) hb (by simp)
  have hB : Below w.heap.size w wA := ((Below.refl _ _).alloc (Nat.le_refl _) _).trans (hb.mono (by simp))
  clear hb
  have zA := blk_lt bC
  have fA := blk_free bC 17
  have cA := blk_cell bC
  have rA := row?_of bC
  have HV := Lib.hid (dev_new wA)
  have HC := Lib.hid (blk_old bC (.cells (devCells (.slice none 0 0) (List.replicate 16 0) false 0 (.slice none 0 0)) 34))
  have HB := Lib.hid (hB.alloc hB.size (.cells (devCells (.slice none 0 0) (List.replicate 16 0) false 0 (.slice none 0 0)) 34))
  have HZ := Lib.hid (show wA.heap.size < (wA.alloc (.cells (devCells (.slice none 0 0) (List.replicate 16 0) false 0 (.slice none 0 0)) 34)).heap.size by simp)
  clear bC hB
  go_wp2_with fail
  refine (set_pos _ _ _ _ HV.out 0 5 (by omega) (by omega) (by omega) (by omega)).mono ?_
  rintro e wP ⟨rfl, hd, ho⟩
  have HV' := Lib.hid (hd.mono (G := fun k => wA.heap.size ≤ k) (fun k hk => hk))
  replace HC := Lib.hid (ho.blk HC.out (by omega))
  replace HB := Lib.hid (HB.out.trans (ho.below (B := w.heap.size) HB.out.size (fun k hk => by omega)))
  replace HZ := Lib.hid (Nat.lt_of_lt_of_le HZ.out ho.size)
  clear hd ho HV
  have HV := Lib.hid HV'.out
  clear HV'
  have bC := HC.out
  have cC := blk_cell bC
  have fC := blk_free bC 17
  have rC := row?_of bC
  have zC := blk_lt bC
  have zD : w.heap.size < wA.heap.size := zA
  have HV1 := Lib.hid (HV.out.only (Only.one _ w.heap.size 17 (.bool true)) (fun k h1 _ h2 => by omega))
  have HC1 := Lib.hid (blk_put bC 17 (.bool true))
  have HB1 := Lib.hid (HB.out.trans ((Only.one wP w.heap.size 17 (.bool true)).below (B := w.heap.size) HB.out.size (fun k hk => by omega)))
  clear bC HC HB
  go_wp2_with fail
  refine (waits_is _ _ _ _ 5 true _ HV1.out 2 (by first | (simp [waitsS]; done) | rfl)).mono ?_
  rintro e wR ⟨rfl, hb⟩
  have HV2 := Lib.hid (HV1.out.below hb)
  have bC := blk_below HC1.out hb (blk_lt HC1.out)
  rw [cpuCells_set_ie] at bC
  have HB2 := Lib.hid (HB1.out.trans (hb.mono HB1.out.size))
  clear hb HV1 HC1 HB1 cC fC rC zC
  have cC := blk_cell bC
  have rC := row?_of bC
  go_wp2_with fail
  refine (waits_is _ _ _ _ 4 true _ HV2.out 5 (by first | (simp [waitsS]; done) | rfl)).mono ?_
  rintro e wS ⟨rfl, hb⟩
  have HV3 := Lib.hid (HV2.out.below hb)
  replace bC := blk_below bC hb (blk_lt bC)
  have HB3 := Lib.hid (HB2.out.trans (hb.mono HB2.out.size))
  clear hb HV2 HB2 cC rC
  have cC := blk_cell bC
  have fC := blk_free bC 17
  have rC := row?_of bC
  have HB4 := Lib.hid (HB3.out.trans ((Only.one wS w.heap.size 17 (.bool false)).below (B := w.heap.size) HB3.out.size (fun k hk => by omega)))
  clear bC HB3
  go_wp2_with fail
  refine (waits_off _ _ _ _ _ (by rfl)).mono ?_
  rintro e wT ⟨rfl, hb⟩
  have HB5 := HB4.out.trans (hb.mono HB4.out.size)
  clear hb HB4 cC fC rC
  go_wp2
  go_ret
  exact ⟨rfl, HB5⟩

set_option maxHeartbeats 1000000 in
theorem order_ynn (c : Cpu) (w : World) :
    Calls Try.prog 5 #[.agg (cpuCells c), .bool true, .bool false, .bool false] w fun e w' => e = .returned (.bool true) ∧ Below w.heap.size w w' := by
  go_enter Try.func5, Try.ntmps5
  go_wp2_with fail
  refine (first_true _).mono ?_
  rintro e wA ⟨rfl, hb⟩
  have bC := blk_below (blk_new w _) hb (by simp)
  have hB : Below w.heap.size w wA := ((Below.refl _ _).alloc (Nat.le_refl _) _).trans (hb.mono (by simp))
  clear hb
  have zA := blk_lt bC
  have fA := blk_free bC 17
  have cA := blk_cell bC
  have rA := row?_of bC
  have HV := Lib.hid (dev_new wA)
  have HC := Lib.hid (blk_old bC (.cells (devCells (.slice none 0 0) (List.replicate 16 0) false 0 (.slice none 0 0)) 34))
  have HB := Lib.hid (hB.alloc hB.size (.cells (devCells (.slice none 0 0) (List.replicate 16 0) false 0 (.slice none 0 0)) 34))
  have HZ := Lib.hid (show wA.heap.size < (wA.alloc (.cells (devCells (.slice none 0 0) (List.replicate 16 0) false 0 (.slice none 0 0)) 34)).heap.size by simp)
  clear bC hB
  go_wp2_with fail
  refine (set_pos _ _ _ _ HV.out 0 5 (by omega) (by omega) (by omega) (by omega)).mono ?_
  rintro e wP ⟨rfl, hd, ho⟩
  have HV' := Lib.hid (hd.mono (G := fun k => wA.heap.size ≤ k) (fun k hk => hk))
  replace HC := Lib.hid (ho.blk HC.out (by omega))
  replace HB := Lib.hid (HB.out.trans (ho.below (B := w.heap.size) HB.out.size (fun k hk => by omega)))
  replace HZ := Lib.hid (Nat.lt_of_lt_of_le HZ.out ho.size)
  clear hd ho HV
  have HV := Lib.hid HV'.out
  clear HV'
  have bC := HC.out
  have cC := blk_cell bC
  have fC := blk_free bC 17
  have rC := row?_of bC
  have zC := blk_lt bC
  have zD : w.heap.size < wA.heap.size := zA
  have HV1 := Lib.hid (HV.out.only (Only.one _ w.heap.size 17 (.bool true)) (fun k h1 _ h2 => by omega))
  have HC1 := Lib.hid (blk_put bC 17 (.bool true))
  have HB1 := Lib.hid (HB.out.trans ((Only.one wP w.heap.size 17 (.bool true)).below (B := w.heap.size) HB.out.size (fun k hk => by omega)))
  clear bC HC HB
  go_wp2_with fail
  refine (waits_is _ _ _ _ 5 false _ HV1.out 2 (by first | (simp [waitsS]; done) | rfl)).mono ?_
  rintro e wR ⟨rfl, hb⟩
  have HV2 := Lib.hid (HV1.out.below hb)
  have bC := blk_below HC1.out hb (blk_lt HC1.out)
  rw [cpuCells_set_ie] at bC
  have HB2 := Lib.hid (HB1.out.trans (hb.mono HB1.out.size))
  clear hb HV1 HC1 HB1 cC fC rC zC
  have cC := blk_cell bC
  have rC := row?_of bC
  go_wp2_with fail
  refine (waits_is _ _ _ _ 4 false _ HV2.out 0 (by first | (simp [waitsS]; done) | rfl)).mono ?_
  rintro e wS ⟨rfl, hb⟩
  have HV3 := Lib.hid (HV2.out.below hb)
  replace bC := blk_below bC hb (blk_lt bC)
  have HB3 := Lib.hid (HB2.out.trans (hb.mono HB2.out.size))
  clear hb HV2 HB2 cC rC
  have cC := blk_cell bC
  have fC := blk_free bC 17
  have rC := row?_of bC
  have HB4 := Lib.hid (HB3.out.trans ((Only.one wS w.heap.size 17 (.bool false)).below (B := w.heap.size) HB3.out.size (fun k hk => by omega)))
  clear bC HB3
  go_wp2_with fail
  refine (waits_off _ _ _ _ _ (by rfl)).mono ?_
  rintro e wT ⟨rfl, hb⟩
  have HB5 := HB4.out.trans (hb.mono HB4.out.size)
  clear hb HB4 cC fC rC
  go_wp2
  go_ret
  exact ⟨rfl, HB5⟩

set_option maxHeartbeats 1000000 in
theorem order_nyy (c : Cpu) (w : World) :
    Calls Try.prog 5 #[.agg (cpuCells c), .bool false, .bool true, .bool true] w fun e w' => e = .returned (.bool true) ∧ Below w.heap.size w w' := by
  go_enter Try.func5, Try.ntmps5
  go_wp2_with fail
  refine (first_true _).mono ?_
  rintro e wA ⟨rfl, hb⟩
  have bC := blk_below (blk_new w _) hb (by simp)
  have hB : Below w.heap.size w wA := ((Below.refl _ _).alloc (Nat.le_refl _) _).trans (hb.mono (by simp))
  clear hb
  have zA := blk_lt bC
  have fA := blk_free bC 17
  have cA := blk_cell bC
  have rA := row?_of bC
  have HV := Lib.hid (dev_new wA)
  have HC := Lib.hid (blk_old bC (.cells (devCells (.slice none 0 0) (List.replicate 16 0) false 0 (.slice none 0 0)) 34))
  have HB := Lib.hid (hB.alloc hB.size (.cells (devCells (.slice none 0 0) (List.replicate 16 0) false 0 (.slice none 0 0)) 34))
  have HZ := Lib.hid (show wA.heap.size < (wA.alloc (.cells (devCells (.slice none 0 0) (List.replicate 16 0) false 0 (.slice none 0 0)) 34)).heap.size by simp)
  clear bC hB
  go_wp2_with fail
  refine (press_room _ _ _ 0 _ HV.out (by decide)).mono ?_
  rintro e wQ ⟨rfl, hd, ho⟩
  have HV' := Lib.hid (hd.mono (G := fun k => wA.heap.size ≤ k) (fun k hk => by have := HZ.out; rcases hk with h | h <;> omega))
  replace HC := Lib.hid (ho.blk HC.out (by omega))
  replace HB := Lib.hid (HB.out.trans (ho.below (B := w.heap.size) HB.out.size (fun k hk => by omega)))
  replace HZ := Lib.hid (Nat.lt_of_lt_of_le HZ.out ho.size)
  clear hd ho HV
  have HV := Lib.hid HV'.out
  clear HV'
  have bC := HC.out
  have cC := blk_cell bC
  have fC := blk_free bC 17
  have rC := row?_of bC
  have zC := blk_lt bC
  have zD : w.heap.size < wA.heap.size := zA
  have HV1 := Lib.hid (HV.out.only (Only.one _ w.heap.size 17 (.bool true)) (fun k h1 _ h2 => by omega))
  have HC1 := Lib.hid (blk_put bC 17 (.bool true))
  have HB1 := Lib.hid (HB.out.trans ((Only.one wQ w.heap.size 17 (.bool true)).below (B := w.heap.size) HB.out.size (fun k hk => by omega)))
  clear bC HC HB
  go_wp2_with fail
  refine (waits_is _ _ _ _ 5 true _ HV1.out 3 (by first | (simp [waitsS]; done) | rfl)).mono ?_
  rintro e wR ⟨rfl, hb⟩
  have HV2 := Lib.hid (HV1.out.below hb)
  have bC := blk_below HC1.out hb (blk_lt HC1.out)
  rw [cpuCells_set_ie] at bC
  have HB2 := Lib.hid (HB1.out.trans (hb.mono HB1.out.size))
  clear hb HV1 HC1 HB1 cC fC rC zC
  have cC := blk_cell bC
  have rC := row?_of bC
  go_wp2_with fail
  refine (waits_is _ _ _ _ 4 true _ HV2.out 3 (by first | (simp [waitsS]; done) | rfl)).mono ?_
  rintro e wS ⟨rfl, hb⟩
  have HV3 := Lib.hid (HV2.out.below hb)
  replace bC := blk_below bC hb (blk_lt bC)
  have HB3 := Lib.hid (HB2.out.trans (hb.mono HB2.out.size))
  clear hb HV2 HB2 cC rC
  have cC := blk_cell bC
  have fC := blk_free bC 17
  have rC := row?_of bC
  have HB4 := Lib.hid (HB3.out.trans ((Only.one wS w.heap.size 17 (.bool false)).below (B := w.heap.size) HB3.out.size (fun k hk => by omega)))
  clear bC HB3
  go_wp2_with fail
  refine (waits_off _ _ _ _ _ (by rfl)).mono ?_
  rintro e wT ⟨rfl, hb⟩
  have HB5 := HB4.out.trans (hb.mono HB4.out.size)
  clear hb HB4 cC fC rC
  go_wp2
  go_ret
  exact ⟨rfl, HB5⟩

set_option maxHeartbeats 1000000 in
theorem order_nyn (c : Cpu) (w : World) :
    Calls Try.prog 5 #[.agg (cpuCells c), .bool false, .bool true, .bool false] w fun e w' => e = .returned (.bool true) ∧ Below w.heap.size w w' := by
  go_enter Try.func5, Try.ntmps5
  go_wp2_with fail
  refine (first_true _).mono ?_
  rintro e wA ⟨rfl, hb⟩
  have bC := blk_below (blk_new w _) hb (by simp)
  have hB : Below w.heap.size w wA := ((Below.refl _ _).alloc (Nat.le_refl _) _).trans (hb.mono (by simp))
  clear hb
  have zA := blk_lt bC
  have fA := blk_free bC 17
  have cA := blk_cell bC
  have rA := row?_of bC
  have HV := Lib.hid (dev_new wA)
  have HC := Lib.hid (blk_old bC (.cells (devCells (.slice none 0 0) (List.replicate 16 0) false 0 (.slice none 0 0)) 34))
  have HB := Lib.hid (hB.alloc hB.size (.cells (devCells (.slice none 0 0) (List.replicate 16 0) false 0 (.slice none 0 0)) 34))
  have HZ := Lib.hid (show wA.heap.size < (wA.alloc (.cells (devCells (.slice none 0 0) (List.replicate 16 0) false 0 (.slice none 0 0)) 34)).heap.size by simp)
  clear bC hB
  go_wp2_with fail
  refine (press_room _ _ _ 0 _ HV.out (by decide)).mono ?_
  rintro e wQ ⟨rfl, hd, ho⟩
  have HV' := Lib.hid (hd.mono (G := fun k => wA.heap.size ≤ k) (fun k hk => by have := HZ.out; rcases hk with h | h <;> omega))
  replace HC := Lib.hid (ho.blk HC.out (by omega))
  replace HB := Lib.hid (HB.out.trans (ho.below (B := w.heap.size) HB.out.size (fun k hk => by omega)))
  replace HZ := Lib.hid (Nat.lt_of_lt_of_le HZ.out ho.size)
  clear hd ho HV
  have HV := Lib.hid HV'.out
  clear HV'
  have bC := HC.out
  have cC := blk_cell bC
  have fC := blk_free bC 17
  have rC := row?_of bC
  have zC := blk_lt bC
  have zD : w.heap.size < wA.heap.size := zA
  have HV1 := Lib.hid (HV.out.only (Only.one _ w.heap.size 17 (.bool true)) (fun k h1 _ h2 => by omega))
  have HC1 := Lib.hid (blk_put bC 17 (.bool true))
  have HB1 := Lib.hid (HB.out.trans ((Only.one wQ w.heap.size 17 (.bool true)).below (B := w.heap.size) HB.out.size (fun k hk => by omega)))
  clear bC HC HB
  go_wp2_with fail
  refine (waits_is _ _ _ _ 5 false _ HV1.out 3 (by first | (simp [waitsS]; done) | rfl)).mono ?_
  rintro e wR ⟨rfl, hb⟩
  have HV2 := Lib.hid (HV1.out.below hb)
  have bC := blk_below HC1.out hb (blk_lt HC1.out)
  rw [cpuCells_set_ie] at bC
  have HB2 := Lib.hid (HB1.out.trans (hb.mono HB1.out.size))
  clear hb HV1 HC1 HB1 cC fC rC zC
  have cC := blk_cell bC
  have rC := row?_of bC
  go_wp2_with fail
  refine (waits_is _ _ _ _ 4 false _ HV2.out 3 (by first | (simp [waitsS]; done) | rfl)).mono ?_
  rintro e wS ⟨rfl, hb⟩
  have HV3 := Lib.hid (HV2.out.below hb)
  replace bC := blk_below bC hb (blk_lt bC)
  have HB3 := Lib.hid (HB2.out.trans (hb.mono HB2.out.size))
  clear hb HV2 HB2 cC rC
  have cC := blk_cell bC
  have fC := blk_free bC 17
  have rC := row?_of bC
  have HB4 := Lib.hid (HB3.out.trans ((Only.one wS w.heap.size 17 (.bool false)).below (B := w.heap.size) HB3.out.size (fun k hk => by omega)))
  clear bC HB3
  go_wp2_with fail
  refine (waits_off _ _ _ _ _ (by rfl)).mono ?_
  rintro e wT ⟨rfl, hb⟩
  have HB5 := HB4.out.trans (hb.mono HB4.out.size)
  clear hb HB4 cC fC rC
  go_wp2
  go_ret
  exact ⟨rfl, HB5⟩

set_option maxHeartbeats 1000000 in
theorem order_nny (c : Cpu) (w : World) :
    Calls Try.prog 5 #[.agg (cpuCells c), .bool false, .bool false, .bool true] w fun e w' => e = .returned (.bool true) ∧ Below w.heap.size w w' := by
  go_enter Try.func5, Try.ntmps5
  go_wp2_with fail
  refine (first_true _).mono ?_
  rintro e wA ⟨rfl, hb⟩
  have bC := blk_below (blk_new w _) hb (by simp)
  have hB : Below w.heap.size w wA := ((Below.refl _ _).alloc (Nat.le_refl _) _).trans (hb.mono (by simp))
  clear hb
  have zA := blk_lt bC
  have fA := blk_free bC 17
  have cA := blk_cell bC
  have rA := row?_of bC
  have hV := (dev_new (wA.setCell ⟨w.heap.size, 17, none⟩ (.bool true))).mono (G := fun k => wA.heap.size ≤ k) (fun k hk => by simpa using hk)
  rw [World.size_setCell] at hV
  have HV1 := Lib.hid hV
  have HC1 := Lib.hid (blk_old (blk_put bC 17 (.bool true)) (.cells (devCells (.slice none 0 0) (List.replicate 16 0) false 0 (.slice none 0 0)) 34))
  have HB1 := Lib.hid ((hB.trans ((Only.one wA w.heap.size 17 (.bool true)).below (B := w.heap.size) hB.size (fun k hk => by omega))).alloc (by simpa using hB.size) (.cells (devCells (.slice none 0 0) (List.replicate 16 0) false 0 (.slice none 0 0)) 34))
  have zD : w.heap.size < wA.heap.size := zA
  have cC := trivial
  have fC := trivial
  have rC := trivial
  have zC := trivial
  clear hV bC hB
  go_wp2_with fail
  refine (waits_is _ _ _ _ 5 true _ HV1.out 5 (by first | (simp [waitsS]; done) | rfl)).mono ?_
  rintro e wR ⟨rfl, hb⟩
  have HV2 := Lib.hid (HV1.out.below hb)
  have bC := blk_below HC1.out hb (blk_lt HC1.out)
  rw [cpuCells_set_ie] at bC
  have HB2 := Lib.hid (HB1.out.trans (hb.mono HB1.out.size))
  clear hb HV1 HC1 HB1 cC fC rC zC
  have cC := blk_cell bC
  have rC := row?_of bC
  go_wp2_with fail
  refine (waits_is _ _ _ _ 4 true _ HV2.out 5 (by first | (simp [waitsS]; done) | rfl)).mono ?_
  rintro e wS ⟨rfl, hb⟩
  have HV3 := Lib.hid (HV2.out.below hb)
  replace bC := blk_below bC hb (blk_lt bC)
  have HB3 := Lib.hid (HB2.out.trans (hb.mono HB2.out.size))
  clear hb HV2 HB2 cC rC
  have cC := blk_cell bC
  have fC := blk_free bC 17
  have rC := row?_of bC
  have HB4 := Lib.hid (HB3.out.trans ((Only.one wS w.heap.size 17 (.bool false)).below (B := w.heap.size) HB3.out.size (fun k hk => by omega)))
  clear bC HB3
  go_wp2_with fail
  refine (waits_off _ _ _ _ _ (by rfl)).mono ?_
  rintro e wT ⟨rfl, hb⟩
  have HB5 := HB4.out.trans (hb.mono HB4.out.size)
  clear hb HB4 cC fC rC
  go_wp2
  go_ret
  exact ⟨rfl, HB5⟩

set_option maxHeartbeats 1000000 in
theorem order_nnn (c : Cpu) (w : World) :
    Calls Try.prog 5 #[.agg (cpuCells c), .bool false, .bool false, .bool false] w fun e w' => e = .returned (.bool true) ∧ Below w.heap.size w w' := by
  go_enter Try.func5, Try.ntmps5
  go_wp2_with fail
  refine (first_true _).mono ?_
  rintro e wA ⟨rfl, hb⟩
  have bC := blk_below (blk_new w _) hb (by simp)
  have hB : Below w.heap.size w wA := ((Below.refl _ _).alloc (Nat.le_refl _) _).trans (hb.mono (by simp))
  clear hb
  have zA := blk_lt bC
  have fA := blk_free bC 17
  have cA := blk_cell bC
  have rA := row?_of bC
  have hV := (dev_new (wA.setCell ⟨w.heap.size, 17, none⟩ (.bool true))).mono (G := fun k => wA.heap.size ≤ k) (fun k hk => by simpa using hk)
  rw [World.size_setCell] at hV
  have HV1 := Lib.hid hV
  have HC1 := Lib.hid (blk_old (blk_put bC 17 (.bool true)) (.cells (devCells (.slice none 0 0) (List.replicate 16 0) false 0 (.slice none 0 0)) 34))
  have HB1 := Lib.hid ((hB.trans ((Only.one wA w.heap.size 17 (.bool true)).below (B := w.heap.size) hB.size (fun k hk => by omega))).alloc (by simpa using hB.size) (.cells (devCells (.slice none 0 0) (List.replicate 16 0) false 0 (.slice none 0 0)) 34))
  have zD : w.heap.size < wA.heap.size := zA
  have cC := trivial
  have fC := trivial
  have rC := trivial
  have zC := trivial
  clear hV bC hB
  go_wp2_with fail
  refine (waits_is _ _ _ _ 5 false _ HV1.out 0 (by first | (simp [waitsS]; done) | rfl)).mono ?_
  rintro e wR ⟨rfl, hb⟩
  have HV2 := Lib.hid (HV1.out.below hb)
  have bC := blk_below HC1.out hb (blk_lt HC1.out)
  rw [cpuCells_set_ie] at bC
  have HB2 := Lib.hid (HB1.out.trans (hb.mono HB1.out.size))
  clear hb HV1 HC1 HB1 cC fC rC zC
  have cC := blk_cell bC
  have rC := row?_of bC
  go_wp2_with fail
  refine (waits_is _ _ _ _ 4 false _ HV2.out 0 (by first | (simp [waitsS]; done) | rfl)).mono ?_
  rintro e wS ⟨rfl, hb⟩
  have HV3 := Lib.hid (HV2.out.below hb)
  replace bC := blk_below bC hb (blk_lt bC)
  have HB3 := Lib.hid (HB2.out.trans (hb.mono HB2.out.size))
  clear hb HV2 HB2 cC rC
  have cC := blk_cell bC
  have fC := blk_free bC 17
  have rC := row?_of bC
  have HB4 := Lib.hid (HB3.out.trans ((Only.one wS w.heap.size 17 (.bool false)).below (B := w.heap.size) HB3.out.size (fun k hk => by omega)))
  clear bC HB3
  go_wp2_with fail
  refine (waits_off _ _ _ _ _ (by rfl)).mono ?_
  rintro e wT ⟨rfl, hb⟩
  have HB5 := HB4.out.trans (hb.mono HB4.out.size)
  clear hb HB4 cC fC rC
  go_wp2
  go_ret
  exact ⟨rfl, HB5⟩

theorem order_walk (c : Cpu) (t k p : Bool) (w : World) :
    Calls Try.prog 5 #[.agg (cpuCells c), .bool t, .bool k, .bool p] w fun e w' => e = .returned (.bool true) ∧ Below w.heap.size w w' := by
  cases t <;> cases k <;> cases p
  · exact order_nnn c w
  · exact order_nny c w
  · exact order_nyn c w
  · exact order_nyy c w
  · exact order_ynn c w
  · exact order_yny c w
  · exact order_yyn c w
  · exact order_yyy c w

end Go.Proofs.Ytojbcefoofdpfaa
