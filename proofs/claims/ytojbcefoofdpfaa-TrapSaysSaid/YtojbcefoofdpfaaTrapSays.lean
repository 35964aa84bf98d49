/-
  TrapSays: for every processor, cause, address, keys, time, duration and port the call returns true; nothing that was there is turned. No conditions.
-/
import Derived.Test.YtojbcefoofdpfaaTrapOrder
import Derived.Test.YtojbcefoofdpfaaTwo
import Derived.Deep.RegionHeld3
namespace Go.Proofs.Ytojbcefoofdpfaa
open Go.RowKit

theorem rdue_is (D : DevS) (w : World) (b : Nat) (F : Nat → Prop) (h : RDevAt w b D F) (now : Int) (r : Bool) (hr : (D.set && decide (D.due ≤ now)) = r) :
    Calls Try.prog 21 #[.pointer (some ⟨b, 0, none⟩), .int .i64 now] w fun e w' => e = .returned (.bool r) ∧ w = w' := by
  subst hr
  exact rdue_any D w b F h now

set_option maxHeartbeats 400000 in
theorem waits_offR (c : Cpu) (p : Value) (now : Int) (port : Bool) (w : World) (hi : c.ie = false) :
    Calls Try.prog 17 #[.agg (cpuCells c), p, .int .i64 now, .bool port] w fun e w' => e = .returned (.int .i64 0) ∧ Below w.heap.size w w' := by
  go_enter Try.func17, Try.ntmps17
  go_wp2
  go_ret
  exact ⟨rfl, (Below.refl _ _).alloc (Nat.le_refl _) _⟩

set_option maxHeartbeats 400000 in
theorem waits_dueR (c : Cpu) (D : DevS) (b : Nat) (F : Nat → Prop) (now : Int) (port : Bool) (w : World) (h : RDevAt w b D F) (hi : c.ie = true) (hd : (D.set && decide (D.due ≤ now)) = true) :
    Calls Try.prog 17 #[.agg (cpuCells c), .pointer (some ⟨b, 0, none⟩), .int .i64 now, .bool port] w fun e w' => e = .returned (.int .i64 2) ∧ Below w.heap.size w w' := by
  have hA : RDevAt (w.alloc (.cells (cpuCells c) 26)) b D F := h.only (G := fun _ => False) (Only.alloc _ _ _) (fun _ _ _ h => h)
  have HA := Lib.hid hA
  have HD := Lib.hid hd
  obtain ⟨kv, sv, ⟨g1, g2, g3, g4⟩, -⟩ := hA
  obtain ⟨g5, g6, g7, -⟩ := h
  have c0 : w.cell? ⟨b, 0, none⟩ = some g5 := (blk_cell g7.blk 0).trans rfl
  have zb := blk_lt g7.blk
  obtain ⟨ao, cap, rfl⟩ := own_slice g7.keys
  clear hd g1 g2 g3 g4 g7
  go_enter Try.func17, Try.ntmps17
  go_wp2_with fail
  refine (rdue_is _ _ _ _ HA.out _ true HD.out).mono ?_
  rintro e w1 ⟨rfl, rfl⟩
  go_wp2
  go_ret
  exact ⟨rfl, (Below.refl _ _).alloc (Nat.le_refl _) _⟩

set_option maxHeartbeats 400000 in
theorem waits_keyR (c : Cpu) (D : DevS) (b : Nat) (F : Nat → Prop) (now : Int) (port : Bool) (w : World) (h : RDevAt w b D F) (hi : c.ie = true) (hd : (D.set && decide (D.due ≤ now)) = false) (hk : 0 < D.keys.length) :
    Calls Try.prog 17 #[.agg (cpuCells c), .pointer (some ⟨b, 0, none⟩), .int .i64 now, .bool port] w fun e w' => e = .returned (.int .i64 3) ∧ Below w.heap.size w w' := by
  have hA : RDevAt (w.alloc (.cells (cpuCells c) 26)) b D F := h.only (G := fun _ => False) (Only.alloc _ _ _) (fun _ _ _ h => h)
  have HA := Lib.hid hA
  have HD := Lib.hid hd
  obtain ⟨kv, sv, ⟨g1, g2, g3, g4⟩, -⟩ := hA
  obtain ⟨g5, g6, g7, -⟩ := h
  have c0 : w.cell? ⟨b, 0, none⟩ = some g5 := (blk_cell g7.blk 0).trans rfl
  have zb := blk_lt g7.blk
  obtain ⟨ao, cap, rfl⟩ := own_slice g7.keys
  clear hd g1 g2 g3 g4 g7
  have hk' : (0 : Int) < (D.keys.length : Int) := by omega
  go_enter Try.func17, Try.ntmps17
  go_wp2_with fail
  refine (rdue_is _ _ _ _ HA.out _ false HD.out).mono ?_
  rintro e w1 ⟨rfl, rfl⟩
  go_wp2
  go_ret
  exact ⟨rfl, (Below.refl _ _).alloc (Nat.le_refl _) _⟩

set_option maxHeartbeats 400000 in
theorem waits_portR (c : Cpu) (D : DevS) (b : Nat) (F : Nat → Prop) (now : Int) (w : World) (h : RDevAt w b D F) (hi : c.ie = true) (hd : (D.set && decide (D.due ≤ now)) = false) (hk : D.keys = []) :
    Calls Try.prog 17 #[.agg (cpuCells c), .pointer (some ⟨b, 0, none⟩), .int .i64 now, .bool true] w fun e w' => e = .returned (.int .i64 5) ∧ Below w.heap.size w w' := by
  have hk' : ¬ (0 : Int) < (D.keys.length : Int) := by rw [hk]; simp
  clear hk
  have hA : RDevAt (w.alloc (.cells (cpuCells c) 26)) b D F := h.only (G := fun _ => False) (Only.alloc _ _ _) (fun _ _ _ h => h)
  have HA := Lib.hid hA
  have HD := Lib.hid hd
  obtain ⟨kv, sv, ⟨g1, g2, g3, g4⟩, -⟩ := hA
  obtain ⟨g5, g6, g7, -⟩ := h
  have c0 : w.cell? ⟨b, 0, none⟩ = some g5 := (blk_cell g7.blk 0).trans rfl
  have zb := blk_lt g7.blk
  obtain ⟨ao, cap, rfl⟩ := own_slice g7.keys
  clear hd g1 g2 g3 g4 g7
  go_enter Try.func17, Try.ntmps17
  go_wp2_with fail
  refine (rdue_is _ _ _ _ HA.out _ false HD.out).mono ?_
  rintro e w1 ⟨rfl, rfl⟩
  go_wp2
  go_ret
  exact ⟨rfl, (Below.refl _ _).alloc (Nat.le_refl _) _⟩

set_option maxHeartbeats 400000 in
theorem waits_noneR (c : Cpu) (D : DevS) (b : Nat) (F : Nat → Prop) (now : Int) (w : World) (h : RDevAt w b D F) (hi : c.ie = true) (hd : (D.set && decide (D.due ≤ now)) = false) (hk : D.keys = []) :
    Calls Try.prog 17 #[.agg (cpuCells c), .pointer (some ⟨b, 0, none⟩), .int .i64 now, .bool false] w fun e w' => e = .returned (.int .i64 0) ∧ Below w.heap.size w w' := by
  have hk' : ¬ (0 : Int) < (D.keys.length : Int) := by rw [hk]; simp
  clear hk
  have hA : RDevAt (w.alloc (.cells (cpuCells c) 26)) b D F := h.only (G := fun _ => False) (Only.alloc _ _ _) (fun _ _ _ h => h)
  have HA := Lib.hid hA
  have HD := Lib.hid hd
  obtain ⟨kv, sv, ⟨g1, g2, g3, g4⟩, -⟩ := hA
  obtain ⟨g5, g6, g7, -⟩ := h
  have c0 : w.cell? ⟨b, 0, none⟩ = some g5 := (blk_cell g7.blk 0).trans rfl
  have zb := blk_lt g7.blk
  obtain ⟨ao, cap, rfl⟩ := own_slice g7.keys
  clear hd g1 g2 g3 g4 g7
  go_enter Try.func17, Try.ntmps17
  go_wp2_with fail
  refine (rdue_is _ _ _ _ HA.out _ false HD.out).mono ?_
  rintro e w1 ⟨rfl, rfl⟩
  go_wp2
  go_ret
  exact ⟨rfl, (Below.refl _ _).alloc (Nat.le_refl _) _⟩

theorem waits_anyR (c : Cpu) (D : DevS) (b : Nat) (F : Nat → Prop) (now : Int) (port : Bool) (w : World) (h : RDevAt w b D F) (r : Int) (hr : waitsS c.ie D now port = r) :
    Calls Try.prog 17 #[.agg (cpuCells c), .pointer (some ⟨b, 0, none⟩), .int .i64 now, .bool port] w fun e w' => e = .returned (.int .i64 r) ∧ Below w.heap.size w w' := by
  subst hr
  unfold waitsS
  by_cases hi : c.ie = false
  · rw [if_pos hi]; exact waits_offR c _ now port w hi
  · rw [if_neg hi]
    have hi' : c.ie = true := by simpa using hi
    by_cases hd : (D.set && decide (D.due ≤ now)) = true
    · rw [if_pos hd]; exact waits_dueR c D b F now port w h hi' hd
    · rw [if_neg hd]
      have hd' : (D.set && decide (D.due ≤ now)) = false := by simpa using hd
      by_cases hk : D.keys ≠ []
      · rw [if_pos hk]; exact waits_keyR c D b F now port w h hi' hd' (List.length_pos_iff.2 hk)
      · rw [if_neg hk]
        have hk' : D.keys = [] := by simpa using hk
        by_cases hp : port = true
        · subst hp; exact waits_portR c D b F now w h hi' hd' hk'
        · have : port = false := by simpa using hp
          subst this; exact waits_noneR c D b F now w h hi' hd' hk'

theorem set_is (D : DevS) (w : World) (b : Nat) (F : Nat → Prop) (h : DevAt w b D F) (a : Int) (ha0 : 0 ≤ a) (ha1 : a ≤ 4294967295) :
    Calls Try.prog 11 #[.pointer (some ⟨b, 0, none⟩), .int .i64 0, .int .u32 a] w fun e w' => e = .returned (.tuple #[]) ∧ DevAt w' b { D with set := decide (0 < a), due := a } F ∧ Only F w w' := by
  by_cases h0 : 0 < a
  · have := set_pos D w b F h 0 a h0 ha1 (by omega) (by omega)
    rw [Int.zero_add] at this
    simpa [h0] using this
  · obtain rfl : a = 0 := by omega
    exact set_zero D w b F h 0

/-- after k presses of both -/
def Pressed2 (ks : List Int) (w : World) (c a1 a2 : Cpu) (B bc ba bb : Nat) (i : Value) (wr : World) : Prop :=
  ∃ k : Nat, k ≤ ks.length ∧ i = .int .i64 k ∧ TwoAt wr B B (B + 1) { keys := ks.take k } { keys := ks.take k } ∧ Below w.heap.size w wr ∧
    wr.heap[bc]? = some (.cells (cpuCells c) 26 (0, 0)) ∧ wr.heap[ba]? = some (.cells (cpuCells a1) 26 (0, 0)) ∧ wr.heap[bb]? = some (.cells (cpuCells a2) 26 (0, 0))

theorem row_keep {w w' : World} {n : Nat} {c : Array Value} (h : row? w n = some c) (hb : Below w.heap.size w w') : row? w' n = some c := by
  obtain ⟨t, ht⟩ := of_row? h
  exact row?_of (blk_below ht hb (blk_lt ht))
theorem says_keep {W w' w'' : World} {bc ba bb : Nat} {c a1 a2 : Array Value} (h : Below W.heap.size W w' ∧ row? w' bc = some c ∧ row? w' ba = some a1 ∧ row? w' bb = some a2) (hb : Below w'.heap.size w' w'') :
    Below W.heap.size W w'' ∧ row? w'' bc = some c ∧ row? w'' ba = some a1 ∧ row? w'' bb = some a2 :=
  ⟨h.1.trans (hb.mono h.1.size), row_keep h.2.1 hb, row_keep h.2.2.1 hb, row_keep h.2.2.2 hb⟩
theorem says_dev {W w' : World} {bc ba bb : Nat} {c a1 a2 : Array Value} {b : Nat} {D : DevS} {F : Nat → Prop} (h : Below W.heap.size W w' ∧ row? w' bc = some c ∧ row? w' ba = some a1 ∧ row? w' bb = some a2) (hD : DevAt W b D F) : DevAt w' b D F := hD.below h.1
theorem says_rdev {W w' : World} {bc ba bb : Nat} {c a1 a2 : Array Value} {b : Nat} {D : DevS} {F : Nat → Prop} (h : Below W.heap.size W w' ∧ row? w' bc = some c ∧ row? w' ba = some a1 ∧ row? w' bb = some a2) (hD : RDevAt W b D F) : RDevAt w' b D F := hD.only (G := fun _ => False) (Only.of_below h.1) (fun _ _ _ h => h)

set_option maxHeartbeats 1000000 in
theorem says_y (c : Cpu) (cause addr : Int) (ks : List Int) (ao : Option Addr) (cap : Nat) (now after : Int) (port : Bool) (w : World) (hc : ∀ j, j < ks.length → ∃ b off, ao = some ⟨b, off, none⟩ ∧ w.cell? ⟨b, off + j, none⟩ = some (.int .u32 (ks.getD j 0)) ∧ b < w.heap.size) (hk : ks.length ≤ 20) (hn0 : 0 ≤ now) (hn1 : now ≤ 1125899906842624) (ha0 : 0 ≤ after) (ha1 : after ≤ 4294967295) (htv : (c.tv == 0) = false) :
    Calls Try.prog 3 #[.agg (cpuCells c), .int .i64 cause, .int .u32 addr, .slice ao ks.length cap, .int .i64 now, .int .u32 after, .bool port] w fun e w' => e = .returned (.bool true) ∧ Below w.heap.size w w' := by
  have HC := Lib.hid hc
  clear hc
  go_enter Try.func3, Try.ntmps3
  go_wp2_with fail
  refine (first_true _).mono ?_
  rintro e wA ⟨rfl, hb⟩
  have bC := blk_below (blk_new w _) hb (by simp)
  have hB : Below w.heap.size w wA := ((Below.refl _ _).alloc (Nat.le_refl _) _).trans (hb.mono (by simp))
  clear hb
  have cC := blk_cell bC
  have rC := row?_of bC
  have zC := blk_lt bC
  go_wp2_with fail
  refine (enter_yes c cause addr _ htv).mono ?_
  rintro e wB ⟨rfl, hb⟩
  replace bC := blk_below bC hb (blk_lt bC)
  replace cC := blk_cell bC
  replace rC := row?_of bC
  replace zC := blk_lt bC
  replace hB := hB.trans (hb.mono hB.size)
  clear hb
  have bA := blk_new wB (.cells (cpuCells (enterS c cause addr)) 26)
  replace bC := blk_old bC (.cells (cpuCells (enterS c cause addr)) 26)
  replace hB := hB.alloc hB.size (.cells (cpuCells (enterS c cause addr)) 26)
  go_wp2_with fail
  refine (enter_yesR c cause addr _ htv).mono ?_
  rintro e wD ⟨rfl, hb⟩
  replace bC := blk_below bC hb (blk_lt bC)
  replace cC := blk_cell bC
  replace rC := row?_of bC
  replace zC := blk_lt bC
  replace bA := blk_below bA hb (blk_lt bA)
  replace hB := hB.trans (hb.mono hB.size)
  clear hb
  have hT := two_new (wD.alloc (.cells (cpuCells (enterS c cause addr)) 26))
  have bB := blk_old (blk_old (blk_new wD (.cells (cpuCells (enterS c cause addr)) 26)) (.cells (devCells (.slice none 0 0) (List.replicate 16 0) false 0 (.slice none 0 0)) 34)) (.cells (rdevCells (.slice none 0 0) (List.replicate 16 0) false 0 (.slice none 0 0)) 37)
  have bC2 := blk_old (blk_old (blk_old bC (.cells (cpuCells (enterS c cause addr)) 26)) (.cells (devCells (.slice none 0 0) (List.replicate 16 0) false 0 (.slice none 0 0)) 34)) (.cells (rdevCells (.slice none 0 0) (List.replicate 16 0) false 0 (.slice none 0 0)) 37)
  have bA2 := blk_old (blk_old (blk_old bA (.cells (cpuCells (enterS c cause addr)) 26)) (.cells (devCells (.slice none 0 0) (List.replicate 16 0) false 0 (.slice none 0 0)) 34)) (.cells (rdevCells (.slice none 0 0) (List.replicate 16 0) false 0 (.slice none 0 0)) 37)
  have hB2 := ((hB.alloc hB.size (.cells (cpuCells (enterS c cause addr)) 26)).alloc (Nat.le_trans hB.size (by simp)) (.cells (devCells (.slice none 0 0) (List.replicate 16 0) false 0 (.slice none 0 0)) 34)).alloc (Nat.le_trans hB.size (by simp; omega)) (.cells (rdevCells (.slice none 0 0) (List.replicate 16 0) false 0 (.slice none 0 0)) 37)
  simp only [World.size_alloc] at hT
  have zA := blk_lt bA
  have zC2 := blk_lt bC
  have hwB := hB.size
  have HT := Lib.hid hT
  have HBB := Lib.hid bB
  have HBC := Lib.hid bC2
  have HBA := Lib.hid bA2
  have HB2 := Lib.hid hB2
  clear hT bB bC2 bA2 hB2 bC bA hB cC rC zC
  go_wp2_with fail
  go_loopw [22] (fun i wr => Pressed2 ks w c (enterS c cause addr) (enterS c cause addr) (wD.heap.size + 1) w.heap.size wB.heap.size wD.heap.size i wr) (fun i _ => ks.length - (intOf i).toNat)
  case atStart => exact ⟨0, Nat.zero_le _, rfl, HT.out, HB2.out, HBC.out, HBA.out, HBB.out⟩
  case round =>
    obtain ⟨k, hkn, rfl, hT, hBw, hC, hA, hBb⟩ := hrel
    by_cases hlt : k < ks.length
    · obtain ⟨b, off, rfl, hcell, hb0⟩ := HC.out k hlt
      have HCELL := Lib.hid hcell
      have cr : wr.cell? ⟨b, off + k, none⟩ = some (.int .u32 (ks.getD k 0)) := (hBw.cell (p := ⟨b, off + k, none⟩) hb0).trans hcell
      obtain ⟨z, hz⟩ : ∃ z, ks.getD k 0 = z := ⟨_, rfl⟩
      rw [hz] at cr
      have e1 : ks.take (k + 1) = ks.take k ++ [z] := by
        rw [List.take_succ_eq_append_getElem hlt, ← hz, List.getD_eq_getElem?_getD, List.getElem?_eq_getElem hlt]
        rfl
      have HE := Lib.hid e1
      have HZ := Lib.hid hz
      obtain ⟨F, hD, hFB, hcl⟩ := hT.d
      have HD := Lib.hid hD
      have HF := Lib.hid hFB
      have HCL := Lib.hid hcl
      have H1 := Lib.hid hBw
      have H2 := Lib.hid hC
      have H3 := Lib.hid hA
      have H4 := Lib.hid hBb
      clear hcell hz e1 hT hD hFB hcl hBw hC hA hBb HT HB2 HBC HBA HBB
      go_wp2_with fail
      refine (press_room _ _ _ z _ HD.out (by simp; omega)).mono ?_
      rintro e wP ⟨rfl, hd, ho⟩
      obtain ⟨G, hX, hGB, hcl⟩ := (HCL.out _ _ _ hd (fun k h => h) ho).x
      have HX := Lib.hid hX
      have HG := Lib.hid hGB
      have HCL2 := Lib.hid hcl
      replace H1 := Lib.hid (H1.out.trans (ho.below (B := w.heap.size) H1.out.size (fun k hk => by have := HF.out k hk; omega)))
      replace H2 := Lib.hid (ho.blk H2.out (fun h => by have := HF.out _ h; omega))
      replace H3 := Lib.hid (ho.blk H3.out (fun h => by have := HF.out _ h; omega))
      replace H4 := Lib.hid (ho.blk H4.out (fun h => by have := HF.out _ h; omega))
      have cr2 : wP.cell? ⟨b, off + k, none⟩ = some (.int .u32 z) := by
        rw [← HZ.out]
        exact (H1.out.cell (p := ⟨b, off + k, none⟩) hb0).trans HCELL.out
      clear hd ho hX hGB hcl HCL HD cr
      go_wp2_with fail
      refine (rpress_room _ _ _ z _ HX.out (by simp; omega)).mono ?_
      rintro e wQ ⟨rfl, hd, ho⟩
      have HT2 := Lib.hid (HCL2.out _ _ _ hd (fun k h => h) ho)
      replace H1 := Lib.hid (H1.out.trans (ho.below (B := w.heap.size) H1.out.size (fun k hk => by have := HG.out k hk; omega)))
      replace H2 := Lib.hid (ho.blk H2.out (fun h => by have := HG.out _ h; omega))
      replace H3 := Lib.hid (ho.blk H3.out (fun h => by have := HG.out _ h; omega))
      replace H4 := Lib.hid (ho.blk H4.out (fun h => by have := HG.out _ h; omega))
      clear hd ho HX HCL2 cr2
      go_wp2
      go_roundw
      case rel =>
        refine ⟨k + 1, by omega, by go_num, ?_, H1.out, H2.out, H3.out, H4.out⟩
        rw [HE.out]
        exact HT2.out
      case measure => simp [intOf]; omega
    · obtain rfl : k = ks.length := by omega
      obtain ⟨F, hD, hFB, hcl⟩ := hT.d
      have HD := Lib.hid hD
      have HF := Lib.hid hFB
      have HCL := Lib.hid hcl
      have H1 := Lib.hid hBw
      have H2 := Lib.hid hC
      have H3 := Lib.hid hA
      have H4 := Lib.hid hBb
      clear hT hD hFB hcl hBw hC hA hBb HT HB2 HBC HBA HBB
      go_wp2_with fail
      refine (set_is _ _ _ _ HD.out after ha0 ha1).mono ?_
      rintro e wP ⟨rfl, hd, ho⟩
      obtain ⟨G, hX, hGB, hcl⟩ := (HCL.out _ _ _ hd (fun k h => .inl h) ho).x
      have HX := Lib.hid hX
      have HG := Lib.hid hGB
      have HCL2 := Lib.hid hcl
      replace H1 := Lib.hid (H1.out.trans (ho.below (B := w.heap.size) H1.out.size (fun k hk => by have := HF.out k hk; omega)))
      replace H2 := Lib.hid (ho.blk H2.out (fun h => by have := HF.out _ h; omega))
      replace H3 := Lib.hid (ho.blk H3.out (fun h => by have := HF.out _ h; omega))
      replace H4 := Lib.hid (ho.blk H4.out (fun h => by have := HF.out _ h; omega))
      clear hd ho hX hGB hcl HCL HD
      go_wp2_with fail
      refine (rset_any _ _ _ _ HX.out 0 after ha0 ha1 (by omega) (by omega)).mono ?_
      rintro e wQ ⟨rfl, hd, ho⟩
      have hT2 := HCL2.out _ _ _ hd (fun k h => .inl h) ho
      replace H1 := Lib.hid (H1.out.trans (ho.below (B := w.heap.size) H1.out.size (fun k hk => by have := HG.out k hk; omega)))
      replace H2 := Lib.hid (ho.blk H2.out (fun h => by have := HG.out _ h; omega))
      replace H3 := Lib.hid (ho.blk H3.out (fun h => by have := HG.out _ h; omega))
      replace H4 := Lib.hid (ho.blk H4.out (fun h => by have := HG.out _ h; omega))
      obtain ⟨F1, F2, hD1, hX1, -⟩ := hT2
      have HD1 := Lib.hid hD1
      have HX1 := Lib.hid hX1
      obtain ⟨rw_, hrw⟩ : ∃ r, waitsS c.ie { keys := ks.take ks.length, set := decide (0 < after), due := after } now port = r := ⟨_, rfl⟩
      have HR1 := Lib.hid hrw
      have HR2 : Hid (waitsS c.ie { keys := ks.take ks.length, set := decide (0 < after), due := 0 + after } now port = rw_) := Lib.hid (by rw [Int.zero_add]; exact hrw)
      have HS0 : Hid (Below wQ.heap.size wQ wQ.drew ∧ row? wQ.drew w.heap.size = some (cpuCells c) ∧ row? wQ.drew wB.heap.size = some (cpuCells (enterS c cause addr)) ∧ row? wQ.drew wD.heap.size = some (cpuCells (enterS c cause addr))) := Lib.hid ⟨(Below.refl _ _).drew, row?_of (by exact H2.out), row?_of (by exact H3.out), row?_of (by exact H4.out)⟩
      clear hd ho hD1 hX1 hrw HCL2 HX H2 H3 H4
      go_wp2_with fail
      go_region_held3 (fun w' => Below wQ.heap.size wQ w' ∧ row? w' w.heap.size = some (cpuCells c) ∧ row? w' wB.heap.size = some (cpuCells (enterS c cause addr)) ∧ row? w' wD.heap.size = some (cpuCells (enterS c cause addr))) (first | exact HS0.out | exact says_keep (by assumption) (by assumption))
        (first | (go_at_call 13; refine (cpu_refl _ _).mono ?_; rintro e w' ⟨rfl, hb⟩) | (go_at_call 14; refine (return_any _ _).mono ?_; rintro e w' ⟨rfl, hb⟩) | (go_at_call 15; refine (return_anyR _ _).mono ?_; rintro e w' ⟨rfl, hb⟩) | (go_at_call 16; refine (waits_is _ _ _ _ _ _ _ (says_dev (by assumption) HD1.out) rw_ HR1.out).mono ?_; rintro e w' ⟨rfl, hb⟩) | (go_at_call 17; refine (waits_anyR _ _ _ _ _ _ _ (says_rdev (by assumption) HX1.out) rw_ HR2.out).mono ?_; rintro e w' ⟨rfl, hb⟩))
      go_wp2
      go_ret
      rename_i hS
      exact ⟨rfl, H1.out.trans (hS.1.mono H1.out.size)⟩

set_option maxHeartbeats 1000000 in
theorem says_n (c : Cpu) (cause addr : Int) (ks : List Int) (ao : Option Addr) (cap : Nat) (now after : Int) (port : Bool) (w : World) (hc : ∀ j, j < ks.length → ∃ b off, ao = some ⟨b, off, none⟩ ∧ w.cell? ⟨b, off + j, none⟩ = some (.int .u32 (ks.getD j 0)) ∧ b < w.heap.size) (hk : ks.length ≤ 20) (hn0 : 0 ≤ now) (hn1 : now ≤ 1125899906842624) (ha0 : 0 ≤ after) (ha1 : after ≤ 4294967295) (htv : c.tv = 0) :
    Calls Try.prog 3 #[.agg (cpuCells c), .int .i64 cause, .int .u32 addr, .slice ao ks.length cap, .int .i64 now, .int .u32 after, .bool port] w fun e w' => e = .returned (.bool true) ∧ Below w.heap.size w w' := by
  have HC := Lib.hid hc
  clear hc
  go_enter Try.func3, Try.ntmps3
  go_wp2_with fail
  refine (first_true _).mono ?_
  rintro e wA ⟨rfl, hb⟩
  have bC := blk_below (blk_new w _) hb (by simp)
  have hB : Below w.heap.size w wA := ((Below.refl _ _).alloc (Nat.le_refl _) _).trans (hb.mono (by simp))
  clear hb
  have cC := blk_cell bC
  have rC := row?_of bC
  have zC := blk_lt bC
  go_wp2_with fail
  refine (enter_no c cause addr _ htv).mono ?_
  rintro e wB ⟨rfl, hb⟩
  replace bC := blk_below bC hb (blk_lt bC)
  replace cC := blk_cell bC
  replace rC := row?_of bC
  replace zC := blk_lt bC
  replace hB := hB.trans (hb.mono hB.size)
  clear hb
  have bA := blk_new wB (.cells (cpuCells c) 26)
  replace bC := blk_old bC (.cells (cpuCells c) 26)
  replace hB := hB.alloc hB.size (.cells (cpuCells c) 26)
  go_wp2_with fail
  refine (enter_noR c cause addr _ htv).mono ?_
  rintro e wD ⟨rfl, hb⟩
  replace bC := blk_below bC hb (blk_lt bC)
  replace cC := blk_cell bC
  replace rC := row?_of bC
  replace zC := blk_lt bC
  replace bA := blk_below bA hb (blk_lt bA)
  replace hB := hB.trans (hb.mono hB.size)
  clear hb
  have hT := two_new (wD.alloc (.cells (cpuCells c) 26))
  have bB := blk_old (blk_old (blk_new wD (.cells (cpuCells c) 26)) (.cells (devCells (.slice none 0 0) (List.replicate 16 0) false 0 (.slice none 0 0)) 34)) (.cells (rdevCells (.slice none 0 0) (List.replicate 16 0) false 0 (.slice none 0 0)) 37)
  have bC2 := blk_old (blk_old (blk_old bC (.cells (cpuCells c) 26)) (.cells (devCells (.slice none 0 0) (List.replicate 16 0) false 0 (.slice none 0 0)) 34)) (.cells (rdevCells (.slice none 0 0) (List.replicate 16 0) false 0 (.slice none 0 0)) 37)
  have bA2 := blk_old (blk_old (blk_old bA (.cells (cpuCells c) 26)) (.cells (devCells (.slice none 0 0) (List.replicate 16 0) false 0 (.slice none 0 0)) 34)) (.cells (rdevCells (.slice none 0 0) (List.replicate 16 0) false 0 (.slice none 0 0)) 37)
  have hB2 := ((hB.alloc hB.size (.cells (cpuCells c) 26)).alloc (Nat.le_trans hB.size (by simp)) (.cells (devCells (.slice none 0 0) (List.replicate 16 0) false 0 (.slice none 0 0)) 34)).alloc (Nat.le_trans hB.size (by simp; omega)) (.cells (rdevCells (.slice none 0 0) (List.replicate 16 0) false 0 (.slice none 0 0)) 37)
  simp only [World.size_alloc] at hT
  have zA := blk_lt bA
  have zC2 := blk_lt bC
  have hwB := hB.size
  have HT := Lib.hid hT
  have HBB := Lib.hid bB
  have HBC := Lib.hid bC2
  have HBA := Lib.hid bA2
  have HB2 := Lib.hid hB2
  clear hT bB bC2 bA2 hB2 bC bA hB cC rC zC
  go_wp2_with fail
  go_loopw [22] (fun i wr => Pressed2 ks w c c c (wD.heap.size + 1) w.heap.size wB.heap.size wD.heap.size i wr) (fun i _ => ks.length - (intOf i).toNat)
  case atStart => exact ⟨0, Nat.zero_le _, rfl, HT.out, HB2.out, HBC.out, HBA.out, HBB.out⟩
  case round =>
    obtain ⟨k, hkn, rfl, hT, hBw, hC, hA, hBb⟩ := hrel
    by_cases hlt : k < ks.length
    · obtain ⟨b, off, rfl, hcell, hb0⟩ := HC.out k hlt
      have HCELL := Lib.hid hcell
      have cr : wr.cell? ⟨b, off + k, none⟩ = some (.int .u32 (ks.getD k 0)) := (hBw.cell (p := ⟨b, off + k, none⟩) hb0).trans hcell
      obtain ⟨z, hz⟩ : ∃ z, ks.getD k 0 = z := ⟨_, rfl⟩
      rw [hz] at cr
      have e1 : ks.take (k + 1) = ks.take k ++ [z] := by
        rw [List.take_succ_eq_append_getElem hlt, ← hz, List.getD_eq_getElem?_getD, List.getElem?_eq_getElem hlt]
        rfl
      have HE := Lib.hid e1
      have HZ := Lib.hid hz
      obtain ⟨F, hD, hFB, hcl⟩ := hT.d
      have HD := Lib.hid hD
      have HF := Lib.hid hFB
      have HCL := Lib.hid hcl
      have H1 := Lib.hid hBw
      have H2 := Lib.hid hC
      have H3 := Lib.hid hA
      have H4 := Lib.hid hBb
      clear hcell hz e1 hT hD hFB hcl hBw hC hA hBb HT HB2 HBC HBA HBB
      go_wp2_with fail
      refine (press_room _ _ _ z _ HD.out (by simp; omega)).mono ?_
      rintro e wP ⟨rfl, hd, ho⟩
      obtain ⟨G, hX, hGB, hcl⟩ := (HCL.out _ _ _ hd (fun k h => h) ho).x
      have HX := Lib.hid hX
      have HG := Lib.hid hGB
      have HCL2 := Lib.hid hcl
      replace H1 := Lib.hid (H1.out.trans (ho.below (B := w.heap.size) H1.out.size (fun k hk => by have := HF.out k hk; omega)))
      replace H2 := Lib.hid (ho.blk H2.out (fun h => by have := HF.out _ h; omega))
      replace H3 := Lib.hid (ho.blk H3.out (fun h => by have := HF.out _ h; omega))
      replace H4 := Lib.hid (ho.blk H4.out (fun h => by have := HF.out _ h; omega))
      have cr2 : wP.cell? ⟨b, off + k, none⟩ = some (.int .u32 z) := by
        rw [← HZ.out]
        exact (H1.out.cell (p := ⟨b, off + k, none⟩) hb0).trans HCELL.out
      clear hd ho hX hGB hcl HCL HD cr
      go_wp2_with fail
      refine (rpress_room _ _ _ z _ HX.out (by simp; omega)).mono ?_
      rintro e wQ ⟨rfl, hd, ho⟩
      have HT2 := Lib.hid (HCL2.out _ _ _ hd (fun k h => h) ho)
      replace H1 := Lib.hid (H1.out.trans (ho.below (B := w.heap.size) H1.out.size (fun k hk => by have := HG.out k hk; omega)))
      replace H2 := Lib.hid (ho.blk H2.out (fun h => by have := HG.out _ h; omega))
      replace H3 := Lib.hid (ho.blk H3.out (fun h => by have := HG.out _ h; omega))
      replace H4 := Lib.hid (ho.blk H4.out (fun h => by have := HG.out _ h; omega))
      clear hd ho HX HCL2 cr2
      go_wp2
      go_roundw
      case rel =>
        refine ⟨k + 1, by omega, by go_num, ?_, H1.out, H2.out, H3.out, H4.out⟩
        rw [HE.out]
        exact HT2.out
      case measure => simp [intOf]; omega
    · obtain rfl : k = ks.length := by omega
      obtain ⟨F, hD, hFB, hcl⟩ := hT.d
      have HD := Lib.hid hD
      have HF := Lib.hid hFB
      have HCL := Lib.hid hcl
      have H1 := Lib.hid hBw
      have H2 := Lib.hid hC
      have H3 := Lib.hid hA
      have H4 := Lib.hid hBb
      clear hT hD hFB hcl hBw hC hA hBb HT HB2 HBC HBA HBB
      go_wp2_with fail
      refine (set_is _ _ _ _ HD.out after ha0 ha1).mono ?_
      rintro e wP ⟨rfl, hd, ho⟩
      obtain ⟨G, hX, hGB, hcl⟩ := (HCL.out _ _ _ hd (fun k h => .inl h) ho).x
      have HX := Lib.hid hX
      have HG := Lib.hid hGB
      have HCL2 := Lib.hid hcl
      replace H1 := Lib.hid (H1.out.trans (ho.below (B := w.heap.size) H1.out.size (fun k hk => by have := HF.out k hk; omega)))
      replace H2 := Lib.hid (ho.blk H2.out (fun h => by have := HF.out _ h; omega))
      replace H3 := Lib.hid (ho.blk H3.out (fun h => by have := HF.out _ h; omega))
      replace H4 := Lib.hid (ho.blk H4.out (fun h => by have := HF.out _ h; omega))
      clear hd ho hX hGB hcl HCL HD
      go_wp2_with fail
      refine (rset_any _ _ _ _ HX.out 0 after ha0 ha1 (by omega) (by omega)).mono ?_
      rintro e wQ ⟨rfl, hd, ho⟩
      have hT2 := HCL2.out _ _ _ hd (fun k h => .inl h) ho
      replace H1 := Lib.hid (H1.out.trans (ho.below (B := w.heap.size) H1.out.size (fun k hk => by have := HG.out k hk; omega)))
      replace H2 := Lib.hid (ho.blk H2.out (fun h => by have := HG.out _ h; omega))
      replace H3 := Lib.hid (ho.blk H3.out (fun h => by have := HG.out _ h; omega))
      replace H4 := Lib.hid (ho.blk H4.out (fun h => by have := HG.out _ h; omega))
      obtain ⟨F1, F2, hD1, hX1, -⟩ := hT2
      have HD1 := Lib.hid hD1
      have HX1 := Lib.hid hX1
      obtain ⟨rw_, hrw⟩ : ∃ r, waitsS c.ie { keys := ks.take ks.length, set := decide (0 < after), due := after } now port = r := ⟨_, rfl⟩
      have HR1 := Lib.hid hrw
      have HR2 : Hid (waitsS c.ie { keys := ks.take ks.length, set := decide (0 < after), due := 0 + after } now port = rw_) := Lib.hid (by rw [Int.zero_add]; exact hrw)
      have HS0 : Hid (Below wQ.heap.size wQ wQ.drew ∧ row? wQ.drew w.heap.size = some (cpuCells c) ∧ row? wQ.drew wB.heap.size = some (cpuCells c) ∧ row? wQ.drew wD.heap.size = some (cpuCells c)) := Lib.hid ⟨(Below.refl _ _).drew, row?_of (by exact H2.out), row?_of (by exact H3.out), row?_of (by exact H4.out)⟩
      clear hd ho hD1 hX1 hrw HCL2 HX H2 H3 H4
      go_wp2_with fail
      go_region_held3 (fun w' => Below wQ.heap.size wQ w' ∧ row? w' w.heap.size = some (cpuCells c) ∧ row? w' wB.heap.size = some (cpuCells c) ∧ row? w' wD.heap.size = some (cpuCells c)) (first | exact HS0.out | exact says_keep (by assumption) (by assumption))
        (first | (go_at_call 13; refine (cpu_refl _ _).mono ?_; rintro e w' ⟨rfl, hb⟩) | (go_at_call 14; refine (return_any _ _).mono ?_; rintro e w' ⟨rfl, hb⟩) | (go_at_call 15; refine (return_anyR _ _).mono ?_; rintro e w' ⟨rfl, hb⟩) | (go_at_call 16; refine (waits_is _ _ _ _ _ _ _ (says_dev (by assumption) HD1.out) rw_ HR1.out).mono ?_; rintro e w' ⟨rfl, hb⟩) | (go_at_call 17; refine (waits_anyR _ _ _ _ _ _ _ (says_rdev (by assumption) HX1.out) rw_ HR2.out).mono ?_; rintro e w' ⟨rfl, hb⟩))
      go_wp2
      go_ret
      rename_i hS
      exact ⟨rfl, H1.out.trans (hS.1.mono H1.out.size)⟩

set_option maxHeartbeats 1000000 in
theorem says_out (c : Cpu) (cause addr : Int) (ao : Option Addr) (n cap : Nat) (now after : Int) (port : Bool) (w : World) (hm : n ≤ maxLen) (h : 20 < n ∨ now < 0 ∨ 1125899906842624 < now) :
    Calls Try.prog 3 #[.agg (cpuCells c), .int .i64 cause, .int .u32 addr, .slice ao n cap, .int .i64 now, .int .u32 after, .bool port] w fun e w' => e = .returned (.bool true) ∧ Below w.heap.size w w' := by
  by_cases c1 : 20 < n
  · clear h
    unfold maxLen at hm
    go_enter Try.func3, Try.ntmps3
    go_wp2_with fail
    refine (first_true _).mono ?_
    rintro e w1 ⟨rfl, hb⟩
    go_wp2
    go_ret
    exact ⟨rfl, ((Below.refl _ _).alloc (Nat.le_refl _) _).trans (hb.mono (by simp))⟩
  · by_cases c2 : now < 0
    · clear h
      go_enter Try.func3, Try.ntmps3
      go_wp2_with fail
      refine (first_true _).mono ?_
      rintro e w1 ⟨rfl, hb⟩
      go_wp2
      go_ret
      exact ⟨rfl, ((Below.refl _ _).alloc (Nat.le_refl _) _).trans (hb.mono (by simp))⟩
    · have c3 : 1125899906842624 < now := by omega
      clear h
      go_enter Try.func3, Try.ntmps3
      go_wp2_with fail
      refine (first_true _).mono ?_
      rintro e w1 ⟨rfl, hb⟩
      go_wp2
      go_ret
      exact ⟨rfl, ((Below.refl _ _).alloc (Nat.le_refl _) _).trans (hb.mono (by simp))⟩

theorem says_walk (c : Cpu) (cause addr : Int) (ks : List Int) (v : Value) (now after : Int) (port : Bool) (w : World) (hr : Reads w v ks.length (u32s ks)) (hm : ks.length ≤ maxLen) (ha0 : 0 ≤ after) (ha1 : after ≤ 4294967295) :
    Calls Try.prog 3 #[.agg (cpuCells c), .int .i64 cause, .int .u32 addr, v, .int .i64 now, .int .u32 after, .bool port] w fun e w' => e = .returned (.bool true) ∧ Below w.heap.size w w' := by
  obtain ⟨ao, cap, rfl, hc0⟩ := reads_cells hr
  have hc : ∀ j, j < ks.length → ∃ b off, ao = some ⟨b, off, none⟩ ∧ w.cell? ⟨b, off + j, none⟩ = some (.int .u32 (ks.getD j 0)) ∧ b < w.heap.size := fun j hj => hc0 j _ (by simp [u32s, hj])
  by_cases h : 20 < ks.length ∨ now < 0 ∨ 1125899906842624 < now
  · exact says_out c cause addr ao _ cap now after port w hm h
  · by_cases htv : c.tv = 0
    · exact says_n c cause addr ks ao cap now after port w hc (by omega) (by omega) (by omega) ha0 ha1 htv
    · exact says_y c cause addr ks ao cap now after port w hc (by omega) (by omega) (by omega) ha0 ha1 (by simpa using htv)

end Go.Proofs.Ytojbcefoofdpfaa
