/-
  DevKeys: for every list of keys the call returns true; nothing that was there is turned. No conditions.
-/
import Derived.Test.YtljmdgoedmgikaaDevFirst
import Derived.Test.YtljmdgoedmgikaaLaw
import Derived.BigQuiet
import Derived.Deep.RegionWith
namespace Go.Proofs.Ytljmdgoedmgikaa
open Go.RowKit

theorem keys_is (D : DevS) (w : World) (b : Nat) (F : Nat → Prop) (h : DevAt w b D F) (x : Int) (hx : (D.keys.length : Int) = x) :
    Calls Try.prog 10 #[.pointer (some ⟨b, 0, none⟩)] w fun e w' => e = .returned (.int .i64 x) ∧ w = w' := by
  subst hx
  exact keys_any D w b F h

theorem DevAt.drew {w : World} {b : Nat} {D : DevS} {F : Nat → Prop} (h : DevAt w b D F) : DevAt w.drew b D F := by
  obtain ⟨kv, sv, ⟨h1, h2, h3, h4⟩, hk⟩ := h
  exact ⟨kv, sv, ⟨h1, h2, h3, h4⟩, hk⟩

/-- after k presses -/
def Pressed (zs : List Int) (w : World) (b : Nat) (i : Value) (wr : World) : Prop :=
  ∃ k : Nat, k ≤ zs.length ∧ i = .int .i64 k ∧ DevAt wr b { keys := (zs.take k).take 64 } (fun k => w.heap.size ≤ k) ∧ Only (fun k => w.heap.size ≤ k) w wr
/-- after k keys went in -/
def Went (zs : List Int) (w : World) (b : Nat) (i : Value) (wr : World) : Prop :=
  ∃ k : Nat, k ≤ min zs.length 64 ∧ i = .int .i64 k ∧ DevAt wr b { keys := (zs.take 64).drop k } (fun k => w.heap.size ≤ k) ∧ Only (fun k => w.heap.size ≤ k) w wr

set_option maxHeartbeats 1000000 in
theorem keys_some (zs : List Int) (w : World) (b off cap : Nat) (hc : ∀ j u, (u32s zs)[j]? = some u → w.cell? ⟨b, off + j, none⟩ = some u) (hb : b < w.heap.size) (h0 : 0 < zs.length) (h70 : zs.length ≤ 70) :
    Calls Try.prog 3 #[.slice (some ⟨b, off, none⟩) zs.length cap] w fun e w' => e = .returned (.bool true) ∧ Below w.heap.size w w' := by
  have hcz : ∀ j, j < zs.length → w.cell? ⟨b, off + j, none⟩ = some (.int .u32 (zs.getD j 0)) := fun j hj => hc j _ (by simp [u32s, hj])
  have HC := Lib.hid hcz
  clear hc hcz
  go_enter Try.func3, Try.ntmps3
  go_wp2_with fail
  refine (first_true _).mono ?_
  rintro e w1 ⟨rfl, hbw⟩
  have HD := Lib.hid ((dev_new w1).mono (G := fun k => w.heap.size ≤ k) (fun k hk => Nat.le_trans hbw.size hk))
  have HO := Lib.hid ((Only.of_below (F := fun k => w.heap.size ≤ k) hbw).alloc' (.cells (devCells (.slice none 0 0) (List.replicate 16 0) false 0 (.slice none 0 0)) 28))
  clear hbw
  go_wp2_with fail
  go_loopw [5] (fun i wr => Pressed zs w w1.heap.size i wr) (fun i _ => zs.length - (intOf i).toNat)
  case atStart => exact ⟨0, Nat.zero_le _, rfl, HD.out, HO.out⟩
  case round =>
    obtain ⟨k, hk, rfl, hD, hO⟩ := hrel
    have HDr := Lib.hid hD
    have HOr := Lib.hid hO
    clear hD hO
    by_cases hlt : k < zs.length
    · have cr : wr.cell? ⟨b, off + k, none⟩ = some (.int .u32 (zs.getD k 0)) := ((HOr.out.below (Nat.le_refl _) (fun _ h => h)).cell (p := ⟨b, off + k, none⟩) hb).trans (HC.out k hlt)
      obtain ⟨z, hz⟩ : ∃ z, zs.getD k 0 = z := ⟨_, rfl⟩
      rw [hz] at cr
      have HZ := Lib.hid hz
      clear hz
      by_cases h64 : k < 64
      · have hd64 : decide ((k : Int) < 64) = true := by simp; omega
        go_wp2_with fail
        refine (press_room _ _ _ z _ HDr.out (by simp; omega)).mono ?_
        rintro e w2 ⟨rfl, hd, ho⟩
        have HD2 := Lib.hid (HDr.out.own hd)
        have HO2 := Lib.hid (HOr.out.trans ho)
        clear hd ho
        go_wp2
        go_roundw
        case rel =>
          refine ⟨k + 1, by omega, by go_num, ?_, HO2.out⟩
          have e1 : (zs.take (k + 1)).take 64 = (zs.take k).take 64 ++ [z] := by
            rw [List.take_take, List.take_take, Nat.min_eq_right (by omega), Nat.min_eq_right (by omega), List.take_succ_eq_append_getElem hlt, ← HZ.out]
            simp [hlt]
          rw [e1]
          exact HD2.out
        case measure => simp [intOf]; omega
      · have hd64 : decide ((k : Int) < 64) = false := by simp; omega
        go_wp2_with fail
        refine (press_full _ _ _ z _ HDr.out (by simp; omega)).mono ?_
        rintro e w2 ⟨rfl, rfl⟩
        go_wp2
        go_roundw
        case rel =>
          refine ⟨k + 1, by omega, by go_num, ?_, HOr.out⟩
          have e1 : (zs.take (k + 1)).take 64 = (zs.take k).take 64 := by
            rw [List.take_take, List.take_take, Nat.min_eq_left (by omega), Nat.min_eq_left (by omega)]
          rw [e1]
          exact HDr.out
        case measure => simp [intOf]; omega
    · obtain rfl : k = zs.length := by omega
      by_cases hm : zs.length ≤ 64
      · have h64 : zs.length ≤ 64 := by omega
        go_wp2
        go_loopw [7] (fun i wr => Went zs w w1.heap.size i wr) (fun i _ => 64 - (intOf i).toNat)
        case atStart =>
          refine ⟨0, by omega, rfl, ?_, HOr.out⟩
          have := HDr.out
          rwa [List.take_length] at this
        case round =>
          obtain ⟨k, hk, rfl, hD, hO⟩ := hrel
          have HD3 := Lib.hid hD
          have HO3 := Lib.hid hO
          clear hD hO
          by_cases hlt : k < zs.length
          · have hkl : k < zs.length := by omega
            obtain ⟨z, hz⟩ : ∃ z, zs.getD k 0 = z := ⟨_, rfl⟩
            have HC2 : Hid (∀ wx, Only (fun k => w.heap.size ≤ k) w wx → wx.cell? ⟨b, off + k, none⟩ = some (.int .u32 z)) := Lib.hid fun wx hx => by
              rw [← hz]
              exact ((hx.below (Nat.le_refl _) (fun _ h => h)).cell (p := ⟨b, off + k, none⟩) hb).trans (HC.out k hkl)
            have hdr : (zs.take 64).drop k = z :: (zs.take 64).drop (k + 1) := by
              rw [List.drop_eq_getElem_cons (by rw [List.length_take]; omega), ← hz]
              simp [hkl]
            have HDR := Lib.hid hdr
            have HKL : Hid ((((zs.take 64).drop k).length : Int) = (zs.length : Int) - k) := Lib.hid (by rw [List.length_drop, List.length_take]; omega)
            have c3 := HC2.out _ HO3.out
            clear hz hdr
            have HDd := Lib.hid HD3.out.drew
            have HOd := Lib.hid HO3.out.drew
            have HL : Hid (((zs.take 64).drop k).length ≤ 64) := Lib.hid (by rw [List.length_drop, List.length_take]; omega)
            have c3d := HC2.out _ HOd.out
            clear HD3 HO3
            go_wp2_with fail
            have hwr := IntWalk.i64_in ((zs.length : Int) - (k : Int)) (by omega)
            go_region_with (first | (go_at_call 10; refine (keys_is _ _ _ _ HDd.out _ HKL.out).mono ?_; rintro e wx ⟨rfl, rfl⟩) | (go_at_call 11; refine (in_some _ _ _ _ z _ HDd.out HDR.out HL.out).mono ?_; rintro e w4 ⟨rfl, hd, ho⟩; have c4 := HC2.out _ (HOd.out.trans ho); have HD4 := Lib.hid (HDd.out.own hd); have HO4 := Lib.hid (HOd.out.trans ho); clear hd ho))
            all_goals
              go_wp2
              go_roundw
              case rel => exact ⟨k + 1, by omega, by go_num, HD4.out, HO4.out⟩
              case measure => simp [intOf]; omega
          · obtain rfl : k = zs.length := by omega
            have he : (zs.take 64).drop zs.length = [] := by
              apply List.drop_eq_nil_of_le
              rw [List.length_take]
              omega
            rw [he] at HD3
            go_wp2_with fail
            refine (keys_is _ _ _ _ HD3.out 0 rfl).mono ?_
            rintro e wx ⟨rfl, rfl⟩
            go_wp2_with fail
            refine (in_none _ _ _ _ HD3.out rfl).mono ?_
            rintro e wx ⟨rfl, rfl⟩
            go_wp2_with fail
            refine (seen_any _ _ _ _ HD3.out (by decide)).mono ?_
            rintro e w5 ⟨v', rfl, hs, hf, hbw⟩
            obtain ⟨ao, c', rfl⟩ := own_slice hs
            have HO5 := Lib.hid (HO3.out.below' hbw)
            clear hs hf hbw
            go_wp2
            go_ret
            exact ⟨rfl, HO5.out.below (Nat.le_refl _) (fun k hk => hk)⟩
      · have h64 : 64 < zs.length := by omega
        go_wp2
        go_loopw [7] (fun i wr => Went zs w w1.heap.size i wr) (fun i _ => 64 - (intOf i).toNat)
        case atStart =>
          refine ⟨0, by omega, rfl, ?_, HOr.out⟩
          have := HDr.out
          rwa [List.take_length] at this
        case round =>
          obtain ⟨k, hk, rfl, hD, hO⟩ := hrel
          have HD3 := Lib.hid hD
          have HO3 := Lib.hid hO
          clear hD hO
          by_cases hlt : k < 64
          · have hkl : k < zs.length := by omega
            obtain ⟨z, hz⟩ : ∃ z, zs.getD k 0 = z := ⟨_, rfl⟩
            have HC2 : Hid (∀ wx, Only (fun k => w.heap.size ≤ k) w wx → wx.cell? ⟨b, off + k, none⟩ = some (.int .u32 z)) := Lib.hid fun wx hx => by
              rw [← hz]
              exact ((hx.below (Nat.le_refl _) (fun _ h => h)).cell (p := ⟨b, off + k, none⟩) hb).trans (HC.out k hkl)
            have hdr : (zs.take 64).drop k = z :: (zs.take 64).drop (k + 1) := by
              rw [List.drop_eq_getElem_cons (by rw [List.length_take]; omega), ← hz]
              simp [hkl]
            have HDR := Lib.hid hdr
            have HKL : Hid ((((zs.take 64).drop k).length : Int) = (64 : Int) - k) := Lib.hid (by rw [List.length_drop, List.length_take]; omega)
            have c3 := HC2.out _ HO3.out
            clear hz hdr
            have HDd := Lib.hid HD3.out.drew
            have HOd := Lib.hid HO3.out.drew
            have HL : Hid (((zs.take 64).drop k).length ≤ 64) := Lib.hid (by rw [List.length_drop, List.length_take]; omega)
            have c3d := HC2.out _ HOd.out
            clear HD3 HO3
            go_wp2_with fail
            have hwr := IntWalk.i64_in ((64 : Int) - (k : Int)) (by omega)
            go_region_with (first | (go_at_call 10; refine (keys_is _ _ _ _ HDd.out _ HKL.out).mono ?_; rintro e wx ⟨rfl, rfl⟩) | (go_at_call 11; refine (in_some _ _ _ _ z _ HDd.out HDR.out HL.out).mono ?_; rintro e w4 ⟨rfl, hd, ho⟩; have c4 := HC2.out _ (HOd.out.trans ho); have HD4 := Lib.hid (HDd.out.own hd); have HO4 := Lib.hid (HOd.out.trans ho); clear hd ho))
            all_goals
              go_wp2
              go_roundw
              case rel => exact ⟨k + 1, by omega, by go_num, HD4.out, HO4.out⟩
              case measure => simp [intOf]; omega
          · obtain rfl : k = 64 := by omega
            have he : (zs.take 64).drop 64 = [] := by
              apply List.drop_eq_nil_of_le
              rw [List.length_take]
              omega
            rw [he] at HD3
            go_wp2_with fail
            refine (keys_is _ _ _ _ HD3.out 0 rfl).mono ?_
            rintro e wx ⟨rfl, rfl⟩
            go_wp2_with fail
            refine (in_none _ _ _ _ HD3.out rfl).mono ?_
            rintro e wx ⟨rfl, rfl⟩
            go_wp2_with fail
            refine (seen_any _ _ _ _ HD3.out (by decide)).mono ?_
            rintro e w5 ⟨v', rfl, hs, hf, hbw⟩
            obtain ⟨ao, c', rfl⟩ := own_slice hs
            have HO5 := Lib.hid (HO3.out.below' hbw)
            clear hs hf hbw
            go_wp2
            go_ret
            exact ⟨rfl, HO5.out.below (Nat.le_refl _) (fun k hk => hk)⟩

set_option maxHeartbeats 400000 in
theorem keys_many (ao : Option Addr) (n cap : Nat) (w : World) (h : 70 < n) (hm : n ≤ maxLen) :
    Calls Try.prog 3 #[.slice ao n cap] w fun e w' => e = .returned (.bool true) ∧ Below w.heap.size w w' := by
  unfold maxLen at hm
  go_enter Try.func3, Try.ntmps3
  go_wp2_with fail
  refine (first_true _).mono ?_
  rintro e w1 ⟨rfl, hbw⟩
  go_wp2
  go_ret
  exact ⟨rfl, hbw⟩

set_option maxHeartbeats 400000 in
theorem keys_none (ao : Option Addr) (cap : Nat) (w : World) :
    Calls Try.prog 3 #[.slice ao 0 cap] w fun e w' => e = .returned (.bool true) ∧ Below w.heap.size w w' := by
  go_enter Try.func3, Try.ntmps3
  go_wp2_with fail
  refine (first_true _).mono ?_
  rintro e w1 ⟨rfl, hbw⟩
  have HD3 := Lib.hid ((dev_new w1).mono (G := fun k => w.heap.size ≤ k) (fun k hk => Nat.le_trans hbw.size hk))
  have HO3 := Lib.hid ((Only.of_below (F := fun k => w.heap.size ≤ k) hbw).alloc' (.cells (devCells (.slice none 0 0) (List.replicate 16 0) false 0 (.slice none 0 0)) 28))
  clear hbw
  go_wp2_with fail
  refine wp_loop_rounds 1 ?_
  rw [rounds_succ]
  go_wp2_with fail
  refine wp_loop_rounds 1 ?_
  rw [rounds_succ]
  go_wp2_with fail
  refine (keys_is _ _ _ _ HD3.out 0 rfl).mono ?_
  rintro e wx ⟨rfl, rfl⟩
  go_wp2_with fail
  refine (in_none _ _ _ _ HD3.out rfl).mono ?_
  rintro e wx ⟨rfl, rfl⟩
  go_wp2_with fail
  refine (seen_any _ _ _ _ HD3.out (by decide)).mono ?_
  rintro e w5 ⟨v', rfl, hs, hf, hbw⟩
  obtain ⟨ao, c', rfl⟩ := own_slice hs
  have HO5 := Lib.hid (HO3.out.below' hbw)
  clear hs hf hbw
  go_wp2
  go_ret
  exact ⟨rfl, HO5.out.below (Nat.le_refl _) (fun k hk => hk)⟩

theorem keys_walk (zs : List Int) (v : Value) (w : World) (hr : Reads w v zs.length (u32s zs)) (hm : zs.length ≤ maxLen) :
    Calls Try.prog 3 #[v] w fun e w' => e = .returned (.bool true) ∧ Below w.heap.size w w' := by
  by_cases h0 : zs = []
  · subst h0
    rcases hr with ⟨rfl, -, -⟩ | ⟨a, cap, rfl, -⟩
    · exact keys_none _ _ w
    · exact keys_none _ _ w
  · obtain ⟨b, off, cap, rfl, hc⟩ := reads_at hr (by simpa [u32s] using h0)
    by_cases h : 70 < zs.length
    · exact keys_many _ _ _ w h hm
    · have hpos : 0 < zs.length := List.length_pos_iff.2 h0
      have hb : b < w.heap.size := World.block_lt_of_cell? w ⟨b, off + 0, none⟩ (hc 0 (.int .u32 (zs.getD 0 0)) (by simp [u32s, hpos]))
      exact keys_some zs w b off cap hc hb hpos (by omega)
end Go.Proofs.Ytljmdgoedmgikaa
