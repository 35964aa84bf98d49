/-
  Parts of one proof, one behind the other.
-/
import Derived.Test.YtaoaachgnnengaaGreatDoorMg84abe83c25
import Derived.Test.YtaoaachgnnengaaGreatDoorMg93357b2e1a
import Derived.Deep.RegionWith
import Derived.Deep.Cut
import Derived.Deep.CutRange
import Derived.Test.YtaoaachgnnengaaGreatDoorMg0168c28601
import Derived.Test.YtaoaachgnnengaaGreatDoorMg84cf151f3c
import Derived.Test.YtaoaachgnnengaaGreatDoorMg76f95e7ea6
import Derived.Test.YtaoaachgnnengaaGreatDoorMge8812c0b73
import Derived.Test.YtaoaachgnnengaaGreatDoorMg9a5a14a2e3
import Derived.Test.YtaoaachgnnengaaGreatDoorRows
import Derived.Test.YtaoaachgnnengaaGreatDoorMg46ad1761f3
import Derived.Test.YtaoaachgnnengaaGreatDoorMg44abf47866
/-
  facaderef16.NewTables, where there is room.
-/
namespace Go.Proofs.YtaoaachgnnengaaGreatDoor
open Go.RowKit

theorem fill_zero (n f : Nat) (hf : f < n) : fillL (List.replicate (16 * n) 0) f [] = List.replicate (16 * n) 0 := by
  apply List.ext_getElem
  · rw [fillL_len]
  · intro i h1 h2
    have hi : i < 16 * n := by rw [List.length_replicate] at h2; exact h2
    have := fillL_get (List.replicate (16 * n) 0) n f [] i List.length_replicate hf (by decide)
    rw [List.getD_eq_getElem?_getD, List.getElem?_eq_getElem h1, Option.getD_some] at this
    rw [this, List.getElem_replicate]
    split
    · simp
    · rw [List.getD_eq_getElem?_getD, List.getElem?_replicate, if_pos hi]
      rfl
/-- the first table's words, so far -/
def zW (n o : Nat) : Nat → List Int
  | 0 => List.replicate (16 * n) 0
  | k + 1 => writeL (zW n o k) ((o : Int) * 16 + (k : Int)) (bitsA ⟨((o + (k + 1) : Nat) : Int), true, true, true⟩).1
theorem bits_root (g : Nat) (h : g < 1024) : (bitsA ⟨(g : Int), true, true, true⟩).1 = entW (g : Int) true true true := by
  have hok : entOk (g : Int) true true true := ⟨by omega, by omega, fun h => by cases h⟩
  unfold bitsA
  rw [if_pos ((entOkB_iff _ _ _ _).2 hok)]
theorem zW_len (n o : Nat) : ∀ k, (zW n o k).length = 16 * n
  | 0 => List.length_replicate
  | k + 1 => by unfold zW; rw [wlen]; exact zW_len n o k
theorem zW_get (n o j : Nat) (hn : n ≤ 1024) (ho : o + 17 ≤ n) : ∀ k, k ≤ 16 → (zW n o k).getD j 0 = if 16 * o ≤ j ∧ j < 16 * o + k then entW ((o + 1 + (j - 16 * o) : Nat) : Int) true true true else 0
  | 0, _ => by
    rw [if_neg (by omega)]
    show (List.replicate (16 * n) (0 : Int)).getD j 0 = 0
    rw [List.getD_eq_getElem?_getD, List.getElem?_replicate]
    split <;> rfl
  | k + 1, hk => by
    have ih := zW_get n o j hn ho k (by omega)
    unfold zW
    rw [bits_root _ (by omega), show (o : Int) * 16 + (k : Int) = ((16 * o + k : Nat) : Int) by omega]
    unfold writeL
    rw [if_pos (by rw [zW_len]; omega), Int.toNat_natCast, setD_get _ _ _ _ (by rw [zW_len]; omega), ih]
    by_cases h1 : j = 16 * o + k
    · rw [if_pos h1, if_pos (by omega), show o + 1 + (j - 16 * o) = o + (k + 1) by omega]
    · rw [if_neg h1]
      by_cases h2 : 16 * o ≤ j ∧ j < 16 * o + k
      · rw [if_pos h2, if_pos (by omega)]
      · rw [if_neg h2, if_neg (by omega)]
theorem zW_tM (n o : Nat) (hn : n ≤ 1024) (ho : o + 17 ≤ n) : zW n o 16 = tM (List.replicate (16 * n) 0) o 17 := by
  have hl2 : (tM (List.replicate (16 * n) (0 : Int)) o 17).length = 16 * n := by rw [tM_len _ o 17 (by omega) (by omega)]; exact List.length_replicate
  apply List.ext_getElem
  · rw [zW_len, hl2]
  · intro i h1 h2
    have e1 := zW_get n o i hn ho 16 (by omega)
    have e2 := tM_get (List.replicate (16 * n) 0) n o i List.length_replicate hn 17 (by omega) ho
    rw [List.getD_eq_getElem?_getD, List.getElem?_eq_getElem h1, Option.getD_some] at e1
    rw [List.getD_eq_getElem?_getD, List.getElem?_eq_getElem h2, Option.getD_some] at e2
    rw [e1, e2]
    by_cases h : 16 * o ≤ i ∧ i < 16 * o + 16
    · rw [if_pos h, if_pos (by omega)]
    · rw [if_neg h, if_neg (by omega)]
      split
      · rfl
      · rw [List.getD_eq_getElem?_getD, List.getElem?_replicate]
        split <;> rfl
theorem frU_no (n o k : Nat) (who : Int) (hw : frOwns who) : ∀ x ∈ frU n o k who, x.owner = -1 → x = frNo := fun x hx he => by
  unfold frU at hx
  obtain ⟨i, hi, rfl⟩ := List.mem_map.1 hx
  have hne := frOwns_ne hw
  revert he
  split
  · intro he; exact absurd (show (3 : Int) = -1 from he) (by decide)
  · split
    · intro he; exact absurd he hne
    · intro _; rfl

def Z1To (n o mb fb fg : Nat) (mv : Value) (who : Int) (w : World) (i : Value) (wr : World) : Prop :=
  ∃ (k : Nat) (gv : Value), k ≤ 17 ∧ i = .int .i64 (k : Int) ∧ ZAt wr ⟨w.heap.size, mb, fb, fg, mv, gv⟩ n (List.replicate (16 * n) 0) (frU n o k who) (rngF o k) who ∧ Only (nz mv fg) w wr ∧ (∀ j, inRow gv j → w.heap.size ≤ j)
def Z3To (n o mb fb fg : Nat) (mv gv : Value) (who : Int) (w : World) (i : Value) (wr : World) : Prop :=
  ∃ k : Nat, k ≤ 17 ∧ i = .int .i64 (k : Int) ∧ ZAt wr ⟨w.heap.size, mb, fb, fg, mv, gv⟩ n (List.replicate (16 * n) 0) (frM n o k who) (rngF o 17) who ∧ Only (nz mv fg) w wr
def Z4To (n o mb fb fg : Nat) (mv gv : Value) (who : Int) (w : World) (i : Value) (wr : World) : Prop :=
  ∃ k : Nat, k ≤ 16 ∧ i = .int .i64 (k : Int) ∧ ZAt wr ⟨w.heap.size, mb, fb, fg, mv, gv⟩ n (zW n o k) (frM n o 17 who) (rngF o 17) who ∧ Only (nz mv fg) w wr
theorem zt_done {wr : World} {z : Zl} {n o k : Nat} {who : Int} (hk : k = 16) (h : ZAt wr z n (zW n o k) (frM n o 17 who) (rngF o 17) who) (hn : n ≤ 1024) (ho : o + 17 ≤ n) : ZtAt wr z (tNew n o who) := by
  have e : zW n o k = tM (List.replicate (16 * n) 0) o 17 := by rw [hk]; exact zW_tM n o hn ho
  rw [e] at h
  unfold ZtAt tNew
  dsimp only
  exact h
/-- what NewTables answers where there is room -/
def ZNewQ (n o mb fb fg : Nat) (mv : Value) (who : Int) (w : World) (y : Ending) (w' : World) : Prop := ∃ gv, y = .returned (.tuple #[.pointer (some ⟨w.heap.size, 0, none⟩), .int .i64 0]) ∧ ZtAt w' ⟨w.heap.size, mb, fb, fg, mv, gv⟩ (tNew n o who) ∧ Only (nz mv fg) w w' ∧ (∀ j, inRow gv j → w.heap.size ≤ j)

set_option maxRecDepth 100000 in
set_option maxHeartbeats 32000000 in
theorem znew_ok (n o mb fb fg : Nat) (mv : Value) (who : Int) (w : World) (hm : MAr w mb mv n (List.replicate (16 * n) 0)) (hf : FrAt 75 72 w fb fg n (frU n o 0 who)) (hap : (∀ k, inRow mv k → k ≠ fb ∧ k ≠ fg) ∧ fg ≠ mb) (hw : frOwns who) (hn : o + 17 ≤ n) (hn2 : n ≤ 1024) :
    Calls Tryz.prog 22 #[.pointer (some ⟨mb, 0, none⟩), .pointer (some ⟨fb, 0, none⟩), .int .i64 who] w (ZNewQ n o mb fb fg mv who w) := by
  obtain ⟨i0, hi, hz0, hz1, hz2⟩ := info_parts infoPInt
  obtain ⟨W1, hW1⟩ : ∃ W1, W1 = w.alloc (.cells #[.pointer (some ⟨mb, 0, none⟩), .pointer (some ⟨fb, 0, none⟩), .int .i64 who, .slice none 0 0] 45) := ⟨_, rfl⟩
  have hb1 : Below w.heap.size w W1 := hW1 ▸ (Below.refl _ _).alloc (Nat.le_refl _) _
  have hmb := blk_lt hm.1
  have hfl := hf.lt
  have hap1 : Zl.Apart ⟨w.heap.size, mb, fb, fg, mv, .slice none 0 0⟩ := by
    refine ⟨fun k h0 h1 => ?_, fun k h0 h2 => ?_, fun k h0 h3 => ?_, fun k h1 h2 => (hap.1 k h1).2 h2, fun k h1 h3 => ?_, fun k h2 h3 => ?_⟩
    · have h1' : inRow mv k := h1
      rcases h0 with h0 | h0
      · rw [show k = mb from h0] at h1'
        exact own_not hm.2.1 hm.1 (by decide) h1'
      · exact (hap.1 k h1').1 h0
    · have h2' : k = fg := h2
      rcases h0 with h0 | h0
      · exact hap.2 (h2'.symm.trans h0)
      · exact hf.2.2.1 ((show k = fb from h0) ▸ h2')
    · rcases h3 with h3 | h3
      · have h3' : k = w.heap.size := h3
        rcases h0 with h0 | h0
        · rw [show k = mb from h0] at h3'
          omega
        · rw [show k = fb from h0] at h3'
          omega
      · cases h3
    · rcases h3 with h3 | h3
      · have := own_lt hm.2.1 (show inRow mv k from h1)
        rw [show k = w.heap.size from h3] at this
        omega
      · cases h3
    · rcases h3 with h3 | h3
      · have h4 : k = w.heap.size := h3
        have h5 : k = fg := h2
        omega
      · cases h3
  have HST : Hid (Z1To n o mb fb fg mv who w (.int .i64 0) W1) := Lib.hid ⟨0, _, Nat.zero_le _, rfl, ⟨by rw [hW1]; exact blk_new w _, ⟨blk_below hm.1 hb1 hmb, own_only hm.2.1 (Only.of_below (F := fun _ => False) hb1) (fun _ _ h => h), hm.2.2⟩, hf.below hb1, own_nil _ _ _, hap1⟩, Only.of_below hb1, fun j h => by cases h⟩
  have HW1 := Lib.hid hW1
  clear hm hf hap hap1 hW1 hb1 hmb hfl
  go_enter Tryz.func22, Tryz.ntmps22
  go_wp2_with fail
  rw [← HW1.out]
  go_loopw [9] (fun i wr => Z1To n o mb fb fg mv who w i wr) (fun i _ => 17 - (intOf i).toNat)
  case atStart => exact HST.out
  case round =>
    obtain ⟨k, lv, hk, rfl, hN, ho, hlv⟩ := hrel
    have HN := Lib.hid hN
    have HO := Lib.hid ho
    have HLV := Lib.hid hlv
    clear HST
    by_cases hlt : k < 17
    · have hki : (k : Int) < 17 := by omega
      have ha := ralloc_any (frU n o k who) fb fg n who wr (frU_no n o k who hw) hN.fr
      rw [frU_alloc n o k who hw (by omega)] at ha
      obtain ⟨x, hx⟩ : ∃ x : Int, ((o + k : Nat) : Int) = x := ⟨_, rfl⟩
      rw [hx] at ha
      have HA := Lib.hid ha
      have HXE := Lib.hid hx
      clear ha hN ho hlv hx
      go_wp2_with fail
      refine HA.out.mono ?_
      rintro y w2 ⟨rfl, hf2, ho2⟩
      have HN2 := Lib.hid (HN.out.fr' ho2 hf2)
      have HO2 := Lib.hid (HO.out.trans (ho2.mono fun _ h => .inl (.inr h)))
      obtain ⟨-, -, -, c4, f4, ltb⟩ := HN2.out.cells
      have htl := HN2.out.gl
      rw [rngF_len] at htl
      obtain ⟨ao, cap, hlve⟩ := own_slice htl
      dsimp only at hlve c4
      subst hlve
      have HTL := Lib.hid htl
      have HNT : Hid (¬ inRow (.slice ao k cap) w.heap.size) := Lib.hid fun h => own_not htl HN2.out.row (by decide) h
      clear hf2 ho2 htl
      dsimp only
      go_wp2_with (at_builtin; refine wpList_append_sep _ rfl _ _ 43 rfl 3 i0 (.int .i64 0) 1 8 Tryz.underlying43 hi hz0 hz1 hz2 rfl (by decide) _ _ _ rfl (HTL.out.alloc _) ⟨w2.heap.size, 0, none⟩ 1 1 [.int .i64 x] rfl rfl (cell_one_new _ _ _) (by simp [Value.oneCell']) (by unfold maxLen; omega) (by omega) ?_)
      intro v' wx ho3 hg3 hs3
      obtain ⟨ao2, cap2, rfl⟩ := own_slice ho3
      have hbx := blk_grown (blk_old HN2.out.row (.cells #[.int .i64 x] 3)) hg3 HNT.out
      have cx := blk_cell hbx 3
      have fx := blk_free hbx 3
      have HON : Hid (Only (fun j => j = w.heap.size ∨ inRow (.slice ao k cap) j) w2 (wx.setCell ⟨w.heap.size, 3, none⟩ (.slice ao2 (k + 1) cap2))) := Lib.hid
        (Only.setCell (F := fun j => j = w.heap.size ∨ inRow (.slice ao k cap) j) ((Only.alloc _ w2 (.cells #[.int .i64 x] 3)).grown hg3 (fun j hj => .inl (.inr hj))) (p := ⟨w.heap.size, 3, none⟩) (.inl (.inl rfl)) _)
      have hs4 : ∀ j, inRow (.slice ao2 (k + 1) cap2) j → inRow (.slice ao k cap) j ∨ w2.heap.size ≤ j := fun j hj => by
        rcases hs3 j hj with h | h
        · exact .inl h
        · have h' := h
          try simp only [World.size_alloc] at h'
          exact .inr (by omega)
      have HN3 : Hid (ZAt (wx.setCell ⟨w.heap.size, 3, none⟩ (.slice ao2 (k + 1) cap2)) ⟨w.heap.size, mb, fb, fg, mv, .slice ao2 (k + 1) cap2⟩ n (List.replicate (16 * n) 0) (frU n o (k + 1) who) (rngF o (k + 1)) who) := Lib.hid (HN2.out.list' HON.out (by have := blk_put hbx 3 (.slice ao2 (k + 1) cap2); exact this) (by
        have e1 : ints (rngF o k) ++ [Value.int .i64 x] = ints (rngF o (k + 1)) := by rw [rngF_succ, HXE.out]; simp [ints]
        rw [e1] at ho3
        rw [rngF_len]
        exact own_set ho3 hbx (by decide) 3 _) hs4)
      have HO3 : Hid (Only (nz mv fg) w (wx.setCell ⟨w.heap.size, 3, none⟩ (.slice ao2 (k + 1) cap2))) := Lib.hid (HO2.out.trans' HON.out fun j hj => by
        rcases hj with hj | hj
        · exact .inr (by omega)
        · exact .inr (HLV.out j hj))
      have HLV3 : Hid (∀ j, inRow (.slice ao2 (k + 1) cap2) j → w.heap.size ≤ j) := Lib.hid fun j hj => by
        rcases hs4 j hj with h | h
        · exact HLV.out j h
        · have := HO2.out.size; omega
      clear ho3 hg3 hs3 hbx c4 f4 hs4
      go_wp2_with fail
      go_roundw
      case rel => exact ⟨k + 1, _, by omega, by go_num, HN3.out, HO3.out, HLV3.out⟩
      case measure => simp [intOf]; omega
    · have hk17 : k = 17 := by omega
      have hkn : ¬ (k : Int) < 17 := by omega
      have hN17 : ZAt wr ⟨w.heap.size, mb, fb, fg, mv, lv⟩ n (List.replicate (16 * n) 0) (frM n o 0 who) (rngF o 17) who := by
        rw [frM_zero, ← hk17]
        exact hN
      have hsh := own_shape hN17.gl
      rw [rngF_len] at hsh
      rcases hsh with ⟨-, hz, -⟩ | ⟨g, cap, hlve, -⟩
      · omega
      dsimp only at hlve
      subst hlve
      have HST3 : Hid (Z3To n o mb fb fg mv (.slice (some ⟨g, 0, none⟩) 17 cap) who w (.int .i64 0) wr) := Lib.hid ⟨0, Nat.zero_le _, rfl, hN17, ho⟩
      have HLV2 := Lib.hid hlv
      have HCL : Hid (∀ wx : World, wx.ownsRow 0 3 1 (.slice (some ⟨g, 0, none⟩) 17 cap) (rngF o 17).length (ints (rngF o 17)) → ∀ q, q < 17 → wx.cell? ⟨g, q, none⟩ = some (.int .i64 ((o + q : Nat) : Int)) ∧ g < wx.heap.size) := Lib.hid fun wx ht q hq => by
        rw [rngF_len] at ht
        exact ⟨by rw [own_cell ht q (by omega), ints_get' _ q (by rw [rngF_len]; exact hq), rngF_get o 17 q hq], own_lt ht (show inRow _ g from rfl)⟩
      clear hN hN17 ho hlv HN HO HLV hk17 hlt hk
      go_wp2_with fail
      go_loopw [13] (fun i wr => Z3To n o mb fb fg mv (.slice (some ⟨g, 0, none⟩) 17 cap) who w i wr) (fun i _ => 17 - (intOf i).toNat)
      case atStart => exact HST3.out
      case round =>
        obtain ⟨k, hk, rfl, hN, ho⟩ := hrel
        clear HST3
        by_cases hlt : k < 17
        · have hki : (k : Int) < 17 := by omega
          obtain ⟨x, hx⟩ : ∃ x : Int, ((o + k : Nat) : Int) = x := ⟨_, rfl⟩
          obtain ⟨q1, g1⟩ := HCL.out wr hN.gl k hlt
          rw [hx] at q1
          obtain ⟨-, -, -, c4, -, ltb⟩ := hN.cells
          have HFL : Hid (∀ wx, MAr wx mb mv n (List.replicate (16 * n) 0) → Calls Tryz.prog 56 #[.pointer (some ⟨mb, 0, none⟩), .int .i64 x, .slice none 0 0] wx fun e w' => e = .returned (.bool true) ∧ MAr w' mb mv n (List.replicate (16 * n) 0) ∧ Only (fun k => inRow mv k) wx w') := Lib.hid fun wx h => by
            have := mr_fill_ok (List.replicate (16 * n) 0) [] mb n (o + k) 0 0 none mv wx h hn2 (by omega) (atL_nil _ _) rfl (by decide) (fun a h => by omega)
            rw [fill_zero n (o + k) (by omega), hx] at this
            exact this
          obtain ⟨kd, hkd⟩ : ∃ kd : Int, (if k = 0 then 1 else 2) = kd := ⟨_, rfl⟩
          have HMK : Hid (∀ wx, FrAt 75 72 wx fb fg n (frM n o k who) → Calls Tryz.prog 57 #[.pointer (some ⟨fb, 0, none⟩), .int .i64 x, .int .i64 who, .int .i64 kd] wx (FrN 75 72 fb fg n ⟨((frM n o k who).set (o + k) ⟨who, kd, 0, 0⟩), 0, 0⟩ wx)) := Lib.hid fun wx h => by
            have := rmake_any (frM n o k who) fb fg n ((o + k : Nat) : Int) who kd wx h
            unfold frMake at this
            rw [if_pos (by rw [← hkd]; split <;> simp), ← hkd, frM_make n o k who hw hn hlt, hx, hkd] at this
            exact this
          have HUS : Hid (∀ wx, FrAt 75 72 wx fb fg n ((frM n o k who).set (o + k) ⟨who, kd, 0, 0⟩) → Calls Tryz.prog 58 #[.pointer (some ⟨fb, 0, none⟩), .int .i64 x] wx (FrN 75 72 fb fg n ⟨frM n o (k + 1) who, 0, 0⟩ wx)) := Lib.hid fun wx h => by
            have := ruse_any ((frM n o k who).set (o + k) ⟨who, kd, 0, 0⟩) fb fg n ((o + k : Nat) : Int) wx (fr_bounds1 n o k who kd (by omega)) h
            have e := frM_use n o k who hw hn hlt
            rw [hkd] at e
            rw [e, hx] at this
            exact this
          have HN := Lib.hid hN
          have HO := Lib.hid ho
          have HKD := Lib.hid hkd
          clear hN ho hx hkd
          by_cases hk0 : k = 0
          · obtain rfl : kd = 1 := by rw [← HKD.out, if_pos hk0]
            have hk0b : ((k : Int) == 0) = true := by simp [hk0]
            have HK0 := Lib.hid hk0
            clear hk0
            go_wp2_with fail
            refine (HFL.out _ HN.out.mem).mono ?_
            rintro y w2 ⟨rfl, hm2, ho2⟩
            have HN2 := Lib.hid (HN.out.mem' ho2 hm2)
            have HO2 := Lib.hid (HO.out.trans (ho2.mono fun _ h => .inl (.inl h)))
            clear hm2 ho2 q1 g1 c4 ltb
            go_wp2_with fail
            refine (HMK.out _ HN2.out.fr).mono ?_
            rintro y w3 ⟨rfl, hf3, ho3⟩
            have HN3 := Lib.hid (HN2.out.fr' ho3 hf3)
            have HO3 := Lib.hid (HO2.out.trans (ho3.mono fun _ h => .inl (.inr h)))
            clear hf3 ho3
            go_wp2_with fail
            refine (HUS.out _ HN3.out.fr).mono ?_
            rintro y w4 ⟨rfl, hf4, ho4⟩
            have HN4 := Lib.hid (HN3.out.fr' ho4 hf4)
            have HO4 := Lib.hid (HO3.out.trans (ho4.mono fun _ h => .inl (.inr h)))
            clear hf4 ho4
            go_wp2_with fail
            go_roundw
            case rel => exact ⟨k + 1, by omega, by go_num, HN4.out, HO4.out⟩
            case measure => simp [intOf]; omega
          · obtain rfl : kd = 2 := by rw [← HKD.out, if_neg hk0]
            have hk0b : ((k : Int) == 0) = false := by simp; omega
            have HK0 := Lib.hid hk0
            clear hk0
            go_wp2_with fail
            refine (HFL.out _ HN.out.mem).mono ?_
            rintro y w2 ⟨rfl, hm2, ho2⟩
            have HN2 := Lib.hid (HN.out.mem' ho2 hm2)
            have HO2 := Lib.hid (HO.out.trans (ho2.mono fun _ h => .inl (.inl h)))
            clear hm2 ho2 q1 g1 c4 ltb
            go_wp2_with fail
            refine (HMK.out _ HN2.out.fr).mono ?_
            rintro y w3 ⟨rfl, hf3, ho3⟩
            have HN3 := Lib.hid (HN2.out.fr' ho3 hf3)
            have HO3 := Lib.hid (HO2.out.trans (ho3.mono fun _ h => .inl (.inr h)))
            clear hf3 ho3
            go_wp2_with fail
            refine (HUS.out _ HN3.out.fr).mono ?_
            rintro y w4 ⟨rfl, hf4, ho4⟩
            have HN4 := Lib.hid (HN3.out.fr' ho4 hf4)
            have HO4 := Lib.hid (HO3.out.trans (ho4.mono fun _ h => .inl (.inr h)))
            clear hf4 ho4
            go_wp2_with fail
            go_roundw
            case rel => exact ⟨k + 1, by omega, by go_num, HN4.out, HO4.out⟩
            case measure => simp [intOf]; omega
        · have hkn3 : ¬ (k : Int) < 17 := by omega
          have hk17 : k = 17 := by omega
          subst hk17
          have HST4 : Hid (Z4To n o mb fb fg mv (.slice (some ⟨g, 0, none⟩) 17 cap) who w (.int .i64 0) wr) := Lib.hid ⟨0, Nat.zero_le _, rfl, hN, ho⟩
          clear hN ho hk hlt
          go_wp2_with fail
          go_loopw [16] (fun i wr => Z4To n o mb fb fg mv (.slice (some ⟨g, 0, none⟩) 17 cap) who w i wr) (fun i _ => 16 - (intOf i).toNat)
          case atStart => exact HST4.out
          case round =>
            obtain ⟨k, hk, rfl, hN, ho⟩ := hrel
            clear HST4
            by_cases hlt : k < 16
            · have hki : (k : Int) < 16 := by omega
              have hk0i : (0 : Int) ≤ (k : Int) := by omega
              obtain ⟨q0, g0⟩ := HCL.out wr hN.gl 0 (by omega)
              obtain ⟨q1, -⟩ := HCL.out wr hN.gl (k + 1) (by omega)
              rw [Nat.add_zero] at q0
              obtain ⟨x, hx⟩ : ∃ x : Int, ((o + (k + 1) : Nat) : Int) = x := ⟨_, rfl⟩
              rw [hx] at q1
              obtain ⟨oi, hoi⟩ : ∃ oi : Int, ((o : Nat) : Int) = oi := ⟨_, rfl⟩
              have hoir : 0 ≤ oi ∧ oi < 1024 := by omega
              rw [hoi] at q0
              have wm := IntWalk.i64_in (oi * 16) (by omega)
              have wmk := IntWalk.i64_in (oi * 16 + (k : Int)) (by omega)
              have wk1 := IntWalk.i64_in ((k : Int) + 1) (by omega)
              have hk17 : (k : Int) + 1 < 17 := by omega
              have hk1n : ((k : Int) + 1).toNat = k + 1 := by omega
              have hk10 : (0 : Int) ≤ (k : Int) + 1 := by omega
              obtain ⟨-, -, -, c4, -, ltb⟩ := hN.cells
              dsimp only at c4
              have HN := Lib.hid hN
              have HO := Lib.hid ho
              have HDW : Hid (Below wr.heap.size wr wr.drew) := Lib.hid (Below.refl _ _).drew
              have HBI := Lib.hid (fun wx => zbits_any x true wx)
              have HWM : Hid (writeL (zW n o k) (oi * 16 + (k : Int)) (bitsA ⟨x, true, true, true⟩).1 = zW n o (k + 1)) := Lib.hid (by rw [← hx, ← hoi]; rfl)
              have HWR := Lib.hid (fun wx (hx : Below wr.heap.size wr wx) => mr_write (zW n o k) mb n mv (oi * 16 + (k : Int)) (bitsA ⟨x, true, true, true⟩).1 wx (hN.below hx).mem)
              clear hN ho hx hoi
              go_wp2_with fail
              go_region_with (first | (go_at_call 60; refine (HBI.out _).mono ?_; rintro e w3 ⟨rfl, hb3⟩; have HBW : Hid (Below wr.heap.size wr w3) := Lib.hid (by first | exact hb3 | exact HDW.out.trans (hb3.mono HDW.out.size)); have c4w := cell_under c4 HBW.out; have q0w := cell_under q0 HBW.out; have q1w := cell_under q1 HBW.out; have ltw : w.heap.size < w3.heap.size := Nat.lt_of_lt_of_le ltb HBW.out.size; have g0w : g < w3.heap.size := Nat.lt_of_lt_of_le g0 HBW.out.size) | (go_at_call 59; refine (HWR.out _ (by first | exact HBW.out | exact HBW.out.drew)).mono ?_; rintro e w4 ⟨rfl, hm4, ho4⟩))
              all_goals
                rw [HWM.out] at hm4
                have HN4 : Hid (ZAt w4 ⟨w.heap.size, mb, fb, fg, mv, .slice (some ⟨g, 0, none⟩) 17 cap⟩ n (zW n o (k + 1)) (frM n o 17 who) (rngF o 17) who) := Lib.hid (by first | exact (HN.out.below HBW.out).mem' ho4 hm4 | exact (HN.out.below HBW.out.drew).mem' ho4 hm4)
                have HO4 : Hid (Only (nz mv fg) w w4) := Lib.hid (by first | exact (HO.out.below' HBW.out).trans (ho4.mono fun _ h => .inl (.inl h)) | exact (HO.out.below' HBW.out.drew).trans (ho4.mono fun _ h => .inl (.inl h)))
                clear hb3 hm4 ho4 q0 q1 g0 c4 ltb c4w q0w q1w ltw g0w
                go_wp2_with fail
                go_roundw
                case rel => exact ⟨k + 1, by omega, by go_num, HN4.out, HO4.out⟩
                case measure => simp [intOf]; omega
            · have hk16 : k = 16 := by omega
              have hkn4 : ¬ (k : Int) < 16 := by omega
              have HZ := Lib.hid (zt_done hk16 hN hn2 hn)
              have HO := Lib.hid ho
              clear hN ho hk16
              go_wp2
              go_ret2
              exact ⟨_, rfl, HZ.out, HO.out, HLV2.out⟩
end Go.Proofs.YtaoaachgnnengaaGreatDoor

/-
  facadelaw18.made: tables of a guest, and the document's, side by side.
-/
namespace Go.Proofs.YtaoaachgnnengaaGreatDoor
open Go.RowKit

theorem frU_three (n k : Nat) (hk : k < n) : frAlloc (frU n k 0 1) 3 = ⟨frU n (k + 1) 0 1, (k : Int), 0⟩ := by
  have hg := fun i hi => frU_get n k 0 i 1 hi
  have hf : frFree (frU n k 0 1) = some k := frFree_is (by rw [frU_len]; exact hk) (by rw [hg k hk, if_neg (by omega), if_neg (by omega)]; rfl) fun i hi => by
    rw [hg i (by omega), if_pos hi]
    decide
  unfold frAlloc
  rw [if_pos (by unfold frOwns; omega), hf]
  dsimp only
  have hx : (frU n k 0 1).getD k default = frNo := by rw [hg k hk, if_neg (by omega), if_neg (by omega)]
  rw [hx]
  have hl : (frU n k 0 1).set k ⟨3, frNo.kind, frNo.wr, frNo.us⟩ = frU n (k + 1) 0 1 := by
    apply fr_ext
    · rw [List.length_set, frU_len, frU_len]
    · intro i hi
      rw [List.length_set, frU_len] at hi
      rw [fr_setD _ _ _ _ (by rw [frU_len]; exact hk), hg i hi, frU_get n (k + 1) 0 i 1 hi]
      by_cases h1 : i = k
      · rw [if_pos h1, if_pos (by omega)]
        rfl
      · rw [if_neg h1]
        by_cases h2 : i < k
        · rw [if_pos h2, if_pos (by omega)]
        · rw [if_neg h2, if_neg (by omega), if_neg (by omega), if_neg (by omega)]
  rw [hl]
theorem frU_noz (n k : Nat) : ∀ x ∈ frU n k 0 1, x.owner = -1 → x = frNo := fun x hx h => by
  unfold frU at hx
  obtain ⟨i, -, rfl⟩ := List.mem_map.1 hx
  by_cases h1 : i < k
  · rw [if_pos h1] at h
    cases h
  · rw [if_neg h1, if_neg (by omega)]
/-- what made answers -/
def MadeQ (n o : Nat) (w : World) (y : Ending) (w' : World) : Prop := ∃ (p : Pl) (z : Zl), y = .returned (.tuple #[.pointer (some ⟨p.tb, 0, none⟩), .pointer (some ⟨z.zb, 0, none⟩), .pointer (some ⟨p.mb, 0, none⟩), .pointer (some ⟨p.fb, 0, none⟩)]) ∧ Tw w w' p z (tNew n o 1) (tNew n o 1) ∧ (w.heap.size ≤ p.mb)
def MdTo (n o fb fg zfb zfg : Nat) (w0 : World) (i : Value) (wr : World) : Prop := ∃ k : Nat, k ≤ o ∧ i = .int .i64 (k : Int) ∧ FrAt 99 69 wr fb fg n (frU n k 0 1) ∧ FrAt 75 72 wr zfb zfg n (frU n k 0 1) ∧ Only (fun j => j = fg ∨ j = zfg) w0 wr

set_option maxRecDepth 100000 in
set_option maxHeartbeats 32000000 in
theorem made_any (E : Nat → Addr) (n o : Nat) (w : World) (hE : ErrsAt errT gOf w E all16) (hn : o + 17 ≤ n) (hn2 : n ≤ 1024) :
    Calls Tryz.prog 6 #[.int .i64 (n : Int), .int .i64 (o : Int)] w (MadeQ n o w) := by
  have HE16 : Hid (∀ wx, Below w.heap.size w wx → ErrsAt errT gOf wx E all16) := Lib.hid fun wx h => hE.mono h
  have HEK : Hid (∀ wx, Below w.heap.size w wx → ErrsAt errT gOf wx E nine) := Lib.hid fun wx h => errs9 (hE.mono h)
  clear hE
  go_enter Tryz.func6, Tryz.ntmps6
  go_wp2_with fail
  refine (mm_new n _ (by omega) hn2).mono ?_
  rintro y wa ⟨mb, mv, rfl, hma, hsa, hva, hba⟩
  have HMA := Lib.hid hma
  have HSA : Hid (w.heap.size ≤ mb ∧ mb < wa.heap.size ∧ ∀ k, inRow mv k → w.heap.size ≤ k ∧ k < wa.heap.size) := Lib.hid ⟨hsa, blk_lt hma.1, fun k hk => ⟨hva k hk, own_lt hma.2.1 hk⟩⟩
  have HBA := Lib.hid hba
  clear hma hsa hva hba
  go_wp2_with fail
  refine (fnew_ok n _ (by omega) hn2).mono ?_
  rintro y wb ⟨fb, fg, rfl, hfb, hsb, hsg, hbb⟩
  have HFB : Hid (FrAt 99 69 wb fb fg n (frU n 0 0 1)) := Lib.hid (by rw [frU_new]; exact hfb)
  have HSB : Hid (wa.heap.size ≤ fb ∧ wa.heap.size ≤ fg ∧ fb < wb.heap.size ∧ fg < wb.heap.size ∧ wa.heap.size ≤ wb.heap.size) := Lib.hid ⟨hsb, hsg, hfb.lt.1, hfb.lt.2, hbb.size⟩
  have HMB := Lib.hid (HMA.out.below hbb)
  have HBB := Lib.hid (HBA.out.trans (hbb.mono HBA.out.size))
  clear hfb hsb hsg hbb
  go_wp2_with fail
  refine (mr_new n _ (by omega) hn2).mono ?_
  rintro y wc ⟨zmb, zmv, rfl, hmc, hsc, hvc, hbc⟩
  have HMC := Lib.hid hmc
  have HSC : Hid (wb.heap.size ≤ zmb ∧ zmb < wc.heap.size ∧ (∀ k, inRow zmv k → wb.heap.size ≤ k ∧ k < wc.heap.size) ∧ wb.heap.size ≤ wc.heap.size) := Lib.hid ⟨hsc, blk_lt hmc.1, fun k hk => ⟨hvc k hk, own_lt hmc.2.1 hk⟩, hbc.size⟩
  have HMB2 := Lib.hid (HMB.out.below hbc)
  have HFB2 := Lib.hid (HFB.out.below hbc)
  have HBC := Lib.hid (HBB.out.trans (hbc.mono HBB.out.size))
  clear hmc hsc hvc hbc
  go_wp2_with fail
  refine (rnew_ok n _ hn2).mono ?_
  rintro y wd ⟨zfb, zfg, rfl, hfd, hsd, hsg, hbd⟩
  have HFD : Hid (FrAt 75 72 wd zfb zfg n (frU n 0 0 1)) := Lib.hid (by rw [frU_new]; exact hfd)
  have HSD : Hid (wc.heap.size ≤ zfb ∧ wc.heap.size ≤ zfg ∧ zfb < wd.heap.size ∧ zfg < wd.heap.size ∧ wc.heap.size ≤ wd.heap.size) := Lib.hid ⟨hsd, hsg, hfd.lt.1, hfd.lt.2, hbd.size⟩
  have HMD := Lib.hid (HMB2.out.below hbd)
  have HMZ := Lib.hid (HMC.out.below hbd)
  have HFZ := Lib.hid (HFB2.out.below hbd)
  have HBD := Lib.hid (HBC.out.trans (hbd.mono HBC.out.size))
  have HST : Hid (MdTo n o fb fg zfb zfg wd (.int .i64 0) wd) := Lib.hid ⟨0, Nat.zero_le _, rfl, HFZ.out, HFD.out, Only.refl _ _⟩
  have HSS : Hid (w.heap.size ≤ wa.heap.size) := Lib.hid HBA.out.size
  clear hfd hsd hsg hbd HMA HMB HMB2 HFB HFB2 HMC HFD HFZ HBA HBB HBC
  go_wp2_with fail
  go_loopw [14] (fun i wr => MdTo n o fb fg zfb zfg wd i wr) (fun i _ => o - (intOf i).toNat)
  case atStart => exact HST.out
  case round =>
    obtain ⟨k, hk, rfl, hf, hz, ho⟩ := hrel
    have HF := Lib.hid hf
    have HZ := Lib.hid hz
    have HO := Lib.hid ho
    have HBR : Hid (Below w.heap.size w wr) := Lib.hid (HBD.out.trans (ho.below (B := w.heap.size) HBD.out.size fun j hj => by
      have h0 := HSS.out
      have h1 := HSB.out
      have h2 := HSC.out
      have h3 := HSD.out
      rcases hj with rfl | rfl <;> omega))
    clear hf hz ho HST
    by_cases hlt : k < o
    · have hki : (k : Int) < (o : Int) := by omega
      have wk := IntWalk.i64_in ((k : Int) + 1) (by omega)
      have ha := falloc_any E (frU n k 0 1) fb fg n 3 wr (HEK.out _ HBR.out) HF.out
      rw [frU_three n k (by omega)] at ha
      have HA := Lib.hid ha
      have HZA : Hid (∀ wx, FrAt 75 72 wx zfb zfg n (frU n k 0 1) → Calls Tryz.prog 20 #[.pointer (some ⟨zfb, 0, none⟩), .int .i64 3] wx (FrNA 75 72 zfb zfg n ⟨frU n (k + 1) 0 1, (k : Int), 0⟩ wx)) := Lib.hid fun wx hx => frU_three n k (by omega) ▸ ralloc_any (frU n k 0 1) zfb zfg n 3 wx (frU_noz n k) hx
      have HNE : Hid (zfb ≠ fg ∧ zfg ≠ fg ∧ fb ≠ zfg ∧ fg ≠ zfg) := Lib.hid (by
        have h1 := HSB.out
        have h2 := HSC.out
        have h3 := HSD.out
        omega)
      clear ha
      go_wp2_with fail
      refine HA.out.mono ?_
      rintro y we ⟨rfl, hfe, hoe⟩
      have HFE := Lib.hid hfe
      have HZE := Lib.hid (HZ.out.only hoe HNE.out.1 HNE.out.2.1)
      have HOE := Lib.hid (HO.out.trans (hoe.mono fun _ h => .inl (.inl h)))
      clear hfe hoe
      go_wp2_with fail
      refine (HZA.out _ HZE.out).mono ?_
      rintro y wf ⟨rfl, hff, hof⟩
      have HFF := Lib.hid hff
      have HFE2 := Lib.hid (HFE.out.only hof HNE.out.2.2.1 HNE.out.2.2.2)
      have HOF := Lib.hid (HOE.out.trans (hof.mono fun _ h => .inl (.inr h)))
      clear hff hof
      go_wp2_with fail
      go_roundw
      case rel => exact ⟨k + 1, by omega, by go_num, HFE2.out, HFF.out, HOF.out⟩
      case measure => simp [intOf]; omega
    · have hki : ¬ (k : Int) < (o : Int) := by omega
      have hko : k = o := by omega
      have HMR := Lib.hid (HMD.out.only HO.out (fun h => by
        have h0 := HSA.out
        have h1 := HSB.out
        have h2 := HSC.out
        have h3 := HSD.out
        rcases h with h | h <;> omega) (fun j hj h => by
        have h0 := HSA.out.2.2 j hj
        have h1 := HSB.out
        have h2 := HSC.out
        have h3 := HSD.out
        rcases h with h | h <;> omega))
      have HZR := Lib.hid (HMZ.out.only' HO.out (fun h => by
        have h1 := HSB.out
        have h2 := HSC.out
        have h3 := HSD.out
        rcases h with h | h <;> omega) (fun j hj h => by
        have h1 := HSB.out
        have h2 := HSC.out.2.2.1 j hj
        have h3 := HSD.out
        rcases h with h | h <;> omega))
      have HFO : Hid (FrAt 99 69 wr fb fg n (frU n o 0 1)) := Lib.hid (hko ▸ HF.out)
      have HZO : Hid (FrAt 75 72 wr zfb zfg n (frU n o 0 1)) := Lib.hid (hko ▸ HZ.out)
      have HSR : Hid (wd.heap.size ≤ wr.heap.size) := Lib.hid HO.out.size
      have HZW : Hid (∀ wx, Only (nz mv fg) wr wx → Below w.heap.size w wx) := Lib.hid fun wx ho => HBR.out.trans (ho.below (B := w.heap.size) HBR.out.size fun j hj => by
        have h0 := HSS.out
        have h1 := HSB.out
        rcases hj with hj | hj
        · exact (HSA.out.2.2 j hj).1
        · rw [hj]; omega)
      have HNW := Lib.hid (tnew_all E n o mb fb fg mv (List.replicate (16 * n) 0) 1 wr (fun wx ho => HEK.out wx (HZW.out wx ho)) HMR.out HFO.out ⟨fun j hj => ⟨fun e => by have := HSA.out.2.2 j hj; have := HSB.out.1; omega, fun e => by have := HSA.out.2.2 j hj; have := HSB.out.2.1; omega⟩, fun e => by have := HSA.out.2.1; have := HSB.out.2.1; omega⟩ (by unfold frOwns; omega) hn hn2)
      clear HF HZ HMD HMZ hlt hk hko HO
      go_wp2_with fail
      refine HNW.out.mono ?_
      rintro y we ⟨pv, lv, rfl, hpe, hoe, hve, hle⟩
      have HBE := Lib.hid (HZW.out _ hoe)
      have HZE := Lib.hid (HZR.out.only' hoe (fun h => by
        have h1 := HSB.out
        have h2 := HSC.out
        rcases h with h | h
        · have := HSA.out.2.2 _ h; omega
        · omega) (fun j hj h => by
        have h1 := HSB.out
        have h2 := HSC.out.2.2.1 j hj
        rcases h with h | h
        · have := HSA.out.2.2 _ h; omega
        · omega))
      have HFE := Lib.hid (HZO.out.only hoe (fun h => by
        have h1 := HSB.out
        have h2 := HSC.out
        have h3 := HSD.out
        rcases h with h | h
        · have := HSA.out.2.2 _ h; omega
        · omega) (fun h => by
        have h1 := HSB.out
        have h2 := HSC.out
        have h3 := HSD.out
        rcases h with h | h
        · have := HSA.out.2.2 _ h; omega
        · omega))
      have HNZ := Lib.hid (znew_ok n o zmb zfb zfg zmv 1 we HZE.out HFE.out ⟨fun j hj => ⟨fun e => by have := HSC.out.2.2.1 j hj; have := HSD.out; omega, fun e => by have := HSC.out.2.2.1 j hj; have := HSD.out; omega⟩, fun e => by have := HSC.out; have := HSD.out; omega⟩ (by unfold frOwns; omega) hn hn2)
      have HSX : Hid (wr.heap.size ≤ we.heap.size) := Lib.hid hoe.size
      obtain ⟨p, hp⟩ : ∃ p : Pl, p = ⟨wr.heap.size + 1, mb, fb, fg, wr.heap.size, mv, pv, lv⟩ := ⟨_, rfl⟩
      have HPE : Hid (PtAt we p (tNew n o 1)) := Lib.hid (by rw [hp]; exact hpe)
      have htb : p.tb = wr.heap.size + 1 := by rw [hp]
      have hmb : p.mb = mb := by rw [hp]
      have hfb : p.fb = fb := by rw [hp]
      have HPW : Hid (∀ k, (p.z0 k ∨ p.zw k) → (w.heap.size ≤ k ∧ k < wb.heap.size) ∨ (wr.heap.size ≤ k ∧ k < we.heap.size)) := Lib.hid fun k hk => by
        have hlt := HPE.out.lt k (zw_all hk)
        have h0 := HSS.out
        have h1 := HSB.out
        have ha := HSA.out
        rw [hp] at hk
        rcases hk with (hk | hk | hk | hk) | hk | hk | hk | hk
        · exact .inr ⟨by rw [show k = wr.heap.size + 1 from hk]; omega, hlt⟩
        · exact .inl (by rw [show k = mb from hk]; omega)
        · exact .inl (by rw [show k = fb from hk]; omega)
        · exact .inr ⟨hle k hk, hlt⟩
        · have := HSA.out.2.2 k hk; exact .inl (by omega)
        · exact .inl (by rw [show k = fg from hk]; omega)
        · exact .inr ⟨by rw [show k = wr.heap.size from hk]; omega, hlt⟩
        · exact .inr ⟨hve k hk, hlt⟩
      clear hpe hoe hve hle hp HNW
      go_wp2_with fail
      refine HNZ.out.mono ?_
      rintro y wf ⟨gv, rfl, hzf, hof, hgf⟩
      obtain ⟨z, hz⟩ : ∃ z : Zl, z = ⟨we.heap.size, zmb, zfb, zfg, zmv, gv⟩ := ⟨_, rfl⟩
      have hzb : z.zb = we.heap.size := by rw [hz]
      have HZF : Hid (ZtAt wf z (tNew n o 1)) := Lib.hid (by rw [hz]; exact hzf)
      have HZX : Hid (∀ k, (z.z0 k ∨ z.zw k) → (wb.heap.size ≤ k ∧ k < wd.heap.size) ∨ we.heap.size ≤ k) := Lib.hid fun k hk => by
        have h2 := HSC.out
        have h3 := HSD.out
        rw [hz] at hk
        rcases hk with (hk | hk) | hk | hk | hk | hk
        · exact .inl (by rw [show k = zmb from hk]; omega)
        · exact .inl (by rw [show k = zfb from hk]; omega)
        · have := HSC.out.2.2.1 k hk; exact .inl (by omega)
        · exact .inl (by rw [show k = zfg from hk]; omega)
        · exact .inr (by rw [show k = we.heap.size from hk]; omega)
        · exact .inr (hgf k hk)
      have HNX : Hid (∀ k, nz zmv zfg k → wb.heap.size ≤ k ∧ k < wd.heap.size) := Lib.hid fun k hk => by
        have h2 := HSC.out
        have h3 := HSD.out
        rcases hk with hk | hk
        · have := HSC.out.2.2.1 k hk; omega
        · rw [hk]; omega
      have HTW : Hid (Tw w wf p z (tNew n o 1) (tNew n o 1)) := Lib.hid (by
        have hr := HSR.out
        have hx := HSX.out
        have hs := HSS.out
        have hap : ∀ k, (p.z0 k ∨ p.zw k) → ¬ nz zmv zfg k := fun k hk hn => by
          have h0 := HPW.out k hk
          have h1 := HNX.out k hn
          omega
        refine ⟨HPE.out.keep hof (fun k hk => hap k (.inl hk)) (fun k hk => hap k (.inr (zw_z1 hk))) (fun k hk => hap k (.inr (zw_z2 hk))) (fun k hk => hap k (.inr (zw_z3 hk))), HZF.out, fun k h1 h2 => ?_, fun k hk => ?_, fun k hk => ?_, HBE.out.trans (hof.below (B := w.heap.size) HBE.out.size fun k hk => ?_)⟩
        · have h3 := HPW.out k h1
          have h4 := HZX.out k h2
          have h5 := HSC.out.2.2.2
          have h6 := HSD.out.2.2.2.2
          omega
        · have := HPW.out k (.inr hk)
          have := HBR.out.size
          omega
        · have := HZX.out k (.inr hk)
          have := HSB.out
          have := HBE.out.size
          omega
        · have := HNX.out k hk
          have := HSB.out
          omega)
      have HIS := Lib.hid (is_any E .nilIface 0 0 (.inl ⟨rfl, rfl⟩) wf (HE16.out _ HTW.out.b))
      rw [decide_eq_true (rfl : (0 : Int) = 0)] at HIS
      have HWM : Hid (w.heap.size ≤ p.mb) := Lib.hid (by rw [hmb]; exact HSA.out.1)
      clear hzf hof hgf hz HNZ
      go_wp2_with fail
      refine HIS.out.mono ?_
      rintro y wg ⟨rfl, hbg⟩
      have HTG := Lib.hid (HTW.out.below hbg)
      clear hbg
      go_wp2
      refine bodyPost_ret (v := .tuple #[.pointer (some ⟨wr.heap.size + 1, 0, none⟩), .pointer (some ⟨we.heap.size, 0, none⟩), .pointer (some ⟨mb, 0, none⟩), .pointer (some ⟨fb, 0, none⟩)]) (by simp [results, Tryz.results6, go_sem]) rfl ⟨p, z, ?_, HTG.out, HWM.out⟩
      rw [htb, hzb, hmb, hfb]
end Go.Proofs.YtaoaachgnnengaaGreatDoor

/-
  pt.Tables: Root, Owner.
-/
namespace Go.Proofs.YtaoaachgnnengaaGreatDoor
open Go.RowKit

set_option maxRecDepth 100000 in
set_option maxHeartbeats 1600000 in
theorem troot_any (p : Pl) (s : Ts) (w : World) (h : PtAt w p s) (hP : 17 ≤ s.P.length) :
    Calls Tryz.prog 12 #[.pointer (some ⟨p.tb, 0, none⟩)] w fun y w' => y = .returned (.int .i64 (s.P.getD 0 0)) ∧ w = w' := by
  obtain ⟨-, -, -, -, c4⟩ := h.cells
  have ltb := blk_lt h.row
  obtain ⟨g, cap, hl, hg, hcell⟩ := h.list hP
  rw [hl] at c4
  have ct := hcell 0 (by decide)
  clear h hP hl hcell
  go_enter Tryz.func12, Tryz.ntmps12
  go_wp2
  go_ret
  exact ⟨rfl, rfl⟩

set_option maxHeartbeats 1600000 in
theorem towner_any (p : Pl) (s : Ts) (w : World) (h : PtAt w p s) :
    Calls Tryz.prog 14 #[.pointer (some ⟨p.tb, 0, none⟩)] w fun y w' => y = .returned (.int .i64 s.who) ∧ w = w' := by
  obtain ⟨-, -, c2, -, -⟩ := h.cells
  have ltb := blk_lt h.row
  clear h
  go_enter Tryz.func14, Tryz.ntmps14
  go_wp2
  go_ret
  exact ⟨rfl, rfl⟩
end Go.Proofs.YtaoaachgnnengaaGreatDoor

/-
  The chapter's examples of tables.
-/
namespace Go.Proofs.YtaoaachgnnengaaGreatDoor
open Go.RowKit

theorem tLive_none (s : Ts) (h : ∀ p, tEnt s p = Ent.z) : ∀ n, tLiveN s n = []
  | 0 => rfl
  | n + 1 => by
    unfold tLiveN
    rw [h, if_neg (by decide)]
    exact tLive_none s h n

set_option maxRecDepth 100000 in
set_option maxHeartbeats 6400000 in
theorem tfirst_true (E : Nat → Addr) (w : World) (hE : ErrsAt errT gOf w E all16) :
    Calls Tryz.prog 4 #[] w fun y w' => y = .returned (.bool true) ∧ Below w.heap.size w w' := by
  have HM := Lib.hid (made_any E 20 0 w hE (by decide) (by decide))
  have HTB := Lib.hid (tb_new 20 0 1 (by unfold frOwns; omega) (by decide) (by decide))
  clear hE
  go_enter Tryz.func4, Tryz.ntmps4
  go_wp2_with fail
  refine HM.out.mono ?_
  rintro y w1 ⟨p, z, rfl, htw, -⟩
  have HT := Lib.hid htw
  have HL := Lib.hid (tlive_any p _ _ w1 htw.pt HTB.out.inv)
  have hl0 : tLive (tNew 20 0 1) = [] := tLive_none _ HTB.out.ent 256
  have HP17 := Lib.hid HTB.out.inv.p17
  obtain ⟨S, hS⟩ : ∃ S, tNew 20 0 1 = S := ⟨_, rfl⟩
  have HS0 : Hid (S.P.getD 0 0 = 0 ∧ S.who = 1) := Lib.hid (by rw [← hS]; exact ⟨rfl, rfl⟩)
  rw [hS] at HT HL hl0 HP17
  rw [hl0] at HL
  clear htw hS hl0
  go_wp2_with fail
  refine HL.out.mono ?_
  rintro y w2 ⟨v, rfl, ho, -, hb2⟩
  obtain ⟨ao, cap, rfl⟩ := own_slice ho
  have HT2 := Lib.hid (HT.out.below hb2)
  have HR := Lib.hid (troot_any p S w2 HT2.out.pt HP17.out)
  have HO := Lib.hid (towner_any p S w2 HT2.out.pt)
  rw [HS0.out.1] at HR
  rw [HS0.out.2] at HO
  clear ho hb2
  go_wp2_with fail
  refine HR.out.mono ?_
  rintro y w3 ⟨rfl, rfl⟩
  go_wp2_with fail
  refine HO.out.mono ?_
  rintro y w3 ⟨rfl, rfl⟩
  go_wp2
  go_ret
  exact ⟨rfl, HT2.out.b⟩
end Go.Proofs.YtaoaachgnnengaaGreatDoor

/-
  Things that tables are told: where they lie.
-/
namespace Go.Proofs.YtaoaachgnnengaaGreatDoor
open Go.RowKit

theorem tdo_at {w : World} {ao : Option Addr} {l : List TDo} (h : AtL w ao (l.flatMap tdoCells)) (k : Nat) (hk : k < l.length) : ∃ b off, ao = some ⟨b, off, none⟩ ∧ b < w.heap.size ∧ ∀ wx, Below w.heap.size w wx → wx.cell? ⟨b, off + k * 8, none⟩ = some (.int .i64 (l.getD k default).kind) ∧ wx.cell? ⟨b, off + k * 8 + 1, none⟩ = some (.int .i64 (l.getD k default).a) ∧ wx.cell? ⟨b, off + k * 8 + 2, none⟩ = some (.int .i64 (l.getD k default).b) ∧ wx.cell? ⟨b, off + k * 8 + 3, none⟩ = some (.int .i64 (l.getD k default).e.f) ∧ wx.cell? ⟨b, off + k * 8 + 4, none⟩ = some (.bool (l.getD k default).e.t) ∧ wx.cell? ⟨b, off + k * 8 + 5, none⟩ = some (.bool (l.getD k default).e.w) ∧ wx.cell? ⟨b, off + k * 8 + 6, none⟩ = some (.bool (l.getD k default).e.u) ∧ wx.cell? ⟨b, off + k * 8 + 7, none⟩ = some (.bool (l.getD k default).is) := by
  have g := fun j (hj : j < 8) => rec_get tdoCells 8 tdo_len l k j hk hj
  obtain ⟨b, off, e, -, hb⟩ := h _ _ ((g 0 (by decide)).trans rfl)
  refine ⟨b, off, e, hb, fun wx hx => ?_⟩
  have q : ∀ j (hj : j < 8) v, (tdoCells (l.getD k default))[j]? = some v → wx.cell? ⟨b, off + k * 8 + j, none⟩ = some v := fun j hj v hv => by
    obtain ⟨b1, off1, e1, c1, -⟩ := (h.mono hx) _ _ ((g j hj).trans hv)
    rw [e] at e1
    cases e1
    rw [Nat.add_assoc]
    exact c1
  exact ⟨q 0 (by decide) _ rfl, q 1 (by decide) _ rfl, q 2 (by decide) _ rfl, q 3 (by decide) _ rfl, q 4 (by decide) _ rfl, q 5 (by decide) _ rfl, q 6 (by decide) _ rfl, q 7 (by decide) _ rfl⟩
end Go.Proofs.YtaoaachgnnengaaGreatDoor

/-
  facadeworld.Number: any number as one from 0 to below a bound.
-/
namespace Go.Proofs.YtaoaachgnnengaaGreatDoor
open Go.RowKit

set_option maxHeartbeats 400000 in
theorem number_any (n m : Int) (w : World) (h1 : -9223372036854775808 ≤ n) (h2 : n ≤ 9223372036854775807) (hm : 0 < m) (hm2 : m ≤ 1000000000) :
    Calls Tryz.prog 5 #[.int .i64 n, .int .i64 m] w fun e w' => e = .returned (.int .i64 (n % m)) ∧ w = w' := by
  by_cases hn : 0 ≤ n
  · have h3 := Int.emod_nonneg n (show m ≠ 0 by omega)
    have h4 : ¬ n % m < 0 := by omega
    go_enter Tryz.func5, Tryz.ntmps5
    go_wp2
    go_ret
    exact ⟨rfl, rfl⟩
  · obtain ⟨h3, h4, h5, h6⟩ := emod_of_tmod (show n < 0 by omega) hm
    obtain ⟨t, ht⟩ : ∃ t, n.tmod m = t := ⟨_, rfl⟩
    rw [ht] at h3 h4 h5 h6
    have H3 := Lib.hid h3
    have H4 := Lib.hid h4
    have hw := IntWalk.i64_in (t + m) (by omega)
    clear h3 h4
    by_cases hlt : t < 0
    · go_enter Tryz.func5, Tryz.ntmps5
      go_wp2
      go_ret
      exact ⟨by rw [← H3.out hlt]; rfl, rfl⟩
    · go_enter Tryz.func5, Tryz.ntmps5
      go_wp2
      go_ret
      exact ⟨by rw [← H4.out hlt]; rfl, rfl⟩
end Go.Proofs.YtaoaachgnnengaaGreatDoor

/-
  TablesPlay: the walk. Given where the sentinels lie.
-/
namespace Go.Proofs.YtaoaachgnnengaaGreatDoor
open Go.RowKit

theorem tp_same (e : Ent) (w : World) : Calls Tryz.prog 11 #[e.v, e.v] w fun x w' => x = .returned (.bool true) ∧ Below w.heap.size w w' := same_refl e.f e.t e.w e.u w
def TpA (l : List TDo) (s : Ts) (tb zb mb fb : Nat) (w : World) (i : Value) (wr : World) : Prop := ∃ (k : Nat) (p : Pl) (z : Zl), k ≤ l.length ∧ i = .int .i64 (k : Int) ∧ (p.tb = tb ∧ p.mb = mb ∧ p.fb = fb ∧ z.zb = zb) ∧ Tw w wr p z (tDos s l k) (tDos s l k)

set_option maxRecDepth 100000 in
set_option maxHeartbeats 64000000 in
theorem tablesPlay_some (E : Nat → Addr) (x0 x1 x3 : Int) (l : List TDo) (ao : Option Addr) (cap : Nat) (w : World) (hE : ErrsAt errT gOf w E all16) (h0 : -9223372036854775808 ≤ x0 ∧ x0 ≤ 9223372036854775807) (h1 : -9223372036854775808 ≤ x1 ∧ x1 ≤ 9223372036854775807) (hl : AtL w ao (l.flatMap tdoCells)) (hle : l.length ≤ 60) :
    Calls Tryz.prog 3 #[.int .i64 x0, .int .i64 x1, .slice ao l.length cap, .int .i64 x3] w fun y w' => y = .returned (.bool true) ∧ Below w.heap.size w w' := by
  have HE16 : Hid (∀ wx, Below w.heap.size w wx → ErrsAt errT gOf wx E all16) := Lib.hid fun wx h => hE.mono h
  have HF1 := Lib.hid (tfirst_true E w hE)
  have HN1 := Lib.hid (fun wx => number_any x0 30 wx h0.1 h0.2 (by decide) (by decide))
  have HN2 := Lib.hid (fun wx => number_any x1 4 wx h1.1 h1.2 (by decide) (by decide))
  have HL := Lib.hid hl
  obtain ⟨xm, hxm⟩ : ∃ xm, x0 % 30 = xm := ⟨_, rfl⟩
  have hr : 0 ≤ xm ∧ xm < 30 := by omega
  rw [hxm] at HN1
  obtain ⟨n, hn⟩ : ∃ n : Nat, (n : Int) = xm + 21 := ⟨(xm + 21).toNat, by omega⟩
  have wk : IntKind.i64.wrap (xm + 21) = (n : Int) := (IntWalk.i64_in (xm + 21) (by omega)).trans hn.symm
  obtain ⟨o, ho⟩ : ∃ o : Nat, x1 % 4 = (o : Int) := ⟨(x1 % 4).toNat, by omega⟩
  rw [ho] at HN2
  have HNB : Hid (21 ≤ n ∧ n ≤ 60 ∧ o < 4) := Lib.hid (by omega)
  have HLE := Lib.hid hle
  have hlen : ¬ (60 : Int) < (l.length : Int) := by omega
  have HSN := Lib.hid (tNew_inv n o 1 (by unfold frOwns; omega) (by omega) (by omega))
  clear hE h0 h1 hl hle hxm hr hn ho
  go_enter Tryz.func3, Tryz.ntmps3
  go_wp2_with fail
  refine HF1.out.mono ?_
  rintro y w0 ⟨rfl, hb0⟩
  have HB0 := Lib.hid hb0
  clear hb0
  go_wp2_with fail
  refine (HN1.out _).mono ?_
  rintro y wq ⟨rfl, rfl⟩
  go_wp2_with fail
  refine (HN2.out _).mono ?_
  rintro y wq ⟨rfl, rfl⟩
  have HM := Lib.hid (made_any E n o w0 (HE16.out _ HB0.out) (by have := HNB.out; omega) (by have := HNB.out; omega))
  go_wp2_with fail
  refine HM.out.mono ?_
  rintro y w1 ⟨p, z, rfl, htw, hwm⟩
  have HT1 : Hid (Tw w w1 p z (tNew n o 1) (tNew n o 1)) := Lib.hid ⟨htw.pt, htw.zt, htw.ap, fun k hk => Nat.le_trans HB0.out.size (htw.pb k hk), fun k hk => Nat.le_trans HB0.out.size (htw.zb k hk), HB0.out.trans (htw.b.mono HB0.out.size)⟩
  obtain ⟨S0, hS0⟩ : ∃ S0, tNew n o 1 = S0 := ⟨_, rfl⟩
  have HW0 : Hid (S0.who = 1) := Lib.hid (by rw [← hS0]; rfl)
  rw [hS0] at HT1 HSN
  have HSM := Lib.hid (tsame_any w p z S0 _ w1 HT1.out HSN.out)
  obtain ⟨tb, htb⟩ : ∃ x, p.tb = x := ⟨_, rfl⟩
  obtain ⟨zb, hzb⟩ : ∃ x, z.zb = x := ⟨_, rfl⟩
  obtain ⟨mb, hmb⟩ : ∃ x, p.mb = x := ⟨_, rfl⟩
  obtain ⟨fb, hfb⟩ : ∃ x, p.fb = x := ⟨_, rfl⟩
  rw [htb, hzb, hmb, hfb] at HSM
  have HPT0 := Lib.hid (And.intro htb (And.intro hmb (And.intro hfb hzb)))
  rw [htb, hzb, hmb, hfb]
  clear htw hwm htb hzb hmb hfb hS0 HM
  go_wp2_with fail
  refine HSM.out.mono ?_
  rintro y w2 ⟨rfl, hb2⟩
  have HSTA : Hid (TpA l S0 tb zb mb fb w (.int .i64 0) w2) := Lib.hid ⟨0, p, z, Nat.zero_le _, rfl, HPT0.out, HT1.out.below hb2⟩
  clear hb2 HT1 HSM
  go_wp2_with fail
  go_loopw [14] (fun i wr => TpA l S0 tb zb mb fb w i wr) (fun i _ => l.length - (intOf i).toNat)
  case atStart => exact HSTA.out
  case round =>
    obtain ⟨j, p, z, hj, rfl, ⟨rfl, rfl, rfl, rfl⟩, htw⟩ := hrel
    have HT := Lib.hid htw
    have hdi := tDos_inv HSN.out (by rw [HW0.out]; decide) l j
    clear htw HSTA HPT0
    by_cases hlt : j < l.length
    · have hji : (j : Int) < (l.length : Int) := by omega
      have wj := IntWalk.i64_in ((j : Int) + 1) (by have := HLE.out; omega)
      obtain ⟨sb, so, rfl, hbl, hcl⟩ := tdo_at HL.out j hlt
      obtain ⟨d0, d1, d2, d3, d4, d5, d6, d7⟩ := hcl wr HT.out.b
      have HDO := Lib.hid (tdoes_any E w p z (tDos S0 l j) _ (l.getD j default) wr HE16.out HT.out hdi.1 (by have := HLE.out; omega))
      have HI2 : Hid (TInv (1 + 2 * (j : Int) + 1 + 1) (tDo (tDos S0 l j) (l.getD j default))) := Lib.hid (tDo_inv hdi.1 (by rw [hdi.2.1, HW0.out]; decide) _)
      have HSU : Hid (tDos S0 l (j + 1) = tDo (tDos S0 l j) (l.getD j default)) := Lib.hid rfl
      obtain ⟨⟨kd, xa, xb, ⟨ef, et, ew, eu⟩, is⟩, hx⟩ : ∃ x, l.getD j default = x := ⟨_, rfl⟩
      have HCL : Hid (∀ wx, Below w.heap.size w wx → wx.cell? ⟨sb, so + j * 8 + 1, none⟩ = some (.int .i64 xa) ∧ sb < wx.heap.size) := Lib.hid fun wx hw => by
        have := (hcl wx hw).2.1
        rw [hx] at this
        exact ⟨this, Nat.lt_of_lt_of_le hbl hw.size⟩
      rw [hx] at d0 d1 d2 d3 d4 d5 d6 d7 HDO HSU HI2
      dsimp only at d0 d1 d2 d3 d4 d5 d6 d7 HDO
      obtain ⟨S2, hS2⟩ : ∃ S2, tDo (tDos S0 l j) ⟨kd, xa, xb, ⟨ef, et, ew, eu⟩, is⟩ = S2 := ⟨_, rfl⟩
      rw [hS2] at HDO HSU HI2
      obtain ⟨m2, hm2⟩ : ∃ m2 : Int, 1 + 2 * (j : Int) + 1 + 1 = m2 := ⟨_, rfl⟩
      rw [hm2] at HI2
      obtain ⟨tb, htb⟩ : ∃ x, p.tb = x := ⟨_, rfl⟩
      obtain ⟨zb, hzb⟩ : ∃ x, z.zb = x := ⟨_, rfl⟩
      obtain ⟨mb, hmb⟩ : ∃ x, p.mb = x := ⟨_, rfl⟩
      obtain ⟨fb, hfb⟩ : ∃ x, p.fb = x := ⟨_, rfl⟩
      rw [htb, hzb] at HDO
      have HPT := Lib.hid (And.intro htb (And.intro hmb (And.intro hfb hzb)))
      have hbw : sb < wr.heap.size := Nat.lt_of_lt_of_le hbl HT.out.b.size
      rw [htb, hzb, hmb, hfb]
      clear hx hcl htb hzb hmb hfb hS2 hm2 hdi
      go_wp2_with fail
      refine HDO.out.mono ?_
      rintro y w2 ⟨rfl, p', z', ⟨e1, e2, e3, e4, -, -⟩, htw2⟩
      have HT2 := Lib.hid htw2
      have HPQ : Hid (p'.tb = tb ∧ p'.mb = mb ∧ p'.fb = fb ∧ z'.zb = zb) := Lib.hid ⟨e1.trans HPT.out.1, e2.trans HPT.out.2.1, e3.trans HPT.out.2.2.1, e4.trans HPT.out.2.2.2⟩
      have hsm := tsame_any w p' z' S2 m2 w2 htw2 HI2.out
      rw [HPQ.out.1, HPQ.out.2.1, HPQ.out.2.2.1, HPQ.out.2.2.2] at hsm
      have HSM := Lib.hid hsm
      clear htw2 e1 e2 e3 e4 hsm d0 d1 d2 d3 d4 d5 d6 d7 hbw
      go_wp2_with fail
      refine HSM.out.mono ?_
      rintro y w3 ⟨rfl, hb3⟩
      have HT3 := Lib.hid (HT2.out.below hb3)
      have hga := tget_any p' S2 m2 xa w3 HT3.out.pt HI2.out
      rw [HPQ.out.1] at hga
      have HZG := Lib.hid (fun wx (hx : ZtAt wx z' S2) => zget_any z' S2 m2 xa wx hx HI2.out)
      rw [HPQ.out.2.2.2] at HZG
      have HSE := Lib.hid (tp_same (tGet S2 xa))
      have HGA := Lib.hid hga
      obtain ⟨⟨gf, gt, gw, gu⟩, he⟩ : ∃ e, tGet S2 xa = e := ⟨_, rfl⟩
      rw [he] at HGA HZG HSE
      unfold Ent.v at HGA HZG HSE
      dsimp only at HGA HZG HSE
      obtain ⟨q1, q2⟩ := HCL.out _ HT3.out.b
      clear hb3 hga he
      go_wp2_with fail
      refine HGA.out.mono ?_
      rintro y w4 ⟨rfl, hb4⟩
      obtain ⟨w5, hw5⟩ : ∃ w5, w4.alloc (.cells #[.int .i64 gf, .bool gt, .bool gw, .bool gu] 34) = w5 := ⟨_, rfl⟩
      have hb45 : Below w4.heap.size w4 w5 := hw5 ▸ (Below.refl _ _).alloc (Nat.le_refl _) _
      have HT5 := Lib.hid ((HT3.out.below hb4).below hb45)
      have HK5 : Hid (w5.heap[w4.heap.size]? = some (.cells #[.int .i64 gf, .bool gt, .bool gw, .bool gu] 34 (0, 0))) := Lib.hid (hw5 ▸ blk_new w4 _)
      have HW5 := Lib.hid hw5
      have HT4 := Lib.hid (HT3.out.below hb4)
      clear hb4 hb45 hw5 q1 q2
      obtain ⟨q1, q2⟩ := HCL.out _ HT4.out.b
      go_wp2_with fail
      rw [HW5.out]
      refine (HZG.out _ HT5.out.zt).mono ?_
      rintro y w6 ⟨rfl, hb6⟩
      obtain ⟨w7, hw7⟩ : ∃ w7, w6.alloc (.cells #[.int .i64 gf, .bool gt, .bool gw, .bool gu] 34) = w7 := ⟨_, rfl⟩
      have hb67 : Below w6.heap.size w6 w7 := hw7 ▸ (Below.refl _ _).alloc (Nat.le_refl _) _
      have HT7 := Lib.hid ((HT5.out.below hb6).below hb67)
      have HW7 := Lib.hid hw7
      have HB6 := Lib.hid hb6
      have hbne : (gt != gt) = false := by simp
      clear hb6 hb67 hw7 q1 q2
      have x0 : w6.cell? ⟨w4.heap.size, 0, none⟩ = some (.int .i64 gf) := blk_cell (blk_below HK5.out HB6.out (blk_lt HK5.out)) 0
      have x1 : w6.cell? ⟨w4.heap.size, 1, none⟩ = some (.bool gt) := blk_cell (blk_below HK5.out HB6.out (blk_lt HK5.out)) 1
      have x2 : w6.cell? ⟨w4.heap.size, 2, none⟩ = some (.bool gw) := blk_cell (blk_below HK5.out HB6.out (blk_lt HK5.out)) 2
      have x3 : w6.cell? ⟨w4.heap.size, 3, none⟩ = some (.bool gu) := blk_cell (blk_below HK5.out HB6.out (blk_lt HK5.out)) 3
      have lx := blk_lt (blk_below HK5.out HB6.out (blk_lt HK5.out))
      go_wp2_with fail
      rw [HW7.out]
      refine (HSE.out _).mono ?_
      rintro y w8 ⟨rfl, hb8⟩
      have HT8 := Lib.hid (HT7.out.below hb8)
      clear hb8 x0 x1 x2 x3 lx
      go_wp2_with fail
      go_roundw
      case rel => exact ⟨j + 1, p', z', by omega, by go_num, HPQ.out, by rw [HSU.out]; exact HT8.out⟩
      case measure => simp [intOf]; omega
    · have hji : ¬ (j : Int) < (l.length : Int) := by omega
      obtain ⟨S, hS⟩ : ∃ S, tDos S0 l j = S := ⟨_, rfl⟩
      rw [hS] at HT hdi
      have HP17 := Lib.hid hdi.1.p17
      have hrt := fun wx (hx : Below wr.heap.size wr wx) => troot_any p S wx (HT.out.below hx).pt HP17.out
      have HRT := Lib.hid hrt
      obtain ⟨g, gc, hgl, -, hgc⟩ := ZAt.list HT.out.zt HP17.out
      have hc0 := hgc 0 (by have := HP17.out; omega)
      obtain ⟨-, -, -, c3, -, ltz⟩ := ZAt.cells HT.out.zt
      rw [hgl] at c3
      have ltg : g < wr.heap.size := by
        have := own_lt HT.out.zt.gl (show inRow z.gv g by rw [hgl]; rfl)
        exact this
      have hpl : (0 : Int) < (S.P.length : Int) := by have := HP17.out; omega
      have hpl0 : 0 < S.P.length := by have := HP17.out; omega
      obtain ⟨rt, hrt2⟩ : ∃ rt, S.P.getD 0 0 = rt := ⟨_, rfl⟩
      rw [hrt2] at HRT hc0
      have hrr : (rt == rt) = true := by simp
      clear hS hdi hrt hgc hgl hrt2 hlt
      go_wp2_with fail
      go_region_with (first
        | (go_at_call 12; refine (HRT.out _ (by first | exact Below.refl _ _ | exact (Below.refl _ _).drew)).mono ?_; rintro y wx ⟨rfl, rfl⟩))
      all_goals
        go_wp2
        go_ret
        exact ⟨by first | rfl | exact ret_bool (by simp), by first | exact HT.out.b | exact HT.out.b.drew⟩
theorem tablesPlay_walk (E : Nat → Addr) (x0 x1 : Int) (ao : Option Addr) (cap : Nat) (l : List TDo) (x3 : Int) (w : World) (hE : ErrsAt errT gOf w E all16) (h0 : -9223372036854775808 ≤ x0 ∧ x0 ≤ 9223372036854775807) (h1 : -9223372036854775808 ≤ x1 ∧ x1 ≤ 9223372036854775807) (hl : AtL w ao (l.flatMap tdoCells)) :
    Calls Tryz.prog 3 #[.int .i64 x0, .int .i64 x1, .slice ao l.length cap, .int .i64 x3] w fun y w' => y = .returned (.bool true) ∧ Below w.heap.size w w' := by
  by_cases hle : l.length ≤ 60
  · exact tablesPlay_some E x0 x1 x3 l ao cap w hE h0 h1 hl hle
  · have HF1 := Lib.hid (tfirst_true E w hE)
    obtain ⟨n, hn⟩ : ∃ n, l.length = n := ⟨_, rfl⟩
    rw [hn] at hle ⊢
    have hlen : (60 : Int) < (n : Int) := by omega
    clear hE hl h0 h1 hn
    go_enter Tryz.func3, Tryz.ntmps3
    go_wp2_with fail
    refine HF1.out.mono ?_
    rintro y w0 ⟨rfl, hb0⟩
    have HB0 := Lib.hid hb0
    clear hb0
    go_wp2
    go_ret
    exact ⟨rfl, HB0.out⟩
end Go.Proofs.YtaoaachgnnengaaGreatDoor

