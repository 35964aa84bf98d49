/-
  Parts of one proof, one behind the other.
-/
import Derived.Test.YtnhocmmgdkiepaaDoorMg93d22f9928
import Derived.Deep.RegionWith
import Derived.Deep.Cut
import Derived.Deep.CutRange
import Derived.Test.YtnhocmmgdkiepaaDoorMge8e9a5b5ac
import Derived.BigQuiet
/-
  facaderef16.NewTables, where there is room.
-/
namespace Go.Proofs.YtnhocmmgdkiepaaDoor
open Go.RowKit

theorem fill_zero (n f : Nat) (hf : f < n) : fillL (List.replicate (16 * n) 0) f [] = List.replicate (16 * n) 0 := by
  apply List.ext_getElem
  · rw [fillL_len]
  · intro i h1 h2
    have hi : i < 16 * n := by rw [List.length_replicate] at h2; exact h2
    have := fillL_get (List.replicate (16 * n) 0) n f [] i List.length_replicate hf (by decide)
    rw [List.getD_eq_getElem?_getD, List.getElem?_eq_getElem h1, Option.getD_some] at this
    rw [this, List.getElem_replicate]
    split
    · simp
    · rw [List.getD_eq_getElem?_getD, List.getElem?_replicate, if_pos hi]
      rfl
/-- the first table's words, so far -/
def zW (n o : Nat) : Nat → List Int
  | 0 => List.replicate (16 * n) 0
  | k + 1 => writeL (zW n o k) ((o : Int) * 16 + (k : Int)) (bitsA ⟨((o + (k + 1) : Nat) : Int), true, true, true⟩).1
theorem bits_root (g : Nat) (h : g < 1024) : (bitsA ⟨(g : Int), true, true, true⟩).1 = entW (g : Int) true true true := by
  have hok : entOk (g : Int) true true true := ⟨by omega, by omega, fun h => by cases h⟩
  unfold bitsA
  rw [if_pos ((entOkB_iff _ _ _ _).2 hok)]
theorem zW_len (n o : Nat) : ∀ k, (zW n o k).length = 16 * n
  | 0 => List.length_replicate
  | k + 1 => by unfold zW; rw [wlen]; exact zW_len n o k
theorem zW_get (n o j : Nat) (hn : n ≤ 1024) (ho : o + 17 ≤ n) : ∀ k, k ≤ 16 → (zW n o k).getD j 0 = if 16 * o ≤ j ∧ j < 16 * o + k then entW ((o + 1 + (j - 16 * o) : Nat) : Int) true true true else 0
  | 0, _ => by
    rw [if_neg (by omega)]
    show (List.replicate (16 * n) (0 : Int)).getD j 0 = 0
    rw [List.getD_eq_getElem?_getD, List.getElem?_replicate]
    split <;> rfl
  | k + 1, hk => by
    have ih := zW_get n o j hn ho k (by omega)
    unfold zW
    rw [bits_root _ (by omega), show (o : Int) * 16 + (k : Int) = ((16 * o + k : Nat) : Int) by omega]
    unfold writeL
    rw [if_pos (by rw [zW_len]; omega), Int.toNat_natCast, setD_get _ _ _ _ (by rw [zW_len]; omega), ih]
    by_cases h1 : j = 16 * o + k
    · rw [if_pos h1, if_pos (by omega), show o + 1 + (j - 16 * o) = o + (k + 1) by omega]
    · rw [if_neg h1]
      by_cases h2 : 16 * o ≤ j ∧ j < 16 * o + k
      · rw [if_pos h2, if_pos (by omega)]
      · rw [if_neg h2, if_neg (by omega)]
theorem zW_tM (n o : Nat) (hn : n ≤ 1024) (ho : o + 17 ≤ n) : zW n o 16 = tM (List.replicate (16 * n) 0) o 17 := by
  have hl2 : (tM (List.replicate (16 * n) (0 : Int)) o 17).length = 16 * n := by rw [tM_len _ o 17 (by omega) (by omega)]; exact List.length_replicate
  apply List.ext_getElem
  · rw [zW_len, hl2]
  · intro i h1 h2
    have e1 := zW_get n o i hn ho 16 (by omega)
    have e2 := tM_get (List.replicate (16 * n) 0) n o i List.length_replicate hn 17 (by omega) ho
    rw [List.getD_eq_getElem?_getD, List.getElem?_eq_getElem h1, Option.getD_some] at e1
    rw [List.getD_eq_getElem?_getD, List.getElem?_eq_getElem h2, Option.getD_some] at e2
    rw [e1, e2]
    by_cases h : 16 * o ≤ i ∧ i < 16 * o + 16
    · rw [if_pos h, if_pos (by omega)]
    · rw [if_neg h, if_neg (by omega)]
      split
      · rfl
      · rw [List.getD_eq_getElem?_getD, List.getElem?_replicate]
        split <;> rfl
theorem frU_no (n o k : Nat) (who : Int) (hw : frOwns who) : ∀ x ∈ frU n o k who, x.owner = -1 → x = frNo := fun x hx he => by
  unfold frU at hx
  obtain ⟨i, hi, rfl⟩ := List.mem_map.1 hx
  have hne := frOwns_ne hw
  revert he
  split
  · intro he; exact absurd (show (3 : Int) = -1 from he) (by decide)
  · split
    · intro he; exact absurd he hne
    · intro _; rfl

def Z1To (n o mb fb fg : Nat) (mv : Value) (who : Int) (w : World) (i : Value) (wr : World) : Prop :=
  ∃ (k : Nat) (gv : Value), k ≤ 17 ∧ i = .int .i64 (k : Int) ∧ ZAt wr ⟨w.heap.size, mb, fb, fg, mv, gv⟩ n (List.replicate (16 * n) 0) (frU n o k who) (rngF o k) who ∧ Only (nz mv fg) w wr ∧ (∀ j, inRow gv j → w.heap.size ≤ j)
def Z3To (n o mb fb fg : Nat) (mv gv : Value) (who : Int) (w : World) (i : Value) (wr : World) : Prop :=
  ∃ k : Nat, k ≤ 17 ∧ i = .int .i64 (k : Int) ∧ ZAt wr ⟨w.heap.size, mb, fb, fg, mv, gv⟩ n (List.replicate (16 * n) 0) (frM n o k who) (rngF o 17) who ∧ Only (nz mv fg) w wr
def Z4To (n o mb fb fg : Nat) (mv gv : Value) (who : Int) (w : World) (i : Value) (wr : World) : Prop :=
  ∃ k : Nat, k ≤ 16 ∧ i = .int .i64 (k : Int) ∧ ZAt wr ⟨w.heap.size, mb, fb, fg, mv, gv⟩ n (zW n o k) (frM n o 17 who) (rngF o 17) who ∧ Only (nz mv fg) w wr
theorem zt_done {wr : World} {z : Zl} {n o k : Nat} {who : Int} (hk : k = 16) (h : ZAt wr z n (zW n o k) (frM n o 17 who) (rngF o 17) who) (hn : n ≤ 1024) (ho : o + 17 ≤ n) : ZtAt wr z (tNew n o who) := by
  have e : zW n o k = tM (List.replicate (16 * n) 0) o 17 := by rw [hk]; exact zW_tM n o hn ho
  rw [e] at h
  unfold ZtAt tNew
  dsimp only
  exact h
/-- what NewTables answers where there is room -/
def ZNewQ (n o mb fb fg : Nat) (mv : Value) (who : Int) (w : World) (y : Ending) (w' : World) : Prop := ∃ gv, y = .returned (.tuple #[.pointer (some ⟨w.heap.size, 0, none⟩), .int .i64 0]) ∧ ZtAt w' ⟨w.heap.size, mb, fb, fg, mv, gv⟩ (tNew n o who) ∧ Only (nz mv fg) w w' ∧ (∀ j, inRow gv j → w.heap.size ≤ j)

set_option maxRecDepth 100000 in
set_option maxHeartbeats 32000000 in
theorem znew_ok (n o mb fb fg : Nat) (mv : Value) (who : Int) (w : World) (hm : MAr w mb mv n (List.replicate (16 * n) 0)) (hf : FrAt 152 153 w fb fg n (frU n o 0 who)) (hap : (∀ k, inRow mv k → k ≠ fb ∧ k ≠ fg) ∧ fg ≠ mb) (hw : frOwns who) (hn : o + 17 ≤ n) (hn2 : n ≤ 1024) :
    Calls Tryd.prog 39 #[.pointer (some ⟨mb, 0, none⟩), .pointer (some ⟨fb, 0, none⟩), .int .i64 who] w (ZNewQ n o mb fb fg mv who w) := by
  obtain ⟨i0, hi, hz0, hz1, hz2⟩ := info_parts infoPInt
  obtain ⟨W1, hW1⟩ : ∃ W1, W1 = w.alloc (.cells #[.pointer (some ⟨mb, 0, none⟩), .pointer (some ⟨fb, 0, none⟩), .int .i64 who, .slice none 0 0] 142) := ⟨_, rfl⟩
  have hb1 : Below w.heap.size w W1 := hW1 ▸ (Below.refl _ _).alloc (Nat.le_refl _) _
  have hmb := blk_lt hm.1
  have hfl := hf.lt
  have hap1 : Zl.Apart ⟨w.heap.size, mb, fb, fg, mv, .slice none 0 0⟩ := by
    refine ⟨fun k h0 h1 => ?_, fun k h0 h2 => ?_, fun k h0 h3 => ?_, fun k h1 h2 => (hap.1 k h1).2 h2, fun k h1 h3 => ?_, fun k h2 h3 => ?_⟩
    · have h1' : inRow mv k := h1
      rcases h0 with h0 | h0
      · rw [show k = mb from h0] at h1'
        exact own_not hm.2.1 hm.1 (by decide) h1'
      · exact (hap.1 k h1').1 h0
    · have h2' : k = fg := h2
      rcases h0 with h0 | h0
      · exact hap.2 (h2'.symm.trans h0)
      · exact hf.2.2.1 ((show k = fb from h0) ▸ h2')
    · rcases h3 with h3 | h3
      · have h3' : k = w.heap.size := h3
        rcases h0 with h0 | h0
        · rw [show k = mb from h0] at h3'
          omega
        · rw [show k = fb from h0] at h3'
          omega
      · cases h3
    · rcases h3 with h3 | h3
      · have := own_lt hm.2.1 (show inRow mv k from h1)
        rw [show k = w.heap.size from h3] at this
        omega
      · cases h3
    · rcases h3 with h3 | h3
      · have h4 : k = w.heap.size := h3
        have h5 : k = fg := h2
        omega
      · cases h3
  have HST : Hid (Z1To n o mb fb fg mv who w (.int .i64 0) W1) := Lib.hid ⟨0, _, Nat.zero_le _, rfl, ⟨by rw [hW1]; exact blk_new w _, ⟨blk_below hm.1 hb1 hmb, own_only hm.2.1 (Only.of_below (F := fun _ => False) hb1) (fun _ _ h => h), hm.2.2⟩, hf.below hb1, own_nil _ _ _, hap1⟩, Only.of_below hb1, fun j h => by cases h⟩
  have HW1 := Lib.hid hW1
  clear hm hf hap hap1 hW1 hb1 hmb hfl
  go_enter Tryd.func39, Tryd.ntmps39
  go_wp2_with fail
  rw [← HW1.out]
  go_loopw [9] (fun i wr => Z1To n o mb fb fg mv who w i wr) (fun i _ => 17 - (intOf i).toNat)
  case atStart => exact HST.out
  case round =>
    obtain ⟨k, lv, hk, rfl, hN, ho, hlv⟩ := hrel
    have HN := Lib.hid hN
    have HO := Lib.hid ho
    have HLV := Lib.hid hlv
    clear HST
    by_cases hlt : k < 17
    · have hki : (k : Int) < 17 := by omega
      have ha := ralloc_any (frU n o k who) fb fg n who wr (frU_no n o k who hw) hN.fr
      rw [frU_alloc n o k who hw (by omega)] at ha
      obtain ⟨x, hx⟩ : ∃ x : Int, ((o + k : Nat) : Int) = x := ⟨_, rfl⟩
      rw [hx] at ha
      have HA := Lib.hid ha
      have HXE := Lib.hid hx
      clear ha hN ho hlv hx
      go_wp2_with fail
      refine HA.out.mono ?_
      rintro y w2 ⟨rfl, hf2, ho2⟩
      have HN2 := Lib.hid (HN.out.fr' ho2 hf2)
      have HO2 := Lib.hid (HO.out.trans (ho2.mono fun _ h => .inl (.inr h)))
      obtain ⟨-, -, -, c4, f4, ltb⟩ := HN2.out.cells
      have htl := HN2.out.gl
      rw [rngF_len] at htl
      obtain ⟨ao, cap, hlve⟩ := own_slice htl
      dsimp only at hlve c4
      subst hlve
      have HTL := Lib.hid htl
      have HNT : Hid (¬ inRow (.slice ao k cap) w.heap.size) := Lib.hid fun h => own_not htl HN2.out.row (by decide) h
      clear hf2 ho2 htl
      dsimp only
      go_wp2_with (at_builtin; refine wpList_append_sep _ rfl _ _ 35 rfl 3 i0 (.int .i64 0) 1 8 Tryd.underlying35 hi hz0 hz1 hz2 rfl (by decide) _ _ _ rfl (HTL.out.alloc _) ⟨w2.heap.size, 0, none⟩ 1 1 [.int .i64 x] rfl rfl (cell_one_new _ _ _) (by simp [Value.oneCell']) (by unfold maxLen; omega) (by omega) ?_)
      intro v' wx ho3 hg3 hs3
      obtain ⟨ao2, cap2, rfl⟩ := own_slice ho3
      have hbx := blk_grown (blk_old HN2.out.row (.cells #[.int .i64 x] 3)) hg3 HNT.out
      have cx := blk_cell hbx 3
      have fx := blk_free hbx 3
      have HON : Hid (Only (fun j => j = w.heap.size ∨ inRow (.slice ao k cap) j) w2 (wx.setCell ⟨w.heap.size, 3, none⟩ (.slice ao2 (k + 1) cap2))) := Lib.hid
        (Only.setCell (F := fun j => j = w.heap.size ∨ inRow (.slice ao k cap) j) ((Only.alloc _ w2 (.cells #[.int .i64 x] 3)).grown hg3 (fun j hj => .inl (.inr hj))) (p := ⟨w.heap.size, 3, none⟩) (.inl (.inl rfl)) _)
      have hs4 : ∀ j, inRow (.slice ao2 (k + 1) cap2) j → inRow (.slice ao k cap) j ∨ w2.heap.size ≤ j := fun j hj => by
        rcases hs3 j hj with h | h
        · exact .inl h
        · have h' := h
          try simp only [World.size_alloc] at h'
          exact .inr (by omega)
      have HN3 : Hid (ZAt (wx.setCell ⟨w.heap.size, 3, none⟩ (.slice ao2 (k + 1) cap2)) ⟨w.heap.size, mb, fb, fg, mv, .slice ao2 (k + 1) cap2⟩ n (List.replicate (16 * n) 0) (frU n o (k + 1) who) (rngF o (k + 1)) who) := Lib.hid (HN2.out.list' HON.out (by have := blk_put hbx 3 (.slice ao2 (k + 1) cap2); exact this) (by
        have e1 : ints (rngF o k) ++ [Value.int .i64 x] = ints (rngF o (k + 1)) := by rw [rngF_succ, HXE.out]; simp [ints]
        rw [e1] at ho3
        rw [rngF_len]
        exact own_set ho3 hbx (by decide) 3 _) hs4)
      have HO3 : Hid (Only (nz mv fg) w (wx.setCell ⟨w.heap.size, 3, none⟩ (.slice ao2 (k + 1) cap2))) := Lib.hid (HO2.out.trans' HON.out fun j hj => by
        rcases hj with hj | hj
        · exact .inr (by omega)
        · exact .inr (HLV.out j hj))
      have HLV3 : Hid (∀ j, inRow (.slice ao2 (k + 1) cap2) j → w.heap.size ≤ j) := Lib.hid fun j hj => by
        rcases hs4 j hj with h | h
        · exact HLV.out j h
        · have := HO2.out.size; omega
      clear ho3 hg3 hs3 hbx c4 f4 hs4
      go_wp2_with fail
      go_roundw
      case rel => exact ⟨k + 1, _, by omega, by go_num, HN3.out, HO3.out, HLV3.out⟩
      case measure => simp [intOf]; omega
    · have hk17 : k = 17 := by omega
      have hkn : ¬ (k : Int) < 17 := by omega
      have hN17 : ZAt wr ⟨w.heap.size, mb, fb, fg, mv, lv⟩ n (List.replicate (16 * n) 0) (frM n o 0 who) (rngF o 17) who := by
        rw [frM_zero, ← hk17]
        exact hN
      have hsh := own_shape hN17.gl
      rw [rngF_len] at hsh
      rcases hsh with ⟨-, hz, -⟩ | ⟨g, cap, hlve, -⟩
      · omega
      dsimp only at hlve
      subst hlve
      have HST3 : Hid (Z3To n o mb fb fg mv (.slice (some ⟨g, 0, none⟩) 17 cap) who w (.int .i64 0) wr) := Lib.hid ⟨0, Nat.zero_le _, rfl, hN17, ho⟩
      have HLV2 := Lib.hid hlv
      have HCL : Hid (∀ wx : World, wx.ownsRow 0 3 1 (.slice (some ⟨g, 0, none⟩) 17 cap) (rngF o 17).length (ints (rngF o 17)) → ∀ q, q < 17 → wx.cell? ⟨g, q, none⟩ = some (.int .i64 ((o + q : Nat) : Int)) ∧ g < wx.heap.size) := Lib.hid fun wx ht q hq => by
        rw [rngF_len] at ht
        exact ⟨by rw [own_cell ht q (by omega), ints_get' _ q (by rw [rngF_len]; exact hq), rngF_get o 17 q hq], own_lt ht (show inRow _ g from rfl)⟩
      clear hN hN17 ho hlv HN HO HLV hk17 hlt hk
      go_wp2_with fail
      go_loopw [13] (fun i wr => Z3To n o mb fb fg mv (.slice (some ⟨g, 0, none⟩) 17 cap) who w i wr) (fun i _ => 17 - (intOf i).toNat)
      case atStart => exact HST3.out
      case round =>
        obtain ⟨k, hk, rfl, hN, ho⟩ := hrel
        clear HST3
        by_cases hlt : k < 17
        · have hki : (k : Int) < 17 := by omega
          obtain ⟨x, hx⟩ : ∃ x : Int, ((o + k : Nat) : Int) = x := ⟨_, rfl⟩
          obtain ⟨q1, g1⟩ := HCL.out wr hN.gl k hlt
          rw [hx] at q1
          obtain ⟨-, -, -, c4, -, ltb⟩ := hN.cells
          have HFL : Hid (∀ wx, MAr wx mb mv n (List.replicate (16 * n) 0) → Calls Tryd.prog 79 #[.pointer (some ⟨mb, 0, none⟩), .int .i64 x, .slice none 0 0] wx fun e w' => e = .returned (.bool true) ∧ MAr w' mb mv n (List.replicate (16 * n) 0) ∧ Only (fun k => inRow mv k) wx w') := Lib.hid fun wx h => by
            have := mr_fill_ok (List.replicate (16 * n) 0) [] mb n (o + k) 0 0 none mv wx h hn2 (by omega) (atL_nil _ _) rfl (by decide) (fun a h => by omega)
            rw [fill_zero n (o + k) (by omega), hx] at this
            exact this
          obtain ⟨kd, hkd⟩ : ∃ kd : Int, (if k = 0 then 1 else 2) = kd := ⟨_, rfl⟩
          have HMK : Hid (∀ wx, FrAt 152 153 wx fb fg n (frM n o k who) → Calls Tryd.prog 80 #[.pointer (some ⟨fb, 0, none⟩), .int .i64 x, .int .i64 who, .int .i64 kd] wx (FrN 152 153 fb fg n ⟨((frM n o k who).set (o + k) ⟨who, kd, 0, 0⟩), 0, 0⟩ wx)) := Lib.hid fun wx h => by
            have := rmake_any (frM n o k who) fb fg n ((o + k : Nat) : Int) who kd wx h
            unfold frMake at this
            rw [if_pos (by rw [← hkd]; split <;> simp), ← hkd, frM_make n o k who hw hn hlt, hx, hkd] at this
            exact this
          have HUS : Hid (∀ wx, FrAt 152 153 wx fb fg n ((frM n o k who).set (o + k) ⟨who, kd, 0, 0⟩) → Calls Tryd.prog 81 #[.pointer (some ⟨fb, 0, none⟩), .int .i64 x] wx (FrN 152 153 fb fg n ⟨frM n o (k + 1) who, 0, 0⟩ wx)) := Lib.hid fun wx h => by
            have := ruse_any ((frM n o k who).set (o + k) ⟨who, kd, 0, 0⟩) fb fg n ((o + k : Nat) : Int) wx (fr_bounds1 n o k who kd (by omega)) h
            have e := frM_use n o k who hw hn hlt
            rw [hkd] at e
            rw [e, hx] at this
            exact this
          have HN := Lib.hid hN
          have HO := Lib.hid ho
          have HKD := Lib.hid hkd
          clear hN ho hx hkd
          by_cases hk0 : k = 0
          · obtain rfl : kd = 1 := by rw [← HKD.out, if_pos hk0]
            have hk0b : ((k : Int) == 0) = true := by simp [hk0]
            have HK0 := Lib.hid hk0
            clear hk0
            go_wp2_with fail
            refine (HFL.out _ HN.out.mem).mono ?_
            rintro y w2 ⟨rfl, hm2, ho2⟩
            have HN2 := Lib.hid (HN.out.mem' ho2 hm2)
            have HO2 := Lib.hid (HO.out.trans (ho2.mono fun _ h => .inl (.inl h)))
            clear hm2 ho2 q1 g1 c4 ltb
            go_wp2_with fail
            refine (HMK.out _ HN2.out.fr).mono ?_
            rintro y w3 ⟨rfl, hf3, ho3⟩
            have HN3 := Lib.hid (HN2.out.fr' ho3 hf3)
            have HO3 := Lib.hid (HO2.out.trans (ho3.mono fun _ h => .inl (.inr h)))
            clear hf3 ho3
            go_wp2_with fail
            refine (HUS.out _ HN3.out.fr).mono ?_
            rintro y w4 ⟨rfl, hf4, ho4⟩
            have HN4 := Lib.hid (HN3.out.fr' ho4 hf4)
            have HO4 := Lib.hid (HO3.out.trans (ho4.mono fun _ h => .inl (.inr h)))
            clear hf4 ho4
            go_wp2_with fail
            go_roundw
            case rel => exact ⟨k + 1, by omega, by go_num, HN4.out, HO4.out⟩
            case measure => simp [intOf]; omega
          · obtain rfl : kd = 2 := by rw [← HKD.out, if_neg hk0]
            have hk0b : ((k : Int) == 0) = false := by simp; omega
            have HK0 := Lib.hid hk0
            clear hk0
            go_wp2_with fail
            refine (HFL.out _ HN.out.mem).mono ?_
            rintro y w2 ⟨rfl, hm2, ho2⟩
            have HN2 := Lib.hid (HN.out.mem' ho2 hm2)
            have HO2 := Lib.hid (HO.out.trans (ho2.mono fun _ h => .inl (.inl h)))
            clear hm2 ho2 q1 g1 c4 ltb
            go_wp2_with fail
            refine (HMK.out _ HN2.out.fr).mono ?_
            rintro y w3 ⟨rfl, hf3, ho3⟩
            have HN3 := Lib.hid (HN2.out.fr' ho3 hf3)
            have HO3 := Lib.hid (HO2.out.trans (ho3.mono fun _ h => .inl (.inr h)))
            clear hf3 ho3
            go_wp2_with fail
            refine (HUS.out _ HN3.out.fr).mono ?_
            rintro y w4 ⟨rfl, hf4, ho4⟩
            have HN4 := Lib.hid (HN3.out.fr' ho4 hf4)
            have HO4 := Lib.hid (HO3.out.trans (ho4.mono fun _ h => .inl (.inr h)))
            clear hf4 ho4
            go_wp2_with fail
            go_roundw
            case rel => exact ⟨k + 1, by omega, by go_num, HN4.out, HO4.out⟩
            case measure => simp [intOf]; omega
        · have hkn3 : ¬ (k : Int) < 17 := by omega
          have hk17 : k = 17 := by omega
          subst hk17
          have HST4 : Hid (Z4To n o mb fb fg mv (.slice (some ⟨g, 0, none⟩) 17 cap) who w (.int .i64 0) wr) := Lib.hid ⟨0, Nat.zero_le _, rfl, hN, ho⟩
          clear hN ho hk hlt
          go_wp2_with fail
          go_loopw [16] (fun i wr => Z4To n o mb fb fg mv (.slice (some ⟨g, 0, none⟩) 17 cap) who w i wr) (fun i _ => 16 - (intOf i).toNat)
          case atStart => exact HST4.out
          case round =>
            obtain ⟨k, hk, rfl, hN, ho⟩ := hrel
            clear HST4
            by_cases hlt : k < 16
            · have hki : (k : Int) < 16 := by omega
              have hk0i : (0 : Int) ≤ (k : Int) := by omega
              obtain ⟨q0, g0⟩ := HCL.out wr hN.gl 0 (by omega)
              obtain ⟨q1, -⟩ := HCL.out wr hN.gl (k + 1) (by omega)
              rw [Nat.add_zero] at q0
              obtain ⟨x, hx⟩ : ∃ x : Int, ((o + (k + 1) : Nat) : Int) = x := ⟨_, rfl⟩
              rw [hx] at q1
              obtain ⟨oi, hoi⟩ : ∃ oi : Int, ((o : Nat) : Int) = oi := ⟨_, rfl⟩
              have hoir : 0 ≤ oi ∧ oi < 1024 := by omega
              rw [hoi] at q0
              have wm := IntWalk.i64_in (oi * 16) (by omega)
              have wmk := IntWalk.i64_in (oi * 16 + (k : Int)) (by omega)
              have wk1 := IntWalk.i64_in ((k : Int) + 1) (by omega)
              have hk17 : (k : Int) + 1 < 17 := by omega
              have hk1n : ((k : Int) + 1).toNat = k + 1 := by omega
              have hk10 : (0 : Int) ≤ (k : Int) + 1 := by omega
              obtain ⟨-, -, -, c4, -, ltb⟩ := hN.cells
              dsimp only at c4
              have HN := Lib.hid hN
              have HO := Lib.hid ho
              have HDW : Hid (Below wr.heap.size wr wr.drew) := Lib.hid (Below.refl _ _).drew
              have HBI := Lib.hid (fun wx => zbits_any x true wx)
              have HWM : Hid (writeL (zW n o k) (oi * 16 + (k : Int)) (bitsA ⟨x, true, true, true⟩).1 = zW n o (k + 1)) := Lib.hid (by rw [← hx, ← hoi]; rfl)
              have HWR := Lib.hid (fun wx (hx : Below wr.heap.size wr wx) => mr_write (zW n o k) mb n mv (oi * 16 + (k : Int)) (bitsA ⟨x, true, true, true⟩).1 wx (hN.below hx).mem)
              clear hN ho hx hoi
              go_wp2_with fail
              go_region_with (first | (go_at_call 83; refine (HBI.out _).mono ?_; rintro e w3 ⟨rfl, hb3⟩; have HBW : Hid (Below wr.heap.size wr w3) := Lib.hid (by first | exact hb3 | exact HDW.out.trans (hb3.mono HDW.out.size)); have c4w := cell_under c4 HBW.out; have q0w := cell_under q0 HBW.out; have q1w := cell_under q1 HBW.out; have ltw : w.heap.size < w3.heap.size := Nat.lt_of_lt_of_le ltb HBW.out.size; have g0w : g < w3.heap.size := Nat.lt_of_lt_of_le g0 HBW.out.size) | (go_at_call 82; refine (HWR.out _ (by first | exact HBW.out | exact HBW.out.drew)).mono ?_; rintro e w4 ⟨rfl, hm4, ho4⟩))
              all_goals
                rw [HWM.out] at hm4
                have HN4 : Hid (ZAt w4 ⟨w.heap.size, mb, fb, fg, mv, .slice (some ⟨g, 0, none⟩) 17 cap⟩ n (zW n o (k + 1)) (frM n o 17 who) (rngF o 17) who) := Lib.hid (by first | exact (HN.out.below HBW.out).mem' ho4 hm4 | exact (HN.out.below HBW.out.drew).mem' ho4 hm4)
                have HO4 : Hid (Only (nz mv fg) w w4) := Lib.hid (by first | exact (HO.out.below' HBW.out).trans (ho4.mono fun _ h => .inl (.inl h)) | exact (HO.out.below' HBW.out.drew).trans (ho4.mono fun _ h => .inl (.inl h)))
                clear hb3 hm4 ho4 q0 q1 g0 c4 ltb c4w q0w q1w ltw g0w
                go_wp2_with fail
                go_roundw
                case rel => exact ⟨k + 1, by omega, by go_num, HN4.out, HO4.out⟩
                case measure => simp [intOf]; omega
            · have hk16 : k = 16 := by omega
              have hkn4 : ¬ (k : Int) < 16 := by omega
              have HZ := Lib.hid (zt_done hk16 hN hn2 hn)
              have HO := Lib.hid ho
              clear hN ho hk16
              go_wp2
              go_ret2
              exact ⟨_, rfl, HZ.out, HO.out, HLV2.out⟩
end Go.Proofs.YtnhocmmgdkiepaaDoor

/-
  The document's tables: set.
-/
namespace Go.Proofs.YtnhocmmgdkiepaaDoor
open Go.RowKit

theorem tSetR_range {m : Int} {s : Ts} (hi : TInv m s) (frame : Int) (w : Bool) (hc : (tSetR s frame w).c = 0) : 0 ≤ frame ∧ frame < 1024 := by
  unfold tSetR frThere at hc
  cases hN : frAt s.F frame with
  | none => rw [hN] at hc; exact absurd hc (show ¬ ((107 : Int) = 0) by decide)
  | some n =>
    obtain ⟨h1, h2, -⟩ := frAt_some hN
    have := hi.lf
    have := hi.n1
    omega
theorem bits_true (frame : Int) (w : Bool) (h : 0 ≤ frame ∧ frame < 1024) : (bitsA ⟨frame, true, w, true⟩).2 = true := by
  have hok : entOk frame true w true := ⟨h.1, h.2, fun h => by cases h⟩
  unfold bitsA
  rw [if_pos ((entOkB_iff _ _ _ _).2 hok)]
theorem putE_word {m : Int} {S : Ts} (hi : TInv m S) (j : Nat) (hj : j < 256) (e : Ent) (h : (bitsA e).2 = true) : putE S.M (S.P.getD (1 + j / 16) 0) ((j % 16 : Nat) : Int) e = writeL S.M ((tWord S j : Nat) : Int) (bitsA e).1 := by
  have h1 := hi.pin (1 + j / 16) (by have := hi.p17; omega)
  unfold putE
  rw [if_pos h, tw_sum h1.1 (show tWord S j = 16 * (S.P.getD (1 + j / 16) 0).toNat + j % 16 from rfl)]

set_option maxRecDepth 100000 in
set_option maxHeartbeats 16000000 in
theorem zset_false (z : Zl) (s : Ts) (m : Int) (j : Nat) (frame : Int) (w : World) (h : ZtAt w z s) (hi : TInv m s) (hm : m + 1 ≤ 1000000) (hj : j < 256) :
    Calls Tryd.prog 117 #[.pointer (some ⟨z.zb, 0, none⟩), .int .i64 (j : Int), .int .i64 frame, .bool false] w (ZtQ z (tSet s (j : Int) frame false) w) := by
  have HH := Lib.hid h
  have HU : Hid (Calls Tryd.prog 81 #[.pointer (some ⟨z.fb, 0, none⟩), .int .i64 frame] w (FrN 152 153 z.fb z.fg s.n (tSetR s frame false) w)) := Lib.hid (ruse_any s.F z.fb z.fg s.n frame w (frOk_b hi.fok (by omega)) h.fr)
  have HI1 := Lib.hid (tSetR_inv hi frame false)
  obtain ⟨-, c1, -, -, -, ltb⟩ := ZAt.cells h
  by_cases hc : (tSetR s frame false).c = 0
  · have HR : Hid (tSet s (j : Int) frame false = ({ (tDrop { s with F := (tSetR s frame false).l } (j : Int)).1 with M := putE (tDrop { s with F := (tSetR s frame false).l } (j : Int)).1.M (s.P.getD (1 + (j : Int).toNat / 16) 0) (((j : Int).toNat % 16 : Nat) : Int) ⟨frame, true, false, true⟩ }, 0)) := Lib.hid (by unfold tSet; rw [if_pos hc])
    have hbt := bits_true frame false (tSetR_range hi frame false hc)
    rw [HR.out, Int.toNat_natCast]
    obtain ⟨R, hR⟩ : ∃ R, tSetR s frame false = R := ⟨_, rfl⟩
    rw [hR] at HU HI1 hc ⊢
    obtain ⟨Rl, Rn, Rc⟩ := R
    dsimp only at hc HI1 ⊢
    subst hc
    have hDP := (tDrop_P { s with F := Rl } (j : Int)).1
    have hI2 := tDrop_inv HI1.out (j : Int)
    obtain ⟨⟨S2, x2⟩, hS2⟩ : ∃ r, tDrop { s with F := Rl } (j : Int) = r := ⟨_, rfl⟩
    have HTD : Hid (∀ wx, ZtAt wx z { s with F := Rl } → Calls Tryd.prog 116 #[.pointer (some ⟨z.zb, 0, none⟩), .int .i64 (j : Int)] wx (ZtQ z (S2, x2) wx)) := Lib.hid fun wx hx => hS2 ▸ zdrop_any z { s with F := Rl } (m + 1) (j : Int) wx hx HI1.out hm
    rw [hS2] at hDP hI2 ⊢
    dsimp only at hDP hI2 ⊢
    have HPE : Hid (putE S2.M (s.P.getD (1 + j / 16) 0) ((j % 16 : Nat) : Int) ⟨frame, true, false, true⟩ = writeL S2.M ((tWord S2 j : Nat) : Int) (bitsA ⟨frame, true, false, true⟩).1) := Lib.hid (by rw [← hDP]; exact putE_word hI2 j hj _ hbt)
    have HWD := Lib.hid (fun wx (hx : ZtAt wx z S2) => zword_any z S2 _ j wx hx hI2 hj)
    have HBI := Lib.hid (fun wx => zbits_any frame false wx)
    rw [HPE.out]
    obtain ⟨tw, htw⟩ : ∃ t, ((tWord S2 j : Nat) : Int) = t := ⟨_, rfl⟩
    obtain ⟨bv, hbv⟩ : ∃ t, (bitsA ⟨frame, true, false, true⟩).1 = t := ⟨_, rfl⟩
    rw [htw] at HWD ⊢
    rw [hbv] at HBI ⊢
    clear h hi HR hR hS2 hj hDP hI2 HPE htw hbv hbt hm
    go_enter Tryd.func117, Tryd.ntmps117
    go_wp2_with fail
    refine HU.out.mono ?_
    rintro y w3 ⟨rfl, hf3, ho3⟩
    have HO3 := Lib.hid (ztw_f ho3)
    have HH3 : Hid (ZtAt w3 z { s with F := Rl }) := Lib.hid (ZAt.fr' HH.out ho3 hf3)
    clear hf3 ho3 c1 ltb
    go_wp2_with fail
    refine (HTD.out _ HH3.out).mono ?_
    rintro y w4 ⟨rfl, hp4, ho4⟩
    have HH4 : Hid (ZtAt w4 z S2) := Lib.hid hp4
    have HO4 := Lib.hid (HO3.out.trans ho4)
    obtain ⟨c0, -, -, -, -, ltb⟩ := ZAt.cells HH4.out
    clear hp4 ho4
    have HWX : Hid (∀ wx, Below w4.heap.size w4 wx → Calls Tryd.prog 119 #[.pointer (some ⟨z.zb, 0, none⟩), .int .i64 (j : Int)] wx fun y w' => y = .returned (.int .i64 tw) ∧ wx = w') := Lib.hid fun wx hx => HWD.out wx (ZAt.below HH4.out hx)
    have HWR : Hid (∀ wx, Below w4.heap.size w4 wx → Calls Tryd.prog 82 #[.pointer (some ⟨z.mb, 0, none⟩), .int .i64 tw, .int .u32 bv] wx fun e w' => e = .returned (.bool (decide (0 ≤ tw) && decide (tw < S2.M.length))) ∧ MAr w' z.mb z.mv S2.n (writeL S2.M tw bv) ∧ Only (fun k => inRow z.mv k) wx w') := Lib.hid fun wx hx => mr_write S2.M z.mb S2.n z.mv tw bv wx (ZAt.below HH4.out hx).mem
    have HD4 : Hid (Below w4.heap.size w4 w4.drew) := Lib.hid (Below.refl _ _).drew
    go_upto_region 8 with fail
    go_cut [] from 29 to 39 (fun wx => Hid (ZtAt wx z { S2 with M := writeL S2.M tw bv }) ∧ Hid (Only z.zw w wx))
    case first =>
      go_region_with (first | (go_at_call 119; refine (HWX.out _ (by first | exact HD4.out | exact Below.refl _ _ | exact HB5.out | exact HB5.out.drew)).mono ?_; rintro e wz ⟨rfl, rfl⟩) | (go_at_call 83; refine (HBI.out _).mono ?_; rintro e w5 ⟨rfl, hb5⟩; have HB5 : Hid (Below w4.heap.size w4 w5) := Lib.hid (by first | exact hb5 | exact HD4.out.trans (hb5.mono HD4.out.size)); have c0w := cell_under c0 HB5.out; have ltw : z.zb < w5.heap.size := Nat.lt_of_lt_of_le ltb HB5.out.size) | (go_at_call 82; refine (HWR.out _ (by first | exact HB5.out | exact HB5.out.drew)).mono ?_; rintro e w6 ⟨rfl, hm6, ho6⟩))
      all_goals
        have HH6 : Hid (ZtAt w6 z { S2 with M := writeL S2.M tw bv }) := Lib.hid (by first | exact (ZAt.below HH4.out HB5.out).mem' ho6 hm6 | exact (ZAt.below HH4.out HB5.out.drew).mem' ho6 hm6)
        have HO6 : Hid (Only z.zw w w6) := Lib.hid (by first | exact HO4.out.trans ((Only.of_below HB5.out).trans (ztw_m ho6)) | exact HO4.out.trans ((Only.of_below HB5.out.drew).trans (ztw_m ho6)))
        clear hm6 ho6
        go_wp2_with fail
        go_meet
        exact ⟨HH6, HO6⟩
    case rest =>
      obtain ⟨HH6, HO6⟩ := hcut
      go_wp2
      go_ret
      exact ⟨rfl, HH6.out, HO6.out⟩
  · have HR : Hid (tSet s (j : Int) frame false = (s, (tSetR s frame false).c)) := Lib.hid (by unfold tSet; rw [if_neg hc])
    have HS := Lib.hid (tSetR_same s frame false hc)
    rw [HR.out]
    obtain ⟨R, hR⟩ : ∃ R, tSetR s frame false = R := ⟨_, rfl⟩
    rw [hR] at HU HS hc ⊢
    obtain ⟨Rl, Rn, Rc⟩ := R
    dsimp only at hc HS ⊢
    have hcb : (Rc != 0) = true := by simp; exact hc
    clear h hi HR hR HI1 hj hm hc
    go_enter Tryd.func117, Tryd.ntmps117
    go_wp2_with fail
    refine HU.out.mono ?_
    rintro y w3 ⟨rfl, hf3, ho3⟩
    have HO3 := Lib.hid (ztw_f ho3)
    have HH3 : Hid (ZtAt w3 z s) := Lib.hid (ZAt.fr' HH.out ho3 (HS.out ▸ hf3))
    clear hf3 ho3 c1 ltb
    go_wp2
    go_ret
    exact ⟨rfl, HH3.out, HO3.out⟩

set_option maxRecDepth 100000 in
set_option maxHeartbeats 16000000 in
theorem zset_true (z : Zl) (s : Ts) (m : Int) (j : Nat) (frame : Int) (w : World) (h : ZtAt w z s) (hi : TInv m s) (hm : m + 1 ≤ 1000000) (hj : j < 256) :
    Calls Tryd.prog 117 #[.pointer (some ⟨z.zb, 0, none⟩), .int .i64 (j : Int), .int .i64 frame, .bool true] w (ZtQ z (tSet s (j : Int) frame true) w) := by
  have HH := Lib.hid h
  have HU : Hid (Calls Tryd.prog 135 #[.pointer (some ⟨z.fb, 0, none⟩), .int .i64 frame] w (FrN 152 153 z.fb z.fg s.n (tSetR s frame true) w)) := Lib.hid (rwrite_any s.F z.fb z.fg s.n frame w (frOk_b hi.fok (by omega)) h.fr)
  have HI1 := Lib.hid (tSetR_inv hi frame true)
  obtain ⟨-, c1, -, -, -, ltb⟩ := ZAt.cells h
  by_cases hc : (tSetR s frame true).c = 0
  · have HR : Hid (tSet s (j : Int) frame true = ({ (tDrop { s with F := (tSetR s frame true).l } (j : Int)).1 with M := putE (tDrop { s with F := (tSetR s frame true).l } (j : Int)).1.M (s.P.getD (1 + (j : Int).toNat / 16) 0) (((j : Int).toNat % 16 : Nat) : Int) ⟨frame, true, true, true⟩ }, 0)) := Lib.hid (by unfold tSet; rw [if_pos hc])
    have hbt := bits_true frame true (tSetR_range hi frame true hc)
    rw [HR.out, Int.toNat_natCast]
    obtain ⟨R, hR⟩ : ∃ R, tSetR s frame true = R := ⟨_, rfl⟩
    rw [hR] at HU HI1 hc ⊢
    obtain ⟨Rl, Rn, Rc⟩ := R
    dsimp only at hc HI1 ⊢
    subst hc
    have hDP := (tDrop_P { s with F := Rl } (j : Int)).1
    have hI2 := tDrop_inv HI1.out (j : Int)
    obtain ⟨⟨S2, x2⟩, hS2⟩ : ∃ r, tDrop { s with F := Rl } (j : Int) = r := ⟨_, rfl⟩
    have HTD : Hid (∀ wx, ZtAt wx z { s with F := Rl } → Calls Tryd.prog 116 #[.pointer (some ⟨z.zb, 0, none⟩), .int .i64 (j : Int)] wx (ZtQ z (S2, x2) wx)) := Lib.hid fun wx hx => hS2 ▸ zdrop_any z { s with F := Rl } (m + 1) (j : Int) wx hx HI1.out hm
    rw [hS2] at hDP hI2 ⊢
    dsimp only at hDP hI2 ⊢
    have HPE : Hid (putE S2.M (s.P.getD (1 + j / 16) 0) ((j % 16 : Nat) : Int) ⟨frame, true, true, true⟩ = writeL S2.M ((tWord S2 j : Nat) : Int) (bitsA ⟨frame, true, true, true⟩).1) := Lib.hid (by rw [← hDP]; exact putE_word hI2 j hj _ hbt)
    have HWD := Lib.hid (fun wx (hx : ZtAt wx z S2) => zword_any z S2 _ j wx hx hI2 hj)
    have HBI := Lib.hid (fun wx => zbits_any frame true wx)
    rw [HPE.out]
    obtain ⟨tw, htw⟩ : ∃ t, ((tWord S2 j : Nat) : Int) = t := ⟨_, rfl⟩
    obtain ⟨bv, hbv⟩ : ∃ t, (bitsA ⟨frame, true, true, true⟩).1 = t := ⟨_, rfl⟩
    rw [htw] at HWD ⊢
    rw [hbv] at HBI ⊢
    clear h hi HR hR hS2 hj hDP hI2 HPE htw hbv hbt hm
    go_enter Tryd.func117, Tryd.ntmps117
    go_wp2_with fail
    refine HU.out.mono ?_
    rintro y w3 ⟨rfl, hf3, ho3⟩
    have HO3 := Lib.hid (ztw_f ho3)
    have HH3 : Hid (ZtAt w3 z { s with F := Rl }) := Lib.hid (ZAt.fr' HH.out ho3 hf3)
    clear hf3 ho3 c1 ltb
    go_wp2_with fail
    refine (HTD.out _ HH3.out).mono ?_
    rintro y w4 ⟨rfl, hp4, ho4⟩
    have HH4 : Hid (ZtAt w4 z S2) := Lib.hid hp4
    have HO4 := Lib.hid (HO3.out.trans ho4)
    obtain ⟨c0, -, -, -, -, ltb⟩ := ZAt.cells HH4.out
    clear hp4 ho4
    have HWX : Hid (∀ wx, Below w4.heap.size w4 wx → Calls Tryd.prog 119 #[.pointer (some ⟨z.zb, 0, none⟩), .int .i64 (j : Int)] wx fun y w' => y = .returned (.int .i64 tw) ∧ wx = w') := Lib.hid fun wx hx => HWD.out wx (ZAt.below HH4.out hx)
    have HWR : Hid (∀ wx, Below w4.heap.size w4 wx → Calls Tryd.prog 82 #[.pointer (some ⟨z.mb, 0, none⟩), .int .i64 tw, .int .u32 bv] wx fun e w' => e = .returned (.bool (decide (0 ≤ tw) && decide (tw < S2.M.length))) ∧ MAr w' z.mb z.mv S2.n (writeL S2.M tw bv) ∧ Only (fun k => inRow z.mv k) wx w') := Lib.hid fun wx hx => mr_write S2.M z.mb S2.n z.mv tw bv wx (ZAt.below HH4.out hx).mem
    have HD4 : Hid (Below w4.heap.size w4 w4.drew) := Lib.hid (Below.refl _ _).drew
    go_upto_region 8 with fail
    go_cut [] from 29 to 39 (fun wx => Hid (ZtAt wx z { S2 with M := writeL S2.M tw bv }) ∧ Hid (Only z.zw w wx))
    case first =>
      go_region_with (first | (go_at_call 119; refine (HWX.out _ (by first | exact HD4.out | exact Below.refl _ _ | exact HB5.out | exact HB5.out.drew)).mono ?_; rintro e wz ⟨rfl, rfl⟩) | (go_at_call 83; refine (HBI.out _).mono ?_; rintro e w5 ⟨rfl, hb5⟩; have HB5 : Hid (Below w4.heap.size w4 w5) := Lib.hid (by first | exact hb5 | exact HD4.out.trans (hb5.mono HD4.out.size)); have c0w := cell_under c0 HB5.out; have ltw : z.zb < w5.heap.size := Nat.lt_of_lt_of_le ltb HB5.out.size) | (go_at_call 82; refine (HWR.out _ (by first | exact HB5.out | exact HB5.out.drew)).mono ?_; rintro e w6 ⟨rfl, hm6, ho6⟩))
      all_goals
        have HH6 : Hid (ZtAt w6 z { S2 with M := writeL S2.M tw bv }) := Lib.hid (by first | exact (ZAt.below HH4.out HB5.out).mem' ho6 hm6 | exact (ZAt.below HH4.out HB5.out.drew).mem' ho6 hm6)
        have HO6 : Hid (Only z.zw w w6) := Lib.hid (by first | exact HO4.out.trans ((Only.of_below HB5.out).trans (ztw_m ho6)) | exact HO4.out.trans ((Only.of_below HB5.out.drew).trans (ztw_m ho6)))
        clear hm6 ho6
        go_wp2_with fail
        go_meet
        exact ⟨HH6, HO6⟩
    case rest =>
      obtain ⟨HH6, HO6⟩ := hcut
      go_wp2
      go_ret
      exact ⟨rfl, HH6.out, HO6.out⟩
  · have HR : Hid (tSet s (j : Int) frame true = (s, (tSetR s frame true).c)) := Lib.hid (by unfold tSet; rw [if_neg hc])
    have HS := Lib.hid (tSetR_same s frame true hc)
    rw [HR.out]
    obtain ⟨R, hR⟩ : ∃ R, tSetR s frame true = R := ⟨_, rfl⟩
    rw [hR] at HU HS hc ⊢
    obtain ⟨Rl, Rn, Rc⟩ := R
    dsimp only at hc HS ⊢
    have hcb : (Rc != 0) = true := by simp; exact hc
    clear h hi HR hR HI1 hj hm hc
    go_enter Tryd.func117, Tryd.ntmps117
    go_wp2_with fail
    refine HU.out.mono ?_
    rintro y w3 ⟨rfl, hf3, ho3⟩
    have HO3 := Lib.hid (ztw_f ho3)
    have HH3 : Hid (ZtAt w3 z s) := Lib.hid (ZAt.fr' HH.out ho3 (HS.out ▸ hf3))
    clear hf3 ho3 c1 ltb
    go_wp2
    go_ret
    exact ⟨rfl, HH3.out, HO3.out⟩
theorem zset_any (z : Zl) (s : Ts) (m : Int) (page frame : Int) (wr : Bool) (w : World) (h : ZtAt w z s) (hi : TInv m s) (hm : m + 1 ≤ 1000000) (hp : isPage page = true) :
    Calls Tryd.prog 117 #[.pointer (some ⟨z.zb, 0, none⟩), .int .i64 page, .int .i64 frame, .bool wr] w (ZtQ z (tSet s page frame wr) w) := by
  obtain ⟨j, rfl, h1, -, -⟩ := page_nat hp
  cases wr
  · exact zset_false z s m j frame w h hi hm h1
  · exact zset_true z s m j frame w h hi hm h1
end Go.Proofs.YtnhocmmgdkiepaaDoor

/-
  The document's tables: Put.
-/
namespace Go.Proofs.YtnhocmmgdkiepaaDoor
open Go.RowKit

theorem page_ways {page : Int} (hp : isPage page = true) : ¬ page < 0 ∧ ¬ 256 ≤ page := by
  have hpg : 0 ≤ page ∧ page < 256 := by simpa [isPage] using hp
  omega

set_option maxRecDepth 100000 in
set_option maxHeartbeats 6400000 in
theorem zput_nopage (z : Zl) (s : Ts) (page ef : Int) (et ew eu : Bool) (w : World) (h : ZtAt w z s) (hp : isPage page = false) :
    Calls Tryd.prog 84 #[.pointer (some ⟨z.zb, 0, none⟩), .int .i64 page, .agg #[.int .i64 ef, .bool et, .bool ew, .bool eu]] w (ZtQ z (tPut s page ⟨ef, et, ew, eu⟩) w) := by
  have hb0 : Below w.heap.size w (w.alloc (.cells #[.int .i64 ef, .bool et, .bool ew, .bool eu] 42)) := (Below.refl _ _).alloc (Nat.le_refl _) _
  have HR : Hid (tPut s page ⟨ef, et, ew, eu⟩ = (s, 103)) := Lib.hid (by unfold tPut; rw [if_neg (by rw [hp]; decide)])
  rw [HR.out]
  have HH := Lib.hid (ZAt.below h hb0)
  have HO := Lib.hid (Only.of_below (F := z.zw) hb0)
  have hc := noPage_ways hp
  clear h hp HR hb0
  rcases hc with h0 | ⟨h0, h1⟩
  all_goals
    go_enter Tryd.func84, Tryd.ntmps84
    go_wp2
    go_ret
    exact ⟨rfl, HH.out, HO.out⟩

set_option maxRecDepth 100000 in
set_option maxHeartbeats 6400000 in
theorem zput_drop (z : Zl) (s : Ts) (m : Int) (page : Int) (w : World) (h : ZtAt w z s) (hi : TInv m s) (hm : m ≤ 1000000) (hp : isPage page = true) :
    Calls Tryd.prog 84 #[.pointer (some ⟨z.zb, 0, none⟩), .int .i64 page, .agg #[.int .i64 0, .bool false, .bool false, .bool false]] w (ZtQ z (tPut s page ⟨0, false, false, false⟩) w) := by
  have hb0 : Below w.heap.size w (w.alloc (.cells #[.int .i64 0, .bool false, .bool false, .bool false] 42)) := (Below.refl _ _).alloc (Nat.le_refl _) _
  have HR : Hid (tPut s page ⟨0, false, false, false⟩ = tDrop s page) := Lib.hid (by unfold tPut; rw [if_pos hp, if_neg (by decide), if_pos ⟨rfl, rfl, rfl⟩])
  rw [HR.out]
  have HO := Lib.hid (Only.of_below (F := z.zw) hb0)
  have HD := Lib.hid (zdrop_any z s m page _ (ZAt.below h hb0) hi hm)
  obtain ⟨h0, h1⟩ := page_ways hp
  clear h hi hp HR hb0
  go_enter Tryd.func84, Tryd.ntmps84
  go_wp2_with fail
  refine HD.out.mono ?_
  rintro y w2 ⟨rfl, h2, ho2⟩
  have HF := Lib.hid (And.intro h2 (HO.out.trans ho2))
  clear h2 ho2
  go_wp2
  go_ret
  exact ⟨rfl, HF.out⟩

set_option maxRecDepth 100000 in
set_option maxHeartbeats 6400000 in
theorem zput_bent (z : Zl) (s : Ts) (page ef : Int) (ew eu : Bool) (w : World) (h : ZtAt w z s) (hp : isPage page = true) (hb : ¬ (ef = 0 ∧ ew = false ∧ eu = false)) :
    Calls Tryd.prog 84 #[.pointer (some ⟨z.zb, 0, none⟩), .int .i64 page, .agg #[.int .i64 ef, .bool false, .bool ew, .bool eu]] w (ZtQ z (tPut s page ⟨ef, false, ew, eu⟩) w) := by
  have hb0 : Below w.heap.size w (w.alloc (.cells #[.int .i64 ef, .bool false, .bool ew, .bool eu] 42)) := (Below.refl _ _).alloc (Nat.le_refl _) _
  have HR : Hid (tPut s page ⟨ef, false, ew, eu⟩ = (s, 103)) := Lib.hid (by unfold tPut; rw [if_pos hp, if_neg (fun h => by cases h), if_neg hb])
  rw [HR.out]
  have HH := Lib.hid (ZAt.below h hb0)
  have HO := Lib.hid (Only.of_below (F := z.zw) hb0)
  have hbb : (ef != 0) = true ∨ ((ef != 0) = false ∧ ew = true) ∨ ((ef != 0) = false ∧ ew = false ∧ eu = true) := by
    by_cases h0 : ef = 0
    · subst h0
      cases ew
      · cases eu
        · exact absurd ⟨rfl, rfl, rfl⟩ hb
        · exact .inr (.inr ⟨by decide, rfl, rfl⟩)
      · exact .inr (.inl ⟨by decide, rfl⟩)
    · exact .inl (by simp [h0])
  obtain ⟨p0, p1⟩ := page_ways hp
  clear h hp HR hb0 hb
  rcases hbb with h0 | ⟨h0, rfl⟩ | ⟨h0, rfl, rfl⟩
  all_goals
    go_enter Tryd.func84, Tryd.ntmps84
    go_wp2
    go_ret
    exact ⟨rfl, HH.out, HO.out⟩

set_option maxRecDepth 100000 in
set_option maxHeartbeats 6400000 in
theorem zput_none (z : Zl) (s : Ts) (m : Int) (page ef : Int) (ew eu : Bool) (w : World) (h : ZtAt w z s) (hi : TInv m s) (hp : isPage page = true) (hn : ¬ (0 ≤ ef ∧ ef < (s.P.length : Int))) :
    Calls Tryd.prog 84 #[.pointer (some ⟨z.zb, 0, none⟩), .int .i64 page, .agg #[.int .i64 ef, .bool true, .bool ew, .bool eu]] w (ZtQ z (tPut s page ⟨ef, true, ew, eu⟩) w) := by
  have hb0 : Below w.heap.size w (w.alloc (.cells #[.int .i64 ef, .bool true, .bool ew, .bool eu] 42)) := (Below.refl _ _).alloc (Nat.le_refl _) _
  have HR : Hid (tPut s page ⟨ef, true, ew, eu⟩ = (s, 107)) := Lib.hid (by unfold tPut; rw [if_pos hp, if_pos rfl, if_neg hn])
  rw [HR.out]
  have HK : Hid (∀ wx, Below w.heap.size w wx → ZtAt wx z s) := Lib.hid fun wx hx => ZAt.below h hx
  have HB := Lib.hid hb0
  obtain ⟨p0, p1⟩ := page_ways hp
  obtain ⟨-, -, -, c3, -, ltb⟩ := ZAt.cells (HK.out _ hb0)
  have ltz : z.zb < w.heap.size := (ZAt.cells h).2.2.2.2.2
  obtain ⟨g, cap, hl, -, -⟩ := ZAt.list h hi.p17
  rw [hl] at c3
  obtain ⟨L, hL⟩ : ∃ L, s.P.length = L := ⟨_, rfl⟩
  rw [hL] at c3 hn
  have hnew := blk_new w (.cells #[.int .i64 ef, .bool true, .bool ew, .bool eu] 42)
  have q0 := blk_cell hnew 0
  have hw : decide (ef < 0) = true ∨ (decide (ef < 0) = false ∧ ¬ ef < 0 ∧ (L : Int) ≤ ef) := by
    by_cases h0 : ef < 0
    · exact .inl (by simp; omega)
    · exact .inr ⟨by simp; omega, h0, by omega⟩
  clear h hi hp HR hb0 hnew hn hl hL
  rcases hw with h0 | ⟨h0, h0', h1⟩
  all_goals
    go_enter Tryd.func84, Tryd.ntmps84
    go_wp2_with fail
    go_quiet (fail)
    obtain ⟨wd, hwd⟩ : ∃ wd, (w.alloc (.cells #[.int .i64 ef, .bool true, .bool ew, .bool eu] 42)).drewN nq = wd := ⟨_, rfl⟩
    have HBD : Hid (Below w.heap.size w wd) := Lib.hid (hwd ▸ below_drewN HB.out _)
    rw [hwd]
    clear hwd q0 c3
    go_wp2
    go_ret
    exact ⟨rfl, HK.out _ HBD.out, Only.of_below HBD.out⟩

set_option maxRecDepth 100000 in
set_option maxHeartbeats 16000000 in
theorem zput_owner (z : Zl) (s : Ts) (m : Int) (page ef : Int) (ew eu : Bool) (w : World) (h : ZtAt w z s) (hi : TInv m s) (hm : m + 1 ≤ 1000000) (hp : isPage page = true) (n : Nat) (hf : ef = (n : Int)) (hn : n < s.P.length) (ho : (s.F.getD (s.P.getD n 0).toNat default).owner ≠ s.who) :
    Calls Tryd.prog 84 #[.pointer (some ⟨z.zb, 0, none⟩), .int .i64 page, .agg #[.int .i64 ef, .bool true, .bool ew, .bool eu]] w (ZtQ z (tPut s page ⟨ef, true, ew, eu⟩) w) := by
  subst hf
  have hb0 : Below w.heap.size w (w.alloc (.cells #[.int .i64 (n : Int), .bool true, .bool ew, .bool eu] 42)) := (Below.refl _ _).alloc (Nat.le_refl _) _
  have HR : Hid (tPut s page ⟨(n : Int), true, ew, eu⟩ = (s, 110)) := Lib.hid (by unfold tPut; rw [if_pos hp, if_pos rfl, if_pos ⟨by show (0 : Int) ≤ (n : Int); omega, by show (n : Int) < _; omega⟩]; show (if (s.F.getD (s.P.getD (n : Int).toNat 0).toNat default).owner = s.who then tSet s page (s.P.getD (n : Int).toNat 0) ew else _) = _; rw [Int.toNat_natCast, if_neg ho])
  rw [HR.out]
  have HB := Lib.hid hb0
  have HK : Hid (∀ wx, Below w.heap.size w wx → ZtAt wx z s) := Lib.hid fun wx hx => ZAt.below h hx
  have hnew := blk_new w (.cells #[.int .i64 (n : Int), .bool true, .bool ew, .bool eu] 42)
  have HN : Hid (∀ wx, Below (w.alloc (.cells #[.int .i64 (n : Int), .bool true, .bool ew, .bool eu] 42)).heap.size (w.alloc (.cells #[.int .i64 (n : Int), .bool true, .bool ew, .bool eu] 42)) wx → wx.cell? ⟨w.heap.size, 0, none⟩ = some (.int .i64 (n : Int)) ∧ wx.cell? ⟨w.heap.size, 2, none⟩ = some (.bool ew)) := Lib.hid fun wx hx => by
    have := blk_below hnew hx (blk_lt hnew)
    exact ⟨blk_cell this 0, blk_cell this 2⟩
  have hpin := hi.pin n hn
  obtain ⟨f, hfe⟩ : ∃ f : Nat, s.P.getD n 0 = (f : Int) := ⟨(s.P.getD n 0).toNat, by omega⟩
  rw [hfe] at ho
  rw [Int.toNat_natCast] at ho
  have hfl : f < s.F.length := by rw [hi.lf]; omega
  obtain ⟨g, cap, hl, hg, -⟩ := ZAt.list h hi.p17
  have HL : Hid (∀ wx, Below w.heap.size w wx → wx.cell? ⟨z.zb, 3, none⟩ = some (.slice (some ⟨g, 0, none⟩) s.P.length cap) ∧ wx.cell? ⟨g, n, none⟩ = some (.int .i64 (f : Int)) ∧ z.zb < wx.heap.size ∧ g < wx.heap.size) := Lib.hid fun wx hx => by
    have hz := ZAt.below h hx
    obtain ⟨g', cap', hl', hg', hc'⟩ := ZAt.list hz hi.p17
    rw [hl] at hl'
    obtain ⟨hgg, -, hcc⟩ := Value.slice.inj hl'
    obtain rfl : g = g' := by injection hgg with e; injection e
    have := hc' n hn
    rw [hfe] at this
    exact ⟨by rw [← hl]; exact (ZAt.cells hz).2.2.2.1, this, (ZAt.cells hz).2.2.2.2.2, hg'⟩
  obtain ⟨⟨xo, xk, xw, xu⟩, hx⟩ : ∃ x, s.F.getD f default = x := ⟨_, rfl⟩
  have HFR : Hid (∀ wx, Below w.heap.size w wx → wx.cell? ⟨z.zb, 1, none⟩ = some (.pointer (some ⟨z.fb, 0, none⟩)) ∧ wx.cell? ⟨z.zb, 2, none⟩ = some (.int .i64 s.who) ∧ wx.cell? ⟨z.fb, 0, none⟩ = some (.slice (some ⟨z.fg, 0, none⟩) s.F.length s.n) ∧ wx.cell? ⟨z.fg, f * 4, none⟩ = some (.int .i64 xo) ∧ z.zb < wx.heap.size ∧ z.fb < wx.heap.size ∧ z.fg < wx.heap.size) := Lib.hid fun wx hy => by
    have hz := ZAt.below h hy
    have hc := hz.fr.cells f hfl
    rw [hx] at hc
    exact ⟨(ZAt.cells hz).2.1, (ZAt.cells hz).2.2.1, hz.fr.hdr, hc.1, (ZAt.cells hz).2.2.2.2.2, hz.fr.lt.1, hz.fr.lt.2⟩
  rw [hx] at ho
  dsimp only at ho
  have hob : (xo != s.who) = true := by simp [ho]
  have hn1 : (0 : Int) ≤ (n : Int) := by omega
  obtain ⟨L, hL⟩ : ∃ L, s.P.length = L := ⟨_, rfl⟩
  rw [hL] at HL hn
  obtain ⟨LF, hLF⟩ : ∃ L, s.F.length = L := ⟨_, rfl⟩
  rw [hLF] at HFR hfl
  have hn2 : (n : Int) < (L : Int) := by omega
  have hf1 : (0 : Int) ≤ (f : Int) := by omega
  have hf2 : (f : Int) < (LF : Int) := by omega
  have hd0 : decide ((n : Int) < 0) = false := by simp
  have hd1 : ¬ (L : Int) ≤ (n : Int) := by omega
  obtain ⟨p0, p1⟩ := page_ways hp
  obtain ⟨q0, q2⟩ := HN.out _ (Below.refl _ _)
  obtain ⟨c3, cg, ltb, ltg⟩ := HL.out _ HB.out
  have ltz : z.zb < w.heap.size := (ZAt.cells h).2.2.2.2.2
  clear h hi hp HR hb0 hnew hpin hx hfe hl ho hg hL hLF
  go_enter Tryd.func84, Tryd.ntmps84
  go_wp2_with fail
  go_quiet (fail)
  obtain ⟨wd, hwd⟩ : ∃ wd, (w.alloc (.cells #[.int .i64 (n : Int), .bool true, .bool ew, .bool eu] 42)).drewN nq = wd := ⟨_, rfl⟩
  have HBD : Hid (Below w.heap.size w wd) := Lib.hid (hwd ▸ below_drewN HB.out _)
  have HBN : Hid (Below (w.alloc (.cells #[.int .i64 (n : Int), .bool true, .bool ew, .bool eu] 42)).heap.size (w.alloc (.cells #[.int .i64 (n : Int), .bool true, .bool ew, .bool eu] 42)) wd) := Lib.hid (hwd ▸ below_drewN (Below.refl _ _) _)
  rw [hwd]
  clear hwd q0 q2 c3 cg ltb ltg
  obtain ⟨q0, q2⟩ := HN.out _ HBN.out
  obtain ⟨c3, cg, ltb, ltg⟩ := HL.out _ HBD.out
  go_wp2_with fail
  go_quiet (fail)
  obtain ⟨we, hwe⟩ : ∃ we, wd.drewN nq = we := ⟨_, rfl⟩
  have HBE : Hid (Below w.heap.size w we) := Lib.hid (hwe ▸ below_drewN HBD.out _)
  have HBM : Hid (Below (w.alloc (.cells #[.int .i64 (n : Int), .bool true, .bool ew, .bool eu] 42)).heap.size (w.alloc (.cells #[.int .i64 (n : Int), .bool true, .bool ew, .bool eu] 42)) we) := Lib.hid (hwe ▸ below_drewN HBN.out _)
  rw [hwe]
  clear hwe q0 q2 c3 cg ltb ltg
  obtain ⟨c1, c2, ch, cf, ltb, ltf, ltg⟩ := HFR.out _ HBE.out
  go_wp2_with fail
  go_quiet (fail)
  obtain ⟨wf, hwf⟩ : ∃ wf, we.drewN nq = wf := ⟨_, rfl⟩
  have HBF : Hid (Below w.heap.size w wf) := Lib.hid (hwf ▸ below_drewN HBE.out _)
  have HBP : Hid (Below (w.alloc (.cells #[.int .i64 (n : Int), .bool true, .bool ew, .bool eu] 42)).heap.size (w.alloc (.cells #[.int .i64 (n : Int), .bool true, .bool ew, .bool eu] 42)) wf) := Lib.hid (hwf ▸ below_drewN HBM.out _)
  rw [hwf]
  clear hwf c1 c2 ch cf ltb ltf ltg
  obtain ⟨q0, q2⟩ := HN.out _ HBP.out
  go_wp2
  go_ret
  exact ⟨rfl, HK.out _ HBF.out, Only.of_below HBF.out⟩

set_option maxRecDepth 100000 in
set_option maxHeartbeats 16000000 in
theorem zput_set (z : Zl) (s : Ts) (m : Int) (page ef : Int) (ew eu : Bool) (w : World) (h : ZtAt w z s) (hi : TInv m s) (hm : m + 1 ≤ 1000000) (hp : isPage page = true) (n : Nat) (hf : ef = (n : Int)) (hn : n < s.P.length) (ho : (s.F.getD (s.P.getD n 0).toNat default).owner = s.who) :
    Calls Tryd.prog 84 #[.pointer (some ⟨z.zb, 0, none⟩), .int .i64 page, .agg #[.int .i64 ef, .bool true, .bool ew, .bool eu]] w (ZtQ z (tPut s page ⟨ef, true, ew, eu⟩) w) := by
  subst hf
  have hb0 : Below w.heap.size w (w.alloc (.cells #[.int .i64 (n : Int), .bool true, .bool ew, .bool eu] 42)) := (Below.refl _ _).alloc (Nat.le_refl _) _
  have HR : Hid (tPut s page ⟨(n : Int), true, ew, eu⟩ = tSet s page (s.P.getD n 0) ew) := Lib.hid (by unfold tPut; rw [if_pos hp, if_pos rfl, if_pos ⟨by show (0 : Int) ≤ (n : Int); omega, by show (n : Int) < _; omega⟩]; show (if (s.F.getD (s.P.getD (n : Int).toNat 0).toNat default).owner = s.who then tSet s page (s.P.getD (n : Int).toNat 0) ew else _) = _; rw [Int.toNat_natCast, if_pos ho])
  rw [HR.out]
  have HB := Lib.hid hb0
  have HK : Hid (∀ wx, Below w.heap.size w wx → ZtAt wx z s) := Lib.hid fun wx hx => ZAt.below h hx
  have hnew := blk_new w (.cells #[.int .i64 (n : Int), .bool true, .bool ew, .bool eu] 42)
  have HN : Hid (∀ wx, Below (w.alloc (.cells #[.int .i64 (n : Int), .bool true, .bool ew, .bool eu] 42)).heap.size (w.alloc (.cells #[.int .i64 (n : Int), .bool true, .bool ew, .bool eu] 42)) wx → wx.cell? ⟨w.heap.size, 0, none⟩ = some (.int .i64 (n : Int)) ∧ wx.cell? ⟨w.heap.size, 2, none⟩ = some (.bool ew)) := Lib.hid fun wx hx => by
    have := blk_below hnew hx (blk_lt hnew)
    exact ⟨blk_cell this 0, blk_cell this 2⟩
  have hpin := hi.pin n hn
  obtain ⟨f, hfe⟩ : ∃ f : Nat, s.P.getD n 0 = (f : Int) := ⟨(s.P.getD n 0).toNat, by omega⟩
  rw [hfe] at ho ⊢
  rw [Int.toNat_natCast] at ho
  have hfl : f < s.F.length := by rw [hi.lf]; omega
  obtain ⟨g, cap, hl, hg, -⟩ := ZAt.list h hi.p17
  have HL : Hid (∀ wx, Below w.heap.size w wx → wx.cell? ⟨z.zb, 3, none⟩ = some (.slice (some ⟨g, 0, none⟩) s.P.length cap) ∧ wx.cell? ⟨g, n, none⟩ = some (.int .i64 (f : Int)) ∧ z.zb < wx.heap.size ∧ g < wx.heap.size) := Lib.hid fun wx hx => by
    have hz := ZAt.below h hx
    obtain ⟨g', cap', hl', hg', hc'⟩ := ZAt.list hz hi.p17
    rw [hl] at hl'
    obtain ⟨hgg, -, hcc⟩ := Value.slice.inj hl'
    obtain rfl : g = g' := by injection hgg with e; injection e
    have := hc' n hn
    rw [hfe] at this
    exact ⟨by rw [← hl]; exact (ZAt.cells hz).2.2.2.1, this, (ZAt.cells hz).2.2.2.2.2, hg'⟩
  obtain ⟨⟨xo, xk, xw, xu⟩, hx⟩ : ∃ x, s.F.getD f default = x := ⟨_, rfl⟩
  have HFR : Hid (∀ wx, Below w.heap.size w wx → wx.cell? ⟨z.zb, 1, none⟩ = some (.pointer (some ⟨z.fb, 0, none⟩)) ∧ wx.cell? ⟨z.zb, 2, none⟩ = some (.int .i64 s.who) ∧ wx.cell? ⟨z.fb, 0, none⟩ = some (.slice (some ⟨z.fg, 0, none⟩) s.F.length s.n) ∧ wx.cell? ⟨z.fg, f * 4, none⟩ = some (.int .i64 xo) ∧ z.zb < wx.heap.size ∧ z.fb < wx.heap.size ∧ z.fg < wx.heap.size) := Lib.hid fun wx hy => by
    have hz := ZAt.below h hy
    have hc := hz.fr.cells f hfl
    rw [hx] at hc
    exact ⟨(ZAt.cells hz).2.1, (ZAt.cells hz).2.2.1, hz.fr.hdr, hc.1, (ZAt.cells hz).2.2.2.2.2, hz.fr.lt.1, hz.fr.lt.2⟩
  rw [hx] at ho
  dsimp only at ho
  have HS := Lib.hid (fun wx (hx : ZtAt wx z s) => zset_any z s m page (f : Int) ew wx hx hi hm hp)
  have hob : (xo != s.who) = false := by simp [ho]
  have hn1 : (0 : Int) ≤ (n : Int) := by omega
  obtain ⟨L, hL⟩ : ∃ L, s.P.length = L := ⟨_, rfl⟩
  rw [hL] at HL hn
  obtain ⟨LF, hLF⟩ : ∃ L, s.F.length = L := ⟨_, rfl⟩
  rw [hLF] at HFR hfl
  have hn2 : (n : Int) < (L : Int) := by omega
  have hf1 : (0 : Int) ≤ (f : Int) := by omega
  have hf2 : (f : Int) < (LF : Int) := by omega
  have hd0 : decide ((n : Int) < 0) = false := by simp
  have hd1 : ¬ (L : Int) ≤ (n : Int) := by omega
  obtain ⟨p0, p1⟩ := page_ways hp
  obtain ⟨q0, q2⟩ := HN.out _ (Below.refl _ _)
  obtain ⟨c3, cg, ltb, ltg⟩ := HL.out _ HB.out
  have ltz : z.zb < w.heap.size := (ZAt.cells h).2.2.2.2.2
  clear h hi hp HR hb0 hnew hpin hx hfe hl ho hg hL hLF
  go_enter Tryd.func84, Tryd.ntmps84
  go_wp2_with fail
  go_quiet (fail)
  obtain ⟨wd, hwd⟩ : ∃ wd, (w.alloc (.cells #[.int .i64 (n : Int), .bool true, .bool ew, .bool eu] 42)).drewN nq = wd := ⟨_, rfl⟩
  have HBD : Hid (Below w.heap.size w wd) := Lib.hid (hwd ▸ below_drewN HB.out _)
  have HBN : Hid (Below (w.alloc (.cells #[.int .i64 (n : Int), .bool true, .bool ew, .bool eu] 42)).heap.size (w.alloc (.cells #[.int .i64 (n : Int), .bool true, .bool ew, .bool eu] 42)) wd) := Lib.hid (hwd ▸ below_drewN (Below.refl _ _) _)
  rw [hwd]
  clear hwd q0 q2 c3 cg ltb ltg
  obtain ⟨q0, q2⟩ := HN.out _ HBN.out
  obtain ⟨c3, cg, ltb, ltg⟩ := HL.out _ HBD.out
  go_wp2_with fail
  go_quiet (fail)
  obtain ⟨we, hwe⟩ : ∃ we, wd.drewN nq = we := ⟨_, rfl⟩
  have HBE : Hid (Below w.heap.size w we) := Lib.hid (hwe ▸ below_drewN HBD.out _)
  have HBM : Hid (Below (w.alloc (.cells #[.int .i64 (n : Int), .bool true, .bool ew, .bool eu] 42)).heap.size (w.alloc (.cells #[.int .i64 (n : Int), .bool true, .bool ew, .bool eu] 42)) we) := Lib.hid (hwe ▸ below_drewN HBN.out _)
  rw [hwe]
  clear hwe q0 q2 c3 cg ltb ltg
  obtain ⟨c1, c2, ch, cf, ltb, ltf, ltg⟩ := HFR.out _ HBE.out
  go_wp2_with fail
  go_quiet (fail)
  obtain ⟨wf, hwf⟩ : ∃ wf, we.drewN nq = wf := ⟨_, rfl⟩
  have HBF : Hid (Below w.heap.size w wf) := Lib.hid (hwf ▸ below_drewN HBE.out _)
  have HBP : Hid (Below (w.alloc (.cells #[.int .i64 (n : Int), .bool true, .bool ew, .bool eu] 42)).heap.size (w.alloc (.cells #[.int .i64 (n : Int), .bool true, .bool ew, .bool eu] 42)) wf) := Lib.hid (hwf ▸ below_drewN HBM.out _)
  rw [hwf]
  clear hwf c1 c2 ch cf ltb ltf ltg
  obtain ⟨q0, q2⟩ := HN.out _ HBP.out
  go_wp2_with fail
  refine (HS.out _ (HK.out _ HBF.out)).mono ?_
  rintro y w3 ⟨rfl, h3, ho3⟩
  have HF := Lib.hid (And.intro h3 ((Only.of_below (F := z.zw) HBF.out).trans ho3))
  clear h3 ho3
  go_wp2
  go_ret
  exact ⟨rfl, HF.out⟩

/-- Put -/
theorem zput_any (z : Zl) (s : Ts) (m : Int) (page : Int) (e : Ent) (w : World) (h : ZtAt w z s) (hi : TInv m s) (hm : m + 1 ≤ 1000000) :
    Calls Tryd.prog 84 #[.pointer (some ⟨z.zb, 0, none⟩), .int .i64 page, e.v] w (ZtQ z (tPut s page e) w) := by
  obtain ⟨ef, et, ew, eu⟩ := e
  cases hp : isPage page with
  | false => exact zput_nopage z s page ef et ew eu w h hp
  | true =>
    cases et with
    | false =>
      by_cases hz : ef = 0 ∧ ew = false ∧ eu = false
      · obtain ⟨rfl, rfl, rfl⟩ := hz
        exact zput_drop z s m page w h hi (by omega) hp
      · exact zput_bent z s page ef ew eu w h hp hz
    | true =>
      by_cases hn : 0 ≤ ef ∧ ef < (s.P.length : Int)
      · have hf : ef = ((ef.toNat : Nat) : Int) := by omega
        by_cases ho : (s.F.getD (s.P.getD ef.toNat 0).toNat default).owner = s.who
        · exact zput_set z s m page ef ew eu w h hi hm hp ef.toNat hf (by omega) ho
        · exact zput_owner z s m page ef ew eu w h hi hm hp ef.toNat hf (by omega) ho
      · exact zput_none z s m page ef ew eu w h hi hp hn
end Go.Proofs.YtnhocmmgdkiepaaDoor

