/-
  Parts of one proof, one behind the other.
-/
import Derived.Test.YtaoaachgnnengaaDoorMg6f5d73af5f
import Derived.Test.YtaoaachgnnengaaDoorMge61629bba3
import Derived.Test.YtaoaachgnnengaaDoorRows
import Derived.Test.YtaoaachgnnengaaDoorMg0cc251d182
import Derived.Test.YtaoaachgnnengaaDoorMg742783f498
/-
  pt.New, where there is no room, or of a guest that may not be.
-/
namespace Go.Proofs.YtaoaachgnnengaaDoor
open Go.RowKit

/-- frames: those from j to k are somebody's -/
def frF (n j k : Nat) (who : Int) : List Fr := (List.range n).map fun i => if j ≤ i ∧ i < k then ⟨who, 0, 0, 0⟩ else frNo
theorem frF_len (n j k : Nat) (who : Int) : (frF n j k who).length = n := by simp [frF]
theorem frF_get (n j k i : Nat) (who : Int) (h : i < n) : (frF n j k who).getD i default = if j ≤ i ∧ i < k then ⟨who, 0, 0, 0⟩ else frNo := by simp [frF, h]
theorem frF_start (n k : Nat) (who : Int) : frU n 0 k who = frF n 0 k who := by
  apply fr_ext
  · rw [frU_len, frF_len]
  · intro i hi
    rw [frU_len] at hi
    rw [frU_get n 0 k i who hi, frF_get n 0 k i who hi, if_neg (by omega)]
    by_cases h : i < 0 + k
    · rw [if_pos h, if_pos (by omega)]
    · rw [if_neg h, if_neg (by omega)]
theorem frF_end (n k : Nat) (who : Int) : frF n k k who = frU n 0 0 who := by
  apply fr_ext
  · rw [frU_len, frF_len]
  · intro i hi
    rw [frF_len] at hi
    rw [frU_get n 0 0 i who hi, frF_get n k k i who hi, if_neg (by omega), if_neg (by omega), if_neg (by omega)]
theorem frF_free (n j k : Nat) (who : Int) (hw : frOwns who) (hj : j < k) (hk : k ≤ n) : frMine (frF n j k who) (j : Int) who kFree = ⟨frF n (j + 1) k who, 0, 0⟩ := by
  have hg : (frF n j k who).getD j default = ⟨who, 0, 0, 0⟩ := by rw [frF_get n j k j who (by omega), if_pos (by omega)]
  have ha : frAt (frF n j k who) (j : Int) = some j := by
    unfold frAt
    rw [if_pos ⟨by omega, by rw [frF_len]; omega, by show ((frF n j k who).getD j default).owner ≠ -1; rw [hg]; exact frOwns_ne hw⟩]
    rfl
  unfold frMine
  rw [ha]
  dsimp only
  rw [hg, if_pos rfl]
  have hkf : kFree ⟨who, 0, 0, 0⟩ = (frNo, 0) := rfl
  rw [hkf]
  dsimp only
  congr 1
  apply fr_ext
  · rw [List.length_set, frF_len, frF_len]
  · intro i hi
    rw [List.length_set, frF_len] at hi
    rw [fr_setD _ _ _ _ (by rw [frF_len]; omega), frF_get n (j + 1) k i who hi]
    by_cases h : i = j
    · rw [if_pos h, if_neg (by omega)]
    · rw [if_neg h, frF_get n j k i who hi]
      by_cases h2 : j ≤ i ∧ i < k
      · rw [if_pos h2, if_pos (by omega)]
      · rw [if_neg h2, if_neg (by omega)]
/-- which error: no room, or no guest -/
def noC (who : Int) : Int := if frOwns who then 113 else 103
theorem noC_cases (who : Int) : noC who = 113 ∨ noC who = 103 := by unfold noC; split <;> simp
theorem frU_nope (n k : Nat) (who : Int) (hk : k = 0 ∨ frOwns who) (h : ¬ (frOwns who ∧ k < n)) (hkn : k ≤ n) : frAlloc (frU n 0 k who) who = ⟨frU n 0 k who, 0, noC who⟩ := by
  unfold frAlloc noC
  by_cases hw : frOwns who
  · rw [if_pos hw, if_pos hw]
    have : frFree (frU n 0 k who) = none := frFree_no fun i hi => by
      rw [frU_len] at hi
      rw [frU_get n 0 k i who hi, if_neg (by omega), if_pos (by have : ¬ k < n := fun h2 => h ⟨hw, h2⟩; omega)]
      exact frOwns_ne hw
    rw [this]
  · rw [if_neg hw, if_neg hw]
/-- frames taken, so far -/
def L1No (n mb fb fg : Nat) (mv : Value) (M : List Int) (who : Int) (w : World) (i : Value) (wr : World) : Prop :=
  ∃ (k : Nat) (lv : Value), k ≤ 17 ∧ k ≤ n ∧ (k = 0 ∨ frOwns who) ∧ i = .int .i64 (k : Int) ∧ NAt wr ⟨w.heap.size + 1, mb, fb, fg, w.heap.size, mv, .slice none 0 0, lv⟩ n M (frU n 0 k who) [] (rngF 0 k) who ∧ Only (nz mv fg) w wr ∧ (∀ j, inRow lv j → w.heap.size ≤ j)
/-- given back, so far -/
def LBNo (n k mb fb fg : Nat) (mv lv : Value) (M : List Int) (who : Int) (w : World) (i : Value) (wr : World) : Prop :=
  ∃ j : Nat, j ≤ k ∧ i = .int .i64 (j : Int) ∧ NAt wr ⟨w.heap.size + 1, mb, fb, fg, w.heap.size, mv, .slice none 0 0, lv⟩ n M (frF n j k who) [] (rngF 0 k) who ∧ Only (nz mv fg) w wr
/-- what New answers where it refuses -/
def NoQ (E : Nat → Addr) (n mb fb fg : Nat) (mv : Value) (M : List Int) (who : Int) (w : World) (y : Ending) (w' : World) : Prop := y = .returned (.tuple #[.pointer none, errC E (noC who)]) ∧ MAt w' mb mv n M ∧ FrAt 95 33 w' fb fg n (frU n 0 0 who) ∧ Only (nz mv fg) w w'
set_option maxRecDepth 100000 in
set_option maxHeartbeats 32000000 in
theorem tnew_no (E : Nat → Addr) (n mb fb fg : Nat) (mv : Value) (M : List Int) (who : Int) (w : World) (hE : ∀ wx, Only (nz mv fg) w wx → ErrsAt errT gOf wx E nine) (hm : MAt w mb mv n M) (hf : FrAt 95 33 w fb fg n (frU n 0 0 who)) (hap : (∀ k, inRow mv k → k ≠ fb ∧ k ≠ fg) ∧ fg ≠ mb) (hno : ¬ frOwns who ∨ n < 17) (hn2 : n ≤ 1024) :
    Calls Tryd.prog 32 #[.pointer (some ⟨mb, 0, none⟩), .pointer (some ⟨fb, 0, none⟩), .int .i64 who] w (NoQ E n mb fb fg mv M who w) := by
  obtain ⟨i0, hi, hz0, hz1, hz2⟩ := info_parts infoPInt
  have HEE := Lib.hid hE
  obtain ⟨W1, hW1⟩ : ∃ W1, W1 = (w.alloc (.cells #[.slice none 0 0] 111)).alloc (.cells #[.pointer (some ⟨mb, 0, none⟩), .pointer (some ⟨fb, 0, none⟩), .int .i64 who, .pointer (some ⟨w.heap.size, 0, none⟩), .slice none 0 0] 113) := ⟨_, rfl⟩
  have hb1 : Below w.heap.size w W1 := hW1 ▸ ((Below.refl _ _).alloc (Nat.le_refl _) _).alloc (by simp) _
  have hmb := blk_lt hm.1
  have hfl := hf.lt
  have hap1 : Pl.Apart ⟨w.heap.size + 1, mb, fb, fg, w.heap.size, mv, .slice none 0 0, .slice none 0 0⟩ := by
    refine ⟨fun k h0 h1 => ?_, fun k h0 h2 => ?_, fun k h0 h3 => ?_, fun k h1 h2 => (hap.1 k h1).2 h2, fun k h1 h3 => ?_, fun k h2 h3 => ?_⟩
    · have h1' : inRow mv k := h1
      rcases h0 with h0 | h0 | h0 | h0
      · have := own_lt hm.2.1 h1'
        rw [show k = w.heap.size + 1 from h0] at this
        omega
      · rw [show k = mb from h0] at h1'
        exact hm.not h1'
      · exact (hap.1 k h1').1 h0
      · cases h0
    · have h2' : k = fg := h2
      rcases h0 with h0 | h0 | h0 | h0
      · rw [show k = w.heap.size + 1 from h0] at h2'
        omega
      · exact hap.2 (h2'.symm.trans h0)
      · exact hf.2.2.1 ((show k = fb from h0) ▸ h2')
      · cases h0
    · rcases h3 with h3 | h3
      · have h3' : k = w.heap.size := h3
        rcases h0 with h0 | h0 | h0 | h0
        · rw [show k = w.heap.size + 1 from h0] at h3'
          omega
        · rw [show k = mb from h0] at h3'
          omega
        · rw [show k = fb from h0] at h3'
          omega
        · cases h0
      · cases h3
    · rcases h3 with h3 | h3
      · have := own_lt hm.2.1 (show inRow mv k from h1)
        rw [show k = w.heap.size from h3] at this
        omega
      · cases h3
    · rcases h3 with h3 | h3
      · have h4 : k = w.heap.size := h3
        have h5 : k = fg := h2
        omega
      · cases h3
  have HN1 : Hid (NAt W1 ⟨w.heap.size + 1, mb, fb, fg, w.heap.size, mv, .slice none 0 0, .slice none 0 0⟩ n M (frU n 0 0 who) [] (rngF 0 0) who) := Lib.hid ⟨by rw [hW1]; exact blk_two w _ _, hm.below hb1, hf.below hb1, ⟨by rw [hW1]; exact blk_old (blk_new w _) _, own_nil _ _ _⟩, own_nil _ _ _, hap1⟩
  have HO1 : Hid (Only (nz mv fg) w W1) := Lib.hid (Only.of_below hb1)
  have HST : Hid (L1No n mb fb fg mv M who w (.int .i64 0) W1) := Lib.hid ⟨0, _, Nat.zero_le _, Nat.zero_le _, .inl rfl, rfl, HN1.out, HO1.out, fun j h => by cases h⟩
  have HW1 := Lib.hid hW1
  have HLT : Hid (mb < w.heap.size ∧ fb < w.heap.size) := Lib.hid ⟨hmb, hfl.1⟩
  clear hE hm hf hap hap1 hW1 hb1 hmb hfl HN1 HO1
  go_enter Tryd.func32, Tryd.ntmps32
  go_wp2_with fail
  rw [← HW1.out]
  go_loopw [27] (fun i wr => L1No n mb fb fg mv M who w i wr) (fun i _ => 17 - (intOf i).toNat)
  case atStart => exact HST.out
  case round =>
    obtain ⟨k, lv, hk, hkn, hk0, rfl, hN, ho, hlv⟩ := hrel
    have HN := Lib.hid hN
    have HO := Lib.hid ho
    have HLV := Lib.hid hlv
    clear HST
    have hlt : k < 17 := by
      rcases hno with h | h
      · rcases hk0 with h0 | h0
        · omega
        · exact absurd h0 h
      · omega
    have hki : (k : Int) < 17 := by omega
    by_cases hok : frOwns who ∧ k < n
    · obtain ⟨hw, hkn'⟩ := hok
      have ha := falloc_any E (frU n 0 k who) fb fg n who wr (HEE.out _ ho) hN.fr
      rw [frU_alloc n 0 k who hw (by omega)] at ha
      obtain ⟨x, hx⟩ : ∃ x : Int, ((0 + k : Nat) : Int) = x := ⟨_, rfl⟩
      rw [hx] at ha
      have HA := Lib.hid ha
      have HXE := Lib.hid hx
      clear ha hN ho hlv hx
      go_wp2_with fail
      refine HA.out.mono ?_
      rintro y w2 ⟨rfl, hf2, ho2⟩
      have HN2 := Lib.hid (HN.out.fr' ho2 hf2)
      have HO2 := Lib.hid (HO.out.trans (ho2.mono fun _ h => .inl (.inr h)))
      obtain ⟨-, c4, f4⟩ := HN2.out.cells
      have ltb := blk_lt HN2.out.row
      have htl := HN2.out.tl
      rw [rngF_len] at htl
      obtain ⟨ao, cap, hlve⟩ := own_slice htl
      dsimp only at hlve c4
      subst hlve
      have HTL := Lib.hid htl
      have HNT : Hid (¬ inRow (.slice ao k cap) (w.heap.size + 1)) := Lib.hid fun h => own_not htl HN2.out.row (by decide) h
      clear hf2 ho2 htl
      unfold errC
      rw [if_pos rfl]
      dsimp only
      go_wp2_with (at_builtin; refine wpList_append_sep _ rfl _ _ 37 rfl 3 i0 (.int .i64 0) 1 8 Tryd.underlying37 hi hz0 hz1 hz2 rfl (by decide) _ _ _ rfl (HTL.out.alloc _) ⟨w2.heap.size, 0, none⟩ 1 1 [.int .i64 x] rfl rfl (cell_one_new _ _ _) (by simp [Value.oneCell']) (by unfold maxLen; omega) (by omega) ?_)
      intro v' wx ho3 hg3 hs3
      obtain ⟨ao2, cap2, rfl⟩ := own_slice ho3
      have hbx := blk_grown (blk_old HN2.out.row (.cells #[.int .i64 x] 3)) hg3 HNT.out
      have cx := blk_cell hbx 4
      have fx := blk_free hbx 4
      have HON : Hid (Only (fun j => j = w.heap.size + 1 ∨ inRow (.slice ao k cap) j) w2 (wx.setCell ⟨w.heap.size + 1, 4, none⟩ (.slice ao2 (k + 1) cap2))) := Lib.hid
        (Only.setCell (F := fun j => j = w.heap.size + 1 ∨ inRow (.slice ao k cap) j) ((Only.alloc _ w2 (.cells #[.int .i64 x] 3)).grown hg3 (fun j hj => .inl (.inr hj))) (p := ⟨w.heap.size + 1, 4, none⟩) (.inl (.inl rfl)) _)
      have hs4 : ∀ j, inRow (.slice ao2 (k + 1) cap2) j → inRow (.slice ao k cap) j ∨ w2.heap.size ≤ j := fun j hj => by
        rcases hs3 j hj with h | h
        · exact .inl h
        · have h' := h
          try simp only [World.size_alloc] at h'
          exact .inr (by omega)
      have HN3 : Hid (NAt (wx.setCell ⟨w.heap.size + 1, 4, none⟩ (.slice ao2 (k + 1) cap2)) ⟨w.heap.size + 1, mb, fb, fg, w.heap.size, mv, .slice none 0 0, .slice ao2 (k + 1) cap2⟩ n M (frU n 0 (k + 1) who) [] (rngF 0 (k + 1)) who) := Lib.hid (HN2.out.list' HON.out (by have := blk_put hbx 4 (.slice ao2 (k + 1) cap2); exact this) (by
        have e1 : ints (rngF 0 k) ++ [Value.int .i64 x] = ints (rngF 0 (k + 1)) := by rw [rngF_succ, HXE.out]; simp [ints]
        rw [e1] at ho3
        rw [rngF_len]
        exact own_set ho3 hbx (by decide) 4 _) ⟨by show mb ≠ w.heap.size + 1; have := HLT.out.1; omega, fun h => by have := HLV.out mb h; have := HLT.out.1; omega⟩ ⟨by show fb ≠ w.heap.size + 1; have := HLT.out.2; omega, fun h => by have := HLV.out fb h; have := HLT.out.2; omega⟩ hs4)
      have HO3 : Hid (Only (nz mv fg) w (wx.setCell ⟨w.heap.size + 1, 4, none⟩ (.slice ao2 (k + 1) cap2))) := Lib.hid (HO2.out.trans' HON.out fun j hj => by
        rcases hj with hj | hj
        · exact .inr (by omega)
        · exact .inr (HLV.out j hj))
      have HLV3 : Hid (∀ j, inRow (.slice ao2 (k + 1) cap2) j → w.heap.size ≤ j) := Lib.hid fun j hj => by
        rcases hs4 j hj with h | h
        · exact HLV.out j h
        · have := HO2.out.size; omega
      clear ho3 hg3 hs3 hbx c4 f4 hs4
      go_wp2_with fail
      go_roundw
      case rel => exact ⟨k + 1, _, by omega, by omega, .inr hw, by go_num, HN3.out, HO3.out, HLV3.out⟩
      case measure => simp [intOf]; omega
    · have ha := falloc_any E (frU n 0 k who) fb fg n who wr (HEE.out _ ho) hN.fr
      rw [frU_nope n k who hk0 hok hkn] at ha
      have HA := Lib.hid ha
      have HFB : Hid (∀ j, j < k → ∀ wx, Only (nz mv fg) w wx → FrAt 95 33 wx fb fg n (frF n j k who) → Calls Tryd.prog 15 #[.pointer (some ⟨fb, 0, none⟩), .int .i64 (j : Int), .int .i64 who] wx (FrQ 95 33 E fb fg n ⟨frF n (j + 1) k who, 0, 0⟩ wx)) := Lib.hid fun j hj wx hx h => by
        have hw : frOwns who := by
          rcases hk0 with h0 | h0
          · omega
          · exact h0
        have := ffree_any E (frF n j k who) fb fg n (j : Int) who wx (HEE.out _ hx) h
        rw [frF_free n j k who hw hj hkn] at this
        exact this
      clear ha hN ho hlv hk0 hok hno
      have HC := Lib.hid (noC_cases who)
      unfold NoQ
      obtain ⟨c, hc⟩ : ∃ c, noC who = c := ⟨_, rfl⟩
      rw [hc] at HA HC ⊢
      go_wp2_with fail
      refine HA.out.mono ?_
      rintro y w2 ⟨rfl, hf2, ho2⟩
      have HN2 := Lib.hid (HN.out.fr' ho2 hf2)
      have HO2 := Lib.hid (HO.out.trans (ho2.mono fun _ h => .inl (.inr h)))
      obtain ⟨-, c4, f4⟩ := HN2.out.cells
      have ltb := blk_lt HN2.out.row
      have htl := HN2.out.tl
      rw [rngF_len] at htl
      obtain ⟨ao, cap, hlve⟩ := own_slice htl
      dsimp only at hlve c4
      subst hlve
      have HCL : Hid (∀ j, j < k → ∃ g, ao = some ⟨g, 0, none⟩ ∧ ∀ wx : World, NAt wx ⟨w.heap.size + 1, mb, fb, fg, w.heap.size, mv, .slice none 0 0, .slice ao k cap⟩ n M (frF n j k who) [] (rngF 0 k) who → wx.cell? ⟨g, j, none⟩ = some (.int .i64 (j : Int))) := Lib.hid fun j hj => by
        rcases own_shape htl with ⟨-, hz, -⟩ | ⟨g, cap2, hlve, -⟩
        · omega
        · cases hlve
          exact ⟨g, rfl, fun wx hx => by
            have ht := hx.tl
            rw [rngF_len] at ht
            rw [own_cell ht j (by omega), ints_get' _ j (by rw [rngF_len]; exact hj), rngF_get 0 k j hj, Nat.zero_add]⟩
      have HSTB : Hid (LBNo n k mb fb fg mv (.slice ao k cap) M who w (.int .i64 0) w2) := Lib.hid ⟨0, Nat.zero_le _, rfl, by have := HN2.out; rw [frF_start] at this; exact this, HO2.out⟩
      clear hf2 ho2 htl HN HO HLV
      obtain ⟨ev, hev⟩ : ∃ ev, errC E c = ev := ⟨_, rfl⟩
      have hev2 : ∃ a, ev = errV a := by
        rcases HC.out with h | h
        · exact ⟨E 12, by rw [← hev, h]; rfl⟩
        · exact ⟨E 2, by rw [← hev, h]; rfl⟩
      obtain ⟨ea, rfl⟩ := hev2
      rw [hev]
      have HEV := Lib.hid hev
      clear hev
      go_wp2_with fail
      go_loopw [42] (fun i wr => LBNo n k mb fb fg mv (.slice ao k cap) M who w i wr) (fun i _ => k - (intOf i).toNat)
      case atStart => exact HSTB.out
      case round =>
        obtain ⟨j, hj, rfl, hN, ho⟩ := hrel
        clear HSTB
        by_cases hlt : j < k
        · have hji : (j : Int) < (k : Int) := by omega
          obtain ⟨g, rfl, hcl⟩ := HCL.out j hlt
          have cj := hcl _ hN
          have HFF := Lib.hid (HFB.out j hlt wr ho hN.fr)
          have HN := Lib.hid hN
          have HO := Lib.hid ho
          clear hN ho hcl
          go_wp2_with fail
          refine HFF.out.mono ?_
          rintro y w3 ⟨rfl, hf3, ho3⟩
          have HN3 := Lib.hid (HN.out.fr' ho3 hf3)
          have HO3 := Lib.hid (HO.out.trans (ho3.mono fun _ h => .inl (.inr h)))
          clear hf3 ho3
          unfold errC
          rw [if_pos rfl]
          go_wp2_with fail
          go_roundw
          case rel => exact ⟨j + 1, by omega, by go_num, HN3.out, HO3.out⟩
          case measure => simp [intOf]; omega
        · obtain rfl : j = k := by omega
          go_wp2
          go_ret2
          have hfe := hN.fr
          rw [frF_end] at hfe
          exact ⟨by rw [HEV.out]; rfl, hN.mem, hfe, ho⟩
end Go.Proofs.YtaoaachgnnengaaDoor

/-
  TablesNew: whose frames there are then.
-/
namespace Go.Proofs.YtaoaachgnnengaaDoor
open Go.RowKit

theorem ofN_none (n : Nat) (who : Int) (j : Nat) (hj : j ≤ n) : (frOf (frU n 0 0 who) (-1) j).length = j := by
  induction j with
  | zero => rfl
  | succ j ih =>
    have hx : (frU n 0 0 who).getD j default = frNo := by rw [frU_get n 0 0 j who (by omega), if_neg (by omega), if_neg (by omega)]
    rw [frOf_succ, hx, if_pos (by rfl), List.length_append, ih (by omega)]
    rfl
theorem ofM_who (n : Nat) (who : Int) (hw : frOwns who) (j : Nat) (hj : j ≤ n) : (frOf (frM n 0 17 who) who j).length = min j 17 := by
  induction j with
  | zero => rfl
  | succ j ih =>
    have ih := ih (by omega)
    by_cases h : j < 17
    · have hx : ((frM n 0 17 who).getD j default).owner = who := by rw [frM_get n 0 17 j who (by omega), if_neg (by omega), if_pos (by omega), if_pos (by omega)]
      rw [frOf_succ, if_pos hx, List.length_append, ih]
      simp only [List.length_cons, List.length_nil]
      omega
    · have hx : ((frM n 0 17 who).getD j default).owner ≠ who := by
        rw [frM_get n 0 17 j who (by omega), if_neg (by omega), if_neg (by omega)]
        exact fun e => frOwns_ne hw e.symm
      rw [frOf_succ, if_neg hx, ih]
      omega
theorem ofM_none (n : Nat) (who : Int) (hw : frOwns who) (j : Nat) (hj : j ≤ n) : (frOf (frM n 0 17 who) (-1) j).length = j - 17 := by
  induction j with
  | zero => rfl
  | succ j ih =>
    have ih := ih (by omega)
    by_cases h : j < 17
    · have hx : ((frM n 0 17 who).getD j default).owner ≠ -1 := by
        rw [frM_get n 0 17 j who (by omega), if_neg (by omega), if_pos (by omega), if_pos (by omega)]
        exact frOwns_ne hw
      rw [frOf_succ, if_neg hx, ih]
      omega
    · have hx : ((frM n 0 17 who).getD j default).owner = -1 := by
        rw [frM_get n 0 17 j who (by omega), if_neg (by omega), if_neg (by omega)]
        rfl
      rw [frOf_succ, if_pos hx, List.length_append, ih]
      simp only [List.length_cons, List.length_nil]
      omega
end Go.Proofs.YtaoaachgnnengaaDoor

/-
  facadeworld.Number: any number as one from 0 to below a bound.
-/
namespace Go.Proofs.YtaoaachgnnengaaDoor
open Go.RowKit

set_option maxHeartbeats 400000 in
theorem number_any (n m : Int) (w : World) (h1 : -9223372036854775808 ≤ n) (h2 : n ≤ 9223372036854775807) (hm : 0 < m) (hm2 : m ≤ 1000000000) :
    Calls Tryd.prog 12 #[.int .i64 n, .int .i64 m] w fun e w' => e = .returned (.int .i64 (n % m)) ∧ w = w' := by
  by_cases hn : 0 ≤ n
  · have h3 := Int.emod_nonneg n (show m ≠ 0 by omega)
    have h4 : ¬ n % m < 0 := by omega
    go_enter Tryd.func12, Tryd.ntmps12
    go_wp2
    go_ret
    exact ⟨rfl, rfl⟩
  · obtain ⟨h3, h4, h5, h6⟩ := emod_of_tmod (show n < 0 by omega) hm
    obtain ⟨t, ht⟩ : ∃ t, n.tmod m = t := ⟨_, rfl⟩
    rw [ht] at h3 h4 h5 h6
    have H3 := Lib.hid h3
    have H4 := Lib.hid h4
    have hw := IntWalk.i64_in (t + m) (by omega)
    clear h3 h4
    by_cases hlt : t < 0
    · go_enter Tryd.func12, Tryd.ntmps12
      go_wp2
      go_ret
      exact ⟨by rw [← H3.out hlt]; rfl, rfl⟩
    · go_enter Tryd.func12, Tryd.ntmps12
      go_wp2
      go_ret
      exact ⟨by rw [← H4.out hlt]; rfl, rfl⟩
end Go.Proofs.YtaoaachgnnengaaDoor

/-
  TablesNew: the walk. Given where the sentinels lie.
-/
namespace Go.Proofs.YtaoaachgnnengaaDoor
open Go.RowKit

set_option maxRecDepth 100000 in
set_option maxHeartbeats 32000000 in
theorem tablesNew_full (E : Nat → Addr) (x0 x1 : Int) (w : World) (hE : ErrsAt errT gOf w E all16) (h0 : -9223372036854775808 ≤ x0 ∧ x0 ≤ 9223372036854775807) (hcw : (0 ≤ x1 ∧ x1 < 8) ∨ x1 = 100) (hcase : x0 % 30 + 1 < 17) :
    Calls Tryd.prog 7 #[.int .i64 x0, .int .i64 x1] w fun y w' => y = .returned (.bool true) ∧ Below w.heap.size w w' := by
  have HE16 : Hid (∀ wx, Below w.heap.size w wx → ErrsAt errT gOf wx E all16) := Lib.hid fun wx h => hE.mono h
  have HF1 := Lib.hid (tfirst_true E w hE)
  have HN1 := Lib.hid (fun wx => number_any x0 30 wx h0.1 h0.2 (by decide) (by decide))
  obtain ⟨xm, hxm⟩ : ∃ xm, x0 % 30 = xm := ⟨_, rfl⟩
  have hr : 0 ≤ xm ∧ xm < 30 := by omega
  rw [hxm] at HN1 hcase
  obtain ⟨n, hn⟩ : ∃ n : Nat, (n : Int) = xm + 1 := ⟨(xm + 1).toNat, by omega⟩
  have hn1 : 1 ≤ n := by omega
  have hn2 : n ≤ 1024 := by omega
  have HMM : Hid (∀ wx, Calls Tryd.prog 31 #[.int .i64 (xm + 1)] wx fun e w' => ∃ b v, e = .returned (.tuple #[.pointer (some ⟨b, 0, none⟩), .nilIface]) ∧ MAt w' b v n (List.replicate (16 * n) 0) ∧ wx.heap.size ≤ b ∧ (∀ k, inRow v k → wx.heap.size ≤ k) ∧ Below wx.heap.size wx w') := Lib.hid fun wx => by
    have := mm_new n wx hn1 hn2
    rw [hn] at this
    exact this
  have HFF : Hid (∀ wx, Calls Tryd.prog 13 #[.int .i64 (xm + 1)] wx fun e w' => ∃ b g, e = .returned (.tuple #[.pointer (some ⟨b, 0, none⟩), .nilIface]) ∧ FrAt 95 33 w' b g n (frU n 0 0 x1) ∧ wx.heap.size ≤ b ∧ wx.heap.size ≤ g ∧ Below wx.heap.size wx w') := Lib.hid fun wx => by
    have := fnew_ok n wx hn1 hn2
    rw [hn, ← frU_new n x1] at this
    exact this
  have HNO : Hid (¬ frOwns x1 ∨ n < 17) := Lib.hid (.inr (by omega))
  have HNC : Hid (noC x1 = 113) := Lib.hid (by unfold noC; rw [if_pos (by unfold frOwns; exact hcw)])
  have HNW : Hid (∀ (wb : World) (mb fb fg : Nat) (mv : Value), (∀ wx, Only (nz mv fg) wb wx → ErrsAt errT gOf wx E nine) → MAt wb mb mv n (List.replicate (16 * n) 0) → FrAt 95 33 wb fb fg n (frU n 0 0 x1) → ((∀ k, inRow mv k → k ≠ fb ∧ k ≠ fg) ∧ fg ≠ mb) → Calls Tryd.prog 32 #[.pointer (some ⟨mb, 0, none⟩), .pointer (some ⟨fb, 0, none⟩), .int .i64 x1] wb fun y w' => y = .returned (.tuple #[.pointer none, errC E 113]) ∧ FrAt 95 33 w' fb fg n (frU n 0 0 x1) ∧ Only (nz mv fg) wb w') := Lib.hid fun wb mb fb fg mv g1 g2 g3 g4 => by
    have := tnew_no E n mb fb fg mv (List.replicate (16 * n) 0) x1 wb g1 g2 g3 g4 HNO.out hn2
    refine this.mono ?_
    rintro y w' h
    unfold NoQ at h
    rw [HNC.out] at h
    exact ⟨h.1, h.2.2⟩
  have HOF : Hid (∀ (wx : World) (fb fg : Nat), FrAt 95 33 wx fb fg n (frU n 0 0 x1) → Calls Tryd.prog 18 #[.pointer (some ⟨fb, 0, none⟩), .int .i64 (-1)] wx fun e w' => ∃ ao cap, e = .returned (.slice ao n cap) ∧ Below wx.heap.size wx w') := Lib.hid fun wx fb fg h => by
    refine (fof_any (frU n 0 0 x1) fb n (some ⟨fg, 0, none⟩) (-1) wx (by rw [frU_len]; exact hn2) h.rd).mono ?_
    rintro y w' ⟨v, rfl, -, -, hb, ao, cap, rfl⟩
    rw [frU_len, ofN_none n x1 n (Nat.le_refl _)]
    exact ⟨ao, cap, rfl, hb⟩
  have HIS := Lib.hid (is_any E (errC E 113) 113 113 (errC_num E 113 (by decide)))
  rw [decide_eq_true (rfl : (113 : Int) = 113)] at HIS
  obtain ⟨ev, hev⟩ : ∃ ev, errC E 113 = ev := ⟨_, rfl⟩
  rw [hev] at HIS HNW
  clear hev HNO HNC

  have wk := IntWalk.i64_in (xm + 1) (by omega)
  have wk2 := IntWalk.i64_in (xm + 1 - 17) (by omega)
  have HN := Lib.hid hn
  have HXM := Lib.hid hr
  have HN2 := Lib.hid hn2
  clear hE h0 hxm hn hn1 hn2
  rcases hcw with ⟨c1, c2⟩ | rfl
  all_goals
    go_enter Tryd.func7, Tryd.ntmps7
    go_wp2_with fail
    refine HF1.out.mono ?_
    rintro y w0 ⟨rfl, hb0⟩
    have HB0 := Lib.hid hb0
    clear hb0
    go_wp2_with fail
    refine (HN1.out _).mono ?_
    rintro y wq ⟨rfl, rfl⟩
    go_wp2_with fail
    refine (HMM.out _).mono ?_
    rintro y wa ⟨mb, mv, rfl, hma, hsa, hva, hba⟩
    have HMA := Lib.hid hma
    have HSA : Hid (w.heap.size ≤ mb ∧ mb < wa.heap.size ∧ ∀ k, inRow mv k → w.heap.size ≤ k ∧ k < wa.heap.size) := Lib.hid ⟨Nat.le_trans HB0.out.size hsa, blk_lt hma.1, fun k hk => ⟨Nat.le_trans HB0.out.size (hva k hk), own_lt hma.2.1 hk⟩⟩
    have HBA := Lib.hid (HB0.out.trans (hba.mono HB0.out.size))
    clear hma hsa hva hba
    go_wp2_with fail
    refine (HFF.out _).mono ?_
    rintro y wb ⟨fb, fg, rfl, hfb, hsb, hsg, hbb⟩
    have HFB := Lib.hid hfb
    have HSB : Hid (wa.heap.size ≤ fb ∧ wa.heap.size ≤ fg ∧ w.heap.size ≤ fg ∧ fb < wb.heap.size) := Lib.hid ⟨hsb, hsg, Nat.le_trans HBA.out.size hsg, hfb.lt.1⟩
    have HMB := Lib.hid (HMA.out.below hbb)
    have HBB := Lib.hid (HBA.out.trans (hbb.mono HBA.out.size))
    have HZW : Hid (∀ wx, Only (nz mv fg) wb wx → Below w.heap.size w wx) := Lib.hid fun wx ho => HBB.out.trans (ho.below (B := w.heap.size) HBB.out.size fun j hj => by
      rcases hj with hj | hj
      · exact (HSA.out.2.2 j hj).1
      · rw [hj]; exact HSB.out.2.2.1)
    have HAP : Hid ((∀ k, inRow mv k → k ≠ fb ∧ k ≠ fg) ∧ fg ≠ mb) := Lib.hid ⟨fun j hj => ⟨fun e => by have := HSA.out.2.2 j hj; have := HSB.out.1; omega, fun e => by have := HSA.out.2.2 j hj; have := HSB.out.2.1; omega⟩, fun e => by have := HSA.out.2.1; have := HSB.out.2.1; omega⟩
    clear hfb hsb hsg hbb HMA HBA
    have HNX := Lib.hid (HNW.out wb mb fb fg mv (fun wx ho => errs9 (HE16.out wx (HZW.out wx ho))) HMB.out HFB.out HAP.out)
    go_wp2_with fail
    refine HNX.out.mono ?_
    rintro y wc ⟨rfl, hfc, hoc⟩
    have HBC := Lib.hid (HZW.out _ hoc)
    have HFC := Lib.hid hfc
    clear hfc hoc
    go_wp2_with fail
    refine (HIS.out _ (HE16.out _ HBC.out)).mono ?_
    rintro y wd ⟨rfl, hbd⟩
    have HBD := Lib.hid (HBC.out.trans (hbd.mono HBC.out.size))
    have HOD := Lib.hid (HOF.out _ _ _ (HFC.out.below hbd))
    clear hbd
    go_wp2_with fail
    refine HOD.out.mono ?_
    rintro y we ⟨ao, cap, rfl, hbe⟩
    have HBE := Lib.hid (HBD.out.trans (hbe.mono HBD.out.size))
    clear hbe
    go_wp2_with fail
    go_ret
    exact ⟨by rw [HN.out]; first | rfl | simp, HBE.out⟩

set_option maxRecDepth 100000 in
set_option maxHeartbeats 32000000 in
theorem tablesNew_no (E : Nat → Addr) (x0 x1 : Int) (w : World) (hE : ErrsAt errT gOf w E all16) (h0 : -9223372036854775808 ≤ x0 ∧ x0 ≤ 9223372036854775807) (hcw : (x1 < 0 ∧ (x1 == 100) = false) ∨ (¬ x1 < 0 ∧ ¬ x1 < 8 ∧ (x1 == 100) = false)) (hcase : x0 % 30 + 1 < 1000) :
    Calls Tryd.prog 7 #[.int .i64 x0, .int .i64 x1] w fun y w' => y = .returned (.bool true) ∧ Below w.heap.size w w' := by
  have HE16 : Hid (∀ wx, Below w.heap.size w wx → ErrsAt errT gOf wx E all16) := Lib.hid fun wx h => hE.mono h
  have HF1 := Lib.hid (tfirst_true E w hE)
  have HN1 := Lib.hid (fun wx => number_any x0 30 wx h0.1 h0.2 (by decide) (by decide))
  obtain ⟨xm, hxm⟩ : ∃ xm, x0 % 30 = xm := ⟨_, rfl⟩
  have hr : 0 ≤ xm ∧ xm < 30 := by omega
  rw [hxm] at HN1 hcase
  obtain ⟨n, hn⟩ : ∃ n : Nat, (n : Int) = xm + 1 := ⟨(xm + 1).toNat, by omega⟩
  have hn1 : 1 ≤ n := by omega
  have hn2 : n ≤ 1024 := by omega
  have HMM : Hid (∀ wx, Calls Tryd.prog 31 #[.int .i64 (xm + 1)] wx fun e w' => ∃ b v, e = .returned (.tuple #[.pointer (some ⟨b, 0, none⟩), .nilIface]) ∧ MAt w' b v n (List.replicate (16 * n) 0) ∧ wx.heap.size ≤ b ∧ (∀ k, inRow v k → wx.heap.size ≤ k) ∧ Below wx.heap.size wx w') := Lib.hid fun wx => by
    have := mm_new n wx hn1 hn2
    rw [hn] at this
    exact this
  have HFF : Hid (∀ wx, Calls Tryd.prog 13 #[.int .i64 (xm + 1)] wx fun e w' => ∃ b g, e = .returned (.tuple #[.pointer (some ⟨b, 0, none⟩), .nilIface]) ∧ FrAt 95 33 w' b g n (frU n 0 0 x1) ∧ wx.heap.size ≤ b ∧ wx.heap.size ≤ g ∧ Below wx.heap.size wx w') := Lib.hid fun wx => by
    have := fnew_ok n wx hn1 hn2
    rw [hn, ← frU_new n x1] at this
    exact this
  have HNO : Hid (¬ frOwns x1 ∨ n < 17) := Lib.hid (.inl (by unfold frOwns; rcases hcw with ⟨h, -⟩ | ⟨h1, h2, h3⟩; omega; have h4 : x1 ≠ 100 := (by simpa using h3); omega))
  have HNC : Hid (noC x1 = 103) := Lib.hid (by unfold noC; rw [if_neg (by unfold frOwns; rcases hcw with ⟨h, -⟩ | ⟨h1, h2, h3⟩; omega; have h4 : x1 ≠ 100 := (by simpa using h3); omega)])
  have HNW : Hid (∀ (wb : World) (mb fb fg : Nat) (mv : Value), (∀ wx, Only (nz mv fg) wb wx → ErrsAt errT gOf wx E nine) → MAt wb mb mv n (List.replicate (16 * n) 0) → FrAt 95 33 wb fb fg n (frU n 0 0 x1) → ((∀ k, inRow mv k → k ≠ fb ∧ k ≠ fg) ∧ fg ≠ mb) → Calls Tryd.prog 32 #[.pointer (some ⟨mb, 0, none⟩), .pointer (some ⟨fb, 0, none⟩), .int .i64 x1] wb fun y w' => y = .returned (.tuple #[.pointer none, errC E 103]) ∧ FrAt 95 33 w' fb fg n (frU n 0 0 x1) ∧ Only (nz mv fg) wb w') := Lib.hid fun wb mb fb fg mv g1 g2 g3 g4 => by
    have := tnew_no E n mb fb fg mv (List.replicate (16 * n) 0) x1 wb g1 g2 g3 g4 HNO.out hn2
    refine this.mono ?_
    rintro y w' h
    unfold NoQ at h
    rw [HNC.out] at h
    exact ⟨h.1, h.2.2⟩
  have HOF : Hid (∀ (wx : World) (fb fg : Nat), FrAt 95 33 wx fb fg n (frU n 0 0 x1) → Calls Tryd.prog 18 #[.pointer (some ⟨fb, 0, none⟩), .int .i64 (-1)] wx fun e w' => ∃ ao cap, e = .returned (.slice ao n cap) ∧ Below wx.heap.size wx w') := Lib.hid fun wx fb fg h => by
    refine (fof_any (frU n 0 0 x1) fb n (some ⟨fg, 0, none⟩) (-1) wx (by rw [frU_len]; exact hn2) h.rd).mono ?_
    rintro y w' ⟨v, rfl, -, -, hb, ao, cap, rfl⟩
    rw [frU_len, ofN_none n x1 n (Nat.le_refl _)]
    exact ⟨ao, cap, rfl, hb⟩
  have HIS := Lib.hid (is_any E (errC E 103) 103 103 (errC_num E 103 (by decide)))
  rw [decide_eq_true (rfl : (103 : Int) = 103)] at HIS
  obtain ⟨ev, hev⟩ : ∃ ev, errC E 103 = ev := ⟨_, rfl⟩
  rw [hev] at HIS HNW
  clear hev HNO HNC

  have wk := IntWalk.i64_in (xm + 1) (by omega)
  have wk2 := IntWalk.i64_in (xm + 1 - 17) (by omega)
  have HN := Lib.hid hn
  have HXM := Lib.hid hr
  have HN2 := Lib.hid hn2
  clear hE h0 hxm hn hn1 hn2
  rcases hcw with ⟨c1, c3⟩ | ⟨c1, c2, c3⟩
  all_goals
    go_enter Tryd.func7, Tryd.ntmps7
    go_wp2_with fail
    refine HF1.out.mono ?_
    rintro y w0 ⟨rfl, hb0⟩
    have HB0 := Lib.hid hb0
    clear hb0
    go_wp2_with fail
    refine (HN1.out _).mono ?_
    rintro y wq ⟨rfl, rfl⟩
    go_wp2_with fail
    refine (HMM.out _).mono ?_
    rintro y wa ⟨mb, mv, rfl, hma, hsa, hva, hba⟩
    have HMA := Lib.hid hma
    have HSA : Hid (w.heap.size ≤ mb ∧ mb < wa.heap.size ∧ ∀ k, inRow mv k → w.heap.size ≤ k ∧ k < wa.heap.size) := Lib.hid ⟨Nat.le_trans HB0.out.size hsa, blk_lt hma.1, fun k hk => ⟨Nat.le_trans HB0.out.size (hva k hk), own_lt hma.2.1 hk⟩⟩
    have HBA := Lib.hid (HB0.out.trans (hba.mono HB0.out.size))
    clear hma hsa hva hba
    go_wp2_with fail
    refine (HFF.out _).mono ?_
    rintro y wb ⟨fb, fg, rfl, hfb, hsb, hsg, hbb⟩
    have HFB := Lib.hid hfb
    have HSB : Hid (wa.heap.size ≤ fb ∧ wa.heap.size ≤ fg ∧ w.heap.size ≤ fg ∧ fb < wb.heap.size) := Lib.hid ⟨hsb, hsg, Nat.le_trans HBA.out.size hsg, hfb.lt.1⟩
    have HMB := Lib.hid (HMA.out.below hbb)
    have HBB := Lib.hid (HBA.out.trans (hbb.mono HBA.out.size))
    have HZW : Hid (∀ wx, Only (nz mv fg) wb wx → Below w.heap.size w wx) := Lib.hid fun wx ho => HBB.out.trans (ho.below (B := w.heap.size) HBB.out.size fun j hj => by
      rcases hj with hj | hj
      · exact (HSA.out.2.2 j hj).1
      · rw [hj]; exact HSB.out.2.2.1)
    have HAP : Hid ((∀ k, inRow mv k → k ≠ fb ∧ k ≠ fg) ∧ fg ≠ mb) := Lib.hid ⟨fun j hj => ⟨fun e => by have := HSA.out.2.2 j hj; have := HSB.out.1; omega, fun e => by have := HSA.out.2.2 j hj; have := HSB.out.2.1; omega⟩, fun e => by have := HSA.out.2.1; have := HSB.out.2.1; omega⟩
    clear hfb hsb hsg hbb HMA HBA
    have HNX := Lib.hid (HNW.out wb mb fb fg mv (fun wx ho => errs9 (HE16.out wx (HZW.out wx ho))) HMB.out HFB.out HAP.out)
    go_wp2_with fail
    refine HNX.out.mono ?_
    rintro y wc ⟨rfl, hfc, hoc⟩
    have HBC := Lib.hid (HZW.out _ hoc)
    have HFC := Lib.hid hfc
    clear hfc hoc
    go_wp2_with fail
    refine (HIS.out _ (HE16.out _ HBC.out)).mono ?_
    rintro y wd ⟨rfl, hbd⟩
    have HBD := Lib.hid (HBC.out.trans (hbd.mono HBC.out.size))
    have HOD := Lib.hid (HOF.out _ _ _ (HFC.out.below hbd))
    clear hbd
    go_wp2_with fail
    refine HOD.out.mono ?_
    rintro y we ⟨ao, cap, rfl, hbe⟩
    have HBE := Lib.hid (HBD.out.trans (hbe.mono HBD.out.size))
    clear hbe
    go_wp2_with fail
    go_ret
    exact ⟨by rw [HN.out]; first | rfl | simp, HBE.out⟩

set_option maxRecDepth 100000 in
set_option maxHeartbeats 32000000 in
theorem tablesNew_ok (E : Nat → Addr) (x0 x1 : Int) (w : World) (hE : ErrsAt errT gOf w E all16) (h0 : -9223372036854775808 ≤ x0 ∧ x0 ≤ 9223372036854775807) (hcw : (0 ≤ x1 ∧ x1 < 8) ∨ x1 = 100) (hcase : ¬ x0 % 30 + 1 < 17) :
    Calls Tryd.prog 7 #[.int .i64 x0, .int .i64 x1] w fun y w' => y = .returned (.bool true) ∧ Below w.heap.size w w' := by
  have HE16 : Hid (∀ wx, Below w.heap.size w wx → ErrsAt errT gOf wx E all16) := Lib.hid fun wx h => hE.mono h
  have HF1 := Lib.hid (tfirst_true E w hE)
  have HN1 := Lib.hid (fun wx => number_any x0 30 wx h0.1 h0.2 (by decide) (by decide))
  obtain ⟨xm, hxm⟩ : ∃ xm, x0 % 30 = xm := ⟨_, rfl⟩
  have hr : 0 ≤ xm ∧ xm < 30 := by omega
  rw [hxm] at HN1 hcase
  obtain ⟨n, hn⟩ : ∃ n : Nat, (n : Int) = xm + 1 := ⟨(xm + 1).toNat, by omega⟩
  have hn1 : 1 ≤ n := by omega
  have hn2 : n ≤ 1024 := by omega
  have HMM : Hid (∀ wx, Calls Tryd.prog 31 #[.int .i64 (xm + 1)] wx fun e w' => ∃ b v, e = .returned (.tuple #[.pointer (some ⟨b, 0, none⟩), .nilIface]) ∧ MAt w' b v n (List.replicate (16 * n) 0) ∧ wx.heap.size ≤ b ∧ (∀ k, inRow v k → wx.heap.size ≤ k) ∧ Below wx.heap.size wx w') := Lib.hid fun wx => by
    have := mm_new n wx hn1 hn2
    rw [hn] at this
    exact this
  have HFF : Hid (∀ wx, Calls Tryd.prog 13 #[.int .i64 (xm + 1)] wx fun e w' => ∃ b g, e = .returned (.tuple #[.pointer (some ⟨b, 0, none⟩), .nilIface]) ∧ FrAt 95 33 w' b g n (frU n 0 0 x1) ∧ wx.heap.size ≤ b ∧ wx.heap.size ≤ g ∧ Below wx.heap.size wx w') := Lib.hid fun wx => by
    have := fnew_ok n wx hn1 hn2
    rw [hn, ← frU_new n x1] at this
    exact this
  have HNO : Hid (17 ≤ n) := Lib.hid (by omega)
  have HW : Hid (frOwns x1) := Lib.hid (by unfold frOwns; exact hcw)
  have HNW : Hid (∀ (wb : World) (mb fb fg : Nat) (mv : Value), (∀ wx, Only (nz mv fg) wb wx → ErrsAt errT gOf wx E nine) → MAt wb mb mv n (List.replicate (16 * n) 0) → FrAt 95 33 wb fb fg n (frU n 0 0 x1) → ((∀ k, inRow mv k → k ≠ fb ∧ k ≠ fg) ∧ fg ≠ mb) → Calls Tryd.prog 32 #[.pointer (some ⟨mb, 0, none⟩), .pointer (some ⟨fb, 0, none⟩), .int .i64 x1] wb fun y w' => y = .returned (.tuple #[.pointer (some ⟨wb.heap.size + 1, 0, none⟩), .nilIface]) ∧ FrAt 95 33 w' fb fg n (frM n 0 17 x1) ∧ Only (nz mv fg) wb w') := Lib.hid fun wb mb fb fg mv g1 g2 g3 g4 => by
    refine (tnew_all E n 0 mb fb fg mv (List.replicate (16 * n) 0) x1 wb g1 g2 g3 g4 HW.out (by have := HNO.out; omega) hn2).mono ?_
    rintro y w' ⟨pv, lv, rfl, hp, ho, -, -⟩
    exact ⟨rfl, hp.fr, ho⟩
  have HOF : Hid (∀ (wx : World) (fb fg : Nat), FrAt 95 33 wx fb fg n (frM n 0 17 x1) → Calls Tryd.prog 18 #[.pointer (some ⟨fb, 0, none⟩), .int .i64 x1] wx fun e w' => ∃ ao cap, e = .returned (.slice ao 17 cap) ∧ Below wx.heap.size wx w') := Lib.hid fun wx fb fg h => by
    refine (fof_any (frM n 0 17 x1) fb n (some ⟨fg, 0, none⟩) x1 wx (by rw [frM_len]; exact hn2) h.rd).mono ?_
    rintro y w' ⟨v, rfl, -, -, hb, ao, cap, rfl⟩
    have h17 : min n 17 = 17 := by have := HNO.out; omega
    rw [frM_len, ofM_who n x1 HW.out n (Nat.le_refl _), h17]
    exact ⟨ao, cap, rfl, hb⟩
  obtain ⟨q, hq⟩ : ∃ q, n - 17 = q := ⟨_, rfl⟩
  have HQ : Hid ((q : Int) = xm + 1 - 17) := Lib.hid (by have := HNO.out; omega)
  have HOG : Hid (∀ (wx : World) (fb fg : Nat), FrAt 95 33 wx fb fg n (frM n 0 17 x1) → Calls Tryd.prog 18 #[.pointer (some ⟨fb, 0, none⟩), .int .i64 (-1)] wx fun e w' => ∃ ao cap, e = .returned (.slice ao q cap) ∧ Below wx.heap.size wx w') := Lib.hid fun wx fb fg h => by
    refine (fof_any (frM n 0 17 x1) fb n (some ⟨fg, 0, none⟩) (-1) wx (by rw [frM_len]; exact hn2) h.rd).mono ?_
    rintro y w' ⟨v, rfl, -, -, hb, ao, cap, rfl⟩
    rw [frM_len, ofM_none n x1 HW.out n (Nat.le_refl _), hq]
    exact ⟨ao, cap, rfl, hb⟩
  clear hq HNO HW

  have wk := IntWalk.i64_in (xm + 1) (by omega)
  have wk2 := IntWalk.i64_in (xm + 1 - 17) (by omega)
  have HN := Lib.hid hn
  have HXM := Lib.hid hr
  have HN2 := Lib.hid hn2
  clear hE h0 hxm hn hn1 hn2
  rcases hcw with ⟨c1, c2⟩ | rfl
  all_goals
    go_enter Tryd.func7, Tryd.ntmps7
    go_wp2_with fail
    refine HF1.out.mono ?_
    rintro y w0 ⟨rfl, hb0⟩
    have HB0 := Lib.hid hb0
    clear hb0
    go_wp2_with fail
    refine (HN1.out _).mono ?_
    rintro y wq ⟨rfl, rfl⟩
    go_wp2_with fail
    refine (HMM.out _).mono ?_
    rintro y wa ⟨mb, mv, rfl, hma, hsa, hva, hba⟩
    have HMA := Lib.hid hma
    have HSA : Hid (w.heap.size ≤ mb ∧ mb < wa.heap.size ∧ ∀ k, inRow mv k → w.heap.size ≤ k ∧ k < wa.heap.size) := Lib.hid ⟨Nat.le_trans HB0.out.size hsa, blk_lt hma.1, fun k hk => ⟨Nat.le_trans HB0.out.size (hva k hk), own_lt hma.2.1 hk⟩⟩
    have HBA := Lib.hid (HB0.out.trans (hba.mono HB0.out.size))
    clear hma hsa hva hba
    go_wp2_with fail
    refine (HFF.out _).mono ?_
    rintro y wb ⟨fb, fg, rfl, hfb, hsb, hsg, hbb⟩
    have HFB := Lib.hid hfb
    have HSB : Hid (wa.heap.size ≤ fb ∧ wa.heap.size ≤ fg ∧ w.heap.size ≤ fg ∧ fb < wb.heap.size) := Lib.hid ⟨hsb, hsg, Nat.le_trans HBA.out.size hsg, hfb.lt.1⟩
    have HMB := Lib.hid (HMA.out.below hbb)
    have HBB := Lib.hid (HBA.out.trans (hbb.mono HBA.out.size))
    have HZW : Hid (∀ wx, Only (nz mv fg) wb wx → Below w.heap.size w wx) := Lib.hid fun wx ho => HBB.out.trans (ho.below (B := w.heap.size) HBB.out.size fun j hj => by
      rcases hj with hj | hj
      · exact (HSA.out.2.2 j hj).1
      · rw [hj]; exact HSB.out.2.2.1)
    have HAP : Hid ((∀ k, inRow mv k → k ≠ fb ∧ k ≠ fg) ∧ fg ≠ mb) := Lib.hid ⟨fun j hj => ⟨fun e => by have := HSA.out.2.2 j hj; have := HSB.out.1; omega, fun e => by have := HSA.out.2.2 j hj; have := HSB.out.2.1; omega⟩, fun e => by have := HSA.out.2.1; have := HSB.out.2.1; omega⟩
    clear hfb hsb hsg hbb HMA HBA
    have HNX := Lib.hid (HNW.out wb mb fb fg mv (fun wx ho => errs9 (HE16.out wx (HZW.out wx ho))) HMB.out HFB.out HAP.out)
    go_wp2_with fail
    refine HNX.out.mono ?_
    rintro y wc ⟨rfl, hfc, hoc⟩
    have HBC := Lib.hid (HZW.out _ hoc)
    have HOD := Lib.hid (HOF.out _ _ _ hfc)
    have HFC := Lib.hid hfc
    clear hfc hoc
    go_wp2_with fail
    refine HOD.out.mono ?_
    rintro y wd ⟨ao, cap, rfl, hbd⟩
    have HBD := Lib.hid (HBC.out.trans (hbd.mono HBC.out.size))
    have HOE := Lib.hid (HOG.out _ _ _ (HFC.out.below hbd))
    clear hbd
    go_wp2_with fail
    refine HOE.out.mono ?_
    rintro y we ⟨ao2, cap2, rfl, hbe⟩
    have HBE := Lib.hid (HBD.out.trans (hbe.mono HBD.out.size))
    clear hbe
    go_wp2_with fail
    go_ret
    exact ⟨by rw [HQ.out]; first | rfl | simp, HBE.out⟩

theorem tablesNew_walk (E : Nat → Addr) (x0 x1 : Int) (w : World) (hE : ErrsAt errT gOf w E all16) (h0 : -9223372036854775808 ≤ x0 ∧ x0 ≤ 9223372036854775807) :
    Calls Tryd.prog 7 #[.int .i64 x0, .int .i64 x1] w fun y w' => y = .returned (.bool true) ∧ Below w.heap.size w w' := by
  by_cases hw : (0 ≤ x1 ∧ x1 < 8) ∨ x1 = 100
  · by_cases hc : x0 % 30 + 1 < 17
    · exact tablesNew_full E x0 x1 w hE h0 hw hc
    · exact tablesNew_ok E x0 x1 w hE h0 hw hc
  · exact tablesNew_no E x0 x1 w hE h0 (by
      by_cases h1 : x1 < 0
      · exact .inl ⟨h1, by simp; omega⟩
      · have h3 : x1 ≠ 100 := fun e => hw (.inr e)
        exact .inr ⟨h1, by omega, by simpa using h3⟩) (by omega)
end Go.Proofs.YtaoaachgnnengaaDoor

