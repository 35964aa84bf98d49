/-
  p2m.Map: Clone; the document's own: place, AddFrame, PutFrame, OfFrame.
-/
import Derived.Test.YtfbicbdfmcdadaaDoorPmPut
import Derived.Test.YtfbicbdfmcdadaaDoorCopyInts
namespace Go.Proofs.YtfbicbdfmcdadaaDoor
open Go.RowKit

def addC (l : List Int) (x : Int) : Option Nat := if fairP x = false then some 2 else if x ∈ l then some 5 else if 512 ≤ l.length then some 3 else none
def addL (l : List Int) (x : Int) : List Int := if addC l x = none then l ++ [x] else l
def putC (l : List Int) (n x : Int) : Option Nat := if n < 0 ∨ (l.length : Int) ≤ n then some 6 else if fairP x = false then some 2 else if x ∈ l ∧ l.getD n.toNat 0 ≠ x then some 5 else none
def putL (l : List Int) (n x : Int) : List Int := if putC l n x = none then l.set n.toNat x else l
def codeOf : Option Nat → Int
  | none => 0
  | some k => ((101 + k : Nat) : Int)

set_option maxHeartbeats 800000 in
theorem place_ints (l : List Int) (n : Nat) (ao : Option Addr) (c1 : Nat) (x : Int) (w : World) (hl : AtL w ao (ints l)) (hn : l.length = n) (h : n ≤ 100000) :
    Calls Tryd.prog 74 #[.slice ao n c1, .int .i64 x] w fun e w' => ∃ r, e = .returned (.int .i64 r) ∧ IdxIs l x r ∧ w = w' := by
  subst hn
  have HL := Lib.hid hl
  clear hl
  go_enter Tryd.func74, Tryd.ntmps74
  go_wp2_with fail
  go_loop [5] (fun i => NotTo l x i) (fun i => l.length - (intOf i).toNat)
  case atStart => exact ⟨0, Nat.zero_le _, rfl, fun j hj => by omega⟩
  case round =>
    obtain ⟨k, hk, rfl, hno⟩ := hrel
    have HNO := Lib.hid hno
    clear hno
    by_cases hlt : k < l.length
    · obtain ⟨b, off, rfl, c0, -⟩ := HL.out k _ (ints_get l k hlt)
      have hki : (k : Int) < (l.length : Int) := by omega
      obtain ⟨z, hz⟩ : ∃ z, l.getD k 0 = z := ⟨_, rfl⟩
      rw [hz] at c0
      have HZ := Lib.hid hz
      clear hz
      by_cases hx : z = x
      · have hb : (z == x) = true := by simp [hx]
        have HX := Lib.hid hx
        clear hx
        go_wp2
        go_ret
        exact ⟨k, rfl, .inr ⟨k, hlt, rfl, by rw [HZ.out, HX.out], HNO.out⟩, rfl⟩
      · have hb : (z == x) = false := by simp [hx]
        have HX := Lib.hid hx
        clear hx
        go_wp2
        go_round
        case rel =>
          refine ⟨k + 1, by omega, by go_num, fun j hj => ?_⟩
          rcases Nat.lt_succ_iff_lt_or_eq.1 hj with h | rfl
          · exact HNO.out j h
          · rw [HZ.out]; exact HX.out
        case measure => simp [intOf]; omega
    · obtain rfl : k = l.length := by omega
      go_wp2
      go_ret
      exact ⟨-1, rfl, .inl ⟨rfl, HNO.out⟩, rfl⟩
set_option maxHeartbeats 400000 in
theorem ofFrame_any (l : List Int) (n : Nat) (ao : Option Addr) (c1 : Nat) (x : Int) (w : World) (hl : AtL w ao (ints l)) (hn : l.length = n) (h : n ≤ 100000) :
    Calls Tryd.prog 37 #[.slice ao n c1, .int .i64 x] w fun e w' => ∃ r, e = .returned (.int .i64 r) ∧ IdxIs l x r ∧ w = w' := by
  have HL := Lib.hid hl
  clear hl
  go_enter Tryd.func37, Tryd.ntmps37
  go_wp2_with fail
  refine (place_ints l n ao c1 x _ HL.out hn h).mono ?_
  rintro e w1 ⟨r, rfl, hr, rfl⟩
  have HR := Lib.hid hr
  clear hr
  go_wp2
  go_ret
  exact ⟨r, rfl, HR.out, rfl⟩

theorem copyInts_n (ao : Option Addr) (c1 n : Nat) (xs : List Int) (w : World) (hr : AtL w ao (ints xs)) (hx : xs.length = n) (hn : n ≤ 1000000000) :
    Calls Tryd.prog 75 #[.slice ao n c1] w fun e w' => ∃ v', e = .returned v' ∧ w'.ownsRow 0 3 1 v' n (ints xs) ∧ (∀ k, inRow v' k → w.heap.size ≤ k) ∧ Below w.heap.size w w' := by
  subst hx
  exact copyInts_any ao c1 xs w hr hn

/-- what the document's own answer: a row that reads as the list, there or new -/
def RefAns (l : List Int) (ao : Option Addr) (c : Option Nat) (w : World) (e : Ending) (w' : World) : Prop :=
  ∃ av cap, e = .returned (.tuple #[.slice av l.length cap, .int .i64 (codeOf c)]) ∧ AtL w' av (ints l) ∧ (av = ao ∨ ∀ b off, av = some ⟨b, off, none⟩ → w.heap.size ≤ b ∧ b < w'.heap.size) ∧ Below w.heap.size w w'

set_option maxRecDepth 100000 in
set_option maxHeartbeats 1600000 in
theorem addFrame_any (l : List Int) (ao : Option Addr) (c1 : Nat) (x : Int) (w : World) (hl : AtL w ao (ints l)) (hn : l.length ≤ 1000) :
    Calls Tryd.prog 34 #[.slice ao l.length c1, .int .i64 x] w (RefAns (addL l x) ao (addC l x) w) := by
  obtain ⟨i0, hi, hz0, hz1, hz2⟩ := info_parts infoPInt
  have HL := Lib.hid hl
  clear hl
  by_cases hx : fairP x = true
  · have hx0 : 0 ≤ x := by simp [fairP] at hx; exact hx.1
    have hx1 : x < 1024 := by simp [fairP] at hx; exact hx.2
    by_cases hm : x ∈ l
    · have HC : Hid (addC l x = some 5) := Lib.hid (by simp [addC, hx, hm])
      have HA : Hid (addL l x = l) := Lib.hid (by unfold addL; rw [if_neg (by rw [HC.out]; simp)])
      have HM := Lib.hid hm
      clear hx hm
      rw [HC.out, HA.out]
      go_enter Tryd.func34, Tryd.ntmps34
      go_wp2_with fail
      refine (place_ints l l.length ao c1 x _ HL.out rfl (by omega)).mono ?_
      rintro e w1 ⟨r, rfl, hr, rfl⟩
      have hr0 : 0 ≤ r := by obtain ⟨k, -, e, -, -⟩ := hr.pos HM.out; omega
      clear hr
      go_wp2
      go_ret2
      exact ⟨_, _, rfl, HL.out, .inl rfl, Below.refl _ _⟩
    · by_cases hf : 512 ≤ l.length
      · have HC : Hid (addC l x = some 3) := Lib.hid (by simp [addC, hx, hm, hf])
        have HA : Hid (addL l x = l) := Lib.hid (by unfold addL; rw [if_neg (by rw [HC.out]; simp)])
        have HM := Lib.hid hm
        have hf2 : (512 : Int) ≤ (l.length : Int) := by omega
        clear hx hm
        rw [HC.out, HA.out]
        go_enter Tryd.func34, Tryd.ntmps34
        go_wp2_with fail
        refine (place_ints l l.length ao c1 x _ HL.out rfl (by omega)).mono ?_
        rintro e w1 ⟨r, rfl, hr, rfl⟩
        obtain rfl := hr.neg HM.out
        clear hr
        go_wp2
        go_ret2
        exact ⟨_, _, rfl, HL.out, .inl rfl, Below.refl _ _⟩
      · have HC : Hid (addC l x = none) := Lib.hid (by simp [addC, hx, hm]; omega)
        have HA : Hid (addL l x = l ++ [x]) := Lib.hid (by unfold addL; rw [if_pos HC.out])
        have HM := Lib.hid hm
        have hf2 : (l.length : Int) < (512 : Int) := by omega
        clear hx hm
        rw [HC.out, HA.out]
        go_enter Tryd.func34, Tryd.ntmps34
        go_wp2_with fail
        refine (place_ints l l.length ao c1 x _ HL.out rfl (by omega)).mono ?_
        rintro e w1 ⟨r, rfl, hr, rfl⟩
        obtain rfl := hr.neg HM.out
        clear hr
        go_wp2_with fail
        refine (copyInts_n ao c1 l.length l _ HL.out rfl (by omega)).mono ?_
        rintro e w1 ⟨v1, rfl, ho1, hf1, hb1⟩
        have HO1 := Lib.hid ho1
        have HF1 := Lib.hid hf1
        have HB1 := Lib.hid hb1
        clear ho1 hf1 hb1
        go_wp2_with (at_builtin; refine wpList_append_sep _ rfl _ _ 45 rfl 3 i0 (.int .i64 0) 1 8 Tryd.underlying45 hi hz0 hz1 hz2 rfl (by decide) _ _ _ rfl (HO1.out.alloc _) ⟨w1.heap.size, 0, none⟩ 1 1 [.int .i64 x] rfl rfl (cell_one_new _ _ _) (by simp [Value.oneCell']) (by unfold maxLen; omega) (by omega) ?_)
        intro v' wx ho2 hg2 hs2
        have e1 : ints l ++ [Value.int .i64 x] = ints (l ++ [x]) := by simp [ints]
        rw [e1] at ho2
        have hfr : ∀ k, inRow v' k → w.heap.size ≤ k := fun k hk => by
          rcases hs2 k hk with h | h
          · exact HF1.out k h
          · have h' := h
            have := HB1.out.size
            try simp only [World.size_alloc] at h'
            omega
        have HBX := Lib.hid ((HB1.out.alloc HB1.out.size (.cells #[.int .i64 x] 3)).grown hg2 (by have := HB1.out.size; simp; omega) (fun k hk => HF1.out k hk))
        obtain ⟨ao2, cap2, rfl, hat⟩ := atL_of_own ho2
        have HAT := Lib.hid hat
        have HFR : Hid (∀ b off, ao2 = some ⟨b, off, none⟩ → w.heap.size ≤ b ∧ b < wx.heap.size) := Lib.hid fun b off e => by subst e; exact ⟨hfr b rfl, own_lt (k := b) ho2 rfl⟩
        have HLN : Hid ((l ++ [x]).length = l.length + 1) := Lib.hid (by simp)
        clear ho2 hg2 hs2 hfr hat e1
        go_wp2
        go_ret2
        exact ⟨ao2, cap2, by rw [HLN.out]; rfl, HAT.out, .inr HFR.out, HBX.out⟩
  · have HC : Hid (addC l x = some 2) := Lib.hid (by simp [addC, hx])
    have HA : Hid (addL l x = l) := Lib.hid (by unfold addL; rw [if_neg (by rw [HC.out]; simp)])
    rw [HC.out, HA.out]
    by_cases hx0 : x < 0
    · clear hx
      go_enter Tryd.func34, Tryd.ntmps34
      go_wp2
      go_ret2
      exact ⟨_, _, rfl, HL.out, .inl rfl, Below.refl _ _⟩
    · have hx1 : 1024 ≤ x := by simp [fairP] at hx; omega
      clear hx
      go_enter Tryd.func34, Tryd.ntmps34
      go_wp2
      go_ret2
      exact ⟨_, _, rfl, HL.out, .inl rfl, Below.refl _ _⟩
end Go.Proofs.YtfbicbdfmcdadaaDoor
