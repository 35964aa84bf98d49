/-
  DevCopies: for every keys, sector, words the call returns true; nothing that was there is turned. No conditions.
-/
import Derived.Test.YtljmdgoedmgikaaDevPair
import Derived.Test.YtljmdgoedmgikaaSameSeens
import Derived.Test.YtljmdgoedmgikaaLaw
import Derived.BigQuiet
import Derived.Deep.RegionHeld3
namespace Go.Proofs.Ytljmdgoedmgikaa
open Go.RowKit

def dOne (ks : List Int) (s x a : Int) : DevS := { keys := ks, sec := (List.replicate 16 0).set (s.toNat % 16) x, set := decide (0 < a), due := if 0 < a then 5 + a else 0, seen := [(2, s % 16, x)] }
def cOne (ks : List Int) (s x y : Int) : DevS := { keys := ks, sec := ((List.replicate 16 0).set (s.toNat % 16) x).set (s.toNat % 16) y, set := false, due := 0, seen := [(2, s % 16, x), (2, s % 16, y), (1, 0, 3)] }
theorem dOne_get (ks : List Int) (s x a : Int) : (dOne ks s x a).sec.getD (s.toNat % 16) 0 = x := by
  have h : s.toNat % 16 < 16 := Nat.mod_lt _ (by decide)
  simp [dOne, List.getD_eq_getElem?_getD, h]
theorem cOne_get (ks : List Int) (s x y : Int) : (cOne ks s x y).sec.getD (s.toNat % 16) 0 = y := by
  have h : s.toNat % 16 < 16 := Nat.mod_lt _ (by decide)
  simp [cOne, List.getD_eq_getElem?_getD, h]
theorem dOne_due (ks : List Int) (s x a : Int) : ((dOne ks s x a).set && decide ((dOne ks s x a).due ≤ 5 + a)) = decide (0 < a) := by
  by_cases h : 0 < a <;> simp [dOne, h]
def KeyedTo (ks : List Int) (w : World) (B : Nat) (i : Value) (wr : World) : Prop :=
  ∃ j : Nat, j ≤ ks.length ∧ i = .int .i64 (j : Int) ∧ DevAt wr B { keys := ks.take j } (fun k => B ≤ k) ∧ Below w.heap.size w wr ∧ w.heap.size ≤ B ∧ B ≤ wr.heap.size
def TakenTo (ks : List Int) (w : World) (B bd bc : Nat) (D C : DevS) (i : Value) (wr : World) : Prop :=
  ∃ j : Nat, j ≤ ks.length ∧ i = .int .i64 (j : Int) ∧ DevPair wr B bd bc D { C with keys := ks.drop j } ∧ Below w.heap.size w wr
theorem take_snoc (ks : List Int) (j : Nat) (h : j < ks.length) : ks.take j ++ [ks.getD j 0] = ks.take (j + 1) := by
  rw [List.take_succ_eq_append_getElem h, List.getD_eq_getElem?_getD, List.getElem?_eq_getElem h]
  rfl
theorem drop_cons (ks : List Int) (j : Nat) (h : j < ks.length) : ks.drop j = ks.getD j 0 :: ks.drop (j + 1) := by
  rw [List.drop_eq_getElem_cons h, List.getD_eq_getElem?_getD, List.getElem?_eq_getElem h]
  rfl

set_option maxHeartbeats 400000 in
theorem copies_many (n : Nat) (ao : Option Addr) (c : Nat) (s x a : Int) (w : World) (h : 20 < n) :
    Calls Try.prog 6 #[.slice ao n c, .int .u32 s, .int .u32 x, .int .u32 a] w fun e w' => e = .returned (.bool true) ∧ Below w.heap.size w w' := by
  have h2 : (20 : Int) < (n : Int) := by omega
  go_enter Try.func6, Try.ntmps6
  go_wp2_with fail
  refine (first_true _).mono ?_
  rintro e w1 ⟨rfl, hb1⟩
  go_wp2
  go_ret
  exact ⟨rfl, hb1⟩

set_option maxRecDepth 100000 in
set_option maxHeartbeats 3000000 in
theorem copies_some (ks : List Int) (ao : Option Addr) (cp : Nat) (s x a : Int) (w : World) (hk : AtL w ao (u32s ks)) (h20 : ks.length ≤ 20) (hs0 : 0 ≤ s) (hs1 : s ≤ 4294967295) (hx0 : 0 ≤ x) (hx1 : x ≤ 4294967295) (ha0 : 0 ≤ a) (ha1 : a ≤ 4294967295) :
    Calls Try.prog 6 #[.slice ao ks.length cp, .int .u32 s, .int .u32 x, .int .u32 a] w fun e w' => e = .returned (.bool true) ∧ Below w.heap.size w w' := by
  have HK := Lib.hid hk
  clear hk
  go_enter Try.func6, Try.ntmps6
  go_wp2_with fail
  refine (first_true _).mono ?_
  rintro e w1 ⟨rfl, hb1⟩
  have HD0 := Lib.hid (dev_new w1)
  have HB0 := Lib.hid (hb1.alloc hb1.size (.cells (devCells (.slice none 0 0) (List.replicate 16 0) false 0 (.slice none 0 0)) 28))
  have HS1 := Lib.hid hb1.size
  clear hb1
  go_wp2_with fail
  go_loopw [11] (fun i wr => KeyedTo ks w w1.heap.size i wr) (fun i _ => ks.length - (intOf i).toNat)
  case atStart => exact ⟨0, Nat.zero_le _, rfl, HD0.out, HB0.out, HS1.out, by simp⟩
  case round =>
    obtain ⟨j, hj, rfl, hd, hb, -, hz⟩ := hrel
    have HD := Lib.hid hd
    have HB := Lib.hid hb
    clear hd hb HD0 HB0
    by_cases hlt : j < ks.length
    · obtain ⟨b, off, rfl, c0, -⟩ := (HK.out.mono HB.out) j _ (u32s_get ks j hlt)
      have HT := Lib.hid (take_snoc ks j hlt)
      obtain ⟨z, hzz⟩ : ∃ z, ks.getD j 0 = z := ⟨_, rfl⟩
      rw [hzz] at c0 HT
      have hji : (j : Int) < (ks.length : Int) := by omega
      clear hzz
      go_wp2_with fail
      refine (press_room _ _ _ z _ HD.out (by simp; omega)).mono ?_
      rintro e w2 ⟨rfl, hd2, ho2⟩
      have HD2 : Hid (DevAt w2 w1.heap.size { keys := ks.take (j + 1) } (fun k => w1.heap.size ≤ k)) := Lib.hid (by
        have h := HD.out.own hd2
        have e := HT.out
        rw [← e]
        exact h)
      have HB2 := Lib.hid (HB.out.trans (ho2.below HB.out.size (fun k hk => Nat.le_trans HS1.out hk)))
      have HZ2 := Lib.hid (Nat.le_trans hz ho2.size)
      clear hd2 ho2 HT c0
      go_wp2
      go_roundw
      case rel => exact ⟨j + 1, by omega, by go_num, HD2.out, HB2.out, HS1.out, HZ2.out⟩
      case measure => simp [intOf]; omega
    · obtain rfl : j = ks.length := by omega
      rw [List.take_length] at HD
      go_wp2_with fail
      refine (put_any _ _ _ _ HD.out s x hs0 hs1 (show 0 < 100000 by decide)).mono ?_
      rintro e w2 ⟨rfl, hd2, ho2⟩
      have HD2 := Lib.hid (HD.out.own hd2)
      have HB2 := Lib.hid (HB.out.trans (ho2.below HB.out.size (fun k hk => Nat.le_trans HS1.out hk)))
      have HZ2 := Lib.hid (Nat.le_trans hz ho2.size)
      clear hd2 ho2 HD HB
      go_wp2_with fail
      refine (set_any _ _ _ _ HD2.out 5 a ha0 ha1 (by decide) (by decide)).mono ?_
      rintro e w3 ⟨rfl, hd3, ho3⟩
      have HD3 := Lib.hid hd3
      have HB3 := Lib.hid (HB2.out.trans (ho3.below HB2.out.size (fun k hk => Nat.le_trans HS1.out hk)))
      have HZ3 := Lib.hid (Nat.le_trans HZ2.out ho3.size)
      clear hd3 ho3 HD2 HB2 HZ2
      go_wp2_with fail
      refine (clone_any _ _ _ _ HD3.out (by show ks.length ≤ 64; omega) (Nat.lt_of_lt_of_le (show 1 < 2 by decide) (by decide))).mono ?_
      rintro e w4 ⟨bc, rfl, hc4, hb4⟩
      have HP4 : Hid (DevPair w4 w1.heap.size w1.heap.size bc (dOne ks s x a) (dOne ks s x a)) := Lib.hid (devPair_new (B := w1.heap.size) HD3.out (fun k hk => hk) HZ3.out hb4 hc4)
      have HB4 := Lib.hid (HB3.out.trans (hb4.mono HB3.out.size))
      clear hc4 hb4 HD3 HB3 HZ3
      obtain ⟨y, hy⟩ : ∃ y, IntKind.u32.wrap (x + 1) = y := ⟨_, rfl⟩
      have hyb : 0 ≤ y ∧ y ≤ 4294967295 := by
        rw [← hy]
        simp [IntKind.wrap, IntKind.signed, IntKind.bits]
        omega
      have hy0 := hyb.1
      have hy1 := hyb.2
      clear hyb
      go_wp2_with fail
      obtain ⟨F5, hF5⟩ := HP4.out.x
      have HF5 := Lib.hid hF5
      clear hF5
      refine (put_any _ _ _ _ HF5.out.1 s y hs0 hs1 (Nat.lt_of_lt_of_le (show 1 < 2 by decide) (by decide))).mono ?_
      rintro e w5 ⟨rfl, hd5, ho5⟩
      have HP5 := Lib.hid (HF5.out.2.2 _ _ _ hd5 (fun k h => h) ho5)
      have HB5 := Lib.hid (HB4.out.trans (ho5.below HB4.out.size (fun k hk => Nat.le_trans HS1.out (HF5.out.2.1 k hk))))
      clear hd5 ho5 HP4 HF5 HB4
      go_wp2_with fail
      obtain ⟨F6, hF6⟩ := HP5.out.x
      have HF6 := Lib.hid hF6
      clear hF6
      refine (rang_any _ _ _ _ HF6.out.1).mono ?_
      rintro e w6 ⟨rfl, hd6, ho6⟩
      have HP6 := Lib.hid (HF6.out.2.2 _ _ _ hd6 (fun k h => .inl h) ho6)
      have HB6 := Lib.hid (HB5.out.trans (ho6.below HB5.out.size (fun k hk => Nat.le_trans HS1.out (HF6.out.2.1 k hk))))
      clear hd6 ho6 HP5 HF6 HB5
      go_wp2_with fail
      obtain ⟨F7, hF7⟩ := HP6.out.x
      have HF7 := Lib.hid hF7
      clear hF7
      refine (out_any _ _ _ _ HF7.out.1 3 (Nat.lt_of_lt_of_le (show 2 < 3 by decide) (by decide))).mono ?_
      rintro e w7 ⟨rfl, hd7, ho7⟩
      have HP7 : Hid (DevPair w7 w1.heap.size w1.heap.size bc (dOne ks s x a) { cOne ks s x y with keys := ks.drop 0 }) := Lib.hid (HF7.out.2.2 _ _ _ hd7 (fun k h => h) ho7)
      have HB7 := Lib.hid (HB6.out.trans (ho7.below HB6.out.size (fun k hk => Nat.le_trans HS1.out (HF7.out.2.1 k hk))))
      clear hd7 ho7 HP6 HF7 HB6
      go_wp2_with fail
      go_loopw [13] (fun i wr => TakenTo ks w w1.heap.size w1.heap.size bc (dOne ks s x a) (cOne ks s x y) i wr) (fun i _ => ks.length - (intOf i).toNat)
      case atStart => exact ⟨0, Nat.zero_le _, rfl, HP7.out, HB7.out⟩
      case round =>
        obtain ⟨q, hq, rfl, hp, hb⟩ := hrel
        have HP := Lib.hid hp
        have HB := Lib.hid hb
        clear hp hb HP7 HB7
        by_cases hqt : q < ks.length
        · obtain ⟨b, off, rfl, c0, hbl⟩ := HK.out q _ (u32s_get ks q hqt)
          have HCN := Lib.hid (drop_cons ks q hqt)
          have HLN : Hid ((ks.drop q).length ≤ 64) := Lib.hid (by rw [List.length_drop]; omega)
          obtain ⟨z, hzz⟩ : ∃ z, ks.getD q 0 = z := ⟨_, rfl⟩
          rw [hzz] at c0 HCN
          have HKK : Hid (∀ wx, Below w.heap.size w wx → (Below w.heap.size w wx ∧ wx.cell? ⟨b, off + q, none⟩ = some (.int .u32 z))) := Lib.hid fun wx hwx => ⟨hwx, (hwx.cell (p := ⟨b, off + q, none⟩) hbl).trans c0⟩
          have hqi : (q : Int) < (ks.length : Int) := by omega
          obtain ⟨F8, hF8⟩ := HP.out.x
          have HF8 := Lib.hid hF8
          have hBd : Below w.heap.size w wr.drew := HB.out.drew
          clear hF8 hzz c0
          go_wp2_with fail
          go_region_held3 (fun w' => Below w.heap.size w w' ∧ w'.cell? ⟨b, off + q, none⟩ = some (.int .u32 z)) (exact HKK.out _ (by assumption))
            (first | (go_at_call 11; refine (in_some { cOne ks s x y with keys := ks.drop q } _ _ _ z (ks.drop (q + 1)) (DevAt.below HF8.out.1 (Below.drew (Below.refl _ _))) HCN.out HLN.out).mono ?_; rintro e w8 ⟨rfl, hd8, ho8⟩; have hBp : Below w.heap.size w w8 := HB.out.drew.trans (ho8.below HB.out.size (fun k hk => Nat.le_trans HS1.out (HF8.out.2.1 k hk)))))
          have HP8 : Hid (DevPair w8 w1.heap.size w1.heap.size bc (dOne ks s x a) { cOne ks s x y with keys := ks.drop (q + 1) }) := Lib.hid (HF8.out.2.2 _ _ _ hd8 (fun k h => h) ((Only.refl _ _).drew.trans ho8))
          have HB8 := Lib.hid hBp
          clear hd8 ho8 hBp HP HF8 HKK
          go_wp2
          go_roundw
          case rel => exact ⟨q + 1, by omega, by go_num, HP8.out, HB8.out⟩
          case measure => simp [intOf]; omega
        · obtain rfl : q = ks.length := by omega
          have HPX : Hid (DevPair wr w1.heap.size w1.heap.size bc (dOne ks s x a) (cOne [] s x y)) := Lib.hid (by
            have h := HP.out
            rw [List.drop_length] at h
            exact h)
          clear HP
          obtain ⟨F9, hF9⟩ := HPX.out.d
          have HF9 := Lib.hid hF9
          clear hF9
          go_wp2_with fail
          refine (seen_any _ _ _ _ HF9.out.1 (show 1 < 100000 by decide)).mono ?_
          rintro e w9 ⟨sv, rfl, hs9, hf9, hb9⟩
          rcases own_shape hs9 with ⟨-, hn9, -⟩ | ⟨g, gc, rfl, -, -⟩
          · simp [dOne] at hn9
          · have c9 : w9.cell? ⟨g, 2, none⟩ = some (.int .u32 x) := (own_cell hs9 2 (show 2 < 1 * 3 by decide)).trans rfl
            have f9 := own_free hs9 2
            have hgf := hf9 g rfl
            have HP9 := Lib.hid (HPX.out.below (hb9.setCell (p := ⟨g, 2, none⟩) hgf (.int .u32 y)))
            have HB9 := Lib.hid (HB.out.trans ((hb9.setCell (p := ⟨g, 2, none⟩) hgf (.int .u32 y)).mono HB.out.size))
            have hl1 : ((dOne ks s x a).seen).length = 1 := rfl
            clear hs9 hf9 hb9 HPX HF9 HB hgf
            rw [hl1]
            obtain ⟨w10, hw10⟩ : ∃ w10, w9.setCell ⟨g, 2, none⟩ (.int .u32 y) = w10 := ⟨_, rfl⟩
            rw [hw10] at HP9 HB9
            obtain ⟨F10, hF10⟩ := HP9.out.d
            have HF10 := Lib.hid hF10
            clear hF10 hl1
            go_wp2_with fail
            clear hw10
            refine (seen_any _ _ _ _ HF10.out.1 (show 1 < 100000 by decide)).mono ?_
            rintro e w11 ⟨tv, rfl, hs11, hf11, hb11⟩
            rcases own_shape hs11 with ⟨-, hn11, -⟩ | ⟨u, uc, rfl, -, -⟩
            · simp [dOne] at hn11
            · have HT11 := Lib.hid hs11
              have HP11 := Lib.hid (HP9.out.below hb11)
              have HB11 := Lib.hid (HB9.out.trans (hb11.mono HB9.out.size))
              have hl1 : ((dOne ks s x a).seen).length = 1 := rfl
              have HL1 := Lib.hid hl1
              rw [hl1]
              clear hs11 hf11 hb11 HP9 HF10 HB9 hl1 c9 f9
              have hla := IntWalk.i64_in (5 + a) (by omega)
              obtain ⟨F11, hF11⟩ := HP11.out.d
              obtain ⟨G11, hG11⟩ := HP11.out.x
              have HF11 := Lib.hid hF11
              have HG11 := Lib.hid hG11
              clear hF11 hG11
              go_wp2_with fail
              refine (keys_any _ _ _ _ HF11.out.1).mono ?_
              rintro e w12 ⟨rfl, rfl⟩
              rw [show (dOne ks s x a).keys.length = ks.length from rfl]
              go_wp2_with fail
              refine (keys_any _ _ _ _ HG11.out.1).mono ?_
              rintro e w12 ⟨rfl, rfl⟩
              rw [show (cOne [] s x y).keys.length = 0 from rfl]
              go_wp2_with fail
              refine (get_any _ _ _ _ HF11.out.1 s hs0 hs1).mono ?_
              rintro e w12 ⟨rfl, rfl⟩
              rw [dOne_get]
              go_wp2_with fail
              refine (get_any _ _ _ _ HG11.out.1 s hs0 hs1).mono ?_
              rintro e w12 ⟨rfl, rfl⟩
              rw [cOne_get]
              go_wp2_with fail
              refine (due_any _ _ _ _ HF11.out.1 _).mono ?_
              rintro e w12 ⟨rfl, rfl⟩
              rw [dOne_due]
              go_wp2_with fail
              refine (due_any _ _ _ _ HG11.out.1 _).mono ?_
              rintro e w12 ⟨rfl, rfl⟩
              rw [show ((cOne [] s x y).set && decide ((cOne [] s x y).due ≤ 5 + a)) = false from rfl]
              go_wp2_with fail
              refine (seen_any _ _ _ _ HG11.out.1 (show 3 < 100000 by decide)).mono ?_
              rintro e w12 ⟨cv, rfl, hs12, hf12, hb12⟩
              obtain ⟨ca, cc, rfl⟩ := own_slice hs12
              rw [show (cOne [] s x y).seen.length = 3 from rfl]
              have HT12 := Lib.hid (own_frame HT11.out (fun k hk => hb12.block k (own_lt HT11.out hk)))
              have HP12 := Lib.hid (HP11.out.below hb12)
              have HB12 := Lib.hid (HB11.out.trans (hb12.mono HB11.out.size))
              have c12 : w12.cell? ⟨u, 2, none⟩ = some (.int .u32 x) := (own_cell HT12.out 2 (show 2 < 1 * 3 by decide)).trans rfl
              obtain ⟨F12, hF12⟩ := HP12.out.d
              have HF12 := Lib.hid hF12
              clear hF12 hs12 hf12 hb12 HT11 HP11 HB11 HF11 HG11
              go_wp2_with fail
              refine (seen_any _ _ _ _ HF12.out.1 (show 1 < 100000 by decide)).mono ?_
              rintro e w13 ⟨ev, rfl, hs13, hf13, hb13⟩
              have HT13 := Lib.hid (own_frame HT12.out (fun k hk => hb13.block k (own_lt HT12.out hk)))
              have HS13 := Lib.hid hs13
              have HB13 := Lib.hid (HB12.out.trans (hb13.mono HB12.out.size))
              clear hs13 hf13 hb13 HT12 HP12 HB12 HF12 c12
              go_wp2_with fail
              refine (seens_refl _ _ (dOne ks s x a).seen _ (show 1 < 100000 by decide) (own_reads HS13.out) (own_reads HT13.out)).mono ?_
              rintro e w14 ⟨rfl, hb14⟩
              have HB14 := Lib.hid (HB13.out.trans (hb14.mono HB13.out.size))
              clear hb14
              go_wp2
              go_ret
              exact ⟨rfl, HB14.out⟩

theorem copies_walk (ks : List Int) (v : Value) (s x a : Int) (w : World) (hr : Reads w v ks.length (u32s ks)) (hs : 0 ≤ s ∧ s ≤ 4294967295) (hx : 0 ≤ x ∧ x ≤ 4294967295) (ha : 0 ≤ a ∧ a ≤ 4294967295) :
    Calls Try.prog 6 #[v, .int .u32 s, .int .u32 x, .int .u32 a] w fun e w' => e = .returned (.bool true) ∧ Below w.heap.size w w' := by
  obtain ⟨ao, cap, rfl, hk⟩ := atL_of_reads hr
  by_cases h : 20 < ks.length
  · exact copies_many _ _ _ _ _ _ _ h
  · exact copies_some ks ao cap s x a w hk (by omega) hs.1 hs.2 hx.1 hx.2 ha.1 ha.2
end Go.Proofs.Ytljmdgoedmgikaa
