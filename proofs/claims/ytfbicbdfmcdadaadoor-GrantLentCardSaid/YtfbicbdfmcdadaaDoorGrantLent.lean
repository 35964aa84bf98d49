/-
  GrantLent: for every loans, frame, guest the call returns true; nothing that was there is turned. Given where the sentinels lie.
-/
import Derived.Test.YtfbicbdfmcdadaaDoorGrOne
import Derived.Test.YtfbicbdfmcdadaaDoorNumber
namespace Go.Proofs.YtfbicbdfmcdadaaDoor
open Go.RowKit

theorem tdiv_in (z : Int) (h0 : -9223372036854775808 ≤ z) (h1 : z ≤ 9223372036854775807) : (-9223372036854775808 ≤ z.tdiv 8 ∧ z.tdiv 8 ≤ 9223372036854775807) ∧ -9223372036854775808 ≤ z.tdiv 16 ∧ z.tdiv 16 ≤ 9223372036854775807 := by
  have key : ∀ m : Int, 0 < m → -9223372036854775808 ≤ z.tdiv m ∧ z.tdiv m ≤ 9223372036854775807 := by
    intro m hm
    by_cases h : 0 ≤ z
    · rw [Int.tdiv_eq_ediv_of_nonneg h]
      have := Int.ediv_nonneg h (Int.le_of_lt hm)
      have := Int.ediv_le_self m h
      omega
    · have e : z = -(-z) := by omega
      rw [e, Int.neg_tdiv, Int.tdiv_eq_ediv_of_nonneg (by omega)]
      have := Int.ediv_nonneg (show 0 ≤ -z by omega) (Int.le_of_lt hm)
      have := Int.ediv_le_self m (show 0 ≤ -z by omega)
      omega
  exact ⟨key 8 (by decide), key 16 (by decide)⟩
def wOf (z : Int) : Bool := z.tdiv 8 % 2 == 1
def uOf (z : Int) : Bool := z.tdiv 16 % 2 == 1
def mkGr (f z : Int) : Gr := ⟨true, wOf z, uOf z, f, z % 8⟩
def tbl (l : List Int) (f : Int) (j : Nat) : List Gr := (l.take j).map (mkGr f) ++ List.replicate (16 - j) default
theorem tbl_zero (l : List Int) (f : Int) : tbl l f 0 = none16 := rfl
theorem tbl_len (l : List Int) (f : Int) (j : Nat) (h : j ≤ l.length) (h2 : l.length ≤ 16) : (tbl l f j).length = 16 := by simp [tbl]; omega
theorem tbl_get (l : List Int) (f : Int) (j : Nat) (h : j < l.length) (h2 : l.length ≤ 16) : (tbl l f j).getD j default = default := by
  rw [tbl, List.getD_eq_getElem?_getD, List.getElem?_append_right (by simp; omega), List.getElem?_replicate]
  rw [if_pos (by simp; omega)]
  rfl
theorem tbl_set (l : List Int) (f : Int) (j : Nat) (h : j < l.length) (h2 : l.length ≤ 16) : (tbl l f j).set j (mkGr f (l.getD j 0)) = tbl l f (j + 1) := by
  rw [tbl, List.set_append_right _ _ (by simp; omega), show 16 - j = (16 - (j + 1)) + 1 by omega, List.replicate_succ]
  rw [show j - ((l.take j).map (mkGr f)).length = 0 by simp; omega, List.set_cons_zero, tbl, List.take_succ_eq_append_getElem h, List.map_append, List.append_assoc]
  rw [List.getD_eq_getElem?_getD, List.getElem?_eq_getElem h]
  rfl
theorem tbl_any (p : Gr → Bool) (hp : p default = false) (l : List Int) (f : Int) (h2 : l.length ≤ 16) : (tbl l f l.length).any p = l.any (fun z => p (mkGr f z)) := by
  rw [tbl, List.take_length, List.any_append, List.any_map]
  have : (List.replicate (16 - l.length) (default : Gr)).any p = false := by
    rw [List.any_eq_false]
    intro y hy
    rw [List.eq_of_mem_replicate hy, hp]
    simp
  rw [this, Bool.or_false]
  rfl
def pS (ask z : Int) : Bool := uOf z && decide (z % 8 = ask)
def pW (ask z : Int) : Bool := pS ask z && wOf z
theorem tbl_lent (l : List Int) (f ask : Int) (h2 : l.length ≤ 16) : lentIs (tbl l f l.length) f ask = l.any (pS ask) ∧ lentW (tbl l f l.length) f ask = l.any (pW ask) := by
  constructor
  · rw [lentIs, tbl_any _ rfl l f h2]
    congr 1
    funext z
    by_cases h : z % 8 = ask <;> simp [lentTo, mkGr, pS, h]
  · rw [lentW, tbl_any _ rfl l f h2]
    congr 1
    funext z
    by_cases h : z % 8 = ask <;> simp [lentTo, mkGr, pS, pW, h]
theorem tbl_not (l : List Int) (f g ask : Int) (h2 : l.length ≤ 16) (hne : f ≠ g) : lentIs (tbl l f l.length) g ask = false ∧ lentW (tbl l f l.length) g ask = false := by
  constructor
  · rw [lentIs, tbl_any _ rfl l f h2, List.any_eq_false]
    intro z _
    simp [lentTo, mkGr, hne]
  · rw [lentW, tbl_any _ rfl l f h2, List.any_eq_false]
    intro z _
    simp [lentTo, mkGr, hne]

def LendTo (l : List Int) (f ask : Int) (w : World) (b : Nat) (s q i : Value) (wr : World) : Prop :=
  ∃ j : Nat, j ≤ l.length ∧ i = .int .i64 (j : Int) ∧ s = .bool ((l.take j).any (pS ask)) ∧ q = .bool ((l.take j).any (pW ask)) ∧ GAt wr b (tbl l f j) ∧ Below w.heap.size w wr

set_option maxHeartbeats 800000 in
theorem lent_many (E : Nat → Addr) (n : Nat) (ao : Option Addr) (c : Nat) (x y : Int) (w : World) (hE : ErrsAt errT gOf w E all16) (h : 16 < n) :
    Calls Tryd.prog 12 #[.slice ao n c, .int .i64 x, .int .i64 y] w fun e w' => e = .returned (.bool true) ∧ Below w.heap.size w w' := by
  have h2 : (16 : Int) < (n : Int) := by omega
  have HE := Lib.hid hE
  clear hE h
  go_enter Tryd.func12, Tryd.ntmps12
  go_wp2_with fail
  refine (gr_first E _ HE.out).mono ?_
  rintro e w1 ⟨rfl, hb1⟩
  go_wp2
  go_ret
  exact ⟨rfl, hb1⟩

set_option maxRecDepth 100000 in
set_option maxHeartbeats 2000000 in
theorem lent_some (E : Nat → Addr) (l : List Int) (ao : Option Addr) (c : Nat) (x y : Int) (w : World) (hE : ErrsAt errT gOf w E all16) (hl : AtL w ao (ints l)) (hl64 : ∀ z ∈ l, -9223372036854775808 ≤ z ∧ z ≤ 9223372036854775807) (hn : l.length ≤ 16) (hx : -9223372036854775808 ≤ x ∧ x ≤ 9223372036854775807) (hy : -9223372036854775808 ≤ y ∧ y ≤ 9223372036854775807) :
    Calls Tryd.prog 12 #[.slice ao l.length c, .int .i64 x, .int .i64 y] w fun e w' => e = .returned (.bool true) ∧ Below w.heap.size w w' := by
  have HX : Hid (∀ wx, Below w.heap.size w wx → ErrsAt errT gOf wx E all16) := Lib.hid fun wx h => hE.mono h
  have HL := Lib.hid hl
  have H64 := Lib.hid hl64
  have H0 := Lib.hid hx
  have H1 := Lib.hid hy
  clear hE hl hl64 hx hy
  go_enter Tryd.func12, Tryd.ntmps12
  go_wp2_with fail
  refine (gr_first E _ (HX.out _ (Below.refl _ _))).mono ?_
  rintro e w1 ⟨rfl, hb1⟩
  have HB1 := Lib.hid hb1
  clear hb1
  go_wp2_with fail
  refine (number_any x 1024 _ H0.out.1 H0.out.2 (by decide) (by decide)).mono ?_
  rintro e w2 ⟨rfl, rfl⟩
  go_wp2_with fail
  refine (number_any y 8 _ H1.out.1 H1.out.2 (by decide) (by decide)).mono ?_
  rintro e w2 ⟨rfl, rfl⟩
  have hf0 : 0 ≤ x % 1024 := by omega
  have hf1 : x % 1024 < 1024 := by omega
  obtain ⟨f, hf⟩ : ∃ f, x % 1024 = f := ⟨_, rfl⟩
  obtain ⟨ask, hask⟩ : ∃ ask, y % 8 = ask := ⟨_, rfl⟩
  rw [hf] at hf0 hf1 ⊢
  rw [hask]
  clear hf hask H0 H1
  have HG := Lib.hid (gr_new w1)
  have HBA := Lib.hid (HB1.out.alloc HB1.out.size (.cells Tryd.zeroCells93 93))
  have hs1 := HB1.out.size
  have HLOW : Hid (∀ k : Nat, k = w1.heap.size → w.heap.size ≤ k) := Lib.hid fun k hk => by subst hk; exact hs1
  clear HB1
  go_wp2_with fail
  go_loopw [9, 10, 11] (fun s q i wr => LendTo l f ask w w1.heap.size s q i wr) (fun _ _ i _ => l.length - (intOf i).toNat)
  case atStart => exact ⟨0, Nat.zero_le _, rfl, rfl, rfl, HG.out, HBA.out⟩
  case round =>
    obtain ⟨j, hj, rfl, rfl, rfl, hg, hb⟩ := hrel
    have HGr := Lib.hid hg
    have HB := Lib.hid hb
    clear hg hb HG HBA
    by_cases hlt : j < l.length
    · obtain ⟨b, off, rfl, c0, -⟩ := (HL.out.mono HB.out) j _ (ints_get l j hlt)
      have HS := Lib.hid (any_take (pS ask) l j hlt)
      have HQ := Lib.hid (any_take (pW ask) l j hlt)
      have HSET := Lib.hid (tbl_set l f j hlt hn)
      have HGET := Lib.hid (tbl_get l f j hlt hn)
      have hdz : l.getD j default = l.getD j 0 := rfl
      have hz := H64.out (l.getD j 0) (by rw [List.getD_eq_getElem?_getD, List.getElem?_eq_getElem hlt]; exact List.getElem_mem _)
      have htd := tdiv_in (l.getD j 0) hz.1 hz.2
      rw [hdz] at HS HQ
      obtain ⟨z, hzz⟩ : ∃ z, l.getD j 0 = z := ⟨_, rfl⟩
      rw [hzz] at c0 HS HQ HSET hz htd
      have HZ := Lib.hid hz
      have HTD := Lib.hid htd
      have HMK : Hid (mkGr f z = ⟨true, z.tdiv 8 % 2 == 1, z.tdiv 16 % 2 == 1, f, z % 8⟩) := Lib.hid rfl
      have HPS : Hid (pS ask z = ((z.tdiv 16 % 2 == 1) && decide (z % 8 = ask))) := Lib.hid rfl
      have HPW : Hid (pW ask z = (((z.tdiv 16 % 2 == 1) && decide (z % 8 = ask)) && (z.tdiv 8 % 2 == 1))) := Lib.hid rfl
      obtain ⟨sj, hsj⟩ : ∃ sj, (l.take j).any (pS ask) = sj := ⟨_, rfl⟩
      obtain ⟨qj, hqj⟩ : ∃ qj, (l.take j).any (pW ask) = qj := ⟨_, rfl⟩
      rw [hsj] at HS ⊢
      rw [hqj] at HQ ⊢
      have hji : (j : Int) < (l.length : Int) := by omega
      have hj16 : j < 16 := by omega
      have hw8 := IntWalk.i64_in (z.tdiv 8) htd.1
      have hw16 := IntWalk.i64_in (z.tdiv 16) htd.2
      clear hdz hzz hz htd hsj hqj
      go_wp2_with fail
      refine (number_any z 8 _ HZ.out.1 HZ.out.2 (by decide) (by decide)).mono ?_
      rintro e w3 ⟨rfl, rfl⟩
      go_wp2_with fail
      refine (number_any (z.tdiv 8) 2 _ HTD.out.1.1 HTD.out.1.2 (by decide) (by decide)).mono ?_
      rintro e w3 ⟨rfl, rfl⟩
      go_wp2_with fail
      refine (number_any (z.tdiv 16) 2 _ HTD.out.2.1 HTD.out.2.2 (by decide) (by decide)).mono ?_
      rintro e w3 ⟨rfl, rfl⟩
      have ht0 : 0 ≤ z % 8 := by omega
      have ht1 : z % 8 < 8 := by omega
      obtain ⟨t, ht⟩ : ∃ t, z % 8 = t := ⟨_, rfl⟩
      obtain ⟨wv, hwv⟩ : ∃ wv, (z.tdiv 8 % 2 == 1) = wv := ⟨_, rfl⟩
      obtain ⟨uv, huv⟩ : ∃ uv, (z.tdiv 16 % 2 == 1) = uv := ⟨_, rfl⟩
      rw [ht] at ht0 ht1 HMK HPS HPW ⊢
      rw [hwv] at HMK HPW
      rw [huv] at HMK HPS HPW
      rw [HMK.out] at HSET
      clear ht HMK HZ HTD
      go_wp2_with fail
      refine (set_new _ _ j f t wv _ HGr.out hj16 hf0 hf1 ht0 ht1 (by rw [HGET.out]; rfl)).mono ?_
      rintro e w3 ⟨rfl, hg3, ho3⟩
      have HG3 := Lib.hid hg3
      have HB3 := Lib.hid (HB.out.trans (ho3.below HB.out.size HLOW.out))
      have HLT : Hid (((tbl l f j).set j ⟨true, wv, false, f, t⟩).getD j default = ⟨true, wv, false, f, t⟩) := Lib.hid (by
        rw [List.getD_eq_getElem?_getD, List.getElem?_set_self (by rw [tbl_len l f j (by omega) hn]; omega)]
        rfl)
      clear hg3 ho3 hwv
      cases uv
      · have HG4 : Hid (GAt w3 w1.heap.size (tbl l f (j + 1))) := Lib.hid (by rw [← HSET.out]; exact HG3.out)
        clear huv
        go_wp2
        go_roundw
        case rel => exact ⟨j + 1, by omega, by go_num, by rw [HS.out, HPS.out]; simp, by rw [HQ.out, HPW.out]; simp, HG4.out, HB3.out⟩
        case measure => simp [intOf]; omega
      · clear huv
        go_wp2_with fail
        refine (map_ok _ _ j j t _ HG3.out (by unfold liveAt; rw [Int.toNat_natCast, HLT.out, if_pos ⟨by omega, by omega, rfl⟩]) (by rw [HLT.out]) (by rw [HLT.out])).mono ?_
        rintro e w4 ⟨rfl, hg4, ho4⟩
        rw [HLT.out]
        rw [HLT.out, List.set_set] at hg4
        have HG4 : Hid (GAt w4 w1.heap.size (tbl l f (j + 1))) := Lib.hid (by rw [← HSET.out]; exact hg4)
        have HB4 := Lib.hid (HB3.out.trans (ho4.below HB3.out.size HLOW.out))
        clear hg4 ho4
        by_cases hta : t = ask
        · subst hta
          cases qj
          all_goals
            go_wp2
            go_roundw
            case rel => exact ⟨j + 1, by omega, by go_num, by rw [HS.out, HPS.out]; simp, by rw [HQ.out, HPW.out]; simp, HG4.out, HB4.out⟩
            case measure => simp [intOf]; omega
        · have htb : (t == ask) = false := by simp [hta]
          have HTA := Lib.hid hta
          clear hta
          go_wp2
          go_roundw
          case rel => exact ⟨j + 1, by omega, by go_num, by rw [HS.out, HPS.out]; simp [HTA.out], by rw [HQ.out, HPW.out]; simp [HTA.out], HG4.out, HB4.out⟩
          case measure => simp [intOf]; omega
    · obtain rfl : j = l.length := by omega
      rw [List.take_length]
      have HL1 := Lib.hid (tbl_lent l f ask hn)
      go_wp2_with fail
      refine (lent_any _ _ f ask _ HGr.out).mono ?_
      rintro e w3 ⟨rfl, hb3⟩
      rw [HL1.out.1, HL1.out.2]
      have HG3 := Lib.hid (HGr.out.below hb3)
      have HB3 := Lib.hid (HB.out.trans (hb3.mono HB.out.size))
      have hw1 := IntWalk.i64_in (f + 1) (by omega)
      clear hb3 HGr HB
      go_wp2_with fail
      refine (lent_any _ _ ((f + 1) % 1024) ask _ HG3.out).mono ?_
      rintro e w4 ⟨rfl, hb4⟩
      have HL2 := Lib.hid (tbl_not l f ((f + 1) % 1024) ask hn (by omega))
      rw [HL2.out.1, HL2.out.2]
      have HB4 := Lib.hid (HB3.out.trans (hb4.mono HB3.out.size))
      clear hb4
      go_wp2
      go_ret
      exact ⟨ret_bool (by simp), HB4.out⟩

theorem lent_walk (E : Nat → Addr) (l : List Int) (v : Value) (x y : Int) (w : World) (hE : ErrsAt errT gOf w E all16) (hr : Reads w v l.length (ints l)) (hl64 : ∀ z ∈ l, -9223372036854775808 ≤ z ∧ z ≤ 9223372036854775807) (hx : -9223372036854775808 ≤ x ∧ x ≤ 9223372036854775807) (hy : -9223372036854775808 ≤ y ∧ y ≤ 9223372036854775807) :
    Calls Tryd.prog 12 #[v, .int .i64 x, .int .i64 y] w fun e w' => e = .returned (.bool true) ∧ Below w.heap.size w w' := by
  obtain ⟨ao, cap, rfl, hk⟩ := atL_of_reads hr
  by_cases h : 16 < l.length
  · exact lent_many E _ _ _ _ _ _ hE h
  · exact lent_some E l ao cap x y w hE hk hl64 (by omega) hx hy
end Go.Proofs.YtfbicbdfmcdadaaDoor
