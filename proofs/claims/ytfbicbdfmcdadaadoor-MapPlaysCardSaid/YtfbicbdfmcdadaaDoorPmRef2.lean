/-
  PutFrame; p2m.Map's Clone; what Add, Put answer, all ways in one.
-/
import Derived.Test.YtfbicbdfmcdadaaDoorPmRef
import Derived.Test.YtfbicbdfmcdadaaDoorGr
namespace Go.Proofs.YtfbicbdfmcdadaaDoor
open Go.RowKit

theorem put_twice_iff {l : List Int} (hg : PGood l) {x r : Int} {n : Nat} (hn : n < l.length) (h : IdxIs l x r) : (0 ≤ r ∧ r ≠ (n : Int)) ↔ (x ∈ l ∧ l.getD n 0 ≠ x) := by
  constructor
  · rintro ⟨h0, hne⟩
    rcases h with ⟨rfl, -⟩ | ⟨k, hk, rfl, e, -⟩
    · omega
    · refine ⟨mem_getD.2 ⟨k, hk, e⟩, fun e2 => hne ?_⟩
      rw [hg.once k n hk hn (e.trans e2.symm)]
  · rintro ⟨hm, hne⟩
    obtain ⟨k, hk, rfl, e, -⟩ := h.pos hm
    refine ⟨by omega, fun e2 => hne ?_⟩
    have : k = n := by omega
    rw [← this, e]

set_option maxRecDepth 100000 in
set_option maxHeartbeats 1600000 in
theorem putFrame_any (l : List Int) (hg : PGood l) (ao : Option Addr) (c1 : Nat) (n x : Int) (w : World) (hl : AtL w ao (ints l)) :
    Calls Tryd.prog 35 #[.slice ao l.length c1, .int .i64 n, .int .i64 x] w (RefAns (putL l n x) ao (putC l n x) w) := by
  have hfew := hg.few
  have HL := Lib.hid hl
  have HG := Lib.hid hg
  clear hl hg
  by_cases hn : n < 0 ∨ (l.length : Int) ≤ n
  · have HC : Hid (putC l n x = some 6) := Lib.hid (by unfold putC; rw [if_pos hn])
    have HA : Hid (putL l n x = l) := Lib.hid (by unfold putL; rw [if_neg (by rw [HC.out]; simp)])
    rw [HC.out, HA.out]
    by_cases h0 : n < 0
    · clear hn
      go_enter Tryd.func35, Tryd.ntmps35
      go_wp2
      go_ret2
      exact ⟨_, _, rfl, HL.out, .inl rfl, Below.refl _ _⟩
    · have h1 : (l.length : Int) ≤ n := by omega
      clear hn
      go_enter Tryd.func35, Tryd.ntmps35
      go_wp2
      go_ret2
      exact ⟨_, _, rfl, HL.out, .inl rfl, Below.refl _ _⟩
  · obtain ⟨m, rfl⟩ : ∃ m : Nat, n = (m : Int) := ⟨n.toNat, by omega⟩
    have hm : m < l.length := by omega
    have hmi : (m : Int) < (l.length : Int) := by omega
    by_cases hx : fairP x = true
    · have hx0 : 0 ≤ x := by simp [fairP] at hx; exact hx.1
      have hx1 : x < 1024 := by simp [fairP] at hx; exact hx.2
      by_cases ht : x ∈ l ∧ l.getD m 0 ≠ x
      · have HC : Hid (putC l m x = some 5) := Lib.hid (by unfold putC; rw [if_neg hn, if_neg (by rw [hx]; simp), Int.toNat_natCast, if_pos ht])
        have HA : Hid (putL l m x = l) := Lib.hid (by unfold putL; rw [if_neg (by rw [HC.out]; simp)])
        have HT := Lib.hid ht
        rw [HC.out, HA.out]
        clear hn hx ht
        go_enter Tryd.func35, Tryd.ntmps35
        go_wp2_with fail
        refine (place_ints l l.length ao c1 x _ HL.out rfl (by omega)).mono ?_
        rintro e w1 ⟨r, rfl, hr, rfl⟩
        have hr0 := ((put_twice_iff HG.out hm hr).2 HT.out).1
        have hr1 : (r != (m : Int)) = true := by rw [bne_iff_ne]; exact ((put_twice_iff HG.out hm hr).2 HT.out).2
        clear hr
        go_wp2
        go_ret2
        exact ⟨_, _, rfl, HL.out, .inl rfl, Below.refl _ _⟩
      · have HC : Hid (putC l m x = none) := Lib.hid (by unfold putC; rw [if_neg hn, if_neg (by rw [hx]; simp), Int.toNat_natCast, if_neg ht])
        have HA : Hid (putL l m x = l.set m x) := Lib.hid (by unfold putL; rw [if_pos HC.out, Int.toNat_natCast])
        have HT := Lib.hid ht
        rw [HC.out, HA.out]
        clear hn hx ht
        go_enter Tryd.func35, Tryd.ntmps35
        go_wp2_with fail
        refine (place_ints l l.length ao c1 x _ HL.out rfl (by omega)).mono ?_
        rintro e w1 ⟨r, rfl, hr, rfl⟩
        have HR : Hid (r < 0 ∨ r = (m : Int)) := Lib.hid (by
          by_cases h0 : r < 0
          · exact .inl h0
          · right
            by_cases h1 : r = (m : Int)
            · exact h1
            · exact (HT.out ((put_twice_iff HG.out hm hr).1 ⟨by omega, h1⟩)).elim)
        clear hr
        have hcont : ∀ r' : Int, r' = r → True := fun _ _ => trivial
        clear hcont
        by_cases h0 : r < 0
        · go_wp2_with fail
          refine (copyInts_n ao c1 l.length l _ HL.out rfl (by omega)).mono ?_
          rintro e w1 ⟨v1, rfl, ho1, hf1, hb1⟩
          rcases own_shape ho1 with ⟨-, hz, -⟩ | ⟨g, cap, rfl, -⟩
          · omega
          have g0 := (own_cell ho1 m (by omega)).trans (ints_get l m hm)
          have g1 := own_free ho1 m
          have HS : Hid ((w1.setCell ⟨g, m, none⟩ (.int .i64 x)).ownsRow 0 3 1 (.slice (some ⟨g, 0, none⟩) l.length cap) l.length (ints (l.set m x))) := Lib.hid (by rw [← ints_set]; exact (ho1.stored m _).1)
          have HF1 := Lib.hid (hf1 g rfl)
          have HBX := Lib.hid (hb1.setCell (p := ⟨g, m, none⟩) (hf1 g rfl) (.int .i64 x))
          have HLN : Hid ((l.set m x).length = l.length) := Lib.hid (by simp)
          clear ho1 hf1 hb1
          obtain ⟨a2, c2, he, hat⟩ := atL_of_own HS.out
          cases he
          have HAT := Lib.hid hat
          have HGL := Lib.hid (own_lt (k := g) HS.out rfl)
          clear hat HS
          go_wp2
          go_ret2
          exact ⟨_, _, by rw [HLN.out]; rfl, HAT.out, .inr (fun b off e => by cases e; exact ⟨HF1.out, HGL.out⟩), HBX.out⟩
        · obtain rfl : r = (m : Int) := by have := HR.out; omega
          go_wp2_with fail
          refine (copyInts_n ao c1 l.length l _ HL.out rfl (by omega)).mono ?_
          rintro e w1 ⟨v1, rfl, ho1, hf1, hb1⟩
          rcases own_shape ho1 with ⟨-, hz, -⟩ | ⟨g, cap, rfl, -⟩
          · omega
          have g0 := (own_cell ho1 m (by omega)).trans (ints_get l m hm)
          have g1 := own_free ho1 m
          have HS : Hid ((w1.setCell ⟨g, m, none⟩ (.int .i64 x)).ownsRow 0 3 1 (.slice (some ⟨g, 0, none⟩) l.length cap) l.length (ints (l.set m x))) := Lib.hid (by rw [← ints_set]; exact (ho1.stored m _).1)
          have HF1 := Lib.hid (hf1 g rfl)
          have HBX := Lib.hid (hb1.setCell (p := ⟨g, m, none⟩) (hf1 g rfl) (.int .i64 x))
          have HLN : Hid ((l.set m x).length = l.length) := Lib.hid (by simp)
          clear ho1 hf1 hb1
          obtain ⟨a2, c2, he, hat⟩ := atL_of_own HS.out
          cases he
          have HAT := Lib.hid hat
          have HGL := Lib.hid (own_lt (k := g) HS.out rfl)
          clear hat HS
          go_wp2
          go_ret2
          exact ⟨_, _, by rw [HLN.out]; rfl, HAT.out, .inr (fun b off e => by cases e; exact ⟨HF1.out, HGL.out⟩), HBX.out⟩
    · have HC : Hid (putC l m x = some 2) := Lib.hid (by unfold putC; rw [if_neg hn, if_pos (by simpa using hx)])
      have HA : Hid (putL l m x = l) := Lib.hid (by unfold putL; rw [if_neg (by rw [HC.out]; simp)])
      rw [HC.out, HA.out]
      clear hn
      by_cases hx0 : x < 0
      · clear hx
        go_enter Tryd.func35, Tryd.ntmps35
        go_wp2
        go_ret2
        exact ⟨_, _, rfl, HL.out, .inl rfl, Below.refl _ _⟩
      · have hx1 : 1024 ≤ x := by simp [fairP] at hx; omega
        clear hx
        go_enter Tryd.func35, Tryd.ntmps35
        go_wp2
        go_ret2
        exact ⟨_, _, rfl, HL.out, .inl rfl, Below.refl _ _⟩

set_option maxHeartbeats 800000 in
theorem pm_clone (l : List Int) (b : Nat) (v : Value) (w : World) (h : PAt w b v l) (hn : l.length ≤ 1000) :
    Calls Tryd.prog 33 #[.pointer (some ⟨b, 0, none⟩)] w fun e w' => ∃ cb cv, e = .returned (.pointer (some ⟨cb, 0, none⟩)) ∧ PAt w' cb cv l ∧ w.heap.size ≤ cb ∧ (∀ k, inRow cv k → w.heap.size ≤ k) ∧ Below w.heap.size w w' := by
  have c := h.cell
  have HR := Lib.hid (own_reads h.2)
  clear h
  go_enter Tryd.func33, Tryd.ntmps33
  go_wp2_with fail
  refine (cloneInts v l.length (ints l) _ HR.out (by omega) (ints_len l) (ints_one l)).mono ?_
  rintro e w1 ⟨v', rfl, ho, hf, hb⟩
  have HP : Hid (PAt (w1.alloc (.cells #[v'] 47)) w1.heap.size v' l) := Lib.hid ⟨blk_new _ _, ho.alloc _⟩
  have HF := Lib.hid hf
  have HB := Lib.hid (hb.alloc hb.size (.cells #[v'] 47))
  have HS := Lib.hid hb.size
  obtain ⟨ao, cap, rfl⟩ := own_slice ho
  clear ho hf hb
  go_wp2
  go_ret
  exact ⟨_, _, rfl, HP.out, HS.out, HF.out, HB.out⟩

def MapAns (l2 : List Int) (b : Nat) (v : Value) (w w' : World) : Prop :=
  ∃ v', PAt w' b v' l2 ∧ Only (fun k => k = b ∨ inRow v k) w w' ∧ ∀ k, inRow v' k → inRow v k ∨ w.heap.size ≤ k
theorem MapAns.stay {l : List Int} {b : Nat} {v : Value} {w w' : World} (h : PAt w b v l) (hb : Below w.heap.size w w') : MapAns l b v w w' :=
  ⟨v, h.below hb, Only.of_below hb, fun _ hk => .inl hk⟩
theorem pm_add_c (E : Nat → Addr) (l : List Int) (b : Nat) (v : Value) (x : Int) (w : World) (hE : ErrsAt errT gOf w E p4) (h : PAt w b v l) (hg : PGood l) :
    Calls Tryd.prog 27 #[.pointer (some ⟨b, 0, none⟩), .int .i64 x] w fun e w' => (∃ z, e = .returned (.tuple #[.int .i64 z, errOf E (addC l x)]) ∧ (addC l x = none → z = l.length)) ∧ MapAns (addL l x) b v w w' := by
  have hf := hg.few
  by_cases hx : fairP x = true
  · by_cases hm : x ∈ l
    · have HC : addC l x = some 5 := by simp [addC, hx, hm]
      have HA : addL l x = l := by unfold addL; rw [if_neg (by rw [HC]; simp)]
      rw [HC, HA]
      refine (add_twice E l b v x w hE h hx (by omega) hm).mono ?_
      rintro e w' ⟨rfl, hb⟩
      exact ⟨⟨0, rfl, fun h => by cases h⟩, MapAns.stay h hb⟩
    · by_cases hl : 512 ≤ l.length
      · have HC : addC l x = some 3 := by simp [addC, hx, hm, hl]
        have HA : addL l x = l := by unfold addL; rw [if_neg (by rw [HC]; simp)]
        rw [HC, HA]
        refine (add_many E l b v x w hE h hx (by omega) hm hl).mono ?_
        rintro e w' ⟨rfl, hb⟩
        exact ⟨⟨0, rfl, fun h => by cases h⟩, MapAns.stay h hb⟩
      · have HC : addC l x = none := by simp [addC, hx, hm]; omega
        have HA : addL l x = l ++ [x] := by unfold addL; rw [if_pos HC]
        rw [HC, HA]
        refine (add_ok l b v x w h hx hm (by omega)).mono ?_
        rintro e w' ⟨rfl, v', hp, ho, hs⟩
        exact ⟨⟨_, rfl, fun _ => rfl⟩, v', hp, ho, hs⟩
  · have HC : addC l x = some 2 := by simp [addC, hx]
    have HA : addL l x = l := by unfold addL; rw [if_neg (by rw [HC]; simp)]
    rw [HC, HA]
    refine (add_unfair E l b v x w hE h (by simpa using hx)).mono ?_
    rintro e w' ⟨rfl, hb⟩
    exact ⟨⟨0, rfl, fun h => by cases h⟩, MapAns.stay h hb⟩
theorem add_good {l : List Int} (hg : PGood l) (x : Int) : PGood (addL l x) := by
  unfold addL
  split
  · rename_i h
    unfold addC at h
    split at h
    · cases h
    · rename_i hx
      split at h
      · cases h
      · rename_i hm
        split at h
        · cases h
        · rename_i hl
          exact hg.snoc (by simpa using hx) hm (by omega)
  · exact hg
theorem pm_put_c (E : Nat → Addr) (l : List Int) (b : Nat) (v : Value) (n x : Int) (w : World) (hE : ErrsAt errT gOf w E p4) (h : PAt w b v l) (hg : PGood l) :
    Calls Tryd.prog 28 #[.pointer (some ⟨b, 0, none⟩), .int .i64 n, .int .i64 x] w fun e w' => e = .returned (errOf E (putC l n x)) ∧ MapAns (putL l n x) b v w w' := by
  have hf := hg.few
  by_cases hn : n < 0 ∨ (l.length : Int) ≤ n
  · have HC : putC l n x = some 6 := by unfold putC; rw [if_pos hn]
    have HA : putL l n x = l := by unfold putL; rw [if_neg (by rw [HC]; simp)]
    rw [HC, HA]
    refine (put_none E l b v n x w hE h (by omega) hn).mono ?_
    rintro e w' ⟨rfl, hb⟩
    exact ⟨rfl, MapAns.stay h hb⟩
  · obtain ⟨m, rfl⟩ : ∃ m : Nat, n = (m : Int) := ⟨n.toNat, by omega⟩
    have hm : m < l.length := by omega
    by_cases hx : fairP x = true
    · by_cases ht : x ∈ l ∧ l.getD m 0 ≠ x
      · have HC : putC l m x = some 5 := by unfold putC; rw [if_neg hn, if_neg (by rw [hx]; simp), Int.toNat_natCast, if_pos ht]
        have HA : putL l m x = l := by unfold putL; rw [if_neg (by rw [HC]; simp)]
        rw [HC, HA]
        refine (put_twice E l b v m x w hE h (by omega) hm hx (fun q hq => (put_twice_iff hg hm hq).2 ht)).mono ?_
        rintro e w' ⟨rfl, hb⟩
        exact ⟨rfl, MapAns.stay h hb⟩
      · have HC : putC l m x = none := by unfold putC; rw [if_neg hn, if_neg (by rw [hx]; simp), Int.toNat_natCast, if_neg ht]
        have HA : putL l m x = l.set m x := by unfold putL; rw [if_pos HC, Int.toNat_natCast]
        rw [HC, HA]
        refine (put_ok l b v m x w h (by omega) hm hx (fun q hq => ?_)).mono ?_
        · by_cases h0 : q < 0
          · exact .inl h0
          · by_cases h1 : q = (m : Int)
            · exact .inr h1
            · exact (ht ((put_twice_iff hg hm hq).1 ⟨by omega, h1⟩)).elim
        · rintro e w' ⟨rfl, hp, ho⟩
          exact ⟨rfl, v, hp, ho.mono (fun k hk => .inl (.inr hk)), fun k hk => .inl hk⟩
    · have HC : putC l m x = some 2 := by unfold putC; rw [if_neg hn, if_pos (by simpa using hx)]
      have HA : putL l m x = l := by unfold putL; rw [if_neg (by rw [HC]; simp)]
      rw [HC, HA]
      refine (put_unfair E l b v m x w hE h (by omega) hm (by simpa using hx)).mono ?_
      rintro e w' ⟨rfl, hb⟩
      exact ⟨rfl, MapAns.stay h hb⟩
theorem put_good {l : List Int} (hg : PGood l) (n x : Int) : PGood (putL l n x) := by
  unfold putL
  split
  · rename_i h
    unfold putC at h
    split at h
    · cases h
    · rename_i hn
      split at h
      · cases h
      · rename_i hx
        split at h
        · cases h
        · rename_i ht
          obtain ⟨m, rfl⟩ : ∃ m : Nat, n = (m : Int) := ⟨n.toNat, by omega⟩
          have hm : m < l.length := by omega
          rw [Int.toNat_natCast] at ht ⊢
          obtain ⟨r, hr⟩ := idx_ex l x
          refine hg.put hm (by simpa using hx) hr ?_
          by_cases h0 : r < 0
          · exact .inl h0
          · by_cases h1 : r = (m : Int)
            · exact .inr h1
            · exact (ht ((put_twice_iff hg hm hr).1 ⟨by omega, h1⟩)).elim
  · exact hg
end Go.Proofs.YtfbicbdfmcdadaaDoor
