/-
  facaderef9.PageOf: a page's words by the document.
-/
import Derived.Test.YtehmpdgpjpifoaaDoorLdRef
import Derived.Test.YtehmpdgpjpifoaaDoorLdLaw
import Derived.Test.YtehmpdgpjpifoaaDoorLdBare3
namespace Go.Proofs.YtehmpdgpjpifoaaDoor
open Go.RowKit

/-- a page's words, any number -/
def pageI (D C : List Int) (p : Int) : Option (List Int) := if 0 ≤ p ∧ p < 256 then pageOf D C p.toNat else none
theorem pageI_nat (D C : List Int) (p : Nat) (h : p < 256) : pageI D C (p : Int) = pageOf D C p := by unfold pageI; rw [if_pos (by omega), Int.toNat_natCast]
def PgR (P : Option (List Int)) (w : World) (x : Ending) (w' : World) : Prop := Below w.heap.size w w' ∧ ∃ av cap, x = .returned (.tuple #[.slice av (P.getD []).length cap, .bool P.isSome]) ∧ AtL w' av (u32s (P.getD [])) ∧ (∀ a, av = some a → w.heap.size ≤ a.block)
theorem pgR_none {w w' : World} (hb : Below w.heap.size w w') : PgR none w (.returned (.tuple #[.slice none 0 0, .bool false])) w' := ⟨hb, none, 0, rfl, atL_nil _ _, fun a h => by cases h⟩
theorem pgR_some {w w' : World} {ws : List Int} {g : Nat} (hl : ws.length = 16) (hb : Below w.heap.size w w') (ha : AtL w' (some ⟨g, 0, none⟩) (u32s ws)) (hg : w.heap.size ≤ g) : PgR (some ws) w (.returned (.tuple #[.slice (some ⟨g, 0, none⟩) 16 16, .bool true])) w' :=
  ⟨hb, some ⟨g, 0, none⟩, 16, by show _ = Ending.returned (.tuple #[.slice _ ws.length 16, .bool true]); rw [hl], ha, fun a h => by cases h; exact hg⟩
/-- a page's words, so far -/
def PgTo (w0 : World) (g : Nat) (l : List Int) (at_ : Nat) (i : Value) (wr : World) : Prop :=
  ∃ (k : Nat) (X : List Int), k ≤ 16 ∧ i = .int .i64 (k : Int) ∧ wr.ownsRow 0 24 1 (.slice (some ⟨g, 0, none⟩) 16 16) 16 (u32s X) ∧ X.length = 16 ∧ (∀ j, j < 16 → X.getD j 0 = if j < k then l.getD (16 * at_ + j) 0 else 0) ∧ Only (fun k => k = g) w0 wr
theorem pg_step {w0 wr : World} {g : Nat} {l X : List Int} {at_ k : Nat} {z : Int} (ho : wr.ownsRow 0 24 1 (.slice (some ⟨g, 0, none⟩) 16 16) 16 (u32s X)) (hX : X.length = 16) (hg : ∀ j, j < 16 → X.getD j 0 = if j < k then l.getD (16 * at_ + j) 0 else 0) (hon : Only (fun k => k = g) w0 wr) (hk : k < 16) (hz : l.getD (16 * at_ + k) 0 = z) :
    PgTo w0 g l at_ (.int .i64 ((k : Int) + 1)) (wr.setCell ⟨g, k, none⟩ (.int .u32 z)) := by
  refine ⟨k + 1, X.set k z, by omega, rfl, ?_, by rw [List.length_set]; exact hX, fun j hj => ?_, Only.setCell (F := fun k => k = g) hon (p := ⟨g, k, none⟩) (.inl rfl) _⟩
  · rw [← u32s_set]
    exact (ho.stored k _).1
  · rw [setD_get X k j z (by omega), hg j hj]
    by_cases h1 : j = k
    · rw [if_pos h1, if_pos (by omega), h1, hz]
    · rw [if_neg h1]
      by_cases h2 : j < k
      · rw [if_pos h2, if_pos (by omega)]
      · rw [if_neg h2, if_neg (by omega)]
theorem pg_end {l X : List Int} {at_ k : Nat} (hX : X.length = 16) (hg : ∀ j, j < 16 → X.getD j 0 = if j < k then l.getD (16 * at_ + j) 0 else 0) (hk : 16 ≤ k ∨ l.length ≤ 16 * at_ + k) : X = pageWords l at_ :=
  extD (by rw [hX, pageWords_len]) fun j hj => by
    rw [hX] at hj
    rw [hg j hj, pw_get l at_ j hj]
    by_cases h : j < k
    · rw [if_pos h]
    · rw [if_neg h, getD_end l _ (by omega)]
theorem own_at {w : World} {g : Nat} {X : List Int} (ho : w.ownsRow 0 24 1 (.slice (some ⟨g, 0, none⟩) 16 16) 16 (u32s X)) : AtL w (some ⟨g, 0, none⟩) (u32s X) := by
  obtain ⟨ao, cap, e, h⟩ := atL_of_own ho
  cases e
  exact h

set_option maxRecDepth 100000 in
set_option maxHeartbeats 8000000 in
theorem rpage_int (e : Int) (D C : List Int) (a1 a2 : Option Addr) (k1 k2 : Nat) (p : Int) (rv pv sv : Value) (w : World) (hD : D.length ≤ 2048) (hC : C.length ≤ 2048) (h1 : D.length ≤ k1) (h2 : C.length ≤ k2) (hd : AtL w a1 (u32s D)) (hc : AtL w a2 (u32s C)) (hp : p ≤ 9223372036854775807 ∧ -9223372036854775808 ≤ p) :
    Calls Tryd.prog 22 #[.agg #[.int .u32 e, .slice a1 D.length k1, .slice a2 C.length k2, rv, pv, sv], .int .i64 p] w (PgR (pageI D C p) w) := by
  have HB := Lib.hid (show Below w.heap.size w (w.alloc (.cells #[.int .u32 e, .slice a1 D.length k1, .slice a2 C.length k2, rv, pv, sv] 28)) from (Below.refl _ _).alloc (Nat.le_refl _) _)
  have HI : Hid ((w.alloc (.cells #[.int .u32 e, .slice a1 D.length k1, .slice a2 C.length k2, rv, pv, sv] 28)).heap[w.heap.size]? = some (.cells #[.int .u32 e, .slice a1 D.length k1, .slice a2 C.length k2, rv, pv, sv] 28 (0, 0))) := Lib.hid (blk_new w (.cells #[.int .u32 e, .slice a1 D.length k1, .slice a2 C.length k2, rv, pv, sv] 28))
  obtain ⟨c0, c1, c2, c3, c4, c5⟩ := img_cells HI.out
  have HP := Lib.hid (fun wx => rpages_any e a1 a2 D.length C.length k1 k2 rv pv sv wx (by omega) (by omega))
  have HMK : Hid (∀ wx : World, ∃ w1, (Instr.makeSlice 25 (.int .i64 16) (.int .i64 16)).run Tryd.prog wx = .ok (.slice (some ⟨wx.heap.size, 0, none⟩) 16 16) w1 ∧ w1.ownsRow 0 24 1 (.slice (some ⟨wx.heap.size, 0, none⟩) 16 16) 16 (u32s (List.replicate 16 0)) ∧ wx.grownBy w1 none) := Lib.hid fun wx => by
    obtain ⟨i, hi, hz0, hz1, hz2⟩ := info_parts infoU32
    obtain ⟨w1, e, ho, hg⟩ := run_makeSlice_full (P := Tryd.prog) wx 0 25 24 i (.int .u32 0) 1 Tryd.underlying25 hi hz0 hz1 .i64 .i64 16 (by omega) (by rw [hz2]; omega) (by unfold maxLen; omega) (Nat.zero_le _)
    refine ⟨w1, e, ?_, hg⟩
    rw [Nat.mul_one, show (Value.int IntKind.u32 0).cells = #[Value.int IntKind.u32 0] from rfl, toList_madeCells_one] at ho
    simpa [u32s] using ho
  have hpd : pg D.length ≤ 128 := by unfold pg; omega
  have hpc : pg C.length ≤ 128 := by unfold pg; omega
  have hcase : (¬ (128 : Int) ≤ p ∧ (p < 0 ∨ (0 ≤ p ∧ ((pg D.length : Nat) : Int) ≤ p)) ∧ pageI D C p = none) ∨ ((128 : Int) ≤ p ∧ ((pg C.length : Nat) : Int) ≤ p - 128 ∧ pageI D C p = none) ∨ (∃ at_ : Nat, p = (at_ : Int) ∧ at_ < 128 ∧ at_ < pg D.length ∧ pageI D C p = some (pageWords D at_)) ∨ (∃ at_ : Nat, p - 128 = (at_ : Int) ∧ at_ < pg C.length ∧ pageI D C p = some (pageWords C at_)) := by
    by_cases h : 128 ≤ p
    · by_cases h2 : ((pg C.length : Nat) : Int) ≤ p - 128
      · refine .inr (.inl ⟨h, h2, ?_⟩)
        unfold pageI
        split
        · unfold pageOf
          rw [if_neg (by omega), if_neg (by omega)]
        · rfl
      · refine .inr (.inr (.inr ⟨(p - 128).toNat, by omega, by omega, ?_⟩))
        unfold pageI pageOf
        rw [if_pos (by omega), if_neg (by omega), if_pos (by omega), show p.toNat - 128 = (p - 128).toNat by omega]
    · by_cases h2 : p < 0 ∨ ((pg D.length : Nat) : Int) ≤ p
      · refine .inl ⟨h, by omega, ?_⟩
        unfold pageI
        split
        · unfold pageOf
          rw [if_pos (by omega), if_neg (by omega)]
        · rfl
      · refine .inr (.inr (.inl ⟨p.toNat, by omega, by omega, by omega, ?_⟩))
        unfold pageI pageOf
        rw [if_pos (by omega), if_pos (by omega), if_pos (by omega)]
  have HDC := Lib.hid (And.intro hd hc)
  clear hd hc
  rcases hcase with ⟨h3, h4, hP⟩ | ⟨h3, h4, hP⟩ | ⟨at_, rfl, h3, h4, hP⟩ | ⟨at_, hat, h4, hP⟩
  · rw [hP]
    clear HMK HDC hP
    rcases h4 with h4 | ⟨h4, h5⟩
    · have h4' : p < 0 := h4
      go_enter Tryd.func22, Tryd.ntmps22
      go_wp2_with fail
      refine (HP.out _).mono ?_
      rintro x w1 ⟨rfl, hb1⟩
      have HB1 := Lib.hid (HB.out.trans (hb1.mono HB.out.size))
      obtain ⟨d0, d1, d2, d3, d4, d5⟩ := img_cells (blk_below HI.out hb1 (blk_lt HI.out))
      clear hb1 c0 c1 c2 c3 c4 c5
      go_wp2
      go_ret2
      exact pgR_none HB1.out
    · have h4' : ¬ p < 0 := by omega
      go_enter Tryd.func22, Tryd.ntmps22
      go_wp2_with fail
      refine (HP.out _).mono ?_
      rintro x w1 ⟨rfl, hb1⟩
      have HB1 := Lib.hid (HB.out.trans (hb1.mono HB.out.size))
      obtain ⟨d0, d1, d2, d3, d4, d5⟩ := img_cells (blk_below HI.out hb1 (blk_lt HI.out))
      clear hb1 c0 c1 c2 c3 c4 c5
      go_wp2
      go_ret2
      exact pgR_none HB1.out
  · rw [hP]
    have hw1 := IntWalk.i64_in (p - 128) (by omega)
    have h5 : ¬ p - 128 < 0 := by omega
    clear HMK HDC hP
    go_enter Tryd.func22, Tryd.ntmps22
    go_wp2_with fail
    refine (HP.out _).mono ?_
    rintro x w1 ⟨rfl, hb1⟩
    have HB1 := Lib.hid (HB.out.trans (hb1.mono HB.out.size))
    obtain ⟨d0, d1, d2, d3, d4, d5⟩ := img_cells (blk_below HI.out hb1 (blk_lt HI.out))
    clear hb1 c0 c1 c2 c3 c4 c5
    go_wp2
    go_ret2
    exact pgR_none HB1.out
  · have HAT := Lib.hid HDC.out.1
    have HLT : Hid (∀ q (b : 0 < D.length), a1 = some q → q.block < w.heap.size) := Lib.hid fun q b hq => by
      obtain ⟨b', off, e', -, hl⟩ := HAT.out 0 _ (u32s_get D 0 b)
      rw [hq] at e'
      cases e'
      exact hl
    have HPL : Hid ((pageWords D at_).length = 16) := Lib.hid (pageWords_len _ _)
    have h5 : ¬ (at_ : Int) < 0 := by omega
    have h6 : ¬ ((pg D.length : Nat) : Int) ≤ (at_ : Int) := by omega
    have h7 : ¬ (128 : Int) ≤ (at_ : Int) := by omega
    have hw1 := IntWalk.i64_in ((at_ : Int) * 16) (by omega)
    rw [hP]
    clear hP HDC
    go_enter Tryd.func22, Tryd.ntmps22
    go_wp2_with fail
    refine (HP.out _).mono ?_
    rintro x w1 ⟨rfl, hb1⟩
    have HB1 := Lib.hid (HB.out.trans (hb1.mono HB.out.size))
    obtain ⟨d0, d1, d2, d3, d4, d5⟩ := img_cells (blk_below HI.out hb1 (blk_lt HI.out))
    obtain ⟨w2, hmk, ho2, hg2⟩ := HMK.out w1
    have hb2 : Below w1.heap.size w1 w2 := (Below.refl _ _).grown hg2 (Nat.le_refl _) (fun k hk => by cases hk)
    have HB2 := Lib.hid (HB1.out.trans (hb2.mono HB1.out.size))
    have HG : Hid (w.heap.size ≤ w1.heap.size) := Lib.hid HB1.out.size
    have HAT2 := Lib.hid (HAT.out.mono HB2.out)
    have HST : Hid (PgTo w2 w1.heap.size D at_ (.int .i64 0) w2) := Lib.hid ⟨0, List.replicate 16 0, Nat.zero_le _, rfl, ho2, rfl, fun j hj => by rw [if_neg (by omega), repD_get], Only.refl _ _⟩
    have HSL : Hid (∀ q b, a1 = some q → q.block ≠ w1.heap.size) := Lib.hid fun q b hq => by
      have := HLT.out q b hq
      have := HG.out
      omega
    clear hb1 c0 c1 c2 c3 c4 c5 ho2 hg2 hb2
    go_wp2_with fail
    go_loopw [11] (fun i wr => PgTo w2 w1.heap.size D at_ i wr) (fun i _ => 16 - (intOf i).toNat)
    case atStart => exact HST.out
    case round =>
      obtain ⟨k, X, hk, rfl, ho, hX, hg, hon⟩ := hrel
      have HO := Lib.hid ho
      have HON := Lib.hid hon
      have HXG := Lib.hid hg
      have HXL := Lib.hid hX
      clear ho hX hg hon HST
      by_cases hlt : k < 16
      · have hki : (k : Int) < 16 := by omega
        have hwk := IntWalk.i64_in ((at_ : Int) * 16 + (k : Int)) (by omega)
        by_cases hlt2 : 16 * at_ + k < D.length
        · have hki2 : (at_ : Int) * 16 + (k : Int) < (D.length : Int) := by omega
          have hki3 : (0 : Int) ≤ (at_ : Int) * 16 + (k : Int) := by omega
          have hki4 : ((at_ : Int) * 16 + (k : Int)).toNat = 16 * at_ + k := by omega
          obtain ⟨sb, so, rfl, q0, hql⟩ := HAT2.out (16 * at_ + k) _ (u32s_get D (16 * at_ + k) hlt2)
          have q1 : wr.cell? ⟨sb, so + (16 * at_ + k), none⟩ = some (.int .u32 (D.getD (16 * at_ + k) 0)) := by
            rw [← q0]
            exact World.cell?_of_block (HON.out.block sb hql (HSL.out _ (by omega) rfl))
          obtain ⟨z, hz⟩ : ∃ z, D.getD (16 * at_ + k) 0 = z := ⟨_, rfl⟩
          have HZ := Lib.hid hz
          have g0 := (own_cell HO.out k (by omega)).trans (u32s_get X k (by rw [HXL.out]; omega))
          have g1 := own_free HO.out k
          have hw3 := IntWalk.i64_in ((k : Int) + 1) (by omega)
          rw [hz] at q1
          clear hz q0 hql hlt2
          go_wp2
          go_roundw
          case rel => exact pg_step HO.out HXL.out HXG.out HON.out (by omega) HZ.out
          case measure => simp [intOf]; omega
        · have hki2 : ¬ (at_ : Int) * 16 + (k : Int) < (D.length : Int) := by omega
          have HE : Hid (X = pageWords D at_) := Lib.hid (pg_end HXL.out HXG.out (by omega))
          clear hlt2
          go_wp2
          go_ret2
          exact pgR_some HPL.out (HB2.out.trans (HON.out.below (B := w.heap.size) HB2.out.size (fun k hk => by have := HG.out; omega))) (HE.out ▸ own_at HO.out) HG.out
      · obtain rfl : k = 16 := by omega
        have hki : ¬ ((16 : Nat) : Int) < 16 := by omega
        have HE : Hid (X = pageWords D at_) := Lib.hid (pg_end HXL.out HXG.out (by omega))
        go_wp2
        go_ret2
        exact pgR_some HPL.out (HB2.out.trans (HON.out.below (B := w.heap.size) HB2.out.size (fun k hk => by have := HG.out; omega))) (HE.out ▸ own_at HO.out) HG.out
  · have HAT := Lib.hid HDC.out.2
    have HLT : Hid (∀ q (b : 0 < C.length), a2 = some q → q.block < w.heap.size) := Lib.hid fun q b hq => by
      obtain ⟨b', off, e', -, hl⟩ := HAT.out 0 _ (u32s_get C 0 b)
      rw [hq] at e'
      cases e'
      exact hl
    have HPL : Hid ((pageWords C at_).length = 16) := Lib.hid (pageWords_len _ _)
    have hpe : p = (at_ : Int) + 128 := by omega
    rw [hP]
    subst hpe
    have h5 : ¬ (at_ : Int) < 0 := by omega
    have h6 : ¬ ((pg C.length : Nat) : Int) ≤ (at_ : Int) := by omega
    have h7 : (128 : Int) ≤ (at_ : Int) + 128 := by omega
    have hw0 : IntKind.i64.wrap ((at_ : Int) + 128 - 128) = (at_ : Int) := (IntWalk.i64_in _ (by omega)).trans (by omega)
    have hw2 : (at_ : Int) + 128 - 128 = (at_ : Int) := by omega
    have hw1 := IntWalk.i64_in ((at_ : Int) * 16) (by omega)
    clear hP HDC hat
    go_enter Tryd.func22, Tryd.ntmps22
    go_wp2_with fail
    refine (HP.out _).mono ?_
    rintro x w1 ⟨rfl, hb1⟩
    have HB1 := Lib.hid (HB.out.trans (hb1.mono HB.out.size))
    obtain ⟨d0, d1, d2, d3, d4, d5⟩ := img_cells (blk_below HI.out hb1 (blk_lt HI.out))
    obtain ⟨w2, hmk, ho2, hg2⟩ := HMK.out w1
    have hb2 : Below w1.heap.size w1 w2 := (Below.refl _ _).grown hg2 (Nat.le_refl _) (fun k hk => by cases hk)
    have HB2 := Lib.hid (HB1.out.trans (hb2.mono HB1.out.size))
    have HG : Hid (w.heap.size ≤ w1.heap.size) := Lib.hid HB1.out.size
    have HAT2 := Lib.hid (HAT.out.mono HB2.out)
    have HST : Hid (PgTo w2 w1.heap.size C at_ (.int .i64 0) w2) := Lib.hid ⟨0, List.replicate 16 0, Nat.zero_le _, rfl, ho2, rfl, fun j hj => by rw [if_neg (by omega), repD_get], Only.refl _ _⟩
    have HSL : Hid (∀ q b, a2 = some q → q.block ≠ w1.heap.size) := Lib.hid fun q b hq => by
      have := HLT.out q b hq
      have := HG.out
      omega
    clear hb1 c0 c1 c2 c3 c4 c5 ho2 hg2 hb2
    go_wp2_with fail
    go_loopw [11] (fun i wr => PgTo w2 w1.heap.size C at_ i wr) (fun i _ => 16 - (intOf i).toNat)
    case atStart => exact HST.out
    case round =>
      obtain ⟨k, X, hk, rfl, ho, hX, hg, hon⟩ := hrel
      have HO := Lib.hid ho
      have HON := Lib.hid hon
      have HXG := Lib.hid hg
      have HXL := Lib.hid hX
      clear ho hX hg hon HST
      by_cases hlt : k < 16
      · have hki : (k : Int) < 16 := by omega
        have hwk := IntWalk.i64_in ((at_ : Int) * 16 + (k : Int)) (by omega)
        by_cases hlt2 : 16 * at_ + k < C.length
        · have hki2 : (at_ : Int) * 16 + (k : Int) < (C.length : Int) := by omega
          have hki3 : (0 : Int) ≤ (at_ : Int) * 16 + (k : Int) := by omega
          have hki4 : ((at_ : Int) * 16 + (k : Int)).toNat = 16 * at_ + k := by omega
          obtain ⟨sb, so, rfl, q0, hql⟩ := HAT2.out (16 * at_ + k) _ (u32s_get C (16 * at_ + k) hlt2)
          have q1 : wr.cell? ⟨sb, so + (16 * at_ + k), none⟩ = some (.int .u32 (C.getD (16 * at_ + k) 0)) := by
            rw [← q0]
            exact World.cell?_of_block (HON.out.block sb hql (HSL.out _ (by omega) rfl))
          obtain ⟨z, hz⟩ : ∃ z, C.getD (16 * at_ + k) 0 = z := ⟨_, rfl⟩
          have HZ := Lib.hid hz
          have g0 := (own_cell HO.out k (by omega)).trans (u32s_get X k (by rw [HXL.out]; omega))
          have g1 := own_free HO.out k
          have hw3 := IntWalk.i64_in ((k : Int) + 1) (by omega)
          rw [hz] at q1
          clear hz q0 hql hlt2
          go_wp2
          go_roundw
          case rel => exact pg_step HO.out HXL.out HXG.out HON.out (by omega) HZ.out
          case measure => simp [intOf]; omega
        · have hki2 : ¬ (at_ : Int) * 16 + (k : Int) < (C.length : Int) := by omega
          have HE : Hid (X = pageWords C at_) := Lib.hid (pg_end HXL.out HXG.out (by omega))
          clear hlt2
          go_wp2
          go_ret2
          exact pgR_some HPL.out (HB2.out.trans (HON.out.below (B := w.heap.size) HB2.out.size (fun k hk => by have := HG.out; omega))) (HE.out ▸ own_at HO.out) HG.out
      · obtain rfl : k = 16 := by omega
        have hki : ¬ ((16 : Nat) : Int) < 16 := by omega
        have HE : Hid (X = pageWords C at_) := Lib.hid (pg_end HXL.out HXG.out (by omega))
        go_wp2
        go_ret2
        exact pgR_some HPL.out (HB2.out.trans (HON.out.below (B := w.heap.size) HB2.out.size (fun k hk => by have := HG.out; omega))) (HE.out ▸ own_at HO.out) HG.out
end Go.Proofs.YtehmpdgpjpifoaaDoor
