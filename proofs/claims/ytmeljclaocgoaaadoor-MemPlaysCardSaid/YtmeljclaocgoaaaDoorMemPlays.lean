/-
  MemPlays: for every number of frames, list of things told and word asked the call returns true; nothing that was there is turned. Given where the sentinels lie.
-/
import Derived.Test.YtmeljclaocgoaaaDoorMemDo
import Derived.Test.YtmeljclaocgoaaaDoorMr2
import Derived.Test.YtmeljclaocgoaaaDoorSameInts
import Derived.Test.YtmeljclaocgoaaaDoorSameWords
namespace Go.Proofs.YtmeljclaocgoaaaDoor
open Go.RowKit

/-- the memory, the document's, the copy: none holds a block of another one -/
structure Three (w : World) (n b xb ob : Nat) (v xv ov : Value) (l : List Int) (wr : World) : Prop where
  m : MAt wr b v n l
  x : MAr wr xb xv n l
  o : MAt wr ob ov n (List.replicate (16 * n) 0)
  wb : Below w.heap.size w wr
  vw : ∀ k, inRow v k → w.heap.size ≤ k
  xw : ∀ k, inRow xv k → w.heap.size ≤ k
  v1 : ∀ k, inRow v k → k ≠ xb ∧ k ≠ ob ∧ ¬ inRow xv k ∧ ¬ inRow ov k
  x1 : ∀ k, inRow xv k → k ≠ b ∧ k ≠ ob ∧ ¬ inRow v k ∧ ¬ inRow ov k
theorem Three.below {w : World} {n b xb ob : Nat} {v xv ov : Value} {l : List Int} {wr wy : World} (h : Three w n b xb ob v xv ov l wr) (hb : Below wr.heap.size wr wy) : Three w n b xb ob v xv ov l wy :=
  ⟨h.m.below hb, h.x.below hb, h.o.below hb, h.wb.trans (hb.mono h.wb.size), h.vw, h.xw, h.v1, h.x1⟩
/-- both are told -/
theorem Three.first {w : World} {n b xb ob : Nat} {v xv ov : Value} {l : List Int} {wr wy : World} (h : Three w n b xb ob v xv ov l wr) (ho : Only (fun k => inRow v k) wr wy) : MAr wy xb xv n l :=
  h.x.only ho (fun e => (h.v1 _ e).1 rfl) (fun k hk e => (h.v1 k e).2.2.1 hk)
theorem Three.step {w : World} {n b xb ob : Nat} {v xv ov : Value} {l l' : List Int} {wr wy wz : World} (h : Three w n b xb ob v xv ov l wr) (hm : MAt wy b v n l') (ho : Only (fun k => inRow v k) wr wy) (hx : MAr wz xb xv n l') (ho2 : Only (fun k => inRow xv k) wy wz) : Three w n b xb ob v xv ov l' wz :=
  ⟨hm.only ho2 (fun e => (h.x1 _ e).1 rfl) (fun k hk e => (h.v1 k hk).2.2.1 e), hx,
    (h.o.only ho (fun e => (h.v1 _ e).2.1 rfl) (fun k hk e => (h.v1 k e).2.2.2 hk)).only ho2 (fun e => (h.x1 _ e).2.1 rfl) (fun k hk e => (h.x1 k e).2.2.2 hk),
    (h.wb.trans (ho.below h.wb.size h.vw)).trans (ho2.below (Nat.le_trans h.wb.size ho.size) h.xw), h.vw, h.xw, h.v1, h.x1⟩

def zerosL (n : Nat) : List Int := List.replicate (16 * n) 0
theorem fw_zeros (n f : Nat) (hf : f < n) : fw (List.replicate (16 * n) 0) n f = zeros16 :=
  ext_getD (by rw [fw_len _ n f (by simp) hf]; rfl) fun j hj => by
    rw [fw_len _ n f (by simp) hf] at hj
    rw [fw_get _ n f j (by simp) hf hj, rep_getD]
    exact (rep_getD 16 j).symm
theorem dif_zeros (l : List Int) (n f : Nat) : dif (List.replicate (16 * n) 0) n l n f = (inI n (f : Int) && !decide (fwI l n (f : Int) = zeros16)) := by
  have e2 : inI n (f : Int) = decide (f < n) := by unfold inI; simp
  have e1 : fwI l n (f : Int) = fw l n f := by unfold fwI; rw [if_pos (by omega), Int.toNat_natCast]
  rw [e1, e2]
  unfold dif
  by_cases hf : f < n
  · rw [fw_zeros n f hf, decide_eq_true hf]
    by_cases e : fw l n f = zeros16
    · rw [e]; simp
    · have e' : ¬ zeros16 = fw l n f := fun h => e h.symm
      simp [e, e']
  · rw [fw_past _ n f (by omega), fw_past l n f (by omega), decide_eq_false hf]
    rfl
theorem fwI_len (l : List Int) (n : Nat) (f : Int) (hl : l.length = 16 * n) : (fwI l n f).length ≤ 1000000000 := by
  unfold fwI
  by_cases h : 0 ≤ f
  · rw [if_pos h]
    by_cases hf : f.toNat < n
    · rw [fw_len l n _ hl hf]; decide
    · rw [fw_past l n _ (by omega)]; decide
  · rw [if_neg h]; decide
/-- one more frame is looked at -/
theorem difL_turn (l : List Int) (n k : Nat) (b : Bool) (h : (inI n ((k : Int) - 1) && !decide (fwI l n ((k : Int) - 1) = zeros16)) = b) : difL (List.replicate (16 * n) 0) n l n (k + 1 - 1) = if b then difL (List.replicate (16 * n) 0) n l n (k - 1) ++ [(k : Int) - 1] else difL (List.replicate (16 * n) 0) n l n (k - 1) := by
  cases k with
  | zero =>
    have : b = false := by
      rw [← h]
      have : inI n ((0 : Nat) - 1 : Int) = false := decide_eq_false (by omega)
      rw [this, Bool.false_and]
    subst this
    rfl
  | succ k =>
    have e : ((k + 1 : Nat) : Int) - 1 = (k : Int) := by omega
    rw [e] at h ⊢
    rw [Nat.add_sub_cancel, Nat.add_sub_cancel, difL_succ, dif_zeros, h]

/-- the frames up to one are looked at -/
def PlaysDif (w0 : World) (n : Nat) (l : List Int) (dv i : Value) (wr : World) : Prop :=
  ∃ k : Nat, k ≤ n + 2 ∧ i = .int .i64 ((k : Int) - 1) ∧ Below w0.heap.size w0 wr ∧ wr.ownsRow 0 3 1 dv (difL (List.replicate (16 * n) 0) n l n (k - 1)).length (ints (difL (List.replicate (16 * n) 0) n l n (k - 1))) ∧ (∀ j, inRow dv j → w0.heap.size ≤ j) ∧ ∃ ao cap, dv = .slice ao (difL (List.replicate (16 * n) 0) n l n (k - 1)).length cap
/-- so many things are told -/
def PlaysM (q : Nat) (w : World) (n b xb ob : Nat) (v xv ov : Value) (i : Value) (wr : World) : Prop :=
  ∃ (k : Nat) (l : List Int), k ≤ q ∧ i = .int .i64 (k : Int) ∧ Three w n b xb ob v xv ov l wr
theorem bne_self_b (b : Bool) : (b != b) = false := by cases b <;> rfl

set_option maxRecDepth 100000 in
set_option maxHeartbeats 1600000 in
theorem mem_plays_err (E : Nat → Addr) (n : Int) (q : Nat) (ao : Option Addr) (c1 : Nat) (ask : Int) (w : World) (hE : ErrsAt errT gOf w E all16) (h : n < 1 ∨ 1024 < n) :
    Calls Tryd.prog 13 #[.int .i64 n, .slice ao q c1, .int .i64 ask] w fun e w' => e = .returned (.bool true) ∧ Below w.heap.size w w' := by
  have HE := Lib.hid hE
  have HH := Lib.hid h
  clear hE
  by_cases h1 : n < 1
  · clear h
    go_enter Tryd.func13, Tryd.ntmps13
    go_wp2_with fail
    refine (mm_first _).mono ?_
    rintro e w1 ⟨rfl, hb1⟩
    have HB1 := Lib.hid hb1
    clear hb1
    go_wp2_with fail
    refine (mm_new_err E n _ (HE.out.mono HB1.out) HH.out).mono ?_
    rintro e w2 ⟨rfl, hb2⟩
    have HB2 := Lib.hid (HB1.out.trans (hb2.mono HB1.out.size))
    clear hb2
    go_wp2_with fail
    refine (is_any E (errV (E 2)) 103 103 (.inr ⟨2, by decide, rfl, rfl⟩) _ (HE.out.mono HB2.out)).mono ?_
    rintro e w3 ⟨rfl, hb3⟩
    have HB3 := Lib.hid (HB2.out.trans (hb3.mono HB2.out.size))
    clear hb3
    go_wp2
    go_ret
    exact ⟨rfl, HB3.out⟩
  · have h2 : 1024 < n := by omega
    clear h
    go_enter Tryd.func13, Tryd.ntmps13
    go_wp2_with fail
    refine (mm_first _).mono ?_
    rintro e w1 ⟨rfl, hb1⟩
    have HB1 := Lib.hid hb1
    clear hb1
    go_wp2_with fail
    refine (mm_new_err E n _ (HE.out.mono HB1.out) HH.out).mono ?_
    rintro e w2 ⟨rfl, hb2⟩
    have HB2 := Lib.hid (HB1.out.trans (hb2.mono HB1.out.size))
    clear hb2
    go_wp2_with fail
    refine (is_any E (errV (E 2)) 103 103 (.inr ⟨2, by decide, rfl, rfl⟩) _ (HE.out.mono HB2.out)).mono ?_
    rintro e w3 ⟨rfl, hb3⟩
    have HB3 := Lib.hid (HB2.out.trans (hb3.mono HB2.out.size))
    clear hb3
    go_wp2
    go_ret
    exact ⟨rfl, HB3.out⟩

set_option maxRecDepth 100000 in
set_option maxHeartbeats 1600000 in
theorem mem_plays_many (n q : Nat) (ao : Option Addr) (c1 : Nat) (ask : Int) (w : World) (h1 : 1 ≤ n) (h2 : n ≤ 1024) (h : 12 < n ∨ 40 < q) :
    Calls Tryd.prog 13 #[.int .i64 n, .slice ao q c1, .int .i64 ask] w fun e w' => e = .returned (.bool true) ∧ Below w.heap.size w w' := by
  have hn1 : ¬ (n : Int) < 1 := by omega
  have hn2 : ¬ (1024 : Int) < (n : Int) := by omega
  have hc : 12 < (n : Int) ∨ (¬ 12 < (n : Int) ∧ 40 < (q : Int)) := by omega
  clear h
  rcases hc with hc | ⟨hc, hd⟩
  all_goals
    go_enter Tryd.func13, Tryd.ntmps13
    go_wp2_with fail
    refine (mm_first _).mono ?_
    rintro e w1 ⟨rfl, hb1⟩
    have HB1 := Lib.hid hb1
    clear hb1
    go_wp2_with fail
    refine (mm_new n _ h1 h2).mono ?_
    rintro e w2 ⟨b, v, rfl, -, -, -, hb2⟩
    have HB2 := Lib.hid (HB1.out.trans (hb2.mono HB1.out.size))
    clear hb2
    go_wp2
    go_ret
    exact ⟨rfl, HB2.out⟩

set_option maxRecDepth 100000 in
set_option maxHeartbeats 20000000 in
theorem mem_plays_some (n : Nat) (l : List FDo) (ao : Option Addr) (c1 : Nat) (ask : Int) (w : World) (h1 : 1 ≤ n) (h2 : n ≤ 12) (hl : AtL w ao (l.flatMap fdoCells)) (hok : ∀ x ∈ l, AtL w x.ao (u32s x.l)) (hn : l.length ≤ 40) :
    Calls Tryd.prog 13 #[.int .i64 n, .slice ao l.length c1, .int .i64 ask] w fun e w' => e = .returned (.bool true) ∧ Below w.heap.size w w' := by
  obtain ⟨i0, hi, hz0, hz1, hz2⟩ := info_parts infoMInt
  obtain ⟨iu, hu, hu0, hu1, hu2⟩ := info_parts infoU32
  have HL := Lib.hid hl
  have HOK := Lib.hid hok
  have hn1 : ¬ (n : Int) < 1 := by omega
  have hn2 : ¬ (1024 : Int) < (n : Int) := by omega
  have hn3 : ¬ (12 : Int) < (n : Int) := by omega
  have hn4 : ¬ (40 : Int) < (l.length : Int) := by omega
  clear hl hok
  go_enter Tryd.func13, Tryd.ntmps13
  go_wp2_with fail
  refine (mm_first _).mono ?_
  rintro e w1 ⟨rfl, hb1⟩
  have HB1 := Lib.hid hb1
  clear hb1
  go_wp2_with fail
  refine (mm_new n _ h1 (by omega)).mono ?_
  rintro e w2 ⟨b, v, rfl, hm, hmb, hmv, hb2⟩
  have HB2 := Lib.hid (HB1.out.trans (hb2.mono HB1.out.size))
  have HM := Lib.hid hm
  have HMV : Hid (∀ k, inRow v k → w.heap.size ≤ k) := Lib.hid fun k hk => Nat.le_trans HB1.out.size (hmv k hk)
  clear hb2 hm hmb hmv
  go_wp2_with fail
  refine (mr_new n _ h1 (by omega)).mono ?_
  rintro e w3 ⟨xb, xv, rfl, hx, hxb, hxv, hb3⟩
  have HB3 := Lib.hid (HB2.out.trans (hb3.mono HB2.out.size))
  have HX := Lib.hid hx
  have HM3 := Lib.hid (HM.out.below hb3)
  have HXV : Hid (∀ k, inRow xv k → w2.heap.size ≤ k) := Lib.hid hxv
  have HXB := Lib.hid hxb
  clear hb3 hx hxb hxv
  go_wp2_with fail
  refine (mm_clone _ b n v _ HM3.out (by omega)).mono ?_
  rintro e w4 ⟨ob, ov, rfl, ho, hob, hov, hb4⟩
  have HT : Hid (Three w n b xb ob v xv ov (List.replicate (16 * n) 0) w4) := Lib.hid ⟨HM3.out.below hb4, HX.out.below hb4, ho, HB3.out.trans (hb4.mono HB3.out.size), HMV.out, fun k hk => Nat.le_trans HB2.out.size (HXV.out k hk),
    fun k hk => by
      have g1 := own_lt HM.out.2.1 hk
      have g2 := own_lt HM3.out.2.1 hk
      have g3 := HXB.out
      exact ⟨by omega, by omega, fun e => by have := HXV.out k e; omega, fun e => by have := hov k e; omega⟩,
    fun k hk => by
      have g1 := HXV.out k hk
      have g2 := blk_lt HM.out.1
      have g3 := own_lt HX.out.2.1 hk
      exact ⟨by omega, by omega, fun e => by have := own_lt HM.out.2.1 e; omega, fun e => by have := hov k e; omega⟩⟩
  clear ho hob hov hb4 HB1 HB2 HB3 HM HM3 HX HXV HXB HMV
  go_wp2_with fail
  go_loopw [12] (fun i wr => PlaysM l.length w n b xb ob v xv ov i wr) (fun i _ => l.length - (intOf i).toNat)
  case atStart => exact ⟨0, _, Nat.zero_le _, rfl, HT.out⟩
  case round =>
    obtain ⟨j, m, hj, rfl, ht⟩ := hrel
    have HR := Lib.hid ht
    clear ht HT
    by_cases hlt : j < l.length
    · have hji : (j : Int) < (l.length : Int) := by omega
      have hj0 : (0 : Int) ≤ (j : Int) := by omega
      have hw1 := IntWalk.i64_in ((j : Int) + 1) (by omega)
      obtain ⟨g0, g1, g2, g3⟩ := fdo_get l j hlt
      have hmem : l.getD j default ∈ l := by
        rw [List.getD_eq_getElem?_getD, List.getElem?_eq_getElem hlt]
        exact List.getElem_mem _
      obtain ⟨⟨kd, nn, ww, xa, xc, xs⟩, hx⟩ : ∃ x, l.getD j default = x := ⟨_, rfl⟩
      rw [hx] at g0 g1 g2 g3 hmem
      have hxs : AtL w xa (u32s xs) := HOK.out _ hmem
      obtain ⟨sb, so, rfl, d0, hbl⟩ := HL.out _ _ g0
      obtain ⟨_, _, e1, d1, -⟩ := HL.out _ _ g1
      cases e1
      obtain ⟨_, _, e2, d2, -⟩ := HL.out _ _ g2
      cases e2
      obtain ⟨_, _, e3, d3, -⟩ := HL.out _ _ g3
      cases e3
      have c0 := (HR.out.wb.cell (p := ⟨sb, so + j * 4, none⟩) hbl).trans d0
      have c1 := (HR.out.wb.cell (p := ⟨sb, so + (j * 4 + 1), none⟩) hbl).trans d1
      have c2 := (HR.out.wb.cell (p := ⟨sb, so + (j * 4 + 2), none⟩) hbl).trans d2
      have c3 := (HR.out.wb.cell (p := ⟨sb, so + (j * 4 + 3), none⟩) hbl).trans d3
      rw [← Nat.add_assoc] at c1 c2 c3
      have HXS := Lib.hid hxs
      clear d0 d1 d2 d3 g0 g1 g2 g3 hx hmem hxs
      by_cases hbig : 20 < xs.length
      · have hbigi : (20 : Int) < (xs.length : Int) := by omega
        go_wp2
        go_ret
        exact ⟨rfl, (HR.out.wb.alloc HR.out.wb.size _)⟩
      · have hbigi : ¬ (20 : Int) < (xs.length : Int) := by omega
        by_cases hk : kd = 1
        · have hk1 : (kd == 1) = true := by simp [hk]
          clear hk
          go_wp2_with fail
          obtain ⟨wA, hwA⟩ : ∃ wA, wA = wr.alloc (.cells #[.int .i64 kd, .int .i64 nn, .int .u32 ww, .slice xa xs.length xc] 99) := ⟨_, rfl⟩
          have hba : Below wr.heap.size wr wA := hwA ▸ Below.alloc (Below.refl _ _) (Nat.le_refl _) _
          have HTA := Lib.hid (HR.out.below hba)
          have HTD := Lib.hid (HTA.out.below (Below.refl _ _).drew)
          have HBLK : Hid (wA.heap[wr.heap.size]? = some (.cells #[.int .i64 kd, .int .i64 nn, .int .u32 ww, .slice xa xs.length xc] 99 (0, 0))) := Lib.hid (hwA ▸ blk_new wr _)
          have HFR : Hid (¬ (inRow v wr.heap.size ∨ inRow xv wr.heap.size)) := Lib.hid fun e => e.elim (fun e => by have := own_lt HR.out.m.2.1 e; omega) (fun e => by have := own_lt HR.out.x.2.1 e; omega)
          rw [← hwA]
          obtain ⟨da, hda⟩ : ∃ da, wr.heap.size = da := ⟨_, rfl⟩
          rw [hda] at HBLK HFR ⊢
          clear hwA hba c0 c1 c2 c3 hda
          have HKA : Hid (∀ wx, Only (fun k => inRow v k ∨ inRow xv k) wA wx → Only (fun k => inRow v k ∨ inRow xv k) wA wx ∧ wx.cell? ⟨da, 1, none⟩ = some (.int .i64 nn) ∧ wx.cell? ⟨da, 2, none⟩ = some (.int .u32 ww) ∧ wx.cell? ⟨da, 3, none⟩ = some (.slice xa xs.length xc)) := Lib.hid fun wx h => by
            have hb := h.blk HBLK.out HFR.out
            exact ⟨h, blk_cell hb 1, blk_cell hb 2, blk_cell hb 3⟩
          obtain ⟨-, c1, c2, c3⟩ := HKA.out _ (Only.refl _ wA)
          have hB0 : Only (fun k => inRow v k ∨ inRow xv k) wA wA.drew := (Only.refl _ _).drew
          obtain ⟨B, hB⟩ : ∃ B, (decide (0 ≤ nn) && decide (nn < (m.length : Int))) = B := ⟨_, rfl⟩
          have HW1 : Hid (Calls Tryd.prog 38 #[.pointer (some ⟨b, 0, none⟩), .int .i64 nn, .int .u32 ww] wA.drew fun e w' => e = .returned (.bool B) ∧ MAt w' b v n (writeL m nn ww) ∧ Only (fun k => inRow v k) wA.drew w') := Lib.hid (hB ▸ mm_write m b n v nn ww _ HTD.out.m)
          have HW2 : Hid (∀ w5, MAr w5 xb xv n m → Only (fun k => inRow v k) wA.drew w5 → Calls Tryd.prog 53 #[.pointer (some ⟨xb, 0, none⟩), .int .i64 nn, .int .u32 ww] w5 fun e w' => e = .returned (.bool B) ∧ MAr w' xb xv n (writeL m nn ww) ∧ Only (fun k => inRow xv k) w5 w') := Lib.hid fun w5 h _ => hB ▸ mr_write m xb n xv nn ww _ h
          clear hB
          cases B
          all_goals
            go_region_held3 (fun wx => Only (fun k => inRow v k ∨ inRow xv k) wA wx ∧ wx.cell? ⟨da, 1, none⟩ = some (.int .i64 nn) ∧ wx.cell? ⟨da, 2, none⟩ = some (.int .u32 ww) ∧ wx.cell? ⟨da, 3, none⟩ = some (.slice xa xs.length xc)) (first | exact HKA.out _ (by assumption))
              (first
                | (go_at_call 38; refine HW1.out.mono ?_; rintro e w5 ⟨rfl, hm5, ho5⟩; have hx5 := HTD.out.first ho5; have hB5 : Only (fun k => inRow v k ∨ inRow xv k) wA w5 := hB0.trans (ho5.mono fun k hk => .inl (.inl hk)))
                | (go_at_call 53; refine (HW2.out w5 hx5 ho5).mono ?_; rintro e w6 ⟨rfl, hx6, ho6⟩; have hB6 : Only (fun k => inRow v k ∨ inRow xv k) wA w6 := hB5.trans (ho6.mono fun k hk => .inl (.inr hk))))
            have HN6 := Lib.hid (HTD.out.step hm5 ho5 hx6 ho6)
            clear hm5 ho5 hx5 hB5 hx6 ho6 hB6 hB0
            go_wp2_with fail
            go_roundw
            case rel => exact ⟨j + 1, _, by omega, by go_num, HN6.out⟩
            case measure => simp [intOf]; omega
        · have hk1 : (kd == 1) = false := by simp [hk]
          clear hk
          go_wp2_with fail
          obtain ⟨wA, hwA⟩ : ∃ wA, wA = wr.alloc (.cells #[.int .i64 kd, .int .i64 nn, .int .u32 ww, .slice xa xs.length xc] 99) := ⟨_, rfl⟩
          have hba : Below wr.heap.size wr wA := hwA ▸ Below.alloc (Below.refl _ _) (Nat.le_refl _) _
          have HTA := Lib.hid (HR.out.below hba)
          have HTD := Lib.hid (HTA.out.below (Below.refl _ _).drew)
          have HBLK : Hid (wA.heap[wr.heap.size]? = some (.cells #[.int .i64 kd, .int .i64 nn, .int .u32 ww, .slice xa xs.length xc] 99 (0, 0))) := Lib.hid (hwA ▸ blk_new wr _)
          have HFR : Hid (¬ (inRow v wr.heap.size ∨ inRow xv wr.heap.size)) := Lib.hid fun e => e.elim (fun e => by have := own_lt HR.out.m.2.1 e; omega) (fun e => by have := own_lt HR.out.x.2.1 e; omega)
          rw [← hwA]
          obtain ⟨da, hda⟩ : ∃ da, wr.heap.size = da := ⟨_, rfl⟩
          rw [hda] at HBLK HFR ⊢
          clear hwA hba c0 c1 c2 c3 hda
          have HKA : Hid (∀ wx, Only (fun k => inRow v k ∨ inRow xv k) wA wx → Only (fun k => inRow v k ∨ inRow xv k) wA wx ∧ wx.cell? ⟨da, 1, none⟩ = some (.int .i64 nn) ∧ wx.cell? ⟨da, 2, none⟩ = some (.int .u32 ww) ∧ wx.cell? ⟨da, 3, none⟩ = some (.slice xa xs.length xc)) := Lib.hid fun wx h => by
            have hb := h.blk HBLK.out HFR.out
            exact ⟨h, blk_cell hb 1, blk_cell hb 2, blk_cell hb 3⟩
          obtain ⟨-, c1, c2, c3⟩ := HKA.out _ (Only.refl _ wA)
          have hB0 : Only (fun k => inRow v k ∨ inRow xv k) wA wA.drew := (Only.refl _ _).drew
          obtain ⟨B, hB⟩ : ∃ B, fillB n nn xs.length = B := ⟨_, rfl⟩
          have HLT : Hid (∀ a, 0 < xs.length → xa = some a → a.block < w.heap.size) := Lib.hid fun a ha e => by
            obtain ⟨b', off, e2, -, hlt⟩ := HXS.out 0 _ (u32s_get xs 0 ha)
            rw [e] at e2
            cases e2
            exact hlt
          have HW1 : Hid (Calls Tryd.prog 49 #[.pointer (some ⟨b, 0, none⟩), .int .i64 nn, .slice xa xs.length xc] wA.drew fun e w' => e = .returned (.bool B) ∧ MAt w' b v n (fillA m n nn xs) ∧ Only (fun k => inRow v k) wA.drew w') := Lib.hid (hB ▸ mm_fill_any m xs b n xs.length xc nn xa v _ HTD.out.m (by omega) (HXS.out.mono HTD.out.wb) rfl (fun a ha e h => by have := HLT.out a ha e; have := HTD.out.vw _ h; omega))
          have HW2 : Hid (∀ w5, MAr w5 xb xv n m → Only (fun k => inRow v k) wA.drew w5 → Calls Tryd.prog 54 #[.pointer (some ⟨xb, 0, none⟩), .int .i64 nn, .slice xa xs.length xc] w5 fun e w' => e = .returned (.bool B) ∧ MAr w' xb xv n (fillA m n nn xs) ∧ Only (fun k => inRow xv k) w5 w') := Lib.hid fun w5 h ho => hB ▸ mr_fill_any m xs xb n xs.length xc nn xa xv _ h (by omega) (HXS.out.mono (HTD.out.wb.trans (ho.below HTD.out.wb.size HTD.out.vw))) rfl (fun a ha e h => by have := HLT.out a ha e; have := HTD.out.xw _ h; omega)
          clear hB
          cases B
          all_goals
            go_region_held3 (fun wx => Only (fun k => inRow v k ∨ inRow xv k) wA wx ∧ wx.cell? ⟨da, 1, none⟩ = some (.int .i64 nn) ∧ wx.cell? ⟨da, 2, none⟩ = some (.int .u32 ww) ∧ wx.cell? ⟨da, 3, none⟩ = some (.slice xa xs.length xc)) (first | exact HKA.out _ (by assumption))
              (first
                | (go_at_call 49; refine HW1.out.mono ?_; rintro e w5 ⟨rfl, hm5, ho5⟩; have hx5 := HTD.out.first ho5; have hB5 : Only (fun k => inRow v k ∨ inRow xv k) wA w5 := hB0.trans (ho5.mono fun k hk => .inl (.inl hk)))
                | (go_at_call 54; refine (HW2.out w5 hx5 ho5).mono ?_; rintro e w6 ⟨rfl, hx6, ho6⟩; have hB6 : Only (fun k => inRow v k ∨ inRow xv k) wA w6 := hB5.trans (ho6.mono fun k hk => .inl (.inr hk))))
            have HN6 := Lib.hid (HTD.out.step hm5 ho5 hx6 ho6)
            clear hm5 ho5 hx5 hB5 hx6 ho6 hB6 hB0
            go_wp2_with fail
            go_roundw
            case rel => exact ⟨j + 1, _, by omega, by go_num, HN6.out⟩
            case measure => simp [intOf]; omega
    · obtain rfl : j = l.length := by omega
      obtain ⟨w0, rfl⟩ : ∃ w0, w0 = wr := ⟨_, rfl⟩
      go_wp2_with fail
      go_loopw [14, 15] (fun dv i wr => PlaysDif w0 n m dv i wr) (fun _ i _ => n + 2 - (intOf i + 1).toNat)
      case atStart => exact ⟨0, Nat.zero_le _, rfl, Below.refl _ _, own_nil _ _ _, fun j hj => by simp [inRow, Value.ownBlock] at hj, none, 0, rfl⟩
      case round =>
        obtain ⟨k, hk, rfl, hbw, hown, hf, da, dc, rfl⟩ := hrel
        have HW := Lib.hid hbw
        have HO := Lib.hid hown
        have HF := Lib.hid hf
        have HTU := Lib.hid (difL_turn m n k)
        have HDL := difL_len (List.replicate (16 * n) 0) n m n (k - 1)
        clear hown hf hbw
        by_cases hlt : k < n + 2
        · obtain ⟨dl, hdl⟩ : ∃ dl, difL (List.replicate (16 * n) 0) n m n (k - 1) = dl := ⟨_, rfl⟩
          rw [hdl] at HO HF HTU HDL ⊢
          clear hdl
          obtain ⟨z, hz⟩ : ∃ z, (k : Int) - 1 = z := ⟨_, rfl⟩
          have hzi : z ≤ (n : Int) := by omega
          have hw2 := IntWalk.i64_in (z + 1) (by omega)
          have HZ : Hid (z + 1 = ((k + 1 : Nat) : Int) - 1) := Lib.hid (by omega)
          have HZM : Hid (n + 2 - (z + 1 + 1).toNat < n + 2 - (z + 1).toNat) := Lib.hid (by omega)
          rw [hz] at HTU ⊢
          clear hz
          go_wp2_with fail
          refine (mm_frame_int m b n v z _ (HR.out.below HW.out).m (by omega)).mono ?_
          rintro e w5 ⟨pa, pc, rfl, hp, hb5⟩
          have HP := Lib.hid hp
          have HW5 := Lib.hid (HW.out.trans (hb5.mono HW.out.size))
          have HX5 := Lib.hid hb5
          clear hp hb5
          go_wp2_with fail
          refine (mr_frame_int m xb n xv z _ (HR.out.below HW5.out).x (by omega)).mono ?_
          rintro e w6 ⟨qa, qc, rfl, hq, hb6⟩
          have HQ := Lib.hid hq
          have HP6 := Lib.hid (HP.out.mono hb6)
          have HW6 := Lib.hid (HW5.out.trans (hb6.mono HW5.out.size))
          have HX6 := Lib.hid (HX5.out.trans (hb6.mono HX5.out.size))
          clear hq hb6
          have hpl := fwI_len m n z HR.out.m.2.2
          obtain ⟨p, hp⟩ : ∃ p, fwI m n z = p := ⟨_, rfl⟩
          obtain ⟨hb, hhb⟩ : ∃ hb, inI n z = hb := ⟨_, rfl⟩
          rw [hp] at HQ HP6 HTU hpl ⊢
          rw [hhb] at HTU ⊢
          clear hp hhb HP HW5 HX5
          go_wp2_with (refine wpList_make_full _ rfl _ _ 25 rfl 0 22 iu (.int .u32 0) 1 Tryd.underlying25 hu hu0 hu1 _ _ _ _ 16 rfl rfl rfl rfl (by rw [hu2]; omega) (by unfold maxLen; omega) (Nat.zero_le _) ?_)
          intro w7 ho7 hg7
          have hb7 : Below w6.heap.size w6 w7 := (Below.refl _ _).grown hg7 (Nat.le_refl _) (fun k hk => by cases hk)
          rw [toList_madeCells_one] at ho7
          have hz7 : AtL w7 (some ⟨w6.heap.size, 0, none⟩) (u32s zeros16) := own_atL ho7
          have HZ7 := Lib.hid hz7
          have HQ7 := Lib.hid (HQ.out.mono hb7)
          have HP7 := Lib.hid (HP6.out.mono hb7)
          have HW7 := Lib.hid (HW6.out.trans (hb7.mono HW6.out.size))
          have HO7 := Lib.hid (own_frame HO.out fun k hk => (HX6.out.trans (hb7.mono HX6.out.size)).block k (own_lt HO.out hk))
          clear ho7 hg7 hb7 hz7 HQ HP6 HW6 HX6 HO HW
          obtain ⟨za, hza⟩ : ∃ za, w6.heap.size = za := ⟨_, rfl⟩
          rw [hza] at HZ7 ⊢
          clear hza
          have hz16 : zeros16.length = 16 := rfl
          cases hb
          · go_wp2_with fail
            refine (sameWords_any p p pa qa pc qc _ HP7.out HQ7.out hpl hpl).mono ?_
            rintro e w8 ⟨rfl, nd, rfl⟩
            rw [decide_eq_true rfl]
            have hd8 := below_drewN (Below.refl w7.heap.size w7) nd
            have HW8 := Lib.hid (HW7.out.trans (hd8.mono HW7.out.size))
            have HO8 := Lib.hid (own_frame HO7.out fun k hk => hd8.block k (own_lt HO7.out hk))
            have HE : Hid (difL (List.replicate (16 * n) 0) n m n (k + 1 - 1) = dl) := Lib.hid (HTU.out false rfl)
            clear hd8
            go_wp2
            go_roundw
            case rel => exact ⟨k + 1, by omega, by rw [HZ.out], HW8.out, by rw [HE.out]; exact HO8.out, HF.out, _, _, by rw [HE.out]⟩
            case measure => exact HZM.out
          · by_cases hpz : p = zeros16
            · have HE : Hid (difL (List.replicate (16 * n) 0) n m n (k + 1 - 1) = dl) := Lib.hid (HTU.out false (by rw [decide_eq_true hpz]; rfl))
              have HSW := Lib.hid (fun wx h1 h2 => sameWords_any p zeros16 qa (some ⟨za, 0, none⟩) qc 16 wx h1 h2 hpl (by decide))
              rw [decide_eq_true hpz, hz16] at HSW
              clear hpz
              go_wp2_with fail
              refine (sameWords_any p p pa qa pc qc _ HP7.out HQ7.out hpl hpl).mono ?_
              rintro e w8 ⟨rfl, nd, rfl⟩
              rw [decide_eq_true rfl]
              have hd8 := below_drewN (Below.refl w7.heap.size w7) nd
              have HW8 := Lib.hid (HW7.out.trans (hd8.mono HW7.out.size))
              have HO8 := Lib.hid (own_frame HO7.out fun k hk => hd8.block k (own_lt HO7.out hk))
              have HQ8 := Lib.hid (HQ7.out.mono hd8)
              have HZ8 := Lib.hid (HZ7.out.mono hd8)
              clear hd8
              obtain ⟨wv, hwv⟩ : ∃ wv, w7.drewN nd = wv := ⟨_, rfl⟩
              rw [hwv] at HW8 HO8 HQ8 HZ8 ⊢
              clear hwv
              go_wp2_with fail
              refine (HSW.out _ HQ8.out HZ8.out).mono ?_
              rintro e w9 ⟨rfl, nd2, rfl⟩
              have hd9 := below_drewN (Below.refl wv.heap.size wv) nd2
              have HW9 := Lib.hid (HW8.out.trans (hd9.mono HW8.out.size))
              have HO9 := Lib.hid (own_frame HO8.out fun k hk => hd9.block k (own_lt HO8.out hk))
              clear hd9
              obtain ⟨wq, hwq⟩ : ∃ wq, wv.drewN nd2 = wq := ⟨_, rfl⟩
              rw [hwq] at HW9 HO9 ⊢
              clear hwq
              go_wp2
              go_roundw
              case rel => exact ⟨k + 1, by omega, by rw [HZ.out], HW9.out, by rw [HE.out]; exact HO9.out, HF.out, _, _, by rw [HE.out]⟩
              case measure => exact HZM.out
            · have HE : Hid (difL (List.replicate (16 * n) 0) n m n (k + 1 - 1) = dl ++ [z]) := Lib.hid (HTU.out true (by rw [decide_eq_false hpz]; rfl))
              have HSW := Lib.hid (fun wx h1 h2 => sameWords_any p zeros16 qa (some ⟨za, 0, none⟩) qc 16 wx h1 h2 hpl (by decide))
              rw [decide_eq_false hpz, hz16] at HSW
              clear hpz
              go_wp2_with fail
              refine (sameWords_any p p pa qa pc qc _ HP7.out HQ7.out hpl hpl).mono ?_
              rintro e w8 ⟨rfl, nd, rfl⟩
              rw [decide_eq_true rfl]
              have hd8 := below_drewN (Below.refl w7.heap.size w7) nd
              have HW8 := Lib.hid (HW7.out.trans (hd8.mono HW7.out.size))
              have HO8 := Lib.hid (own_frame HO7.out fun k hk => hd8.block k (own_lt HO7.out hk))
              have HQ8 := Lib.hid (HQ7.out.mono hd8)
              have HZ8 := Lib.hid (HZ7.out.mono hd8)
              clear hd8
              obtain ⟨wv, hwv⟩ : ∃ wv, w7.drewN nd = wv := ⟨_, rfl⟩
              rw [hwv] at HW8 HO8 HQ8 HZ8 ⊢
              clear hwv
              go_wp2_with fail
              refine (HSW.out _ HQ8.out HZ8.out).mono ?_
              rintro e w9 ⟨rfl, nd2, rfl⟩
              have hd9 := below_drewN (Below.refl wv.heap.size wv) nd2
              have HW9 := Lib.hid (HW8.out.trans (hd9.mono HW8.out.size))
              have HO9 := Lib.hid (own_frame HO8.out fun k hk => hd9.block k (own_lt HO8.out hk))
              clear hd9
              obtain ⟨wq, hwq⟩ : ∃ wq, wv.drewN nd2 = wq := ⟨_, rfl⟩
              rw [hwq] at HW9 HO9 ⊢
              clear hwq
              go_wp2_with (at_builtin; refine wpList_append_sep _ rfl _ _ 45 rfl 3 i0 (.int .i64 0) 1 8 Tryd.underlying45 hi hz0 hz1 hz2 rfl (by decide) _ _ _ rfl (HO9.out.alloc _) ⟨wq.heap.size, 0, none⟩ 1 1 [.int .i64 z] rfl rfl (cell_one_new _ _ _) (by simp [Value.oneCell']) (by unfold maxLen; omega) (by omega) ?_)
              intro v' w10 ho10 hg10 hs10
              obtain ⟨ao4, cap4, rfl⟩ := own_slice ho10
              have e1 : ints (dl ++ [z]) = ints dl ++ [.int .i64 z] := by simp [ints]
              rw [← e1] at ho10
              have hw10 : Below w0.heap.size w0 w10 := (HW9.out.alloc HW9.out.size _).grown hg10 (Nat.le_trans HW9.out.size (by simp)) (fun j hj => HF.out j hj)
              have HF10 := Lib.hid (show ∀ j, inRow (.slice ao4 (dl.length + 1) cap4) j → w0.heap.size ≤ j from fun j hj => by
                rcases hs10 j hj with h | h
                · exact HF.out j h
                · exact Nat.le_trans HW9.out.size (Nat.le_trans (by simp) h))
              have HO10 := Lib.hid ho10
              have HW10 := Lib.hid hw10
              have HE2 : Hid ((dl ++ [z]).length = dl.length + 1) := Lib.hid (by simp)
              clear ho10 hg10 hs10 e1 hw10
              go_wp2
              go_roundw
              case rel => exact ⟨k + 1, by omega, by rw [HZ.out], HW10.out, by rw [HE.out, HE2.out]; exact HO10.out, HF10.out, ao4, cap4, by rw [HE.out, HE2.out]⟩
              case measure => exact HZM.out
        · obtain rfl : k = n + 2 := by omega
          have HE : Hid (difL (List.replicate (16 * n) 0) n m n (n + 2 - 1) = difL (List.replicate (16 * n) 0) n m n (max n n)) := Lib.hid (by
            rw [show n + 2 - 1 = n + 1 by omega, Nat.max_self, difL_succ]
            have : dif (List.replicate (16 * n) 0) n m n n = false := by
              rw [dif_zeros, show inI n (n : Int) = false from decide_eq_false (by omega), Bool.false_and]
            rw [this]
            rfl)
          rw [HE.out] at HO HDL ⊢
          have hki : ¬ ((n + 2 : Nat) : Int) - 1 ≤ (n : Int) := by omega
          have HAT := Lib.hid (own_atL HO.out)
          obtain ⟨r, rb, hr⟩ : ∃ r rb, readAns m ask = .tuple #[.int .u32 r, .bool rb] := by
            unfold readAns
            split
            · exact ⟨_, _, rfl⟩
            · exact ⟨_, _, rfl⟩
          have HRA := Lib.hid hr
          have hdl2 : (difL (List.replicate (16 * n) 0) n m n (max n n)).length ≤ 1000000000 := by omega
          obtain ⟨dl, hdl⟩ : ∃ dl, difL (List.replicate (16 * n) 0) n m n (max n n) = dl := ⟨_, rfl⟩
          have HDE := Lib.hid hdl
          rw [hdl] at HAT hdl2 ⊢
          clear hdl hr HO HDL HTU hlt
          cases rb
          all_goals
            go_wp2_with fail
            refine (mm_read m b n v ask _ (HR.out.below HW.out).m).mono ?_
            rintro e w5 ⟨rfl, rfl⟩
            rw [HRA.out]
            go_wp2_with fail
            refine (mr_read m xb n xv ask _ (HR.out.below HW.out).x).mono ?_
            rintro e w5 ⟨rfl, rfl⟩
            rw [HRA.out]
            go_wp2_with fail
            refine (differ_any _ ob n ov m b n v _ (HR.out.below HW.out).o (HR.out.below HW.out).m (by omega) (by omega)).mono ?_
            rintro e w6 ⟨dv, rfl, hd, -, hb6⟩
            rw [HDE.out] at hd
            obtain ⟨ea, ec, rfl⟩ := own_slice hd
            have HD6 := Lib.hid (own_atL hd)
            have HA6 := Lib.hid (HAT.out.mono hb6)
            have HW6 := Lib.hid (HW.out.trans (hb6.mono HW.out.size))
            clear hd hb6
            go_wp2_with fail
            refine (sameInts_any dl dl ea da ec dc _ HD6.out HA6.out hdl2 hdl2).mono ?_
            rintro e w7 ⟨rfl, nd, rfl⟩
            rw [decide_eq_true rfl]
            have HW7 := Lib.hid (below_drewN HW6.out nd)
            go_wp2_with fail
            refine (mm_frames m b n v _ (HR.out.below HW7.out).m (by omega)).mono ?_
            rintro e w8 ⟨rfl, rfl⟩
            go_wp2
            go_ret
            exact ⟨rfl, HR.out.wb.trans (HW7.out.mono HR.out.wb.size)⟩

theorem mem_plays_walk (E : Nat → Addr) (n : Int) (l : List FDo) (ao : Option Addr) (c1 : Nat) (ask : Int) (w : World) (hE : ErrsAt errT gOf w E all16) (hl : AtL w ao (l.flatMap fdoCells)) (hok : ∀ x ∈ l, AtL w x.ao (u32s x.l)) :
    Calls Tryd.prog 13 #[.int .i64 n, .slice ao l.length c1, .int .i64 ask] w fun e w' => e = .returned (.bool true) ∧ Below w.heap.size w w' := by
  by_cases h : n < 1 ∨ 1024 < n
  · exact mem_plays_err E n l.length ao c1 ask w hE h
  · obtain ⟨k, rfl⟩ : ∃ k : Nat, n = (k : Int) := ⟨n.toNat, by omega⟩
    by_cases h2 : 12 < k ∨ 40 < l.length
    · exact mem_plays_many k l.length ao c1 ask w (by omega) (by omega) h2
    · exact mem_plays_some k l ao c1 ask w (by omega) (by omega) hl hok (by omega)
end Go.Proofs.YtmeljclaocgoaaaDoor
