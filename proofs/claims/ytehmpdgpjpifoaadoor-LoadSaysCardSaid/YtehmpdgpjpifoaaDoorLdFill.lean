/-
  load.fill: an image laid into memory, frame by frame, and a table's entries; load.Page, both parts.
-/
import Derived.Test.YtehmpdgpjpifoaaDoorLoadPage
import Derived.Test.YtehmpdgpjpifoaaDoorMmB
import Derived.Test.YtehmpdgpjpifoaaDoorMm4
import Derived.Test.YtehmpdgpjpifoaaDoorWalkBits
namespace Go.Proofs.YtehmpdgpjpifoaaDoor
open Go.RowKit

/-- a page's words, of the data or of the code -/
def pageOf (D C : List Int) (p : Nat) : Option (List Int) := if p < 128 then (if p < pg D.length then some (pageWords D p) else none) else (if p - 128 < pg C.length then some (pageWords C (p - 128)) else none)
theorem pageWords_len (l : List Int) (a : Nat) : (pageWords l a).length = 16 := by
  unfold pageWords
  simp
  omega
/-- an image, as a value -/
def imgV (e : Int) (D C : List Int) (a1 a2 : Option Addr) (k1 k2 : Nat) (rv pv sv : Value) : Value := .agg #[.int .u32 e, .slice a1 D.length k1, .slice a2 C.length k2, rv, pv, sv]
def PagePost (P : Option (List Int)) (w : World) (e : Ending) (w' : World) : Prop := Below w.heap.size w w' ∧ match P with
  | none => e = .returned (.tuple #[.slice none 0 0, .bool false])
  | some ws => ∃ g, e = .returned (.tuple #[.slice (some ⟨g, 0, none⟩) 16 16, .bool true]) ∧ w.heap.size ≤ g ∧ w'.heap[g]? = some (.cells (u32s ws).toArray 24 (0, 0))
theorem atL_all {w : World} {ao : Option Addr} {l : List Int} (h : AtL w ao (u32s l)) (hn : 0 < l.length) : ∃ b off, ao = some ⟨b, off, none⟩ ∧ ∀ j u, (u32s l)[j]? = some u → w.cell? ⟨b, off + j, none⟩ = some u := by
  obtain ⟨b, off, e, -, -⟩ := h 0 _ (u32s_get l 0 hn)
  refine ⟨b, off, e, fun j u hj => ?_⟩
  obtain ⟨b', off', e', hc, -⟩ := h j u hj
  rw [e] at e'
  cases e'
  exact hc
theorem AtL.only {F : Nat → Prop} {w w' : World} {ao : Option Addr} {vs : List Value} (h : AtL w ao vs) (ho : Only F w w') (hF : 0 < vs.length → ∀ p, ao = some p → ¬ F p.block) : AtL w' ao vs := fun k u hk => by
  obtain ⟨b, off, e, hc, hb⟩ := h k u hk
  exact ⟨b, off, e, (World.cell?_of_block (ho.block b hb (hF (by have := (List.getElem?_eq_some_iff.1 hk).1; omega) _ e))).trans hc, Nat.lt_of_lt_of_le hb ho.size⟩
theorem page_one (e : Int) (D C : List Int) (a1 a2 : Option Addr) (k1 k2 p : Nat) (rv pv sv : Value) (w : World) (hD : D.length ≤ 2048) (hC : C.length ≤ 2048) (h1 : D.length ≤ k1) (h2 : C.length ≤ k2) (hd : AtL w a1 (u32s D)) (hc : AtL w a2 (u32s C)) (hp : p < 256) :
    Calls Tryd.prog 21 #[imgV e D C a1 a2 k1 k2 rv pv sv, .int .i64 (p : Int)] w (PagePost (pageOf D C p) w) := by
  unfold imgV pageOf
  by_cases hl : p < 128
  · rw [if_pos hl]
    by_cases ha : p < pg D.length
    · rw [if_pos ha]
      obtain ⟨b, off, rfl, hcell⟩ := atL_all hd (by unfold pg at ha; omega)
      refine (page_low D p e b off a2 k1 C.length k2 rv pv sv w (by omega) ha hl h1 hcell).mono ?_
      rintro x w' ⟨g, rfl, hg, hb, hr⟩
      exact ⟨hb, g, rfl, hg, hr⟩
    · rw [if_neg ha]
      refine (page_low_none D.length e (p : Int) a1 a2 k1 C.length k2 rv pv sv w (by omega) (by omega) (by omega)).mono ?_
      rintro x w' ⟨rfl, hb⟩
      exact ⟨hb, rfl⟩
  · rw [if_neg hl]
    by_cases ha : p - 128 < pg C.length
    · rw [if_pos ha]
      obtain ⟨b, off, rfl, hcell⟩ := atL_all hc (by unfold pg at ha; omega)
      refine (page_high C (p - 128) e (p : Int) b off a1 k2 D.length k1 rv pv sv w (by omega) ha (by omega) h2 hcell).mono ?_
      rintro x w' ⟨g, rfl, hg, hb, hr⟩
      exact ⟨hb, g, rfl, hg, hr⟩
    · rw [if_neg ha]
      refine (page_high_none C.length e (p : Int) a2 a1 k2 D.length k1 rv pv sv w (by omega) (by omega) (by omega)).mono ?_
      rintro x w' ⟨rfl, hb⟩
      exact ⟨hb, rfl⟩

set_option maxRecDepth 100000 in
set_option maxHeartbeats 1600000 in
theorem set_any (l : List Int) (b n pb : Nat) (v : Value) (f k fr : Int) (wr : Bool) (w : World) (h : MAt w b v n l) (hp : w.heap[pb]? = some (.cells #[.pointer (some ⟨b, 0, none⟩)] 38 (0, 0))) (hf : 0 ≤ f ∧ f ≤ 1000) (hk : 0 ≤ k ∧ k ≤ 1000) (hr : 0 ≤ fr) (hr2 : fr < 1024) :
    Calls Tryd.prog 49 #[.int .i64 f, .int .i64 k, .agg #[.int .i64 fr, .bool true, .bool wr, .bool true], .pointer (some ⟨pb, 0, none⟩)] w fun e w' => e = .returned (.tuple #[]) ∧ MAt w' b v n (writeL l (f * 16 + k) (entW fr true wr true)) ∧ Only (fun k => inRow v k) w w' := by
  have HM : Hid (∀ wx, Below w.heap.size w wx → MAt wx b v n l ∧ wx.cell? ⟨pb, 0, none⟩ = some (.pointer (some ⟨b, 0, none⟩))) := Lib.hid fun wx hx => ⟨h.below hx, blk_cell (blk_below hp hx (blk_lt hp)) 0⟩
  have HBT := Lib.hid (fun wx => bits_there fr wr true wx hr hr2)
  have HB0 : Hid (Below w.heap.size w (w.alloc (.cells #[.int .i64 fr, .bool true, .bool wr, .bool true] 84))) := Lib.hid ((Below.refl _ _).alloc (Nat.le_refl _) _)
  have w1 := IntWalk.i64_in (f * 16) (by omega)
  have w2 := IntWalk.i64_in (f * 16 + k) (by omega)
  obtain ⟨E, hE⟩ : ∃ E, entW fr true wr true = E := ⟨_, rfl⟩
  rw [hE] at HBT ⊢
  clear h hp hE
  go_enter Tryd.func49, Tryd.ntmps49
  go_wp2_with fail
  refine (HBT.out _).mono ?_
  rintro e w3 ⟨rfl, hb3⟩
  have HB3 := Lib.hid (HB0.out.trans (hb3.mono HB0.out.size))
  obtain ⟨hm3, c3⟩ := HM.out _ HB3.out
  have HW := Lib.hid (mm_write l b n v (f * 16 + k) E w3 hm3)
  clear hb3 hm3
  go_wp2_with fail
  refine HW.out.mono ?_
  rintro e w4 ⟨rfl, hm4, ho4⟩
  have HM4 := Lib.hid hm4
  have HO4 := Lib.hid ((Only.of_below HB3.out).trans ho4)
  clear hm4 ho4
  go_wp2
  go_end0
  exact ⟨rfl, HM4.out, HO4.out⟩

/-- the table of the first level, so far -/
def tabL (l : List Int) : Nat → List Int
  | 0 => l
  | k + 1 => writeL (tabL l k) (k : Int) (entW ((k : Int) + 1) true true true)
/-- where a page's frame is -/
def pgF (q p : Nat) : Nat := if p < 128 then 17 + p else q + p - 128
/-- the pages, so far -/
def pgL (D C : List Int) (q : Nat) (l : List Int) : Nat → List Int
  | 0 => l
  | p + 1 => match pageOf D C p with
    | none => pgL D C q l p
    | some ws => writeL (fillL (pgL D C q l p) (pgF q p) ws) (((1 + p / 16 : Nat) : Int) * 16 + ((p % 16 : Nat) : Int)) (entW (pgF q p : Nat) true (decide (p < 128)) true)
def loadL (D C : List Int) (q : Nat) (l : List Int) : List Int := pgL D C q (tabL l 16) 256
theorem pageOf_len {D C : List Int} {p : Nat} {ws : List Int} (h : pageOf D C p = some ws) : ws.length = 16 := by
  unfold pageOf at h
  split at h
  · split at h
    · rw [← Option.some.inj h]; exact pageWords_len _ _
    · cases h
  · split at h
    · rw [← Option.some.inj h]; exact pageWords_len _ _
    · cases h
theorem pgF_lt {D C : List Int} {q p : Nat} {ws : List Int} (h : pageOf D C p = some ws) (hq : 17 + pg D.length ≤ q) : pgF q p < q + pg C.length := by
  unfold pageOf at h
  unfold pgF
  split at h
  · rename_i hp
    rw [if_pos hp]
    split at h
    · omega
    · cases h
  · rename_i hp
    rw [if_neg hp]
    split at h
    · omega
    · cases h
def FtTo (l : List Int) (b n : Nat) (v : Value) (w0 : World) (i : Value) (wr : World) : Prop := ∃ k : Nat, k ≤ 16 ∧ i = .int .i64 (k : Int) ∧ MAt wr b v n (tabL l k) ∧ Only (fun k => inRow v k) w0 wr
def FpTo (D C : List Int) (q : Nat) (l : List Int) (b n : Nat) (v : Value) (w0 : World) (i : Value) (wr : World) : Prop := ∃ k : Nat, k ≤ 256 ∧ i = .int .i64 (k : Int) ∧ MAt wr b v n (pgL D C q l k) ∧ Only (fun k => inRow v k) w0 wr

set_option maxRecDepth 100000 in
set_option maxHeartbeats 8000000 in
theorem fill_any (e : Int) (D C : List Int) (a1 a2 : Option Addr) (k1 k2 : Nat) (rv pv sv : Value) (l : List Int) (b n q : Nat) (v : Value) (w : World) (h : MAt w b v n l) (hn : n = q + pg C.length) (hq : 17 + pg D.length ≤ q) (hq2 : q ≤ 256)
    (hD : D.length ≤ 2048) (hC : C.length ≤ 2048) (h1 : D.length ≤ k1) (h2 : C.length ≤ k2) (hd : AtL w a1 (u32s D)) (hc : AtL w a2 (u32s C)) (hap1 : 0 < D.length → ∀ p, a1 = some p → ¬ inRow v p.block) (hap2 : 0 < C.length → ∀ p, a2 = some p → ¬ inRow v p.block) :
    Calls Tryd.prog 33 #[.pointer (some ⟨b, 0, none⟩), imgV e D C a1 a2 k1 k2 rv pv sv, .int .i64 (q : Int)] w fun e w' => e = .returned (.tuple #[]) ∧ MAt w' b v n (loadL D C q l) ∧ Only (fun k => inRow v k) w w' := by
  obtain ⟨w0, hw0⟩ : ∃ w0, w0 = (w.alloc (.cells #[.pointer (some ⟨b, 0, none⟩)] 38)).alloc (.cells #[.int .u32 e, .slice a1 D.length k1, .slice a2 C.length k2, rv, pv, sv] 28) := ⟨_, rfl⟩
  have hb0 : Below w.heap.size w w0 := hw0 ▸ ((Below.refl _ _).alloc (Nat.le_refl _) _).alloc (by simp) _
  have HB0 := Lib.hid hb0
  have HPB : Hid (w0.heap[w.heap.size]? = some (.cells #[.pointer (some ⟨b, 0, none⟩)] 38 (0, 0))) := Lib.hid (hw0 ▸ blk_old (blk_new w _) _)
  have HIB : Hid (w0.heap[w.heap.size + 1]? = some (.cells #[.int .u32 e, .slice a1 D.length k1, .slice a2 C.length k2, rv, pv, sv] 28 (0, 0))) := Lib.hid (by
    have := blk_new (w.alloc (.cells #[.pointer (some ⟨b, 0, none⟩)] 38)) (.cells #[.int .u32 e, .slice a1 D.length k1, .slice a2 C.length k2, rv, pv, sv] 28)
    rw [hw0]
    simpa using this)
  have HM0 := Lib.hid (h.below hb0)
  have HROW : Hid (∀ k, inRow v k → k < w.heap.size) := Lib.hid fun k hk => own_lt h.2.1 hk
  have HD0 := Lib.hid (hd.mono hb0)
  have HC0 := Lib.hid (hc.mono hb0)
  have HAP1 := Lib.hid hap1
  have HAP2 := Lib.hid hap2
  have HNQ := Lib.hid (And.intro hn (And.intro hq (And.intro hq2 (And.intro hD (And.intro hC (And.intro h1 h2))))))
  have hpgc : pg C.length ≤ 128 := by unfold pg; omega
  have hn1 : n ≤ 1024 := by omega
  have HW0 := Lib.hid hw0
  have HST : Hid (FtTo l b n v w0 (.int .i64 0) w0) := Lib.hid ⟨0, Nat.zero_le _, rfl, HM0.out, Only.refl _ _⟩
  clear h hn hq hq2 hD hC h1 h2 hd hc hap1 hap2 hb0 hw0 hpgc
  unfold imgV
  go_enter Tryd.func33, Tryd.ntmps33
  go_wp2_with fail
  rw [← HW0.out]
  go_loopw [13] (fun i wr => FtTo l b n v w0 i wr) (fun i _ => 16 - (intOf i).toNat)
  case atStart => exact HST.out
  case round =>
    obtain ⟨k, hk, rfl, hm, ho⟩ := hrel
    have HM := Lib.hid hm
    have HO := Lib.hid ho
    have HPK : Hid (wr.heap[w.heap.size]? = some (.cells #[.pointer (some ⟨b, 0, none⟩)] 38 (0, 0))) := Lib.hid (ho.blk HPB.out (fun e => by have := HROW.out _ e; omega))
    clear hm ho HST
    by_cases hlt : k < 16
    · have hki : (k : Int) < 16 := by omega
      have HS := Lib.hid (set_any (tabL l k) b n w.heap.size v 0 (k : Int) ((k : Int) + 1) true wr HM.out HPK.out ⟨by omega, by omega⟩ ⟨by omega, by omega⟩ (by omega) (by omega))
      have HE : Hid (writeL (tabL l k) (0 * 16 + (k : Int)) (entW ((k : Int) + 1) true true true) = tabL l (k + 1)) := Lib.hid (by rw [Int.zero_mul, Int.zero_add]; rfl)
      rw [HE.out] at HS
      go_wp2_with fail
      refine HS.out.mono ?_
      rintro e' w1 ⟨rfl, hm1, ho1⟩
      have HM1 := Lib.hid hm1
      have HO1 := Lib.hid (HO.out.trans ho1)
      clear hm1 ho1
      go_wp2
      go_roundw
      case rel => exact ⟨k + 1, by omega, by go_num, HM1.out, HO1.out⟩
      case measure => simp [intOf]; omega
    · have hk16 : k = 16 := by omega
      have hkn : ¬ (k : Int) < 16 := by omega
      have HST2 : Hid (FpTo D C q (tabL l 16) b n v w0 (.int .i64 0) wr) := Lib.hid ⟨0, Nat.zero_le _, rfl, by rw [← hk16]; exact HM.out, HO.out⟩
      clear HM HO HPK hlt hk hk16
      go_wp2_with fail
      go_loopw [23] (fun i wr => FpTo D C q (tabL l 16) b n v w0 i wr) (fun i _ => 256 - (intOf i).toNat)
      case atStart => exact HST2.out
      case round =>
        obtain ⟨p, hp, rfl, hm, ho⟩ := hrel
        have HM := Lib.hid hm
        have HO := Lib.hid ho
        have HPK : Hid (∀ wx, Only (fun k => inRow v k) w0 wx → wx.heap[w.heap.size]? = some (.cells #[.pointer (some ⟨b, 0, none⟩)] 38 (0, 0))) := Lib.hid fun wx h => h.blk HPB.out (fun e => by have := HROW.out _ e; omega)
        have HIK : Hid (∀ wx, Only (fun k => inRow v k) w0 wx → wx.heap[w.heap.size + 1]? = some (.cells #[.int .u32 e, .slice a1 D.length k1, .slice a2 C.length k2, rv, pv, sv] 28 (0, 0))) := Lib.hid fun wx h => h.blk HIB.out (fun e => by have := HROW.out _ e; omega)
        clear hm ho HST2
        by_cases hlt : p < 256
        · have hpi : (p : Int) < 256 := by omega
          have hi := HIK.out _ HO.out
          have c0 := blk_cell hi 0
          have c1 := blk_cell hi 1
          have c2 := blk_cell hi 2
          have c3 := blk_cell hi 3
          have c4 := blk_cell hi 4
          have c5 := blk_cell hi 5
          have hnq := HNQ.out
          have HPG := Lib.hid (page_one e D C a1 a2 k1 k2 p rv pv sv wr hnq.2.2.2.1 hnq.2.2.2.2.1 hnq.2.2.2.2.2.1 hnq.2.2.2.2.2.2 (HD0.out.only HO.out fun hh => HAP1.out (by simpa [u32s] using hh)) (HC0.out.only HO.out fun hh => HAP2.out (by simpa [u32s] using hh)) hlt)
          have HPL : Hid (pgL D C q (tabL l 16) (p + 1) = match pageOf D C p with
            | none => pgL D C q (tabL l 16) p
            | some ws => writeL (fillL (pgL D C q (tabL l 16) p) (pgF q p) ws) (((1 + p / 16 : Nat) : Int) * 16 + ((p % 16 : Nat) : Int)) (entW (pgF q p : Nat) true (decide (p < 128)) true)) := Lib.hid rfl
          unfold imgV PagePost at HPG
          cases hP : pageOf D C p with
          | none =>
            rw [hP] at HPG HPL
            dsimp only at HPG HPL
            clear hi hnq hP
            go_wp2_with fail
            refine HPG.out.mono ?_
            rintro e' w1 ⟨hb1, rfl⟩
            have HM1 := Lib.hid (HM.out.below hb1)
            have HO1 := Lib.hid (HO.out.below' hb1)
            clear hb1 c0 c1 c2 c3 c4 c5
            go_wp2
            go_roundw
            case rel => exact ⟨p + 1, by omega, by go_num, by rw [HPL.out]; exact HM1.out, HO1.out⟩
            case measure => simp [intOf]; omega
          | some ws =>
            have HWL := Lib.hid (pageOf_len hP)
            have HFL := Lib.hid (pgF_lt hP hnq.2.1)
            rw [hP] at HPG HPL
            dsimp only at HPG HPL
            have hp2 : (p < 128 ∧ (17 : Int) + (p : Int) = ((pgF q p : Nat) : Int)) ∨ (128 ≤ p ∧ (q : Int) + (p : Int) - 128 = ((pgF q p : Nat) : Int)) := by
              unfold pgF
              by_cases h : p < 128
              · rw [if_pos h]; exact .inl ⟨h, by omega⟩
              · rw [if_neg h]; exact .inr ⟨by omega, by omega⟩
            have hfn : pgF q p < n := by rw [hnq.1]; exact HFL.out
            have hfx : pgF q p < 1024 := by omega
            obtain ⟨f, hf⟩ : ∃ f, pgF q p = f := ⟨_, rfl⟩
            rw [hf] at hp2 HPL hfn hfx
            have HFN := Lib.hid hfn
            have hq256 := hnq.2.2.1
            have HSET : Hid (∀ L wx, MAt wx b v n L → Only (fun k => inRow v k) w0 wx → ∀ (y : Int) (bb : Bool), y = (f : Int) → bb = decide (p < 128) → Calls Tryd.prog 49 #[.int .i64 (1 + (p : Int) / 16), .int .i64 ((p : Int) % 16), .agg #[.int .i64 y, .bool true, .bool bb, .bool true], .pointer (some ⟨w.heap.size, 0, none⟩)] wx fun e w' => e = .returned (.tuple #[]) ∧ MAt w' b v n (writeL L (((1 + p / 16 : Nat) : Int) * 16 + ((p % 16 : Nat) : Int)) (entW (f : Nat) true (decide (p < 128)) true)) ∧ Only (fun k => inRow v k) wx w') := Lib.hid fun L wx hm ho y bb hy hbb => by
              subst hy hbb
              have := set_any L b n w.heap.size v (1 + (p : Int) / 16) ((p : Int) % 16) (f : Int) (decide (p < 128)) wx hm (HPK.out _ ho) ⟨by omega, by omega⟩ ⟨by omega, by omega⟩ (by omega) (by omega)
              rw [show (1 + (p : Int) / 16) * 16 + (p : Int) % 16 = ((1 + p / 16 : Nat) : Int) * 16 + ((p % 16 : Nat) : Int) by omega] at this
              exact this
            clear hi hnq hP hf
            go_wp2_with fail
            refine HPG.out.mono ?_
            rintro e' w1 ⟨hb1, g, rfl, hg, hrow⟩
            have HM1 := Lib.hid (HM.out.below hb1)
            have HO1 := Lib.hid (HO.out.below' hb1)
            have HFILL := Lib.hid (mm_fill_ok (pgL D C q (tabL l 16) p) ws b n f 16 16 (some ⟨g, 0, none⟩) v w1 HM1.out hn1 HFN.out (fun i u hi => ⟨g, 0, rfl, by rw [blk_cell hrow, Nat.zero_add, List.getElem?_toArray]; exact hi, blk_lt hrow⟩) HWL.out (by omega) (fun a _ ha hr => by cases ha; have h1 : g < w.heap.size := HROW.out _ hr; have := HO.out.size; have := HB0.out.size; omega))
            have cp1 := blk_cell (HPK.out _ HO1.out) 0
            clear hb1 hg hrow c0 c1 c2 c3 c4 c5
            have wq1 := IntWalk.i64_in ((17 : Int) + (p : Int)) (by omega)
            have wq2 := IntWalk.i64_in ((q : Int) + (p : Int)) (by omega)
            have wq3 := IntWalk.i64_in ((q : Int) + (p : Int) - 128) (by omega)
            rcases hp2 with ⟨hp3, hfi⟩ | ⟨hp3, hfi⟩
            all_goals
              have HFI := Lib.hid hfi
              have hp4 : ((p : Int) < 128 ∧ p < 128) ∨ (¬ (p : Int) < 128 ∧ ¬ p < 128) := by omega
              have HP3 := Lib.hid hp3
              clear hfi
              go_wp2_with fail
              rw [HFI.out]
              refine HFILL.out.mono ?_
              rintro e' w2 ⟨rfl, hm2, ho2⟩
              have HM2 := Lib.hid hm2
              have HO2 := Lib.hid (HO1.out.trans ho2)
              clear hm2 ho2 cp1
              go_wp2_with fail
              refine (HSET.out _ _ HM2.out HO2.out _ _ (by first | rfl | exact HFI.out) (by have := HP3.out; simp; omega)).mono ?_
              rintro e' w3 ⟨rfl, hm3, ho3⟩
              have HM3 := Lib.hid hm3
              have HO3 := Lib.hid (HO2.out.trans ho3)
              clear hm3 ho3
              go_wp2
              go_roundw
              case rel => exact ⟨p + 1, by omega, by go_num, by rw [HPL.out]; exact HM3.out, HO3.out⟩
              case measure => simp [intOf]; omega
        · obtain rfl : p = 256 := by omega
          go_wp2
          go_end0
          exact ⟨rfl, HM.out, (Only.of_below HB0.out).trans HO.out⟩
end Go.Proofs.YtehmpdgpjpifoaaDoor
