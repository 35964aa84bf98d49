/-
  Parts of one proof, one behind the other.
-/
import Derived.Test.YtnhocmmgdkiepaaDoorMg7e0bd653d4
/-
  SchedCopies: the walk. Given where the sentinels lie.
-/
namespace Go.Proofs.YtnhocmmgdkiepaaDoor
open Go.RowKit

def CpA (n sb : Nat) (w : World) (i : Value) (wr : World) : Prop := ∃ (k : Nat) (st : Int → Option Gu), k ≤ n ∧ i = .int .i64 (k : Int) ∧ CpI k st ∧ ScL w wr sb k st
def CpB (n sb : Nat) (nn : Int) (w : World) (i : Value) (wr : World) : Prop := ∃ (k : Nat) (st : Int → Option Gu), (k : Int) ≤ nn ∧ i = .int .i64 (k : Int) ∧ CpI n st ∧ ScL w wr sb n st
/-- picked and run, recorded: who was, what is said -/
def CpTo (kk : Int) (st0 : Int → Option Gu) (Z : Nat → Prop) (W : World) (sb m : Nat) (v i : Value) (wr : World) : Prop := ∃ (k : Nat) (l : List Int) (st : Int → Option Gu) (vo : Option Addr) (vc : Nat), i = .int .i64 (k : Int) ∧ v = .slice vo l.length vc ∧ CpR st0 k l st ∧ ScAt wr (fun b => Z b ∨ W.heap.size ≤ b) sb m st ∧ Only Z W wr ∧ wr.ownsRow 0 3 1 v l.length (ints l) ∧ (∀ b, inRow v b → W.heap.size ≤ b) ∧ (k : Int) ≤ kk
theorem cp_step {kk : Int} {E : Nat → Addr} {w W wr wx : World} {Z : Nat → Prop} {sb m : Nat} {st0 stj : Int → Option Gu} {lj : List Int} {j : Nat} {vo : Option Addr} {vc : Nat} {x : Int} {g : Gu} {v' : Value} (hE : ErrL E w) (hB : Below w.heap.size w wr) (hW : w.heap.size ≤ W.heap.size) (hj : (j : Int) + 1 ≤ kk) (hsc : ScAt wr (fun b => Z b ∨ W.heap.size ≤ b) sb m stj) (hO : Only Z W wr)
    (hown : wr.ownsRow 0 3 1 (.slice vo lj.length vc) lj.length (ints lj)) (hF : ∀ b, inRow (.slice vo lj.length vc) b → W.heap.size ≤ b) (hx : 0 ≤ x ∧ x < 8) (hg : stj x = some g) (hV : CpR st0 (j + 1) (lj ++ [x]) (upd stj x (some ⟨g.wt, ranU g.us 50 g.wt, g.sl, g.un⟩)))
    (ho : wx.ownsRow 0 3 1 v' (lj.length + 1) (ints lj ++ [.int .i64 x])) (hgr : (wr.alloc (.cells #[.int .i64 x] 3)).grownBy wx (Value.slice vo lj.length vc).ownBlock) (hs : ∀ b, inRow v' b → inRow (.slice vo lj.length vc) b ∨ wr.heap.size + 1 ≤ b) :
    Calls Tryd.prog 16 #[.pointer (some ⟨sb, 0, none⟩), .int .i64 x, .int .i64 50] wx fun e w' => e = .returned .nilIface ∧ CpTo kk st0 Z W sb m v' (.int .i64 ((j : Int) + 1)) w' := by
  obtain ⟨Zn, hsc1, hZn, hrow⟩ := hsc.tight
  have hWr : W.heap.size ≤ wr.heap.size := hO.size
  have hOg : Only (fun b => inRow (.slice vo lj.length vc) b) wr wx := ((Only.refl _ wr).alloc' _).grown hgr (fun k hk => .inl hk)
  have hsc2 : ScAt wx Zn sb m stj := hsc1.keep hOg (fun h => (hrow _ _ _ hown _ h).2 rfl) (fun b hb _ h => (hrow _ _ _ hown _ h).1 hb)
  have hBx : Below w.heap.size w wx := hB.trans (hOg.below (B := w.heap.size) hB.size fun b hb => Nat.le_trans hW (hF b hb))
  refine (sran_any E wx Zn sb m stj hsc2 (hE _ hBx) x 50 (kw_of (by omega))).mono fun e w' ⟨h1, h3, h4⟩ => ?_
  have hr : scRan stj x 50 = (upd stj x (some ⟨g.wt, ranU g.us 50 g.wt, g.sl, g.un⟩), 0) := by unfold scRan; rw [hg]; dsimp only; rw [if_neg (by omega)]
  rw [hr] at h1 h3
  obtain ⟨ao6, cap6, rfl⟩ := own_slice ho
  have hnz : ∀ k, inRow (.slice ao6 (lj.length + 1) cap6) k → ¬ Zn k := fun k hk hz => by
    rcases hs k hk with h | h
    · exact (hrow _ _ _ hown k h).1 hz
    · have := (hZn k hz).2
      omega
  have hO1 : Only Z W wx := hO.trans' hOg fun k hk => .inr (hF k hk)
  have hO2 : Only Z W w' := hO1.trans' h4 fun k hk => (hZn k hk).1
  refine ⟨h1, j + 1, lj ++ [x], _, ao6, cap6, by go_num, by rw [List.length_append]; rfl, hV, h3.mono fun b _ hb => ?_, hO2, ?_, fun b hb => ?_, by omega⟩
  · rcases hb with hb | hb
    · exact (hZn b hb).1
    · exact .inr (Nat.le_trans hO1.size hb)
  · have := own_only ho h4 hnz
    rw [List.length_append, show ints (lj ++ [x]) = ints lj ++ [.int .i64 x] by simp [ints]]
    exact this
  · rcases hs b hb with h | h
    · exact hF b h
    · omega
structure CpE (w wr : World) (n sb cb db : Nat) (st sd : Int → Option Gu) : Prop where
  s : ∃ Z, ScAt wr Z sb n st
  c : ∃ Z, ScAt wr Z cb n st
  d : ∃ Z, ScAt wr Z db n sd
  b : Below w.heap.size w wr
theorem CpE.below {w wr w' : World} {n sb cb db : Nat} {st sd : Int → Option Gu} (h : CpE w wr n sb cb db st sd) (hb : Below wr.heap.size wr w') : CpE w w' n sb cb db st sd := by
  obtain ⟨⟨Z1, h1⟩, ⟨Z2, h2⟩, ⟨Z3, h3⟩, h4⟩ := h
  exact ⟨⟨Z1, h1.below hb⟩, ⟨Z2, h2.below hb⟩, ⟨Z3, h3.below hb⟩, h4.trans (hb.mono h4.size)⟩
def RdE (st : Int → Option Gu) (m : Nat) (wr : World) (e : Ending) (w' : World) : Prop := ∃ (ro : Option Addr) (rc : Nat), e = .returned (.slice ro m rc) ∧ AtL w' ro (ints (rdL st)) ∧ Below wr.heap.size wr w'
theorem rdE {wr : World} {sb n m : Nat} {st : Int → Option Gu} (h : ∃ Z, ScAt wr Z sb n st) (hm : (rdL st).length = m) : Calls Tryd.prog 47 #[.pointer (some ⟨sb, 0, none⟩)] wr (RdE st m wr) := by
  obtain ⟨Z, h⟩ := h
  refine (sready_any wr Z sb n st h).mono fun e w' ⟨v, h1, h2, h3, _⟩ => ?_
  obtain ⟨ao, cap, rfl, h4⟩ := atL_of_own h2
  rw [hm] at h1
  exact ⟨ao, cap, h1, h4, h3⟩
theorem slE {E : Nat → Addr} {w wr : World} {sb m : Nat} {st : Int → Option Gu} {B : Nat} (hE : ErrL E w) (hB : Below w.heap.size w wr) (h : ScAt wr (fun b => B ≤ b) sb m st) (hBw : B ≤ wr.heap.size) (x n : Int) (hx : kw x) (hn : kw n) :
    Calls Tryd.prog 20 #[.pointer (some ⟨sb, 0, none⟩), .int .i64 x, .int .i64 n] wr fun e w' => (∃ c, e = .returned (errD E c)) ∧ ScAt w' (fun b => B ≤ b) sb m (scSleep st x n).1 ∧ Only (fun b => B ≤ b) wr w' :=
  (ssleep_any E wr _ sb m st h (hE _ hB) x n hx hn).mono fun e w' ⟨h1, h3, h4⟩ => ⟨⟨_, h1⟩, h3.mono fun b _ hb => by
    rcases hb with hb | hb
    · exact hb
    · exact Nat.le_trans hBw hb, h4⟩
theorem dlE {E : Nat → Addr} {w wr : World} {sb m : Nat} {st : Int → Option Gu} {B : Nat} (hE : ErrL E w) (hB : Below w.heap.size w wr) (h : ScAt wr (fun b => B ≤ b) sb m st) (hBw : B ≤ wr.heap.size) (x : Int) (hx : kw x) :
    Calls Tryd.prog 18 #[.pointer (some ⟨sb, 0, none⟩), .int .i64 x] wr fun e w' => (∃ c, e = .returned (errD E c)) ∧ ScAt w' (fun b => B ≤ b) sb m (scDel st x).1 ∧ Only (fun b => B ≤ b) wr w' :=
  (sdel_any E wr _ sb m st h (hE _ hB) x hx).mono fun e w' ⟨h1, h3, h4⟩ => ⟨⟨_, h1⟩, h3.mono fun b _ hb => by
    rcases hb with hb | hb
    · exact hb
    · exact Nat.le_trans hBw hb, h4⟩
theorem errD_val (E : Nat → Addr) (c : Int) : errD E c = .nilIface ∨ ∃ k, errD E c = errV (E k) := by
  unfold errD
  split
  · exact .inl rfl
  · exact .inr ⟨_, rfl⟩
set_option maxRecDepth 100000 in
set_option maxHeartbeats 32000000 in
theorem schedCopies_some (E : Nat → Addr) (l : List Int) (ao : Option Addr) (cap : Nat) (x1 x2 : Int) (w : World) (hE : ErrL E w) (hl : AtL w ao (ints l)) (hlz : ∀ z ∈ l, -9223372036854775808 ≤ z ∧ z ≤ 9223372036854775807) (h8 : l.length ≤ 8) (h1 : -9223372036854775808 ≤ x1 ∧ x1 ≤ 9223372036854775807) (h2 : -9223372036854775808 ≤ x2 ∧ x2 ≤ 9223372036854775807) :
    Calls Tryd.prog 10 #[.slice ao l.length cap, .int .i64 x1, .int .i64 x2] w fun e w' => e = .returned (.bool true) ∧ Below w.heap.size w w' := by
  obtain ⟨i0, hi, hz0, hz1, hz2⟩ := info_parts infoIntW
  have HE := Lib.hid hE
  have HF := Lib.hid (scfirst_true E w hE)
  have HN1 := Lib.hid (fun wx => number_any x1 20 wx h1.1 h1.2 (by decide) (by decide))
  have HN2 := Lib.hid (fun wx => number_any x2 20 wx h2.1 h2.2 (by decide) (by decide))
  have HL := Lib.hid hl
  have HLZ := Lib.hid hlz
  obtain ⟨n, hn⟩ : ∃ n, l.length = n := ⟨_, rfl⟩
  have HLN := Lib.hid hn
  obtain ⟨nn, hnn⟩ : ∃ t, x1 % 20 = t := ⟨_, rfl⟩
  obtain ⟨kk, hkk⟩ : ∃ t, x2 % 20 = t := ⟨_, rfl⟩
  have HN20 : Hid (0 ≤ nn ∧ nn < 20) := Lib.hid (by omega)
  have HKK : Hid (0 ≤ kk ∧ kk < 20) := Lib.hid (by omega)
  rw [hnn] at HN1
  rw [hkk] at HN2
  rw [hn] at h8 ⊢
  have k1 : ¬ (8 : Int) < (n : Int) := by omega
  have HNN := Lib.hid h8
  have HRD : Hid (∀ (wr : World) (k : Nat), Below w.heap.size w wr → k < n → ∃ g off, ao = some ⟨g, off, none⟩ ∧ wr.cell? ⟨g, off + k, none⟩ = some (.int .i64 (l.getD k 0)) ∧ g < wr.heap.size ∧ ∀ wx, Calls Tryd.prog 13 #[.int .i64 (l.getD k 0), .int .i64 100] wx fun e w' => e = .returned (.int .i64 (l.getD k 0 % 100)) ∧ wx = w') := Lib.hid fun wr k hb hk => by
    obtain ⟨g, off, e, c0, hg⟩ := HL.out k _ (slGet l k (by omega))
    have hzb : -9223372036854775808 ≤ l.getD k 0 ∧ l.getD k 0 ≤ 9223372036854775807 := HLZ.out _ (by
      rw [List.getD_eq_getElem?_getD, List.getElem?_eq_getElem (by omega)]
      exact List.getElem_mem _)
    exact ⟨g, off, e, (hb.cell (p := ⟨g, off + k, none⟩) hg).trans c0, Nat.lt_of_lt_of_le hg hb.size, fun wx => number_any (l.getD k 0) 100 wx hzb.1 hzb.2 (by decide) (by decide)⟩
  clear hE hl hlz h1 h2 hn hnn hkk h8
  go_enter Tryd.func10, Tryd.ntmps10
  go_wp2_with fail
  refine HF.out.mono ?_
  rintro y w0 ⟨rfl, hb0⟩
  have HN := Lib.hid (slNew w w0 hb0)
  clear hb0
  go_wp2_with fail
  refine (HN1.out _).mono ?_
  rintro y wq ⟨rfl, rfl⟩
  go_wp2_with fail
  refine (HN2.out _).mono ?_
  rintro y wq ⟨rfl, rfl⟩
  go_wp2_with fail
  refine HN.out.mono ?_
  rintro y w1 ⟨sb, rfl, s1⟩
  have HST : Hid (CpA n sb w (.int .i64 0) w1) := Lib.hid ⟨0, noOne, Nat.zero_le _, rfl, cpI_zero, s1⟩
  clear s1
  go_wp2_with fail
  go_loopw [9] (fun i wr => CpA n sb w i wr) (fun i _ => n - (intOf i).toNat)
  case atStart => exact HST.out
  case round =>
    obtain ⟨k, st, hk, rfl, hA, hs⟩ := hrel
    have HA := Lib.hid hA
    have HS := Lib.hid hs
    have hk8 : k ≤ 8 := by have := HNN.out; omega
    clear hA hs HST
    by_cases hlt : k < n
    · have hki : (k : Int) < (n : Int) := by omega
      have wk := IntWalk.i64_in ((k : Int) + 1) (by omega)
      obtain ⟨g, off, rfl, c1, lg, hnu⟩ := HRD.out wr k HS.out.b hlt
      have HNU := Lib.hid hnu
      obtain ⟨z, hz⟩ : ∃ z, l.getD k 0 = z := ⟨_, rfl⟩
      rw [hz] at c1 HNU
      obtain ⟨q, hq⟩ : ∃ q, z % 100 = q := ⟨_, rfl⟩
      have hq1 : 0 ≤ q ∧ q < 100 := by omega
      rw [hq] at HNU
      have wq := IntWalk.i64_in (q + 1) (by omega)
      have HAD := Lib.hid (slAdd HE.out HS.out (by omega) (k : Int) (q + 1) (by unfold addBad; omega) HA.out.no)
      clear hnu hz hq hq1
      go_wp2_with fail
      refine (HNU.out _).mono ?_
      rintro y wy ⟨rfl, rfl⟩
      go_wp2_with fail
      refine HAD.out.mono ?_
      rintro y w2 ⟨rfl, u, hu, s2⟩
      have HF2 : Hid (CpA n sb w (.int .i64 ((k : Int) + 1)) w2) := Lib.hid ⟨k + 1, _, hlt, by go_num, HA.out.add _ _, s2⟩
      clear hu s2 c1 lg
      go_wp2_with fail
      go_roundw
      case rel => exact HF2.out
      case measure => simp [intOf]; omega
    · have hkn : k = n := by omega
      subst hkn
      have hki : ¬ (k : Int) < (k : Int) := by omega
      have HST2 : Hid (CpB k sb nn w (.int .i64 0) wr) := Lib.hid ⟨0, st, HN20.out.1, rfl, HA.out, HS.out⟩
      clear HA HS
      go_wp2_with fail
      go_loopw [10] (fun i wr => CpB k sb nn w i wr) (fun i _ => (nn - intOf i).toNat)
      case atStart => exact HST2.out
      case round =>
        obtain ⟨j, st2, hj, rfl, hA, hs⟩ := hrel
        have HA := Lib.hid hA
        have HS := Lib.hid hs
        clear hA hs HST2
        by_cases hjt : (j : Int) < nn
        · have hj2 : j < 20 := by have := HN20.out; omega
          have wj := IntWalk.i64_in ((j : Int) + 1) (by omega)
          have HPK := Lib.hid (spick_any _ _ sb k st2 HS.out.sc)
          go_wp2_with fail
          refine HPK.out.mono ?_
          rintro y w3 ⟨⟨v, rfl, hv⟩, rfl⟩
          rcases hv with ⟨-, rfl⟩ | ⟨x, g, hg, -, -, rfl⟩
          · have HF2 : Hid (CpB k sb nn w (.int .i64 ((j : Int) + 1)) wr) := Lib.hid ⟨j + 1, st2, by omega, by go_num, HA.out, HS.out⟩
            go_wp2_with fail
            go_roundw
            case rel => exact HF2.out
            case measure => simp [intOf]; omega
          · have hrn := slRan HE.out HS.out x 50 (kw_of (by have := (HA.out.dom x g hg).1; omega)) _ hg (by omega)
            have HA2 := Lib.hid (HA.out.ran hg (ranU g.us 50 g.wt))
            have HRN := Lib.hid hrn
            clear hg hrn
            go_wp2_with fail
            refine HRN.out.mono ?_
            rintro y w4 ⟨rfl, hs4⟩
            have HF2 : Hid (CpB k sb nn w (.int .i64 ((j : Int) + 1)) w4) := Lib.hid ⟨j + 1, _, by omega, by go_num, HA2.out, hs4⟩
            clear hs4
            go_wp2_with fail
            go_roundw
            case rel => exact HF2.out
            case measure => simp [intOf]; omega
        · have hjn : ¬ (j : Int) < nn := hjt
          have hje : (j : Int) = nn := by omega
          obtain ⟨W0, hW0⟩ : ∃ W, W = wr := ⟨_, rfl⟩
          subst hW0
          obtain ⟨st, hst⟩ : ∃ s, s = st2 := ⟨_, rfl⟩
          subst hst
          obtain ⟨n, hn⟩ : ∃ n, n = k := ⟨_, rfl⟩
          subst hn
          have HCI := Lib.hid HA.out
          have HC1 := Lib.hid (sclone_any W0 _ sb n st HS.out.sc)
          clear hje hjt HA
          go_wp2_with fail
          refine HC1.out.mono ?_
          rintro y W1 ⟨cb, rfl, hc1, hcb, hbw1⟩
          have HC2 := Lib.hid (sclone_any W1 _ sb n st (HS.out.sc.below hbw1))
          have HCC := Lib.hid hc1
          have HCB : Hid (W0.heap.size ≤ cb ∧ cb < W1.heap.size) := Lib.hid ⟨hcb, hc1.lt⟩
          have HBW1 := Lib.hid hbw1
          clear hc1 hcb hbw1
          go_wp2_with fail
          refine HC2.out.mono ?_
          rintro y W2 ⟨db, rfl, hd1, hdb, hbw2⟩
          have HHBW : Hid (Below w.heap.size w W0) := Lib.hid HS.out.b
          have hw02 : Below w.heap.size w W2 := HHBW.out.trans ((HBW1.out.trans (hbw2.mono HBW1.out.size)).mono HHBW.out.size)
          have HSLP := Lib.hid (slE HE.out hw02 hd1 hbw2.size 0 5 (kw_lit 0 (by omega)) (kw_lit 5 (by omega)))
          have HBW2 := Lib.hid hbw2
          have HW02 := Lib.hid hw02
          have HDB := Lib.hid hdb
          clear hd1 hdb hbw2 hw02
          go_wp2_with fail
          refine HSLP.out.mono ?_
          rintro y W3 ⟨⟨c, rfl⟩, hd3, ho3⟩
          have hw13 : Below W1.heap.size W1 W3 := HBW2.out.trans (ho3.below HBW2.out.size fun b hb => hb)
          have hw03 : Below w.heap.size w W3 := HHBW.out.trans ((HBW1.out.trans (hw13.mono HBW1.out.size)).mono HHBW.out.size)
          have HDLE := Lib.hid (dlE HE.out hw03 hd3 hw13.size 1 (kw_lit 1 (by omega)))
          have HW13 := Lib.hid hw13
          obtain ⟨ev, hev⟩ : ∃ v, errD E c = v := ⟨_, rfl⟩
          rw [hev]
          clear hd3 ho3 hw13 hw03 hev
          go_wp2_with fail
          refine HDLE.out.mono ?_
          rintro y W4 ⟨⟨c2, rfl⟩, hd4, ho4⟩
          have hw14 : Below W1.heap.size W1 W4 := HW13.out.trans (ho4.below HW13.out.size fun b hb => hb)
          have hw04 : Below W0.heap.size W0 W4 := HBW1.out.trans (hw14.mono HBW1.out.size)
          have HDD : Hid (ScAt W4 (fun b => W1.heap.size ≤ b) db n (cpD st)) := Lib.hid hd4
          obtain ⟨Zc, hzc, hZc, -⟩ := HCC.out.tight
          obtain ⟨Zs, hzs, hZs, -⟩ := HS.out.sc.tight
          have HZC : Hid (∀ b, Zc b → W0.heap.size ≤ b ∧ b < W1.heap.size) := Lib.hid hZc
          have HZS : Hid (∀ b, Zs b → w.heap.size ≤ b ∧ b < W0.heap.size) := Lib.hid hZs
          have HC4 := Lib.hid (hzc.below hw14)
          have HS4 := Lib.hid (hzs.below hw04)
          have HLT4 : Hid (w.heap.size ≤ W0.heap.size ∧ W0.heap.size ≤ W1.heap.size ∧ W1.heap.size ≤ W4.heap.size ∧ sb < W0.heap.size) := Lib.hid ⟨HHBW.out.size, HBW1.out.size, hw14.size, HS.out.sc.lt⟩
          have HBW4 : Hid (Below w.heap.size w W4) := Lib.hid (HHBW.out.trans (hw04.mono HHBW.out.size))
          have HZCW : Hid (∀ b, Zc b → w.heap.size ≤ b) := Lib.hid fun b hb => Nat.le_trans HHBW.out.size (hZc b hb).1
          have HZSW : Hid (∀ b, Zs b → w.heap.size ≤ b) := Lib.hid fun b hb => (hZs b hb).1
          have HST3 : Hid (CpTo kk st Zc W4 cb n (.slice none 0 0) (.int .i64 0) W4) := Lib.hid ⟨0, [], st, none, 0, rfl, rfl, .zero, HC4.out.mono fun b _ h => .inl h, Only.refl _ _, own_nil _ _ _, (fun b hb => by simp [inRow, Value.ownBlock] at hb), HKK.out.1⟩
          obtain ⟨ev2, hev⟩ : ∃ v, errD E c2 = v := ⟨_, rfl⟩
          rw [hev]
          clear hd4 ho4 hw14 hw04 hzc hZc hzs hZs hev HC1 HC2
          go_wp2_with fail
          go_loopw [15, 17] (fun v i wr => CpTo kk st Zc W4 cb n v i wr) (fun _ i _ => (kk - intOf i).toNat)
          case atStart => exact HST3.out
          case round =>
            obtain ⟨jC, ljC, stjC, voC, vcC, rfl, rfl, hcp, hsc, hO, hown, hfr, hjk⟩ := hrel
            have HCPC := Lib.hid hcp
            have HSCC := Lib.hid hsc
            have HOC := Lib.hid hO
            have HOWNC := Lib.hid hown
            have HFRC := Lib.hid hfr
            have HJC : Hid (CpI n stjC ∧ ljC.length ≤ jC ∧ (jC : Int) ≤ kk) := Lib.hid (by have := cpR_inv hcp HCI.out; exact ⟨this.1, this.2, hjk⟩)
            have HBWrC : Hid (Below w.heap.size w wr) := Lib.hid (HBW4.out.trans (hO.below (B := w.heap.size) HBW4.out.size fun b hb => HZCW.out b hb))
            clear hcp hsc hO hown hfr HST3 hjk
            by_cases hjt : (jC : Int) < kk
            · have hj2 : jC < 20 := by have := HKK.out; omega
              have wj := IntWalk.i64_in ((jC : Int) + 1) (by omega)
              have HPK := Lib.hid (spick_any _ _ cb n stjC HSCC.out)
              go_wp2_with fail
              refine HPK.out.mono ?_
              rintro y w3 ⟨⟨v, rfl, hv⟩, rfl⟩
              have hvc : (v = .tuple #[.int .i64 0, .bool false]) ∨ ∃ x g, stjC x = some g ∧ v = .tuple #[.int .i64 x, .bool true] := by
                rcases hv with ⟨-, h⟩ | ⟨x, g, hg, -, -, h⟩
                · exact .inl h
                · exact .inr ⟨x, g, hg, h⟩
              rcases hvc with rfl | ⟨x, g, hg, rfl⟩
              · have HST5 : Hid (CpTo kk st Zc W4 cb n (.slice voC ljC.length vcC) (.int .i64 ((jC : Int) + 1)) wr) := Lib.hid ⟨jC + 1, ljC, stjC, voC, vcC, by go_num, rfl, .no _ _ _ HCPC.out hv, HSCC.out, HOC.out, HOWNC.out, HFRC.out, by omega⟩
                obtain ⟨a, ha⟩ : ∃ a, ljC.length = a := ⟨_, rfl⟩
                rw [ha] at HST5 ⊢
                clear hv ha
                go_wp2_with fail
                go_roundw
                case rel => exact HST5.out
                case measure => simp [intOf]; omega
              · have HV := Lib.hid (CpR.yes _ _ _ x g HCPC.out hg hv)
                have HG := Lib.hid hg
                have HX : Hid (0 ≤ x ∧ x < 8) := Lib.hid (by have := (HJC.out.1.dom x g hg).1; have := HNN.out; omega)
                have HCNT : Hid (ljC.length ≤ 20) := Lib.hid (by have := HJC.out.2; have := HKK.out; omega)
                have HOWA := HOWNC
                have HFRA := HFRC
                obtain ⟨a, ha⟩ : ∃ a, ljC.length = a := ⟨_, rfl⟩
                have HA := Lib.hid ha
                rw [ha] at HOWA HFRA HCNT ⊢
                clear hv hg ha
                go_wp2_with (at_builtin; refine wpList_append_sep _ rfl _ _ 35 rfl 3 i0 (.int .i64 0) 1 8 Tryd.underlying35 hi hz0 hz1 hz2 rfl (by decide) _ _ _ rfl (HOWA.out.alloc _) ⟨wr.heap.size, 0, none⟩ 1 1 [.int .i64 x] rfl rfl (cell_one_new _ _ _) (by simp [Value.oneCell']) (by unfold maxLen; have := HCNT.out; omega) (by have := HCNT.out; omega) ?_)
                intro v' wx ho6 hg6 hs6
                have HSTP : Hid (Calls Tryd.prog 16 #[.pointer (some ⟨cb, 0, none⟩), .int .i64 x, .int .i64 50] wx fun e w' => e = .returned .nilIface ∧ CpTo kk st Zc W4 cb n v' (.int .i64 ((jC : Int) + 1)) w') := Lib.hid (by
                  have HAo := HA.out
                  subst HAo
                  exact cp_step HE.out HBWrC.out HBW4.out.size (by omega) HSCC.out HOC.out HOWNC.out HFRC.out HX.out HG.out HV.out ho6 hg6 hs6)
                clear ho6 hg6 hs6
                go_wp2_with fail
                refine HSTP.out.mono ?_
                rintro y w6 ⟨rfl, h6⟩
                have HST5 := Lib.hid h6
                clear h6
                go_wp2_with fail
                go_roundw
                case rel => exact HST5.out
                case measure => simp [intOf]; omega
            · have hjnC : ¬ (jC : Int) < kk := hjt
              have hjeC : (jC : Int) = kk := by have := HJC.out.2.2; omega
              clear hjt
              obtain ⟨W5, hW5⟩ : ∃ W, W = wr := ⟨_, rfl⟩
              subst hW5
              have HST4 : Hid (CpTo kk st Zs W5 sb n (.slice none 0 0) (.int .i64 0) W5) := Lib.hid ⟨0, [], st, none, 0, rfl, rfl, .zero, (HS4.out.keep HOC.out (fun h => by have := (HZC.out _ h).1; have := HLT4.out; omega) (fun b hb _ h => by have := (HZC.out _ h).1; have := (HZS.out _ hb).2; omega)).mono fun b _ h => .inl h, Only.refl _ _, own_nil _ _ _, (fun b hb => by simp [inRow, Value.ownBlock] at hb), HKK.out.1⟩
              have HJEC := Lib.hid hjeC
              obtain ⟨la, hla⟩ : ∃ a, ljC.length = a := ⟨_, rfl⟩
              have HLA := Lib.hid hla
              rw [hla]
              clear hjeC hla
              go_wp2_with fail
              go_loopw [16, 20] (fun v i wr => CpTo kk st Zs W5 sb n v i wr) (fun _ i _ => (kk - intOf i).toNat)
              case atStart => exact HST4.out
              case round =>
                obtain ⟨jS, ljS, stjS, voS, vcS, rfl, rfl, hcp, hsc, hO, hown, hfr, hjk⟩ := hrel
                have HCPS := Lib.hid hcp
                have HSCS := Lib.hid hsc
                have HOS := Lib.hid hO
                have HOWNS := Lib.hid hown
                have HFRS := Lib.hid hfr
                have HJS : Hid (CpI n stjS ∧ ljS.length ≤ jS ∧ (jS : Int) ≤ kk) := Lib.hid (by have := cpR_inv hcp HCI.out; exact ⟨this.1, this.2, hjk⟩)
                have HBWrS : Hid (Below w.heap.size w wr) := Lib.hid (HBWrC.out.trans (hO.below (B := w.heap.size) HBWrC.out.size fun b hb => HZSW.out b hb))
                clear hcp hsc hO hown hfr HST4 hjk
                by_cases hjt : (jS : Int) < kk
                · have hj2 : jS < 20 := by have := HKK.out; omega
                  have wj := IntWalk.i64_in ((jS : Int) + 1) (by omega)
                  have HPK := Lib.hid (spick_any _ _ sb n stjS HSCS.out)
                  go_wp2_with fail
                  refine HPK.out.mono ?_
                  rintro y w3 ⟨⟨v, rfl, hv⟩, rfl⟩
                  have hvc : (v = .tuple #[.int .i64 0, .bool false]) ∨ ∃ x g, stjS x = some g ∧ v = .tuple #[.int .i64 x, .bool true] := by
                    rcases hv with ⟨-, h⟩ | ⟨x, g, hg, -, -, h⟩
                    · exact .inl h
                    · exact .inr ⟨x, g, hg, h⟩
                  rcases hvc with rfl | ⟨x, g, hg, rfl⟩
                  · have HST5 : Hid (CpTo kk st Zs W5 sb n (.slice voS ljS.length vcS) (.int .i64 ((jS : Int) + 1)) wr) := Lib.hid ⟨jS + 1, ljS, stjS, voS, vcS, by go_num, rfl, .no _ _ _ HCPS.out hv, HSCS.out, HOS.out, HOWNS.out, HFRS.out, by omega⟩
                    obtain ⟨a, ha⟩ : ∃ a, ljS.length = a := ⟨_, rfl⟩
                    rw [ha] at HST5 ⊢
                    clear hv ha
                    go_wp2_with fail
                    go_roundw
                    case rel => exact HST5.out
                    case measure => simp [intOf]; omega
                  · have HV := Lib.hid (CpR.yes _ _ _ x g HCPS.out hg hv)
                    have HG := Lib.hid hg
                    have HX : Hid (0 ≤ x ∧ x < 8) := Lib.hid (by have := (HJS.out.1.dom x g hg).1; have := HNN.out; omega)
                    have HCNT : Hid (ljS.length ≤ 20) := Lib.hid (by have := HJS.out.2; have := HKK.out; omega)
                    have HOWA := HOWNS
                    have HFRA := HFRS
                    obtain ⟨a, ha⟩ : ∃ a, ljS.length = a := ⟨_, rfl⟩
                    have HA := Lib.hid ha
                    rw [ha] at HOWA HFRA HCNT ⊢
                    clear hv hg ha
                    go_wp2_with (at_builtin; refine wpList_append_sep _ rfl _ _ 35 rfl 3 i0 (.int .i64 0) 1 8 Tryd.underlying35 hi hz0 hz1 hz2 rfl (by decide) _ _ _ rfl (HOWA.out.alloc _) ⟨wr.heap.size, 0, none⟩ 1 1 [.int .i64 x] rfl rfl (cell_one_new _ _ _) (by simp [Value.oneCell']) (by unfold maxLen; have := HCNT.out; omega) (by have := HCNT.out; omega) ?_)
                    intro v' wx ho6 hg6 hs6
                    have HSTP : Hid (Calls Tryd.prog 16 #[.pointer (some ⟨sb, 0, none⟩), .int .i64 x, .int .i64 50] wx fun e w' => e = .returned .nilIface ∧ CpTo kk st Zs W5 sb n v' (.int .i64 ((jS : Int) + 1)) w') := Lib.hid (by
                      have HAo := HA.out
                      subst HAo
                      exact cp_step HE.out HBWrS.out HBWrC.out.size (by omega) HSCS.out HOS.out HOWNS.out HFRS.out HX.out HG.out HV.out ho6 hg6 hs6)
                    clear ho6 hg6 hs6
                    go_wp2_with fail
                    refine HSTP.out.mono ?_
                    rintro y w6 ⟨rfl, h6⟩
                    have HST5 := Lib.hid h6
                    clear h6
                    go_wp2_with fail
                    go_roundw
                    case rel => exact HST5.out
                    case measure => simp [intOf]; omega
                · have hjnS : ¬ (jS : Int) < kk := hjt
                  have hjeS : (jS : Int) = kk := by have := HJS.out.2.2; omega
                  clear hjt
                  obtain ⟨W6, hW6⟩ : ∃ W, W = wr := ⟨_, rfl⟩
                  subst hW6
                  obtain ⟨j, hj⟩ : ∃ j, j = jC := ⟨_, rfl⟩
                  have hjj : jS = j := by have := HJEC.out; omega
                  subst hj
                  subst hjj
                  obtain ⟨e1, e2⟩ := cpR_uniq HCPS.out HCPC.out
                  subst e1 e2
                  have HRL : Hid ((rdL stjS).length = n) := Lib.hid (HJS.out.1.ready HNN.out)
                  have HRLD : Hid ((rdL (cpD st)).length = n - 2) := Lib.hid (HCI.out.left HNN.out)
                  have hownc := own_only HOWNC.out HOS.out (fun b hb hz => by have := HFRC.out b hb; have := (HZS.out b hz).2; have := HLT4.out; omega)
                  obtain ⟨aco, acc, eac, hac⟩ := atL_of_own hownc
                  obtain ⟨rfl, -, rfl⟩ := Value.slice.inj eac
                  obtain ⟨aso, asc, eas, has⟩ := atL_of_own HOWNS.out
                  obtain ⟨rfl, -, rfl⟩ := Value.slice.inj eas
                  have HCE : Hid (CpE w W6 n sb cb db stjS (cpD st)) := Lib.hid ⟨⟨_, HSCS.out⟩, ⟨_, HSCC.out.keep HOS.out (fun h => by have := (HZS.out _ h).2; have := HCB.out; omega) (fun b hb _ h => by
                    have := (HZS.out _ h).2
                    have := HLT4.out
                    rcases hb with hb | hb
                    · have := (HZC.out _ hb).1
                      omega
                    · omega)⟩, ⟨_, (HDD.out.keep HOC.out (fun h => by have := (HZC.out _ h).2; have := HDB.out; omega) (fun b hb _ h => by have := (HZC.out _ h).2; have hb2 : W1.heap.size ≤ b := hb; omega)).keep HOS.out (fun h => by have := (HZS.out _ h).2; have := HDB.out; have := HLT4.out; omega) (fun b hb _ h => by have := (HZS.out _ h).2; have hb2 : W1.heap.size ≤ b := hb; have := HLT4.out; omega)⟩, HBWrS.out⟩
                  have hl20 : ljS.length ≤ 1000000000 := by have := HJS.out.2; have := HKK.out; omega
                  have HSI := Lib.hid (sameInts_any ljS ljS voC voS vcC vcS W6 hac has hl20 hl20)
                  rw [decide_eq_true (rfl : ljS = ljS), HLA.out] at HSI
                  rw [HLA.out]
                  clear hownc hac has eac eas hl20 HOWNC HOWNS HFRC HFRS HCPS HCPC HLA
                  go_wp2_with fail
                  refine HSI.out.mono ?_
                  rintro y w7 ⟨rfl, d, rfl⟩
                  have HE7 : Hid (CpE w (W6.drewN d) n sb cb db stjS (cpD st)) := Lib.hid (HCE.out.below (below_drewN (Below.refl _ _) d))
                  obtain ⟨w7, hw7⟩ : ∃ x, W6.drewN d = x := ⟨_, rfl⟩
                  rw [hw7] at HE7 ⊢
                  have HR1 := Lib.hid (rdE HE7.out.s HRL.out)
                  clear hw7
                  go_wp2_with fail
                  refine HR1.out.mono ?_
                  rintro y w8 ⟨r1, q1, rfl, ha1, hb8⟩
                  have HE8 := Lib.hid (HE7.out.below hb8)
                  have HA1 := Lib.hid ha1
                  have HR2 := Lib.hid (rdE HE8.out.c HRL.out)
                  clear ha1 hb8
                  go_wp2_with fail
                  refine HR2.out.mono ?_
                  rintro y w9 ⟨r2, q2, rfl, ha2, hb9⟩
                  have HE9 := Lib.hid (HE8.out.below hb9)
                  have hsi2 := sameInts_any (rdL stjS) (rdL stjS) r1 r2 q1 q2 w9 (HA1.out.mono hb9) ha2 (by rw [HRL.out]; omega) (by rw [HRL.out]; omega)
                  rw [decide_eq_true (rfl : rdL stjS = rdL stjS), HRL.out] at hsi2
                  have HSI2 := Lib.hid hsi2
                  clear ha2 hb9 hsi2
                  go_wp2_with fail
                  refine HSI2.out.mono ?_
                  rintro y w10 ⟨rfl, d2, rfl⟩
                  have HE10 : Hid (CpE w (w9.drewN d2) n sb cb db stjS (cpD st)) := Lib.hid (HE9.out.below (below_drewN (Below.refl _ _) d2))
                  obtain ⟨w10, hw10⟩ : ∃ x, w9.drewN d2 = x := ⟨_, rfl⟩
                  rw [hw10] at HE10 ⊢
                  have HR3 := Lib.hid (rdE HE10.out.s HRL.out)
                  clear hw10
                  go_wp2_with fail
                  refine HR3.out.mono ?_
                  rintro y w11 ⟨r3, q3, rfl, -, hb11⟩
                  have HE11 := Lib.hid (HE10.out.below hb11)
                  have HR4 := Lib.hid (rdE HE11.out.d HRLD.out)
                  have hnn1 : ((n : Int) == (n : Int)) = true := by rw [beq_iff_eq]
                  clear hb11
                  go_wp2_with fail
                  refine HR4.out.mono ?_
                  rintro y w12 ⟨r4, q4, rfl, -, hb12⟩
                  have HE12 := Lib.hid (HE11.out.below hb12)
                  have wm := IntWalk.i64_in ((n : Int) - 2) (by omega)
                  obtain ⟨n2, hn2⟩ : ∃ m, n - 2 = m := ⟨_, rfl⟩
                  rw [hn2]
                  clear hb12
                  by_cases h2 : (n : Int) - 2 < 0
                  · obtain rfl : n2 = 0 := by omega
                    clear hn2
                    go_wp2_with fail
                    go_ret
                    have e : ((0 : Int) == max ((n : Int) - 2) 0) = true := by rw [beq_iff_eq]; omega
                    refine ⟨?_, HE12.out.b⟩
                    show Ending.returned (.bool ((0 : Int) == max ((n : Int) - 2) 0)) = _
                    rw [e]
                  · obtain ⟨z, hz⟩ : ∃ z, (n : Int) - 2 = z := ⟨_, rfl⟩
                    have hz2 : z = (n2 : Int) := by omega
                    have hzb : ((n2 : Int) == (n2 : Int)) = true := by rw [beq_iff_eq]
                    rw [hz] at wm h2
                    subst hz2
                    clear hn2
                    go_wp2_with fail
                    go_ret
                    exact ⟨rfl, HE12.out.b⟩
theorem schedCopies_walk (E : Nat → Addr) (l : List Int) (v : Value) (x1 x2 : Int) (w : World) (hE : ErrL E w) (hr : Reads w v l.length (ints l)) (hlz : ∀ z ∈ l, -9223372036854775808 ≤ z ∧ z ≤ 9223372036854775807) (h1 : -9223372036854775808 ≤ x1 ∧ x1 ≤ 9223372036854775807) (h2 : -9223372036854775808 ≤ x2 ∧ x2 ≤ 9223372036854775807) :
    Calls Tryd.prog 10 #[v, .int .i64 x1, .int .i64 x2] w fun e w' => e = .returned (.bool true) ∧ Below w.heap.size w w' := by
  obtain ⟨ao, cap, rfl, hl⟩ := atL_of_reads hr
  by_cases hle : l.length ≤ 8
  · exact schedCopies_some E l ao cap x1 x2 w hE hl hlz hle h1 h2
  · have HF1 := Lib.hid (scfirst_true E w hE)
    obtain ⟨n, hn⟩ : ∃ n, l.length = n := ⟨_, rfl⟩
    rw [hn] at hle ⊢
    have hlen2 : (8 : Int) < (n : Int) := by omega
    clear hE hr hl hlz h1 h2 hn hle
    go_enter Tryd.func10, Tryd.ntmps10
    go_wp2_with fail
    refine HF1.out.mono ?_
    rintro y w0 ⟨rfl, hb0⟩
    have HB0 := Lib.hid hb0
    clear hb0
    go_wp2
    go_ret
    exact ⟨rfl, HB0.out⟩
end Go.Proofs.YtnhocmmgdkiepaaDoor

