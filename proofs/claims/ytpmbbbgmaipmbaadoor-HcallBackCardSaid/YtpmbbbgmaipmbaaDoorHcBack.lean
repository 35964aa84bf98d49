/-
  HcallBack: for every calls and number the call returns true; nothing that was there is turned. Given where the sentinels lie.
-/
import Derived.Test.YtpmbbbgmaipmbaaDoorHcWords
import Derived.Test.YtpmbbbgmaipmbaaDoorSeeAt
import Derived.Test.YtpmbbbgmaipmbaaDoorNumber
namespace Go.Proofs.YtpmbbbgmaipmbaaDoor
open Go.ChangeShapes Go.WideShapes Go.ChangeAt Go.RowKit Go.Joins Go.Deep

/-- loop 1: the first call that is none, so far; each number is small -/
def HbTo (l : List Hc) (w : World) (b i : Value) (wr : World) : Prop :=
  ∃ j : Nat, j ≤ l.length ∧ i = .int .i64 (j : Int) ∧ b = .int .i64 (badI (hcWords l) j) ∧ (∀ k, k < j → 0 ≤ (l.getD k default).num ∧ (l.getD k default).num ≤ 1000) ∧ Below w.heap.size w wr
theorem argN_good (n : Int) : goodW n = (decide (0 ≤ argN n) && decide (n ≠ 3)) := by
  unfold goodW argN
  by_cases h : 1 ≤ n ∧ n ≤ 15
  · have := argT_le n.toNat
    rw [if_pos h, decide_eq_true h.1, decide_eq_true h.2, decide_eq_true this.1]
    rfl
  · rw [if_neg h]
    have h' : (decide (1 ≤ n) && decide (n ≤ 15)) = false := by
      rw [Bool.eq_false_iff]
      simp
      omega
    rw [h']
    rfl

/-- a count, over a world -/
def UpW (n : Nat) (w : World) (i : Value) (wr : World) : Prop := ∃ j : Nat, j ≤ n ∧ i = .int .i64 (j : Int) ∧ Below w.heap.size w wr
theorem lexStart (l : List Oper) (hn : Region.noSelect l.toArray = true) (h : Region.lexFrom .any l.toArray l.toArray.size 0 (Array.replicate l.toArray.size false) = true) : Region.lexB .any l.toArray = true := by
  unfold Region.lexB
  rw [hn, h]
  rfl
theorem lexStep {md : Region.Mode} {ops : Array Oper} {m k : Nat} {listed : Array Bool} (h1 : ((Region.ready md ops listed).contains k && Region.free md ops listed k) = true) (h2 : Region.lexFrom md ops m (k + 1) (listed.setIfInBounds k true) = true) : Region.lexFrom md ops (m + 1) k listed = true := by
  rw [Region.lexFrom, h1, h2]
  rfl
theorem own_cap {w : World} {e : TypeId} {size n cap : Nat} {ao : Option Addr} {xs : List Value} (h : w.ownsRow 0 e size (.slice ao n cap) n xs) : n ≤ cap ∧ cap ≤ 9223372036854775807 := by
  rcases h.2 with ⟨hv, hn⟩ | ⟨g, cap', cur, hv, -, -, hnc, hcm, -⟩
  · cases hv
    exact ⟨Nat.zero_le _, by decide⟩
  · cases hv
    exact ⟨hnc, hcm⟩
set_option maxRecDepth 100000 in
set_option maxHeartbeats 8000000 in
theorem hcallBack_walk (E : Nat → Addr) (l : List Hc) (ao : Option Addr) (c : Nat) (x1 : Int) (w : World) (hE : ErrsAt errT gOf w E all16) (hl : AtL w ao (l.flatMap hcCells)) (hm : l.length ≤ maxLen) (hlc : l.length ≤ c) (hok : ∀ x ∈ l, hcOk x) (h1 : -9223372036854775808 ≤ x1 ∧ x1 ≤ 9223372036854775807) :
    Calls Tryd.prog 10 #[.slice ao l.length c, .int .i64 x1] w fun e w' => e = .returned (.bool true) ∧ Below w.heap.size w w' := by
  have HEK : Hid (∀ wx, Below w.heap.size w wx → ErrsAt errT gOf wx E all16) := Lib.hid fun wx h => hE.mono h
  have HL := Lib.hid hl
  have HOK := Lib.hid hok
  by_cases hbig : 16 < l.length
  · have hbi : (16 : Int) < (l.length : Int) := by omega
    clear hE hl hok
    go_enter Tryd.func10, Tryd.ntmps10
    go_wp2_with fail
    refine (hc_first E _ (HEK.out _ (Below.refl _ _))).mono ?_
    rintro e w1 ⟨rfl, hb1⟩
    have HB1 := Lib.hid hb1
    clear hb1
    go_wp2
    go_ret
    exact ⟨rfl, HB1.out⟩
  · have hbi : ¬ (16 : Int) < (l.length : Int) := by omega
    have hn16 : l.length ≤ 16 := by omega
    have HN := Lib.hid (fun wx => number_any x1 5 wx h1.1 h1.2 (by decide) (by decide))
    obtain ⟨a5, ha5⟩ : ∃ g : Nat, x1 % 5 = (g : Int) := ⟨(x1 % 5).toNat, by omega⟩
    have ha5' : a5 < 5 := by omega
    rw [ha5] at HN
    clear hE hl hok hbig ha5 h1
    go_enter Tryd.func10, Tryd.ntmps10
    go_wp2_with fail
    refine (hc_first E _ (HEK.out _ (Below.refl _ _))).mono ?_
    rintro e w1 ⟨rfl, hb1⟩
    have HST : Hid (HbTo l w (.int .i64 (-1)) (.int .i64 0) w1) := Lib.hid ⟨0, Nat.zero_le _, rfl, rfl, fun k hk => absurd hk (by omega), hb1⟩
    clear hb1
    go_wp2_with fail
    go_loopw [6, 7] (fun b i wr => HbTo l w b i wr) (fun _ i _ => l.length - (intOf i).toNat)
    case atStart => exact HST.out
    case round =>
      obtain ⟨j, hj, rfl, rfl, hnum, hb⟩ := hrel
      have HNUM := Lib.hid hnum
      have HB := Lib.hid hb
      clear hnum hb HST
      by_cases hlt : j < l.length
      · have hji : (j : Int) < (l.length : Int) := by omega
        obtain ⟨lb, lo, rfl, d0', hlb⟩ := HL.out (5 * j + 0) _ ((hc_cells l j 0 hlt (by decide)).trans rfl)
        have d0 : ∀ wx, Below wr.heap.size wr wx → wx.cell? ⟨lb, lo + j * 5, none⟩ = some (.int .i64 (l.getD j default).num) := fun wx hx => by
          rw [show lo + j * 5 = lo + (5 * j + 0) by omega]
          exact ((HB.out.trans (hx.mono HB.out.size)).cell (p := ⟨lb, lo + (5 * j + 0), none⟩) hlb).trans d0'
        have HBS : Hid (badI (hcWords l) (j + 1) = if goodW (l.getD j default).num = false ∧ badI (hcWords l) j < 0 then (j : Int) else badI (hcWords l) j) := Lib.hid (by rw [badI_succ, hcWords_num l j hlt])
        have HNX : Hid (0 ≤ (l.getD j default).num ∧ (l.getD j default).num ≤ 1000 → ∀ k, k < j + 1 → 0 ≤ (l.getD k default).num ∧ (l.getD k default).num ≤ 1000) := Lib.hid fun h k hk => by
          by_cases e : k = j
          · subst e; exact h
          · exact HNUM.out k (by omega)
        have HA := Lib.hid (fun wx => args_any (l.getD j default).num wx)
        have HG := Lib.hid (argN_good (l.getD j default).num)
        obtain ⟨z, hz⟩ : ∃ z, (l.getD j default).num = z := ⟨_, rfl⟩
        obtain ⟨bd, hbd⟩ : ∃ z, badI (hcWords l) j = z := ⟨_, rfl⟩
        obtain ⟨bd', hbd'⟩ : ∃ z, badI (hcWords l) (j + 1) = z := ⟨_, rfl⟩
        rw [hz] at d0 HBS HNX HA HG
        rw [hbd] at HBS ⊢
        rw [hbd'] at HBS
        have HD0 := Lib.hid d0
        have HLW : Hid (lb < wr.heap.size) := Lib.hid (Nat.lt_of_lt_of_le hlb HB.out.size)
        have HBD' := Lib.hid hbd'
        obtain ⟨A, hA⟩ : ∃ A, argN z = A := ⟨_, rfl⟩
        rw [hA] at HA HG
        obtain ⟨is, his⟩ : ∃ b, decide (0 ≤ A) = b := ⟨_, rfl⟩
        rw [his] at HA HG
        obtain ⟨na, hna⟩ : ∃ n, (if 0 ≤ A then A else 0) = n := ⟨_, rfl⟩
        rw [hna] at HA
        have dz := HD0.out _ (Below.refl _ _)
        clear d0' hlb hz hbd hbd' hA his d0 hna
        go_wp2_with fail
        refine (HA.out _).mono ?_
        rintro e w2 ⟨rfl, hb2⟩
        have HB2 := Lib.hid (HB.out.trans (hb2.mono HB.out.size))
        have dz2 := HD0.out _ hb2
        clear hb2 dz
        have hcase : (is = false ∧ bd < 0) ∨ (is = false ∧ ¬ bd < 0) ∨ (is = true ∧ z = 3 ∧ bd < 0) ∨ (is = true ∧ z = 3 ∧ ¬ bd < 0) ∨ (is = true ∧ z ≠ 3) := by
          cases is <;> simp <;> omega
        have hr : z < 0 ∨ (¬ z < 0 ∧ 1000 < z) ∨ (¬ z < 0 ∧ ¬ 1000 < z) := by omega
        have HBN : Hid ((is = false ∨ z = 3) ∧ bd < 0 → bd' = (j : Int)) := Lib.hid fun h => by
          rw [HBS.out, if_pos ⟨by rw [HG.out]; rcases h.1 with h | h <;> simp [h], h.2⟩]
        have HBK : Hid (¬ ((is = false ∨ z = 3) ∧ bd < 0) → bd' = bd) := Lib.hid fun h => by
          rw [HBS.out, if_neg]
          intro hh
          refine h ⟨?_, hh.2⟩
          have := hh.1
          rw [HG.out] at this
          cases is
          · exact .inl rfl
          · simp at this; exact .inr this
        rcases hcase with ⟨rfl, hbd⟩ | ⟨rfl, hbd⟩ | ⟨rfl, rfl, hbd⟩ | ⟨rfl, rfl, hbd⟩ | ⟨rfl, hz3⟩
        · have HV := Lib.hid (HBN.out ⟨.inl rfl, hbd⟩)
          rcases hr with hr | ⟨hr, hr'⟩ | ⟨hr, hr'⟩
          · go_wp2
            go_ret
            exact ⟨rfl, HB2.out⟩
          · go_wp2
            go_ret
            exact ⟨rfl, HB2.out⟩
          · go_wp2
            go_roundw
            case rel => exact ⟨j + 1, by omega, by go_num, by rw [HBD'.out, HV.out], HNX.out ⟨by omega, by omega⟩, HB2.out⟩
            case measure => simp [intOf]; omega
        · have HV := Lib.hid (HBK.out fun h => hbd h.2)
          rcases hr with hr | ⟨hr, hr'⟩ | ⟨hr, hr'⟩
          · go_wp2
            go_ret
            exact ⟨rfl, HB2.out⟩
          · go_wp2
            go_ret
            exact ⟨rfl, HB2.out⟩
          · go_wp2
            go_roundw
            case rel => exact ⟨j + 1, by omega, by go_num, by rw [HBD'.out, HV.out], HNX.out ⟨by omega, by omega⟩, HB2.out⟩
            case measure => simp [intOf]; omega
        · have HV := Lib.hid (HBN.out ⟨.inr rfl, hbd⟩)
          clear hr
          go_wp2
          go_roundw
          case rel => exact ⟨j + 1, by omega, by go_num, by rw [HBD'.out, HV.out], HNX.out ⟨by omega, by omega⟩, HB2.out⟩
          case measure => simp [intOf]; omega
        · have HV := Lib.hid (HBK.out fun h => hbd h.2)
          clear hr
          go_wp2
          go_roundw
          case rel => exact ⟨j + 1, by omega, by go_num, by rw [HBD'.out, HV.out], HNX.out ⟨by omega, by omega⟩, HB2.out⟩
          case measure => simp [intOf]; omega
        · have HV := Lib.hid (HBK.out fun h => by rcases h.1 with h | h; cases h; exact hz3 h)
          have hz3' : (z == 3) = false := by simp [hz3]
          rcases hr with hr | ⟨hr, hr'⟩ | ⟨hr, hr'⟩
          · go_wp2
            go_ret
            exact ⟨rfl, HB2.out⟩
          · go_wp2
            go_ret
            exact ⟨rfl, HB2.out⟩
          · go_wp2
            go_roundw
            case rel => exact ⟨j + 1, by omega, by go_num, by rw [HBD'.out, HV.out], HNX.out ⟨by omega, by omega⟩, HB2.out⟩
            case measure => simp [intOf]; omega
      · have hjn : j = l.length := by omega
        subst hjn
        have HU : Hid (∀ x ∈ l, 0 ≤ x.num ∧ x.num ≤ 1000) := Lib.hid fun x hx => by
          obtain ⟨k, hk, rfl⟩ := List.getElem_of_mem hx
          have := HNUM.out k hk
          rwa [List.getD_eq_getElem?_getD, List.getElem?_eq_getElem hk] at this
        have HIN : Hid (∀ z ∈ hcWords l, 0 ≤ z ∧ z ≤ 4294967295) := Lib.hid (hcWords_in l fun x hx z hz => by
          have h1 := HU.out x hx
          have h2 := HOK.out x hx
          unfold hcW at hz
          simp only [List.mem_cons, List.not_mem_nil, or_false] at hz
          obtain ⟨-, ha, hb, hc, hd⟩ := h2
          rcases hz with rfl | rfl | rfl | rfl | rfl
          · omega
          · exact ha
          · exact hb
          · exact hc
          · exact hd)
        have HWL := Lib.hid (hcWords_len l)
        have HLW := Lib.hid (HL.out.mono HB.out)
        go_wp2_with fail
        refine (words_all l ao c wr hn16 HLW.out HU.out).mono ?_
        rintro e w2 ⟨wv, rfl, hown, hfr, hb2⟩
        have HB2 := Lib.hid (HB.out.trans (hb2.mono HB.out.size))
        obtain ⟨wao, wcap, rfl, hat⟩ := atL_of_own hown
        have HOW := Lib.hid hown
        have HFRW : Hid (∀ k, inRow (.slice wao (5 * l.length) wcap) k → w.heap.size ≤ k) := Lib.hid fun k hk => Nat.le_trans HB.out.size (hfr k hk)
        have HCAP : Hid (5 * l.length ≤ wcap ∧ wcap ≤ 9223372036854775807) := Lib.hid (own_cap hown)
        have HBAT : Hid (Calls Tryd.prog 32 #[.slice wao (5 * l.length) wcap, .int .i64 (l.length : Int)] w2 (BatchPost E (hcWords l) l.length w2)) := Lib.hid (by
          have := batch_any E (hcWords l) wao wcap l.length w2 (HEK.out _ HB2.out) hn16 HWL.out (by rw [HWL.out]; exact HCAP.out.1) HCAP.out.2 hat HIN.out
          rw [HWL.out] at this
          exact this)
        have hwn := IntWalk.i64_in (5 * (l.length : Int)) (by omega)
        clear hown hfr hb2 hat
        go_wp2_with fail
        refine HBAT.out.mono ?_
        rintro e w3 ⟨hb3, hbad, hgood⟩
        have HB3 := Lib.hid (HB2.out.trans (hb3.mono HB2.out.size))
        by_cases hneg : badI (hcWords l) l.length < 0
        · have hnone := badI_none _ _ hneg
          obtain ⟨v, rfl, hrow, hrf⟩ := hgood hnone
          have HOW3 := Lib.hid (own_only HOW.out (F := fun _ => False) (Only.of_below hb3) (fun _ _ h => h))
          have HGD : Hid (∀ i, i < l.length → goodW (l.getD i default).num = true) := Lib.hid fun i hi => by
            have := hnone
            unfold hcBad at this
            rw [List.find?_eq_none] at this
            have := this i (by simpa using hi)
            rw [hcWords_num l i hi] at this
            simpa using this
          obtain ⟨gao, gcap, rfl, hgat⟩ := atL_of_own hrow
          have HROW := Lib.hid hgat
          obtain ⟨bv, hbv⟩ : ∃ b, badI (hcWords l) l.length = b := ⟨_, rfl⟩
          rw [hbv] at hneg ⊢
          have hneg' : ¬ 0 ≤ bv := by omega
          clear hb3 hbad hgood hrow hrf hbv hnone
          have HST2 : Hid (UpW l.length w3 (.int .i64 0) w3) := Lib.hid ⟨0, Nat.zero_le _, rfl, Below.refl _ _⟩
          go_wp2_with fail
          go_loopw [13] (fun i wr => UpW l.length w3 i wr) (fun i _ => l.length - (intOf i).toNat)
          case atStart => exact HST2.out
          case round =>
            obtain ⟨j, hj, rfl, hb⟩ := hrel
            have HBR := Lib.hid hb
            have HBW := Lib.hid (HB3.out.trans (hb.mono HB3.out.size))
            clear hb HST2
            by_cases hlt : j < l.length
            · have hji : (j : Int) < (l.length : Int) := by omega
              have hAT : hcAt (hcWords l) j = cutL (l.getD j default).num (argN (l.getD j default).num) [(l.getD j default).a, (l.getD j default).b, (l.getD j default).c, (l.getD j default).d] := hcAt_words l j hlt
              have hget : (hcAll (hcWords l) l.length).getD j default = hcAt (hcWords l) j := by
                unfold hcAll
                rw [List.getD_eq_getElem?_getD, List.getElem?_map, List.getElem?_range hlt]
                rfl
              have getL : ∀ k u, k < 5 → (hcCells (l.getD j default))[k]? = some u → ∃ b off, ao = some ⟨b, off, none⟩ ∧ (∀ wx, Below wr.heap.size wr wx → wx.cell? ⟨b, off + j * 5 + k, none⟩ = some u) ∧ b < w.heap.size := fun k u hk hu => by
                obtain ⟨b, off, e, hcc, hbb⟩ := HL.out (5 * j + k) u ((hc_cells l j k hlt hk).trans hu)
                refine ⟨b, off, e, fun wx hx => ?_, hbb⟩
                rw [show off + j * 5 + k = off + (5 * j + k) by omega]
                exact ((HBW.out.trans (hx.mono HBW.out.size)).cell (p := ⟨b, off + (5 * j + k), none⟩) hbb).trans hcc
              have getX : ∀ k u, k < 5 → (hcCells (hcAt (hcWords l) j))[k]? = some u → ∃ b off, gao = some ⟨b, off, none⟩ ∧ (∀ wx, Below wr.heap.size wr wx → wx.cell? ⟨b, off + j * 5 + k, none⟩ = some u) ∧ b < w3.heap.size := fun k u hk hu => by
                obtain ⟨b, off, e, hcc, hbb⟩ := HROW.out (5 * j + k) u ((hc_cells (hcAll (hcWords l) l.length) j k (by rw [hcAll_len]; exact hlt) hk).trans (by rw [hget]; exact hu))
                refine ⟨b, off, e, fun wx hx => ?_, hbb⟩
                rw [show off + j * 5 + k = off + (5 * j + k) by omega]
                exact ((HBR.out.trans (hx.mono HBR.out.size)).cell (p := ⟨b, off + (5 * j + k), none⟩) hbb).trans hcc
              have hgd := HGD.out j hlt
              rw [argN_good] at hgd
              have HA := Lib.hid (fun wx => args_any (l.getD j default).num wx)
              obtain ⟨⟨x0, x1, x2, x3, x4⟩, hx⟩ : ∃ x, l.getD j default = x := ⟨_, rfl⟩
              rw [hx] at getL hAT hgd HA
              dsimp only at hAT hgd HA
              have hAin := argN_in x0
              obtain ⟨A, hA⟩ : ∃ A, argN x0 = A := ⟨_, rfl⟩
              rw [hA] at hAT hgd HA hAin
              have hA0 : 0 ≤ A := by
                have := hgd
                simp only [Bool.and_eq_true, decide_eq_true_eq] at this
                exact this.1
              obtain ⟨lb, lo, rfl, L0, -⟩ := getL 0 _ (by decide) rfl
              obtain ⟨_, _, e1, L1, -⟩ := getL 1 _ (by decide) rfl
              cases e1
              obtain ⟨_, _, e2, L2, -⟩ := getL 2 _ (by decide) rfl
              cases e2
              obtain ⟨_, _, e3, L3, -⟩ := getL 3 _ (by decide) rfl
              cases e3
              obtain ⟨_, _, e4, L4, -⟩ := getL 4 _ (by decide) rfl
              cases e4
              obtain ⟨⟨y0, y1, y2, y3, y4⟩, hY⟩ : ∃ Y, cutL x0 A [x1, x2, x3, x4] = Y := ⟨_, rfl⟩
              rw [hAT, hY] at getX
              obtain ⟨gb, go_, rfl, X0, -⟩ := getX 0 _ (by decide) rfl
              obtain ⟨_, _, e1, X1, -⟩ := getX 1 _ (by decide) rfl
              cases e1
              obtain ⟨_, _, e2, X2, -⟩ := getX 2 _ (by decide) rfl
              cases e2
              obtain ⟨_, _, e3, X3, -⟩ := getX 3 _ (by decide) rfl
              cases e3
              obtain ⟨_, _, e4, X4, -⟩ := getX 4 _ (by decide) rfl
              cases e4
              have HY := Lib.hid hY
              rw [if_pos hA0, decide_eq_true hA0] at HA
              have hA5 : Hid (A = 0 ∨ A = 1 ∨ A = 2 ∨ A = 3 ∨ A = 4) := Lib.hid (by omega)
              have c0 := L0 _ (Below.refl _ wr)
              rw [Nat.add_zero] at c0
              have HLX : Hid (∀ wx, Below wr.heap.size wr wx → wx.cell? ⟨lb, lo + j * 5, none⟩ = some (.int .i64 x0) ∧ wx.cell? ⟨lb, lo + j * 5 + 1, none⟩ = some (.int .u32 x1) ∧ wx.cell? ⟨lb, lo + j * 5 + 2, none⟩ = some (.int .u32 x2) ∧ wx.cell? ⟨lb, lo + j * 5 + 3, none⟩ = some (.int .u32 x3) ∧ wx.cell? ⟨lb, lo + j * 5 + 4, none⟩ = some (.int .u32 x4)) := Lib.hid fun wx h => ⟨L0 wx h, L1 wx h, L2 wx h, L3 wx h, L4 wx h⟩
              have HXX : Hid (∀ wx, Below wr.heap.size wr wx → wx.cell? ⟨gb, go_ + j * 5, none⟩ = some (.int .i64 y0) ∧ wx.cell? ⟨gb, go_ + j * 5 + 1, none⟩ = some (.int .u32 y1) ∧ wx.cell? ⟨gb, go_ + j * 5 + 2, none⟩ = some (.int .u32 y2) ∧ wx.cell? ⟨gb, go_ + j * 5 + 3, none⟩ = some (.int .u32 y3) ∧ wx.cell? ⟨gb, go_ + j * 5 + 4, none⟩ = some (.int .u32 y4)) := Lib.hid fun wx h => ⟨X0 wx h, X1 wx h, X2 wx h, X3 wx h, X4 wx h⟩
              clear hx hget hgd hA getL hAin hA0 hY L0 L1 L2 L3 L4 X0 X1 X2 X3 X4 getX hAT
              go_wp2_with fail
              refine (HA.out _).mono ?_
              rintro e w5 ⟨rfl, hb5⟩
              obtain ⟨l0, l1, l2, l3, l4⟩ := HLX.out _ hb5
              obtain ⟨q0, q1, q2, q3, q4⟩ := HXX.out _ hb5
              have HB5 := Lib.hid (HBR.out.trans (hb5.mono HBR.out.size))
              clear hb5 c0
              go_wp2_with fail
              simp only [List.append]
              have j0 : (0 : Int) ≤ (j : Int) := by omega
              refine wp_region_quiet_lit (by kernel_rfl) (by
                refine lexStart _ (by as_aux_lemma => kernel_rfl) ?_
                change Region.lexFrom .any _ 103 0 _ = true
                iterate 103 (refine lexStep (by as_aux_lemma => kernel_rfl) ?_)
                as_aux_lemma => kernel_rfl) ?_
              have hA6 := hA5.out
              have hY := HY.out
              clear hA5 HY
              rcases hA6 with rfl | rfl | rfl | rfl | rfl
              · simp [cutL] at hY
                obtain ⟨rfl, rfl, rfl, rfl, rfl⟩ := hY
                as_aux_lemma =>
                  iterate 8 (go_big_quiet_step (fail))
                  as_aux_lemma =>
                    iterate 8 (go_big_quiet_step (fail))
                    as_aux_lemma =>
                      iterate 8 (go_big_quiet_step (fail))
                      as_aux_lemma =>
                        iterate 8 (go_big_quiet_step (fail))
                        as_aux_lemma =>
                          iterate 8 (go_big_quiet_step (fail))
                          as_aux_lemma =>
                            iterate 8 (go_big_quiet_step (fail))
                            as_aux_lemma =>
                              iterate 8 (go_big_quiet_step (fail))
                              as_aux_lemma =>
                                iterate 8 (go_big_quiet_step (fail))
                                as_aux_lemma =>
                                  iterate 8 (go_big_quiet_step (fail))
                                  as_aux_lemma =>
                                    iterate 8 (go_big_quiet_step (fail))
                                    as_aux_lemma =>
                                      iterate 8 (go_big_quiet_step (fail))
                                      as_aux_lemma =>
                                        iterate 8 (go_big_quiet_step (fail))
                                        as_aux_lemma =>
                                          repeat (go_big_quiet_step (fail))
                                          refine wpQuiet_nil ?_
                                          intro _ hw'
                                          obtain ⟨nq, hw''⟩ := hw'
                                          subst hw''
                                          go_wp2
                                          go_roundw
                                          case rel => exact ⟨j + 1, by omega, by go_num, below_drewN HB5.out _⟩
                                          case measure => simp [intOf]; omega
              · simp [cutL] at hY
                obtain ⟨rfl, rfl, rfl, rfl, rfl⟩ := hY
                as_aux_lemma =>
                  iterate 8 (go_big_quiet_step (fail))
                  as_aux_lemma =>
                    iterate 8 (go_big_quiet_step (fail))
                    as_aux_lemma =>
                      iterate 8 (go_big_quiet_step (fail))
                      as_aux_lemma =>
                        iterate 8 (go_big_quiet_step (fail))
                        as_aux_lemma =>
                          iterate 8 (go_big_quiet_step (fail))
                          as_aux_lemma =>
                            iterate 8 (go_big_quiet_step (fail))
                            as_aux_lemma =>
                              iterate 8 (go_big_quiet_step (fail))
                              as_aux_lemma =>
                                iterate 8 (go_big_quiet_step (fail))
                                as_aux_lemma =>
                                  iterate 8 (go_big_quiet_step (fail))
                                  as_aux_lemma =>
                                    iterate 8 (go_big_quiet_step (fail))
                                    as_aux_lemma =>
                                      iterate 8 (go_big_quiet_step (fail))
                                      as_aux_lemma =>
                                        iterate 8 (go_big_quiet_step (fail))
                                        as_aux_lemma =>
                                          repeat (go_big_quiet_step (fail))
                                          refine wpQuiet_nil ?_
                                          intro _ hw'
                                          obtain ⟨nq, hw''⟩ := hw'
                                          subst hw''
                                          go_wp2
                                          go_roundw
                                          case rel => exact ⟨j + 1, by omega, by go_num, below_drewN HB5.out _⟩
                                          case measure => simp [intOf]; omega
              · simp [cutL] at hY
                obtain ⟨rfl, rfl, rfl, rfl, rfl⟩ := hY
                as_aux_lemma =>
                  iterate 8 (go_big_quiet_step (fail))
                  as_aux_lemma =>
                    iterate 8 (go_big_quiet_step (fail))
                    as_aux_lemma =>
                      iterate 8 (go_big_quiet_step (fail))
                      as_aux_lemma =>
                        iterate 8 (go_big_quiet_step (fail))
                        as_aux_lemma =>
                          iterate 8 (go_big_quiet_step (fail))
                          as_aux_lemma =>
                            iterate 8 (go_big_quiet_step (fail))
                            as_aux_lemma =>
                              iterate 8 (go_big_quiet_step (fail))
                              as_aux_lemma =>
                                iterate 8 (go_big_quiet_step (fail))
                                as_aux_lemma =>
                                  iterate 8 (go_big_quiet_step (fail))
                                  as_aux_lemma =>
                                    iterate 8 (go_big_quiet_step (fail))
                                    as_aux_lemma =>
                                      iterate 8 (go_big_quiet_step (fail))
                                      as_aux_lemma =>
                                        iterate 8 (go_big_quiet_step (fail))
                                        as_aux_lemma =>
                                          repeat (go_big_quiet_step (fail))
                                          refine wpQuiet_nil ?_
                                          intro _ hw'
                                          obtain ⟨nq, hw''⟩ := hw'
                                          subst hw''
                                          go_wp2
                                          go_roundw
                                          case rel => exact ⟨j + 1, by omega, by go_num, below_drewN HB5.out _⟩
                                          case measure => simp [intOf]; omega
              · simp [cutL] at hY
                obtain ⟨rfl, rfl, rfl, rfl, rfl⟩ := hY
                as_aux_lemma =>
                  iterate 8 (go_big_quiet_step (fail))
                  as_aux_lemma =>
                    iterate 8 (go_big_quiet_step (fail))
                    as_aux_lemma =>
                      iterate 8 (go_big_quiet_step (fail))
                      as_aux_lemma =>
                        iterate 8 (go_big_quiet_step (fail))
                        as_aux_lemma =>
                          iterate 8 (go_big_quiet_step (fail))
                          as_aux_lemma =>
                            iterate 8 (go_big_quiet_step (fail))
                            as_aux_lemma =>
                              iterate 8 (go_big_quiet_step (fail))
                              as_aux_lemma =>
                                iterate 8 (go_big_quiet_step (fail))
                                as_aux_lemma =>
                                  iterate 8 (go_big_quiet_step (fail))
                                  as_aux_lemma =>
                                    iterate 8 (go_big_quiet_step (fail))
                                    as_aux_lemma =>
                                      iterate 8 (go_big_quiet_step (fail))
                                      as_aux_lemma =>
                                        iterate 8 (go_big_quiet_step (fail))
                                        as_aux_lemma =>
                                          repeat (go_big_quiet_step (fail))
                                          refine wpQuiet_nil ?_
                                          intro _ hw'
                                          obtain ⟨nq, hw''⟩ := hw'
                                          subst hw''
                                          go_wp2
                                          go_roundw
                                          case rel => exact ⟨j + 1, by omega, by go_num, below_drewN HB5.out _⟩
                                          case measure => simp [intOf]; omega
              · simp [cutL] at hY
                obtain ⟨rfl, rfl, rfl, rfl, rfl⟩ := hY
                as_aux_lemma =>
                  iterate 8 (go_big_quiet_step (fail))
                  as_aux_lemma =>
                    iterate 8 (go_big_quiet_step (fail))
                    as_aux_lemma =>
                      iterate 8 (go_big_quiet_step (fail))
                      as_aux_lemma =>
                        iterate 8 (go_big_quiet_step (fail))
                        as_aux_lemma =>
                          iterate 8 (go_big_quiet_step (fail))
                          as_aux_lemma =>
                            iterate 8 (go_big_quiet_step (fail))
                            as_aux_lemma =>
                              iterate 8 (go_big_quiet_step (fail))
                              as_aux_lemma =>
                                iterate 8 (go_big_quiet_step (fail))
                                as_aux_lemma =>
                                  iterate 8 (go_big_quiet_step (fail))
                                  as_aux_lemma =>
                                    iterate 8 (go_big_quiet_step (fail))
                                    as_aux_lemma =>
                                      iterate 8 (go_big_quiet_step (fail))
                                      as_aux_lemma =>
                                        iterate 8 (go_big_quiet_step (fail))
                                        as_aux_lemma =>
                                          repeat (go_big_quiet_step (fail))
                                          refine wpQuiet_nil ?_
                                          intro _ hw'
                                          obtain ⟨nq, hw''⟩ := hw'
                                          subst hw''
                                          go_wp2
                                          go_roundw
                                          case rel => exact ⟨j + 1, by omega, by go_num, below_drewN HB5.out _⟩
                                          case measure => simp [intOf]; omega
            · obtain ⟨i0, hi, hz0, hz1, hz2⟩ := info_parts infoU32w
              have HOWR := Lib.hid (own_only HOW3.out (F := fun _ => False) (Only.of_below HBR.out) (fun _ _ h => h))
              have HNEW : Hid (∀ (k : Nat) (u : Value), ([.int .u32 0] : List Value)[k]? = some u → (wr.alloc (.cells #[.int .u32 0] 22)).cell? ((⟨wr.heap.size, 0, none⟩ : Addr).add k) = some u) := Lib.hid fun k u hk => by
                rw [Addr.add_lit]
                refine (blk_cell (blk_new wr (.cells #[.int .u32 0] 22)) (0 + k)).trans ?_
                rw [Nat.zero_add, List.getElem?_toArray]
                exact hk
              have hjn : j = l.length := by omega
              subst hjn
              clear hlt
              go_wp2_with (at_builtin; refine wpList_append_sep _ rfl _ _ 63 rfl 22 i0 (.int .u32 0) 1 4 Tryd.underlying63 hi hz0 hz1 hz2 rfl (by decide) _ _ _ rfl (HOWR.out.alloc _) ⟨wr.heap.size, 0, none⟩ 1 1 [.int .u32 0] rfl rfl HNEW.out (by simp [Value.oneCell']) (by unfold maxLen; omega) (by omega) ?_)
              intro v' w10 ho4 hg4 hs4
              obtain ⟨ao4, cap4, rfl⟩ := own_slice ho4
              have HWR := Lib.hid (HB3.out.trans (HBR.out.mono HB3.out.size))
              have HB10 : Hid (Below w.heap.size w w10) := Lib.hid ((HWR.out.alloc HWR.out.size _).grown hg4 (Nat.le_trans HWR.out.size (by simp)) (fun j hj => HFRW.out j hj))
              clear ho4 hg4 hs4
              go_wp2_with fail
              refine (batch_range E ao4 (5 * l.length + 1) cap4 l.length w10 (HEK.out _ HB10.out) hn16 (by omega) (by omega)).mono ?_
              rintro e w11 ⟨rfl, hb11⟩
              have HB11 := Lib.hid (HB10.out.trans (hb11.mono HB10.out.size))
              have HNN : Hid ((l.length : Int) + 1 + (a5 : Int) = ((l.length + 1 + a5 : Nat) : Int)) := Lib.hid (by omega)
              have hs1 := IntWalk.i64_in ((l.length : Int) + 1) (by omega)
              have hs2 := IntWalk.i64_in ((l.length : Int) + 1 + (a5 : Int)) (by omega)
              have hcs : Hid (16 < l.length + 1 + a5 ∨ l.length + 1 + a5 ≤ 16) := Lib.hid (by omega)
              clear hb11
              go_wp2_with fail
              refine (HN.out _).mono ?_
              rintro e w12 ⟨rfl, rfl⟩
              go_wp2_with fail
              rw [HNN.out]
              rcases hcs.out with h16 | h16
              · refine (batch_many E _ _ _ _ w11 (HEK.out _ HB11.out) (.inr (by omega))).mono ?_
                rintro e w12 ⟨rfl, hb12⟩
                have HB12 := Lib.hid (HB11.out.trans (hb12.mono HB11.out.size))
                clear hb12
                go_wp2_with fail
                refine (is_any E (errV (E 2)) 103 103 (.inr ⟨2, by decide, rfl, rfl⟩) w12 (HEK.out _ HB12.out)).mono ?_
                rintro e w13 ⟨rfl, hb13⟩
                have HB13 := Lib.hid (HB12.out.trans (hb13.mono HB12.out.size))
                clear hb13
                go_wp2
                go_ret
                exact ⟨by simp, HB13.out⟩
              · refine (batch_range E _ _ _ (l.length + 1 + a5) w11 (HEK.out _ HB11.out) h16 (by omega) (by omega)).mono ?_
                rintro e w12 ⟨rfl, hb12⟩
                have HB12 := Lib.hid (HB11.out.trans (hb12.mono HB11.out.size))
                clear hb12
                go_wp2_with fail
                refine (is_any E (errV (E 2)) 103 103 (.inr ⟨2, by decide, rfl, rfl⟩) w12 (HEK.out _ HB12.out)).mono ?_
                rintro e w13 ⟨rfl, hb13⟩
                have HB13 := Lib.hid (HB12.out.trans (hb13.mono HB12.out.size))
                clear hb13
                go_wp2
                go_ret
                exact ⟨by simp, HB13.out⟩
        · obtain ⟨i, hi, hbi⟩ := badI_some _ _ (Int.not_lt.1 hneg)
          obtain ⟨p, hp, rfl, hpc⟩ := hbad i hi
          rw [hbi]
          have HPC : Hid (∀ wx, Below w3.heap.size w3 wx → errFlt E wx (.iface 32 (.pointer (some ⟨p, 0, none⟩))) 107 true (i : Int)) := Lib.hid fun wx h => .inr ⟨6, p, by decide, rfl, (h.block p (blk_lt hpc)).trans hpc, rfl, rfl⟩
          clear hb3 hbad hgood hp hpc hneg hbi hi
          go_wp2_with fail
          refine (placed_any 107 (i : Int) _ (by decide)).mono ?_
          rintro e w4 ⟨rfl, hb4⟩
          have HB4 := Lib.hid (HB3.out.trans (hb4.mono HB3.out.size))
          have HPC4 := Lib.hid (HPC.out _ hb4)
          clear hb4
          go_wp2_with fail
          refine (same_gen E _ 107 107 (i : Int) (i : Int) true true w4 HPC4.out (HEK.out _ HB4.out)).mono ?_
          rintro e w5 ⟨rfl, hb5⟩
          have HB5 := Lib.hid (HB4.out.trans (hb5.mono HB4.out.size))
          clear hb5
          go_wp2
          go_ret
          exact ⟨by simp, HB5.out⟩
end Go.Proofs.YtpmbbbgmaipmbaaDoor
