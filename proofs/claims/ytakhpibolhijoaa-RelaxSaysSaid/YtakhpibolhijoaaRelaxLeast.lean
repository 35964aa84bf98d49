/-
  RelaxLeast: for every items and every choice of long ones the call returns true. No conditions.
-/
import Derived.Test.YtakhpibolhijoaaRxTools
import Derived.Test.YtakhpibolhijoaaRxOpen
import Derived.Test.YtakhpibolhijoaaCopyBools
namespace Go.Proofs.Ytakhpibolhijoaa
open Go.RowKit

/-- the branches alone -/
def msk : List Rx.It → List Bool → List Bool
  | x :: l, b :: bs => (b && x.br) :: msk l bs
  | _, _ => []
theorem msk_length : ∀ (l : List Rx.It) (bs : List Bool), bs.length = l.length → (msk l bs).length = l.length
  | [], [], _ => rfl
  | x :: l, b :: bs, h => by simp only [msk, List.length_cons, msk_length l bs (by simpa using h)]
  | [], b :: bs, h => by simp at h
  | x :: l, [], h => by simp at h
theorem msk_get : ∀ (l : List Rx.It) (bs : List Bool) (j : Nat), bs.length = l.length → j < l.length → (msk l bs).getD j false = (bs.getD j false && (l.getD j default).br)
  | x :: l, b :: bs, 0, h, hj => by simp [msk]
  | x :: l, b :: bs, j + 1, h, hj => by
    simp only [msk, List.getD_cons_succ]
    exact msk_get l bs j (by simpa using h) (by simpa using hj)
  | [], bs, j, h, hj => by simp at hj
  | x :: l, [], j, h, hj => by simp at h
theorem part_set {α : Type} (d : α) (nw old : List α) (h : nw.length = old.length) (k : Nat) (hk : k < nw.length) : (nw.take k ++ old.drop k).set k (nw.getD k d) = nw.take (k + 1) ++ old.drop (k + 1) := by
  rw [List.set_append_right _ _ (by simp; omega)]
  rw [List.take_succ_eq_append_getElem hk, List.append_assoc]
  congr 1
  rw [List.drop_eq_getElem_cons (show k < old.length by omega)]
  rw [List.getD_eq_getElem?_getD, List.getElem?_eq_getElem hk, show k - (List.take k nw).length = 0 by simp; omega]
  rfl
theorem part_get {α : Type} (d : α) (nw old : List α) (h : nw.length = old.length) (k : Nat) (hk : k < nw.length) : (nw.take k ++ old.drop k).getD k d = old.getD k d := by
  rw [List.getD_eq_getElem?_getD, List.getElem?_append_right (by simp; omega), List.getElem?_drop, List.getD_eq_getElem?_getD]
  congr 2
  simp
  omega
theorem part_len {α : Type} (nw old : List α) (h : nw.length = old.length) (k : Nat) (hk : k ≤ nw.length) : (nw.take k ++ old.drop k).length = nw.length := by
  simp
  omega

def brs (l : List Rx.It) : List Bool := l.map (·.br)
theorem cnt_take (l : List Rx.It) (k : Nat) (h : k < l.length) : Rx.cnt ((brs l).take (k + 1)) = Rx.cnt ((brs l).take k) + if (l.getD k default).br then 1 else 0 := by
  rw [List.take_succ_eq_append_getElem (by simp [brs]; exact h)]
  simp only [Rx.cnt, List.filter_append, List.length_append]
  congr 1
  simp only [brs, List.getElem_map, List.getD_eq_getElem?_getD, List.getElem?_eq_getElem h, Option.getD_some]
  cases l[k].br <;> rfl
theorem okAll_of {l : List Rx.It} {a : List Bool} (hl : a.length = l.length) (h : Rx.step l a = a) : allOk l a = true := by
  unfold allOk
  rw [decide_eq_true_eq]
  intro i hi
  have := Rx.fix_fits hl h i hi
  unfold okAt
  cases hb : (l.getD i default).br
  · rfl
  · cases ha : a.getD i false
    · rw [this hb ha]; rfl
    · rfl
theorem least_of {l : List Rx.It} {bs a : List Bool} {k : Nat} (hf : Rx.Fair l) (hb : bs.length = l.length) (hd : Rx.IsDo l a k) (hok : allOk l (msk l bs) = true) : ∀ j, a.getD j false = true → (msk l bs).getD j false = true := by
  unfold allOk at hok
  rw [decide_eq_true_eq] at hok
  rw [hd.eq]
  refine Rx.it_least l l rfl hf hf (fun _ _ => by omega) (fun _ _ h => ⟨h, rfl⟩) _ (msk_length l bs hb) ?_ k
  intro j hj hbr hm
  have := hok j hj
  unfold okAt at this
  rw [hbr, hm] at this
  simpa using this

def CntTo (l : List Rx.It) (c i : Value) : Prop := ∃ j : Nat, j ≤ l.length ∧ i = .int .i64 (j : Int) ∧ c = .int .i64 (Rx.cnt ((brs l).take j) : Int)
def MskTo (l : List Rx.It) (bs : List Bool) (w : World) (v i : Value) (wr : World) : Prop :=
  ∃ j : Nat, j ≤ l.length ∧ i = .int .i64 (j : Int) ∧ wr.ownsRow 0 4 1 v l.length (bls ((msk l bs).take j ++ bs.drop j)) ∧ Below w.heap.size w wr
def UpTo (n : Nat) (i : Value) : Prop := ∃ j : Nat, j ≤ n ∧ i = .int .i64 (j : Int)

set_option maxHeartbeats 1000000 in
theorem least_many (n m : Nat) (ao bo : Option Addr) (c1 c2 : Nat) (w : World) (h : 60 < n ∨ n ≠ m) :
    Calls Try.prog 7 #[.slice ao n c1, .slice bo m c2] w fun e w' => e = .returned (.bool true) ∧ Below w.heap.size w w' := by
  by_cases h1 : 60 < n
  · have h2 : (60 : Int) < (n : Int) := by omega
    clear h
    go_enter Try.func7, Try.ntmps7
    go_wp2_with fail
    refine (first_true _).mono ?_
    rintro e w1 ⟨rfl, hb1⟩
    go_wp2
    go_ret
    exact ⟨rfl, hb1⟩
  · have h2 : ¬ (60 : Int) < (n : Int) := by omega
    have h3 : ((m : Int) != (n : Int)) = true := by rw [bne_iff_ne]; omega
    clear h
    go_enter Try.func7, Try.ntmps7
    go_wp2_with fail
    refine (first_true _).mono ?_
    rintro e w1 ⟨rfl, hb1⟩
    go_wp2
    go_ret
    exact ⟨rfl, hb1⟩

set_option maxRecDepth 100000 in
set_option maxHeartbeats 3000000 in
theorem least_some (l : List Rx.It) (bs : List Bool) (ao bo : Option Addr) (c1 c2 : Nat) (w : World) (hl : AtL w ao (itCells l)) (hbl : AtL w bo (bls bs)) (hn : l.length ≤ 60) (hb : bs.length = l.length) :
    Calls Try.prog 7 #[.slice ao l.length c1, .slice bo bs.length c2] w fun e w' => e = .returned (.bool true) ∧ Below w.heap.size w w' := by
  have HL := Lib.hid hl
  have HBL := Lib.hid hbl
  have HB := Lib.hid hb
  rw [HB.out]
  clear hl hbl hb
  go_enter Try.func7, Try.ntmps7
  go_wp2_with fail
  refine (first_true _).mono ?_
  rintro e w1 ⟨rfl, hb1⟩
  have HB1 := Lib.hid hb1
  clear hb1
  go_wp2_with fail
  refine (do_n l l.length _ _ _ (HL.out.mono HB1.out) rfl (by omega)).mono ?_
  rintro e w2 ⟨hd0, hd1⟩
  by_cases hfair : fairB l = false
  · obtain ⟨rfl, hb2⟩ := hd0 hfair
    have HB2 := Lib.hid (HB1.out.trans (hb2.mono HB1.out.size))
    clear hd0 hd1 hb2 hfair
    go_wp2
    go_ret
    exact ⟨rfl, HB2.out⟩
  · obtain ⟨v, a, r, rfl, hdo, hown, hf2, hb2⟩ := hd1 (by simpa using hfair)
    have HFAIR := Lib.hid ((fair_iff l).1 (by simpa using hfair))
    have HB2 := Lib.hid (HB1.out.trans (hb2.mono HB1.out.size))
    obtain ⟨av, cv, rfl, hav⟩ := atL_of_own hown
    have HAV := Lib.hid hav
    have HDO := Lib.hid hdo
    have HRC := Lib.hid (Rx.rounds_le hdo)
    have HOK := Lib.hid (okAll_of hdo.length hdo.fix)
    have HAL := Lib.hid hdo.length
    clear hd0 hd1 hb2 hfair hown hf2 hav hdo
    go_wp2_with fail
    go_loop [9, 10] (fun c i => CntTo l c i) (fun _ i => l.length - (intOf i).toNat)
    case atStart => exact ⟨0, Nat.zero_le _, rfl, rfl⟩
    case round =>
      obtain ⟨j, hj, rfl, rfl⟩ := hrel
      by_cases hlt : j < l.length
      · obtain ⟨b, off, rfl, -, -, -, x2⟩ := (AtIt.of (HL.out.mono HB2.out)) j hlt
        obtain ⟨d, q, rfl, y0, -⟩ := HAV.out j _ (bls_get a j (by rw [HAL.out]; exact hlt))
        have hc := Lib.hid (cnt_take l j hlt)
        have hct := Rx.cnt_le ((brs l).take j)
        have hct2 : ((brs l).take j).length ≤ j := List.length_take_le _ _
        obtain ⟨z, hz⟩ : ∃ z, Rx.cnt ((brs l).take j) = z := ⟨_, rfl⟩
        rw [hz] at hc hct ⊢
        have hji : (j : Int) < (l.length : Int) := by omega
        have hw := IntWalk.i64_in ((z : Int) + 1) (by omega)
        have HBR : Hid (a.getD j false = true → (l.getD j default).br = true) := Lib.hid fun h => by
          have := HDO.out.eq
          rw [this] at h
          exact Rx.it_br l r j h
        obtain ⟨br, hbr⟩ : ∃ br, (l.getD j default).br = br := ⟨_, rfl⟩
        obtain ⟨aj, haj⟩ : ∃ aj, a.getD j false = aj := ⟨_, rfl⟩
        rw [hbr] at x2 hc HBR
        rw [haj] at y0 HBR
        clear hz hbr haj hct2
        cases br
        · cases aj
          · go_wp2
            go_round
            case rel => exact ⟨j + 1, by omega, by go_num, by rw [hc.out]; simp⟩
            case measure => simp [intOf]; omega
          · exact absurd (HBR.out rfl) (by decide)
        · go_wp2
          go_round
          case rel => exact ⟨j + 1, by omega, by go_num, by rw [hc.out]; simp⟩
          case measure => simp [intOf]; omega
      · obtain rfl : j = l.length := by omega
        have hrc : r ≤ Rx.cnt ((brs l).take l.length) := by
          rw [List.take_of_length_le (by simp [brs])]
          exact HRC.out
        have hct := Rx.cnt_le ((brs l).take l.length)
        have hct2 : ((brs l).take l.length).length ≤ l.length := List.length_take_le _ _
        obtain ⟨z, hz⟩ : ∃ z, Rx.cnt ((brs l).take l.length) = z := ⟨_, rfl⟩
        rw [hz] at hrc hct ⊢
        clear hz hct2
        go_wp2_with fail
        refine (Fits_n l a _ _ _ _ _ _ _ (HL.out.mono HB2.out) HAV.out rfl HAL.out rfl HFAIR.out (by omega)).mono ?_
        rintro e w3 ⟨rfl, hb3⟩
        rw [HOK.out]
        have HB3 := Lib.hid (HB2.out.trans (hb3.mono HB2.out.size))
        have HAV3 := Lib.hid (HAV.out.mono hb3)
        clear hb3
        go_wp2_with fail
        have hcp := copyBools_any bo c2 bs w3 (HBL.out.mono HB3.out) (by rw [HB.out]; omega)
        rw [HB.out] at hcp
        refine hcp.mono ?_
        clear hcp
        rintro e w4 ⟨ov, rfl, hov, hfv, hb4⟩
        obtain ⟨oo, oc, rfl⟩ := own_slice hov
        have HOV := Lib.hid hov
        have HFV := Lib.hid hfv
        have HB4 := Lib.hid hb4
        clear hov hfv hb4
        have HML := Lib.hid (msk_length l bs HB.out)
        go_wp2_with fail
        go_loopw [12] (fun i wr => MskTo l bs w3 (.slice oo l.length oc) i wr) (fun i _ => l.length - (intOf i).toNat)
        case atStart => exact ⟨0, Nat.zero_le _, rfl, HOV.out, HB4.out⟩
        case round =>
          obtain ⟨j, hj, rfl, hown, hbw⟩ := hrel
          have HO := Lib.hid hown
          have HW := Lib.hid hbw
          have HWW := Lib.hid (HB3.out.trans (hbw.mono HB3.out.size))
          clear hown hbw
          by_cases hlt : j < l.length
          · rcases own_shape HO.out with ⟨-, h, -⟩ | ⟨g, cap', he, -, -⟩
            · omega
            · cases he
              obtain ⟨b, off, rfl, -, -, -, x2⟩ := (AtIt.of (HL.out.mono HWW.out)) j hlt
              have y0 := own_cell HO.out j (by omega)
              rw [bls_get _ j (by rw [part_len _ _ (by rw [HML.out, HB.out]) j (by rw [HML.out]; exact hj), HML.out]; exact hlt), part_get false _ _ (by rw [HML.out, HB.out]) j (by rw [HML.out]; exact hlt)] at y0
              have f0 := own_free HO.out j
              have hji : (j : Int) < (l.length : Int) := by omega
              have HSET := Lib.hid (part_set false (msk l bs) bs (by rw [HML.out, HB.out]) j (by rw [HML.out]; exact hlt))
              have HG := Lib.hid (msk_get l bs j HB.out hlt)
              have hgs := HFV.out g rfl
              obtain ⟨br, hbr⟩ : ∃ br, (l.getD j default).br = br := ⟨_, rfl⟩
              obtain ⟨bj, hbj⟩ : ∃ bj, bs.getD j false = bj := ⟨_, rfl⟩
              rw [hbr] at x2 HG
              rw [hbj] at y0 HG
              clear hbr hbj
              have HST : Hid (∀ z, z = (msk l bs).getD j false → (wr.setCell ⟨g, j, none⟩ (.bool z)).ownsRow 0 4 1 (.slice (some ⟨g, 0, none⟩) l.length oc) l.length (bls ((msk l bs).take (j + 1) ++ bs.drop (j + 1)))) := Lib.hid fun z hz => by
                subst hz
                rw [← HSET.out, ← bls_set]
                exact (HO.out.stored j _).1
              have HWS : Hid (∀ z, Below w3.heap.size w3 (wr.setCell ⟨g, j, none⟩ (.bool z))) := Lib.hid fun z => HW.out.setCell hgs _
              cases bj <;> cases br
              all_goals
                go_wp2
                go_roundw
                case rel => exact ⟨j + 1, by omega, by go_num, HST.out _ (by rw [HG.out]; rfl), HWS.out _⟩
                case measure => simp [intOf]; omega
          · obtain rfl : j = l.length := by omega
            have HMS : Hid ((msk l bs).take l.length ++ bs.drop l.length = msk l bs) := Lib.hid (by
              rw [List.take_of_length_le (by rw [HML.out]; exact Nat.le_refl _), List.drop_of_length_le (by rw [HB.out]; exact Nat.le_refl _), List.append_nil])
            rw [HMS.out] at HO
            obtain ⟨o1, o2, he, hom⟩ := atL_of_own HO.out
            cases he
            have HOM := Lib.hid hom
            clear hom
            go_wp2_with fail
            refine (Fits_n l (msk l bs) _ _ _ _ _ _ _ (HL.out.mono HWW.out) HOM.out rfl HML.out rfl HFAIR.out (by omega)).mono ?_
            rintro e w5 ⟨rfl, hb5⟩
            have HB5 := Lib.hid hb5
            have HB5W := Lib.hid (HWW.out.trans (hb5.mono HWW.out.size))
            have HLE := Lib.hid (fun h => least_of HFAIR.out HB.out HDO.out h)
            obtain ⟨ok2, hok2⟩ : ∃ ok2, allOk l (msk l bs) = ok2 := ⟨_, rfl⟩
            rw [hok2] at HLE ⊢
            clear hb5 hok2
            cases ok2
            · go_wp2
              go_ret
              exact ⟨rfl, HB5W.out⟩
            · go_wp2_with fail
              go_loop [13] (fun i => UpTo l.length i) (fun i => l.length - (intOf i).toNat)
              case atStart => exact ⟨0, Nat.zero_le _, rfl⟩
              case round =>
                obtain ⟨q, hq, rfl⟩ := hrel
                by_cases hqt : q < l.length
                · obtain ⟨d, u, rfl, y0, -⟩ := ((HAV3.out.mono HW.out).mono HB5.out) q _ (bls_get a q (by rw [HAL.out]; exact hqt))
                  obtain ⟨d2, u2, rfl, z0, -⟩ := (HOM.out.mono HB5.out) q _ (bls_get (msk l bs) q (by rw [HML.out]; exact hqt))
                  have hji : (q : Int) < (l.length : Int) := by omega
                  have HI := Lib.hid (HLE.out (by trivial) q)
                  obtain ⟨aj, haj⟩ : ∃ aj, a.getD q false = aj := ⟨_, rfl⟩
                  obtain ⟨mj, hmj⟩ : ∃ mj, (msk l bs).getD q false = mj := ⟨_, rfl⟩
                  rw [haj] at y0 HI
                  rw [hmj] at z0 HI
                  clear haj hmj
                  cases aj
                  · go_wp2
                    go_round
                    case rel => exact ⟨q + 1, by omega, by go_num⟩
                    case measure => simp [intOf]; omega
                  · cases mj
                    · exact absurd (HI.out rfl) (by decide)
                    · go_wp2
                      go_round
                      case rel => exact ⟨q + 1, by omega, by go_num⟩
                      case measure => simp [intOf]; omega
                · go_wp2
                  go_ret
                  exact ⟨rfl, HB5W.out⟩

theorem least_walk (l : List Rx.It) (bs : List Bool) (ao bo : Option Addr) (c1 c2 : Nat) (w : World) (hl : AtL w ao (itCells l)) (hbl : AtL w bo (bls bs)) :
    Calls Try.prog 7 #[.slice ao l.length c1, .slice bo bs.length c2] w fun e w' => e = .returned (.bool true) ∧ Below w.heap.size w w' := by
  by_cases h : 60 < l.length ∨ l.length ≠ bs.length
  · exact least_many _ _ _ _ _ _ _ h
  · exact least_some l bs ao bo c1 c2 w hl hbl (by omega) (by omega)
end Go.Proofs.Ytakhpibolhijoaa
