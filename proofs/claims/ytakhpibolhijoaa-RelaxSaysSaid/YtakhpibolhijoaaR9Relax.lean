/-
  facaderef9.Relax: as relax.Do answers.
-/
import Derived.Test.YtakhpibolhijoaaR9
import Derived.BigGuardPart
namespace Go.Proofs.Ytakhpibolhijoaa
open Go.RowKit

theorem copyBools_n (ao : Option Addr) (c1 n : Nat) (xs : List Bool) (w : World) (hr : AtL w ao (bls xs)) (hx : xs.length = n) (hn : n ≤ 1000000000) :
    Calls Try.prog 20 #[.slice ao n c1] w fun e w' => ∃ v', e = .returned v' ∧ w'.ownsRow 0 4 1 v' n (bls xs) ∧ (∀ k, inRow v' k → w.heap.size ≤ k) ∧ Below w.heap.size w w' := by
  subst hx
  exact copyBools_any ao c1 xs w hr hn

def Round9 (l : List Rx.It) (w : World) (lv rv : Value) (wr : World) : Prop :=
  ∃ k : Nat, ∃ ao cap, rv = .int .i64 k ∧ lv = .slice ao l.length cap ∧ k ≤ l.length ∧ (∀ j, j < k → Rx.step l (Rx.it l j) ≠ Rx.it l j) ∧ AtL wr ao (bls (Rx.it l k)) ∧ Below w.heap.size w wr
def Marked9 (l : List Rx.It) (old : List Bool) (nv : Value) (w : World) (more i : Value) (wr : World) : Prop :=
  ∃ k : Nat, ∃ m : Bool, k ≤ l.length ∧ i = .int .i64 k ∧ more = .bool m ∧ (m = false → (Rx.step l old).take k = old.take k) ∧ (m = true → Rx.step l old ≠ old) ∧
    wr.ownsRow 0 4 1 nv l.length (bls ((Rx.step l old).take k ++ old.drop k)) ∧ Only (fun b => inRow nv b) w wr
def RelaxAns (l : List Rx.It) (w : World) (e : Ending) (w' : World) : Prop :=
  ∃ v c a, ∃ k : Nat, e = .returned (.tuple #[.slice v l.length c, .int .i64 (k : Int)]) ∧ Rx.IsDo l a k ∧ AtL w' v (bls a) ∧ Below w.heap.size w w'

set_option maxRecDepth 100000 in
set_option maxHeartbeats 4000000 in
theorem nine_relax_any (l : List Rx.It) (ao : Option Addr) (c1 : Nat) (w : World) (hl : AtL w ao (itCells l)) (hn : l.length ≤ 4096) (hf : Rx.Fair l) :
    Calls Try.prog 17 #[.slice ao l.length c1] w (RelaxAns l w) := by
  have HL := Lib.hid hl
  have HF := Lib.hid hf
  clear hl hf
  obtain ⟨A, hA, hmk⟩ : ∃ A : Array Value, A.toList = bls (Rx.it l 0) ∧ ∀ W, (Instr.makeSlice 24 (.int .i64 (l.length : Int)) (.int .i64 (l.length : Int))).run Try.prog W = .ok (.slice (some ⟨W.heap.size, 0, none⟩) l.length l.length) (W.alloc (.cells A 4)) :=
    ⟨madeCells #[.bool false] l.length, by rw [toList_madeCells_one]; simp [bls, Rx.it], fun W => made_n W l.length (by omega)⟩
  have HMV : Hid (AtL (w.alloc (.cells A 4)) (some ⟨w.heap.size, 0, none⟩) (bls (Rx.it l 0))) := Lib.hid (atL_blk (blk_new w (.cells A 4)) hA)
  have HO0 : Hid (∀ X, Below w.heap.size w (w.alloc X)) := Lib.hid fun X => (Below.refl _ _).alloc (Nat.le_refl _) X
  clear hA
  go_enter Try.func17, Try.ntmps17
  go_wp2_with fail
  go_loopw [4, 5] (fun lv rv wr => Round9 l w lv rv wr) (fun _ rv _ => l.length - Rx.cnt (Rx.it l (intOf rv).toNat))
  case atStart => exact ⟨0, _, _, rfl, rfl, Nat.zero_le _, fun j hj => by omega, HMV.out, HO0.out _⟩
  case round =>
    obtain ⟨k, oa, oc, rfl, rfl, hkl, hleast, hat, hbw⟩ := hrel
    have hold := Rx.it_length l k
    obtain ⟨old, hol⟩ : ∃ old, Rx.it l k = old := ⟨_, rfl⟩
    rw [hol] at hat hold
    have HOL := Lib.hid hol
    have HLEN := Lib.hid hold
    have HLE := Lib.hid hleast
    have HAT := Lib.hid hat
    have HWR := Lib.hid hbw
    clear hol hold hleast hat hbw HMV HO0 hmk
    go_wp2_with fail
    refine (nine_places l old l.length l.length _ _ _ _ _ (HL.out.mono HWR.out) HAT.out rfl HLEN.out rfl HF.out (by omega)).mono ?_
    rintro e w4 ⟨pv, rfl, hpo, hpf, hb4⟩
    obtain ⟨ap, cp, rfl, hpa⟩ := atL_of_own hpo
    have HB4 := Lib.hid (HWR.out.trans (hb4.mono HWR.out.size))
    have HPA := Lib.hid hpa
    have HAT4 := Lib.hid (HAT.out.mono hb4)
    clear hpo hpf hb4 hpa
    go_wp2_with fail
    refine (copyBools_n _ _ l.length old _ HAT4.out HLEN.out (by omega)).mono ?_
    rintro e w5 ⟨nv, rfl, hno, hnf, hb5⟩
    obtain ⟨na, nc, rfl⟩ := own_slice hno
    have HO5 := Lib.hid hno
    have HNF := Lib.hid hnf
    have HB5 := Lib.hid hb5
    clear hno hnf hb5
    go_wp2_with fail
    go_loopw [8, 9] (fun m i wr => Marked9 l old (.slice na l.length nc) w5 m i wr) (fun _ i _ => l.length - (intOf i).toNat)
    case atStart => exact ⟨0, false, Nat.zero_le _, rfl, rfl, fun _ => rfl, fun h => by (cases h), HO5.out, Only.refl _ _⟩
    case round =>
      obtain ⟨j, m, hj, rfl, rfl, hm0, hm1, hown, hon⟩ := hrel
      have HON := Lib.hid hon
      have HOWN := Lib.hid hown
      have HM0 := Lib.hid hm0
      have HM1 := Lib.hid hm1
      have HW4 := Lib.hid (HB5.out.trans (hon.below HB5.out.size HNF.out))
      have HWB := Lib.hid (HB4.out.trans (HW4.out.mono HB4.out.size))
      clear hon hown hm0 hm1
      by_cases hlt : j < l.length
      · rcases own_shape HOWN.out with ⟨-, h, -⟩ | ⟨g, cap', he, -, -⟩
        · omega
        cases he
        obtain ⟨b, off, rfl, -, x0, x1, x2⟩ := (AtIt.of (HL.out.mono HWB.out)) j hlt
        obtain ⟨d, q0, rfl, y0, -⟩ := (HAT4.out.mono HW4.out) j _ (bls_get old j (by rw [HLEN.out]; exact hlt))
        have hji : (j : Int) < (l.length : Int) := by omega
        have HSTEP := Lib.hid (Rx.step_get l old j HLEN.out hlt)
        have HX := Lib.hid (HF.out j hlt).2.2
        have HSAME := Lib.hid (mark_same l old HLEN.out j hlt)
        have HSET := Lib.hid (mark_set l old HLEN.out j hlt)
        have HTK : Hid ((Rx.step l old).getD j false = old.getD j false → (Rx.step l old).take j = old.take j → (Rx.step l old).take (j + 1) = old.take (j + 1)) := Lib.hid fun e h => take_eq false (by rw [Rx.step_length l old HLEN.out]; exact hlt) (by rw [HLEN.out]; exact hlt) h e
        have HGAP : Hid (Rx.gap (Rx.pl 0 l old) (l.getD j default) j = (Rx.pl 0 l old).getD (l.getD j default).to_.toNat 0 - (Rx.pl 0 l old).getD j 0) := Lib.hid rfl
        obtain ⟨s, hs⟩ : ∃ s, (l.getD j default).size = s := ⟨_, rfl⟩
        obtain ⟨t, ht⟩ : ∃ t, (l.getD j default).to_ = t := ⟨_, rfl⟩
        obtain ⟨r, hr⟩ : ∃ r, (l.getD j default).br = r := ⟨_, rfl⟩
        obtain ⟨q, hq⟩ : ∃ q, old.getD j false = q := ⟨_, rfl⟩
        rw [hs] at x0
        rw [ht] at x1 HX HGAP
        rw [hr] at x2 HSTEP HX
        rw [hq] at y0 HSTEP
        rw [HGAP.out] at HSTEP
        have HQ := Lib.hid hq
        clear hs ht hr hq
        cases r
        · have HD : Hid ((Rx.step l old).getD j false = q) := Lib.hid (by rw [HSTEP.out]; simp)
          clear HSTEP
          go_wp2
          go_roundw
          case rel => exact ⟨j + 1, m, by omega, by go_num, rfl, fun h => HTK.out (by rw [HD.out, HQ.out]) (HM0.out h), HM1.out, by rw [HSAME.out (by rw [HD.out, HQ.out])]; exact HOWN.out, HON.out⟩
          case measure => simp [intOf]; omega
        · have ht0 := (HX.out (by trivial)).1
          have ht1 := (HX.out (by trivial)).2
          obtain ⟨tn, rfl⟩ : ∃ tn : Nat, t = (tn : Int) := ⟨t.toNat, by omega⟩
          rw [Int.toNat_natCast] at HSTEP
          cases q
          · go_wp2_with fail
            refine (nine_fits (Rx.pl 0 l old) s tn true j (l.length + 1) ap cp _ (HPA.out.mono HW4.out) (Rx.pl_length 0 l old HLEN.out) (by rw [Rx.pl_length 0 l old HLEN.out]; omega) (by rw [Rx.pl_length 0 l old HLEN.out]; omega) (pl_small l old HLEN.out HF.out (by omega)) (by rw [Rx.pl_length 0 l old HLEN.out]; omega)).mono ?_
            rintro e w6 ⟨rfl, hb6⟩
            have HO6 := Lib.hid (own_below HOWN.out hb6)
            have HN6 := Lib.hid (HON.out.below' hb6)
            obtain ⟨v, hv⟩ : ∃ v, Rx.bad ((Rx.pl 0 l old).getD tn 0 - (Rx.pl 0 l old).getD j 0) = v := ⟨_, rfl⟩
            rw [hv] at HSTEP ⊢
            have y6 := own_cell HO6.out j (by omega)
            rw [bls_get _ j (by rw [mark_len l old HLEN.out j hj]; exact hlt), mark_get l old HLEN.out j hlt, HQ.out] at y6
            have f6 := own_free HO6.out j
            clear hb6 hv y0
            cases v
            · have HD : Hid ((Rx.step l old).getD j false = false) := Lib.hid (by rw [HSTEP.out]; simp)
              clear HSTEP
              go_wp2
              go_roundw
              case rel => exact ⟨j + 1, m, by omega, by go_num, rfl, fun h => HTK.out (by rw [HD.out, HQ.out]) (HM0.out h), HM1.out, by rw [HSAME.out (by rw [HD.out, HQ.out])]; exact HO6.out, HN6.out⟩
              case measure => simp [intOf]; omega
            · have HD : Hid ((Rx.step l old).getD j false = true) := Lib.hid (by rw [HSTEP.out]; simp)
              have HST := Lib.hid (HO6.out.stored j (.bool true)).1
              have HNS := Lib.hid (HN6.out.setCell (p := ⟨g, j, none⟩) (.inl rfl) (.bool true))
              clear HSTEP
              go_wp2
              go_roundw
              case rel => exact ⟨j + 1, true, by omega, by go_num, rfl, fun h => by (cases h), fun _ h => by (have := HD.out; rw [h, HQ.out] at this; cases this), by rw [← HSET.out HD.out, ← bls_set]; exact HST.out, HNS.out⟩
              case measure => simp [intOf]; omega
          · have HD : Hid ((Rx.step l old).getD j false = true) := Lib.hid (by rw [HSTEP.out]; simp)
            clear HSTEP
            go_wp2
            go_roundw
            case rel => exact ⟨j + 1, m, by omega, by go_num, rfl, fun h => HTK.out (by rw [HD.out, HQ.out]) (HM0.out h), HM1.out, by rw [HSAME.out (by rw [HD.out, HQ.out])]; exact HOWN.out, HON.out⟩
            case measure => simp [intOf]; omega
      · obtain rfl : j = l.length := by omega
        have HSL := Lib.hid (Rx.step_length l old HLEN.out)
        cases m
        · have HFIX : Hid (Rx.step l old = old) := Lib.hid (by
            have := HM0.out rfl
            rwa [List.take_of_length_le (by rw [HSL.out]; exact Nat.le_refl _), List.take_of_length_le (by rw [HLEN.out]; exact Nat.le_refl _)] at this)
          go_wp2
          go_ret2
          exact ⟨_, _, old, k, rfl, ⟨HOL.out.symm, HFIX.out, HLE.out⟩, HAT4.out.mono HW4.out, HWB.out⟩
        · have HNE := Lib.hid (HM1.out rfl)
          have HL2 : Hid (∀ j, j < k + 1 → Rx.step l (Rx.it l j) ≠ Rx.it l j) := Lib.hid fun j hj => by
            rcases Nat.lt_succ_iff_lt_or_eq.1 hj with h | rfl
            · exact HLE.out j h
            · rw [HOL.out]; exact HNE.out
          have HIT : Hid (Rx.it l (k + 1) = Rx.step l old) := Lib.hid (by rw [Rx.it, HOL.out])
          have hk1 : k + 1 ≤ l.length := by
            have h1 := Rx.it_cnt l (k + 1) HL2.out
            have h2 := Rx.cnt_le (Rx.it l (k + 1))
            rw [Rx.it_length] at h2
            omega
          have HCNT : Hid (l.length - Rx.cnt (Rx.it l (k + 1)) < l.length - Rx.cnt (Rx.it l k)) := Lib.hid (by
            have h1 := Rx.step_cnt l old HLEN.out HNE.out
            have h2 := Rx.cnt_le (Rx.step l old)
            rw [HSL.out] at h2
            rw [HIT.out, HOL.out]
            omega)
          obtain ⟨e1, e2, he, hna⟩ := atL_of_own HOWN.out
          cases he
          have HNA := Lib.hid hna
          clear hna
          go_wp2
          go_roundw
          case rel =>
            refine ⟨k + 1, _, _, by go_num, rfl, hk1, HL2.out, ?_, HWB.out⟩
            have := HNA.out
            rw [List.take_of_length_le (by rw [HSL.out]; exact Nat.le_refl _), List.drop_of_length_le (by rw [HLEN.out]; exact Nat.le_refl _), List.append_nil] at this
            rw [HIT.out]
            exact this
          case measure =>
            have h := HCNT.out
            simpa [intOf] using h
end Go.Proofs.Ytakhpibolhijoaa
