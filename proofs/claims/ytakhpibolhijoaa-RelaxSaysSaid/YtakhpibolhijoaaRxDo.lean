/-
  relax.Do: the branches that are long, and how many rounds changed something.
-/
import Derived.Test.YtakhpibolhijoaaRxFitsAll
namespace Go.Proofs.Ytakhpibolhijoaa
open Go.RowKit

theorem infoBool : (Try.prog.info? 4).map (fun i => (i.zero, i.size, i.bytes)) = some (some (.bool false), 1, 1) := by kernel_rfl

/-- fair: as a test -/
def fairB (l : List Rx.It) : Bool := !l.any (badTo l.length) && !l.any badSize
theorem fair_iff (l : List Rx.It) : fairB l = true ↔ Rx.Fair l := by
  have hg : ∀ k (h : k < l.length), l.getD k default = l[k] := fun k h => by simp [List.getD_eq_getElem?_getD, h]
  constructor
  · intro h k hk
    simp only [fairB, Bool.and_eq_true, Bool.not_eq_true', List.any_eq_false] at h
    have h1 := h.1 l[k] (List.getElem_mem hk)
    have h2 := h.2 l[k] (List.getElem_mem hk)
    rw [hg k hk]
    simp [badTo, badSize] at h1 h2
    refine ⟨h2.1, h2.2, fun hb => ?_⟩
    exact h1 hb
  · intro h
    simp only [fairB, Bool.and_eq_true]
    refine ⟨may_of_fair h, ?_⟩
    simp only [Bool.not_eq_true', List.any_eq_false]
    intro x hx
    obtain ⟨k, hk, rfl⟩ := List.getElem_of_mem hx
    have := h k hk
    rw [hg k hk] at this
    simp [badSize]
    omega

/-- what Do answers -/
def DoAns (l : List Rx.It) (w : World) (e : Ending) (w' : World) : Prop :=
  (fairB l = false → e = .returned (.tuple #[.slice none 0 0, .int .i64 0, .bool false]) ∧ Below w.heap.size w w') ∧
  (fairB l = true → ∃ v a k, e = .returned (.tuple #[v, .int .i64 (k : Nat), .bool true]) ∧ Rx.IsDo l a k ∧ w'.ownsRow 0 4 1 v l.length (bls a) ∧ (∀ j, inRow v j → w.heap.size ≤ j) ∧ Below w.heap.size w w')

theorem do_bad_to (l : List Rx.It) (ao : Option Addr) (c1 : Nat) (w : World) (hl : AtIt w ao l) (hn : l.length ≤ 4096) (hb : l.any (badTo l.length) = true) :
    Calls Try.prog 10 #[.slice ao l.length c1] w (DoAns l w) := by
  have HL := Lib.hid hl
  have HB := Lib.hid hb
  clear hl hb
  go_enter Try.func10, Try.ntmps10
  go_wp2_with fail
  refine (may_any l ao c1 _ HL.out (by omega)).mono ?_
  rintro e w1 ⟨rfl, hb1⟩
  rw [HB.out]
  go_wp2
  go_ret3
  exact ⟨fun _ => ⟨rfl, hb1⟩, fun h => by rw [fairB, HB.out] at h; cases h⟩

theorem do_bad_size (l : List Rx.It) (ao : Option Addr) (c1 : Nat) (w : World) (hl : AtIt w ao l) (hn : l.length ≤ 4096) (hb : l.any (badTo l.length) = false) (hs : l.any badSize = true) :
    Calls Try.prog 10 #[.slice ao l.length c1] w (DoAns l w) := by
  have HL := Lib.hid hl
  have HB := Lib.hid hb
  have HS := Lib.hid hs
  clear hl hb hs
  go_enter Try.func10, Try.ntmps10
  go_wp2_with fail
  refine (may_any l ao c1 _ HL.out (by omega)).mono ?_
  rintro e w1 ⟨rfl, hb1⟩
  rw [HB.out]
  have HB1 := Lib.hid hb1
  clear hb1
  go_wp2_with fail
  refine (contains_size l ao c1 _ (HL.out.mono HB1.out) (by omega)).mono ?_
  rintro e w2 ⟨rfl, hb2⟩
  rw [HS.out]
  have HB2 := Lib.hid (HB1.out.trans (hb2.mono HB1.out.size))
  clear hb2
  go_wp2
  go_ret3
  exact ⟨fun _ => ⟨rfl, HB2.out⟩, fun h => by rw [fairB, HB.out, HS.out] at h; cases h⟩

/-- rounds so far: the list that is long, in a row of its own -/
def Round (l : List Rx.It) (w : World) (g : Nat) (rv : Value) (wr : World) : Prop :=
  ∃ k : Nat, rv = .int .i64 k ∧ k ≤ l.length ∧ (∀ j, j < k → Rx.step l (Rx.it l j) ≠ Rx.it l j) ∧ wr.ownsRow 0 4 1 (.slice (some ⟨g, 0, none⟩) l.length l.length) l.length (bls (Rx.it l k)) ∧ Below w.heap.size w wr
/-- places so far within a round -/
def Marked (l : List Rx.It) (old : List Bool) (g : Nat) (w : World) (more i : Value) (wr : World) : Prop :=
  ∃ k : Nat, ∃ m : Bool, k ≤ l.length ∧ i = .int .i64 k ∧ more = .bool m ∧ (m = false → (Rx.step l old).take k = old.take k) ∧ (m = true → Rx.step l old ≠ old) ∧
    wr.ownsRow 0 4 1 (.slice (some ⟨g, 0, none⟩) l.length l.length) l.length (bls ((Rx.step l old).take k ++ old.drop k)) ∧ Only (fun b => b = g) w wr

theorem mark_same (l : List Rx.It) (old : List Bool) (h : old.length = l.length) (k : Nat) (hk : k < l.length) (e : (Rx.step l old).getD k false = old.getD k false) : (Rx.step l old).take (k + 1) ++ old.drop (k + 1) = (Rx.step l old).take k ++ old.drop k := by
  have hs := Rx.step_length l old h
  rw [List.take_succ_eq_append_getElem (by omega), List.append_assoc]
  congr 1
  rw [List.drop_eq_getElem_cons (show k < old.length by omega)]
  rw [List.getD_eq_getElem?_getD, List.getElem?_eq_getElem (by omega), List.getD_eq_getElem?_getD, List.getElem?_eq_getElem (by omega)] at e
  simp only [Option.getD_some] at e
  rw [List.cons_append, List.nil_append, e]
theorem mark_set (l : List Rx.It) (old : List Bool) (h : old.length = l.length) (k : Nat) (hk : k < l.length) (e : (Rx.step l old).getD k false = true) : ((Rx.step l old).take k ++ old.drop k).set k true = (Rx.step l old).take (k + 1) ++ old.drop (k + 1) := by
  have hs := Rx.step_length l old h
  rw [List.set_append_right _ _ (by simp; omega)]
  rw [List.take_succ_eq_append_getElem (by omega), List.append_assoc]
  congr 1
  rw [List.drop_eq_getElem_cons (show k < old.length by omega)]
  rw [List.getD_eq_getElem?_getD, List.getElem?_eq_getElem (by omega)] at e
  simp at e
  rw [show k - (List.take k (Rx.step l old)).length = 0 by simp; omega, e]
  rfl
theorem mark_get (l : List Rx.It) (old : List Bool) (h : old.length = l.length) (k : Nat) (hk : k < l.length) : ((Rx.step l old).take k ++ old.drop k).getD k false = old.getD k false := by
  have hs := Rx.step_length l old h
  rw [List.getD_eq_getElem?_getD, List.getElem?_append_right (by simp; omega), List.getElem?_drop, List.getD_eq_getElem?_getD]
  congr 2
  simp
  omega
theorem mark_len (l : List Rx.It) (old : List Bool) (h : old.length = l.length) (k : Nat) (hk : k ≤ l.length) : ((Rx.step l old).take k ++ old.drop k).length = l.length := by
  have hs := Rx.step_length l old h
  simp
  omega
theorem atL_only {F : Nat → Prop} {W w : World} {ao : Option Addr} {vs : List Value} (h : AtL W ao vs) (ho : Only F W w) (hF : ∀ b off, ao = some ⟨b, off, none⟩ → ¬ F b) : AtL w ao vs := fun k u hk => by
  obtain ⟨b, off, e, hc, hl⟩ := h k u hk
  refine ⟨b, off, e, ?_, Nat.lt_of_lt_of_le hl ho.size⟩
  rw [← hc]
  exact World.cell?_of_block (ho.block b hl (hF b off e))
theorem own_below {w w' : World} {e : TypeId} {size : Nat} {v : Value} {n : Nat} {xs : List Value} (h : w.ownsRow 0 e size v n xs) (hb : Below w.heap.size w w') : w'.ownsRow 0 e size v n xs :=
  own_frame h fun k hk => hb.block k (own_lt h hk)
theorem bls_set (l : List Bool) (k : Nat) (b : Bool) : (bls l).set k (.bool b) = bls (l.set k b) := by simp [bls, List.map_set]

set_option maxRecDepth 100000 in
set_option maxHeartbeats 4000000 in
theorem do_good (l : List Rx.It) (ao : Option Addr) (c1 : Nat) (w : World) (hl : AtIt w ao l) (hn : l.length ≤ 4096) (hf : Rx.Fair l) :
    Calls Try.prog 10 #[.slice ao l.length c1] w (DoAns l w) := by
  obtain ⟨i0, hi, hz0, hz1, hz2⟩ := info_parts infoBool
  have HL := Lib.hid hl
  have HF := Lib.hid hf
  have HB := Lib.hid (may_of_fair hf)
  have HS : Hid (l.any badSize = false) := Lib.hid (by
    have := (fair_iff l).2 hf
    simp only [fairB, Bool.and_eq_true, Bool.not_eq_true'] at this
    exact this.2)
  have HFB := Lib.hid ((fair_iff l).2 hf)
  clear hl hf
  go_enter Try.func10, Try.ntmps10
  go_wp2_with fail
  refine (may_any l ao c1 _ HL.out (by omega)).mono ?_
  rintro e w1 ⟨rfl, hb1⟩
  rw [HB.out]
  have HB1 := Lib.hid hb1
  clear hb1
  go_wp2_with fail
  refine (contains_size l ao c1 _ (HL.out.mono HB1.out) (by omega)).mono ?_
  rintro e w2 ⟨rfl, hb2⟩
  rw [HS.out]
  have HB2 := Lib.hid (HB1.out.trans (hb2.mono HB1.out.size))
  clear hb2 HB HS HB1
  go_wp2_with (refine wpList_make_full _ rfl _ _ 24 rfl 0 4 i0 (.bool false) 1 Try.underlying24 hi hz0 hz1 _ _ _ _ l.length rfl rfl rfl rfl (by rw [hz2]; omega) (by unfold maxLen; omega) (Nat.zero_le _) ?_)
  intro w3 ho hg
  have hO0 : Below w.heap.size w w3 := HB2.out.grown hg HB2.out.size (fun k hk => by cases hk)
  rw [show (madeCells #[Value.bool false] l.length).toList = bls (Rx.it l 0) by rw [toList_madeCells_one]; simp [bls, Rx.it]] at ho
  have HO := Lib.hid ho
  have HW := Lib.hid hO0
  have hgw := HB2.out.size
  obtain ⟨g, hgeq⟩ : ∃ g, w2.heap.size = g := ⟨_, rfl⟩
  rw [hgeq] at HO hgw ⊢
  have HGL := Lib.hid (own_lt (k := g) HO.out rfl)
  clear ho hg hO0 hgeq HB2
  go_wp2_with fail
  go_loopw [6] (fun rv wr => Round l w g rv wr) (fun rv _ => l.length - Rx.cnt (Rx.it l (intOf rv).toNat))
  case atStart => exact ⟨0, rfl, Nat.zero_le _, fun j hj => by omega, HO.out, HW.out⟩
  case round =>
    obtain ⟨k, rfl, hkl, hleast, hown, hbw⟩ := hrel
    have hold := Rx.it_length l k
    have HK : Hid (intOf (.int .i64 (k : Int)) = (k : Int)) := Lib.hid rfl
    obtain ⟨old, hol⟩ : ∃ old, Rx.it l k = old := ⟨_, rfl⟩
    rw [hol] at hown hold
    have HOL := Lib.hid hol
    have HLEN := Lib.hid hold
    have HLE := Lib.hid hleast
    have HOW := Lib.hid hown
    have HWR := Lib.hid hbw
    clear hol hold hleast hown hbw HO HW
    go_wp2_with fail
    have hpc := places_any l old ao (some ⟨g, 0, none⟩) c1 l.length wr (HL.out.mono HWR.out) (by obtain ⟨a1, a2, e1, e2⟩ := atL_of_own HOW.out; cases e1; exact e2) HLEN.out HF.out (by omega)
    rw [HLEN.out] at hpc
    refine hpc.mono ?_
    clear hpc
    rintro e w4 ⟨pv, rfl, hpo, hpf, hb4⟩
    obtain ⟨ap, cp, rfl, hpa⟩ := atL_of_own hpo
    have HB4 := Lib.hid (HWR.out.trans (hb4.mono HWR.out.size))
    have HPA := Lib.hid hpa
    have HO4 := Lib.hid (own_below HOW.out hb4)
    have hgp : ∀ b off, ap = some ⟨b, off, none⟩ → ¬ b = g := fun b off e h => by
      subst e h
      rcases own_shape hpo with ⟨e, -, -⟩ | ⟨g', cap', e, -, -⟩
      · cases e
      · cases e
        have h1 := hpf b rfl
        have h2 := own_lt (k := b) HOW.out rfl
        omega
    have HGP := Lib.hid hgp
    clear hpo hpf hb4 hpa hgp
    go_wp2_with fail
    go_loopw [8, 33] (fun m i wr => Marked l old g w4 m i wr) (fun _ i _ => l.length - (intOf i).toNat)
    case atStart => exact ⟨0, false, Nat.zero_le _, rfl, rfl, fun _ => rfl, fun h => by (cases h), HO4.out, Only.refl _ _⟩
    case round =>
      obtain ⟨j, m, hj, rfl, rfl, hm0, hm1, hown, hon⟩ := hrel
      have HON := Lib.hid hon
      have HOWN := Lib.hid hown
      have HM0 := Lib.hid hm0
      have HM1 := Lib.hid hm1
      have HWB := Lib.hid (HB4.out.trans (hon.below HB4.out.size (fun k hk => by have h : k = g := hk; omega)))
      clear hon hown hm0 hm1
      by_cases hlt : j < l.length
      · obtain ⟨b, off, rfl, -, x0, x1, x2⟩ := (HL.out.mono HWB.out) j hlt
        have y0 := own_cell HOWN.out j (by omega)
        rw [bls_get _ j (by rw [mark_len l old HLEN.out j hj]; exact hlt), mark_get l old HLEN.out j hlt] at y0
        have hji : (j : Int) < (l.length : Int) := by omega
        have HSTEP := Lib.hid (Rx.step_get l old j HLEN.out hlt)
        have HX := Lib.hid (HF.out j hlt).2.2
        have HSAME := Lib.hid (mark_same l old HLEN.out j hlt)
        have HSET := Lib.hid (mark_set l old HLEN.out j hlt)
        have HTK : Hid ((Rx.step l old).getD j false = old.getD j false → (Rx.step l old).take j = old.take j → (Rx.step l old).take (j + 1) = old.take (j + 1)) := Lib.hid fun e h => take_eq false (by rw [Rx.step_length l old HLEN.out]; exact hlt) (by rw [HLEN.out]; exact hlt) h e
        obtain ⟨s, hs⟩ : ∃ s, (l.getD j default).size = s := ⟨_, rfl⟩
        obtain ⟨t, ht⟩ : ∃ t, (l.getD j default).to_ = t := ⟨_, rfl⟩
        obtain ⟨r, hr⟩ : ∃ r, (l.getD j default).br = r := ⟨_, rfl⟩
        obtain ⟨q, hq⟩ : ∃ q, old.getD j false = q := ⟨_, rfl⟩
        rw [hs] at x0
        rw [ht] at x1
        rw [hr] at x2 HSTEP HX
        rw [hq] at y0 HSTEP
        have HQ := Lib.hid hq
        clear hs ht hr hq
        have y1 := cell_past y0 (.cells #[.int .i64 s, .int .i64 t, .bool r] 29)
        have HOA := Lib.hid (HOWN.out.alloc (.cells #[.int .i64 s, .int .i64 t, .bool r] 29))
        have HNA := Lib.hid (HON.out.alloc' (.cells #[.int .i64 s, .int .i64 t, .bool r] 29))
        have HBA := Lib.hid (HWB.out.alloc HWB.out.size (.cells #[.int .i64 s, .int .i64 t, .bool r] 29))
        clear y0
        cases r
        · have HD : Hid ((Rx.step l old).getD j false = q) := Lib.hid (by rw [HSTEP.out]; simp)
          clear HSTEP
          go_wp2
          go_roundw
          case rel => exact ⟨j + 1, m, by omega, by go_num, rfl, fun h => HTK.out (by rw [HD.out, HQ.out]) (HM0.out h), HM1.out, by rw [HSAME.out (by rw [HD.out, HQ.out])]; exact HOA.out, HNA.out⟩
          case measure => simp [intOf]; omega
        · cases q
          · go_wp2_with fail
            have hfc := fits_any l (Rx.pl 0 l old) j (some ⟨b, off, none⟩) ap c1 cp _ (HL.out.mono HBA.out) (atL_only HPA.out HNA.out HGP.out) hlt (HX.out (by trivial)).1 (by rw [Rx.pl_length 0 l old HLEN.out]; have := (HX.out (by trivial)).2; omega) (by rw [Rx.pl_length 0 l old HLEN.out]; omega) (pl_small l old HLEN.out HF.out (by omega)) (by omega)
            rw [Rx.pl_length 0 l old HLEN.out] at hfc
            refine hfc.mono ?_
            clear hfc
            rintro e w5 ⟨rfl, hb5⟩
            have HO5 := Lib.hid (own_below HOA.out hb5)
            have HN5 := Lib.hid (HNA.out.below' hb5)
            obtain ⟨v, hv⟩ : ∃ v, Rx.bad (Rx.gap (Rx.pl 0 l old) (l.getD j default) j) = v := ⟨_, rfl⟩
            rw [hv] at HSTEP ⊢
            have y5 := cell_under y1 hb5
            have f5 := own_free HO5.out j
            clear hb5 hv y1
            cases v
            · have HD : Hid ((Rx.step l old).getD j false = false) := Lib.hid (by rw [HSTEP.out]; simp)
              clear HSTEP
              go_wp2
              go_roundw
              case rel => exact ⟨j + 1, m, by omega, by go_num, rfl, fun h => HTK.out (by rw [HD.out, HQ.out]) (HM0.out h), HM1.out, by rw [HSAME.out (by rw [HD.out, HQ.out])]; exact HO5.out, HN5.out⟩
              case measure => simp [intOf]; omega
            · have HD : Hid ((Rx.step l old).getD j false = true) := Lib.hid (by rw [HSTEP.out]; simp)
              have HST := Lib.hid (HO5.out.stored j (.bool true)).1
              have HNS := Lib.hid (HN5.out.setCell (p := ⟨g, j, none⟩) (.inl rfl) (.bool true))
              clear HSTEP
              go_wp2
              go_roundw
              case rel => exact ⟨j + 1, true, by omega, by go_num, rfl, fun h => by (cases h), fun _ h => by (have := HD.out; rw [h, HQ.out] at this; cases this), by rw [← HSET.out HD.out, ← bls_set]; exact HST.out, HNS.out⟩
              case measure => simp [intOf]; omega
          · have HD : Hid ((Rx.step l old).getD j false = true) := Lib.hid (by rw [HSTEP.out]; simp)
            clear HSTEP
            go_wp2
            go_roundw
            case rel => exact ⟨j + 1, m, by omega, by go_num, rfl, fun h => HTK.out (by rw [HD.out, HQ.out]) (HM0.out h), HM1.out, by rw [HSAME.out (by rw [HD.out, HQ.out])]; exact HOA.out, HNA.out⟩
            case measure => simp [intOf]; omega
      · obtain rfl : j = l.length := by omega
        have HSL := Lib.hid (Rx.step_length l old HLEN.out)
        cases m
        · have HFIX : Hid (Rx.step l old = old) := Lib.hid (by
            have := HM0.out rfl
            rwa [List.take_of_length_le (by rw [HSL.out]; exact Nat.le_refl _), List.take_of_length_le (by rw [HLEN.out]; exact Nat.le_refl _)] at this)
          go_wp2
          go_ret3
          refine ⟨(fun h => by rw [HFB.out] at h; cases h), fun _ => ⟨_, old, k, rfl, ⟨HOL.out.symm, HFIX.out, HLE.out⟩, ?_, fun j hj => ?_, HWB.out⟩⟩
          · have := HOWN.out
            rw [List.take_of_length_le (by rw [HSL.out]; exact Nat.le_refl _), List.drop_of_length_le (by rw [HLEN.out]; exact Nat.le_refl _), List.append_nil, HFIX.out] at this
            exact this
          · simp [inRow, Value.ownBlock] at hj
            omega
        · have HNE := Lib.hid (HM1.out rfl)
          have HL2 : Hid (∀ j, j < k + 1 → Rx.step l (Rx.it l j) ≠ Rx.it l j) := Lib.hid fun j hj => by
            rcases Nat.lt_succ_iff_lt_or_eq.1 hj with h | rfl
            · exact HLE.out j h
            · rw [HOL.out]; exact HNE.out
          have HIT : Hid (Rx.it l (k + 1) = Rx.step l old) := Lib.hid (by rw [Rx.it, HOL.out])
          have hk1 : k + 1 ≤ l.length := by
            have h1 := Rx.it_cnt l (k + 1) HL2.out
            have h2 := Rx.cnt_le (Rx.it l (k + 1))
            rw [Rx.it_length] at h2
            omega
          have HCNT : Hid (l.length - Rx.cnt (Rx.it l (k + 1)) < l.length - Rx.cnt (Rx.it l k)) := Lib.hid (by
            have h1 := Rx.step_cnt l old HLEN.out HNE.out
            have h2 := Rx.cnt_le (Rx.step l old)
            rw [HSL.out] at h2
            rw [HIT.out, HOL.out]
            omega)
          go_wp2
          go_roundw
          case rel =>
            refine ⟨k + 1, by go_num, hk1, HL2.out, ?_, HWB.out⟩
            have := HOWN.out
            rw [List.take_of_length_le (by rw [HSL.out]; exact Nat.le_refl _), List.drop_of_length_le (by rw [HLEN.out]; exact Nat.le_refl _), List.append_nil] at this
            rw [HIT.out]
            exact this
          case measure =>
            have h := HCNT.out
            simpa [intOf] using h

theorem do_any (l : List Rx.It) (ao : Option Addr) (c1 : Nat) (w : World) (hl : AtIt w ao l) (hn : l.length ≤ 4096) :
    Calls Try.prog 10 #[.slice ao l.length c1] w (DoAns l w) := by
  by_cases h : fairB l = true
  · exact do_good l ao c1 w hl hn ((fair_iff l).1 h)
  · by_cases h1 : l.any (badTo l.length) = true
    · exact do_bad_to l ao c1 w hl hn h1
    · by_cases h2 : l.any badSize = true
      · exact do_bad_size l ao c1 w hl hn (by simpa using h1) h2
      · exfalso
        apply h
        simp only [Bool.not_eq_true] at h1 h2
        simp [fairB, h1, h2]

theorem do_many (l : List Rx.It) (n : Nat) (ao : Option Addr) (c1 : Nat) (w : World) (hn : 4096 < n) (hn2 : n ≤ 1000000) :
    Calls Try.prog 10 #[.slice ao n c1] w fun e w' => e = .returned (.tuple #[.slice none 0 0, .int .i64 0, .bool false]) ∧ Below w.heap.size w w' := by
  have h : (4096 : Int) < (n : Int) := by omega
  go_enter Try.func10, Try.ntmps10
  go_wp2
  go_ret3
  exact ⟨rfl, Below.refl _ _⟩
end Go.Proofs.Ytakhpibolhijoaa
