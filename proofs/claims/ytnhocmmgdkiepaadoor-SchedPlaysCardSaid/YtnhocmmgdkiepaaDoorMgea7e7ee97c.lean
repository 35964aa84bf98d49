/-
  Parts of one proof, one behind the other.
-/
import Derived.Test.YtnhocmmgdkiepaaDoorMgdf1c79bb83
import Derived.Test.YtnhocmmgdkiepaaDoorMg7b501a5809
import Derived.Test.YtnhocmmgdkiepaaDoorMgacec6907cb
/-
  SchedSleeps: the walk. Given where the sentinels lie.
-/
namespace Go.Proofs.YtnhocmmgdkiepaaDoor
open Go.RowKit

theorem ScAt.tight {w : World} {Z : Nat → Prop} {sb m : Nat} {st : Int → Option Gu} (h : ScAt w Z sb m st) : ∃ Zn : Nat → Prop, ScAt w Zn sb m st ∧ (∀ b, Zn b → Z b ∧ b < w.heap.size) ∧ ∀ v n xs, w.ownsRow 0 3 1 v n xs → ∀ k, inRow v k → ¬ Zn k ∧ k ≠ sb := by
  obtain ⟨p, F, R, A, rfl, hm, hp, hs, hz⟩ := h
  exact ⟨scz p R A, ⟨p, F, R, A, rfl, hm, hp, hs, fun b h => h⟩, fun b hb => ⟨hz b hb, hm.lt.2 b hb⟩, fun v n xs ho k hk => hm.int_row ho k hk⟩
theorem slDelErr {E : Nat → Addr} {w wr : World} {sb m : Nat} {st : Int → Option Gu} (hE : ErrL E w) (h : ScL w wr sb m st) (x : Int) (hx : kw x) (hg : st x = none) :
    Calls Tryd.prog 18 #[.pointer (some ⟨sb, 0, none⟩), .int .i64 x] wr fun e w' => e = .returned (errD E 107) ∧ ScL w w' sb m st :=
  (sdel_any E wr _ sb m st h.sc (hE _ h.b) x hx).mono fun e w' ⟨h1, h3, h4⟩ => by
    have hr : scDel st x = (st, 107) := by unfold scDel; rw [hg]
    rw [hr] at h1 h3
    exact ⟨h1, h.step h3 h4⟩
/-- a row of numbers of the call's own, grown since W -/
def RowTo (W : World) (xs : List Int) (v : Value) (wr : World) : Prop := ∃ (vo : Option Addr) (vc : Nat), v = .slice vo xs.length vc ∧ Below W.heap.size W wr ∧ wr.ownsRow 0 3 1 v xs.length (ints xs) ∧ ∀ b, inRow v b → W.heap.size ≤ b
theorem rowTo_grown {W wr wx : World} {xs : List Int} {vo : Option Addr} {vc : Nat} {x : Int} {v' : Value} (hB : Below W.heap.size W wr) (hF : ∀ b, inRow (.slice vo xs.length vc) b → W.heap.size ≤ b)
    (ho : wx.ownsRow 0 3 1 v' (xs.length + 1) (ints xs ++ [.int .i64 x])) (hg : (wr.alloc (.cells #[.int .i64 x] 3)).grownBy wx (Value.slice vo xs.length vc).ownBlock) (hs : ∀ b, inRow v' b → inRow (.slice vo xs.length vc) b ∨ wr.heap.size + 1 ≤ b) :
    RowTo W (xs ++ [x]) v' wx := by
  obtain ⟨ao6, cap6, rfl⟩ := own_slice ho
  have hsz := hB.size
  have ha : Below W.heap.size W (wr.alloc (.cells #[.int .i64 x] 3)) := hB.alloc hsz _
  have hG := Only.grown (Only.refl (fun b => inRow (.slice vo xs.length vc) b) (wr.alloc (.cells #[.int .i64 x] 3))) hg (fun k hk => .inl hk)
  refine ⟨ao6, cap6, by rw [List.length_append]; rfl, ha.trans (hG.below (B := W.heap.size) ha.size fun b hb => hF b hb), ?_, fun b hb => ?_⟩
  · rw [List.length_append, show ints (xs ++ [x]) = ints xs ++ [.int .i64 x] by simp [ints]]
    exact ho
  · rcases hs b hb with h | h
    · exact hF b h
    · have h' := h
      try simp only [World.size_alloc] at h'
      omega
def SlA (l : List Int) (n sb : Nat) (w : World) (i : Value) (wr : World) : Prop := ∃ k : Nat, k ≤ n ∧ i = .int .i64 (k : Int) ∧ ScL w wr sb k (slSt l k)
def SlB (l : List Int) (n tn : Nat) (W : World) (v t : Value) (wr : World) : Prop := ∃ k : Nat, k ≤ tn + 1 ∧ t = .int .i64 (k : Int) ∧ RowTo W (wnT l n k) v wr
def SlC (l : List Int) (n t : Nat) (W : World) (v i : Value) (wr : World) : Prop := ∃ k : Nat, k ≤ n ∧ i = .int .i64 (k : Int) ∧ RowTo W (wnT l n t ++ wnI l (t : Int) k) v wr
def SlE (wl : List Int) (W : World) (z i : Value) (wr : World) : Prop := ∃ (k : Nat) (x : Int), k ≤ wl.length ∧ i = .int .i64 (k : Int) ∧ z = .int .i64 x ∧ LsOk (wl.take k) x ∧ wr = W
theorem slGet (l : List Int) (k : Nat) (h : k < l.length) : (ints l)[k]? = some (.int .i64 (l.getD k 0)) := by
  rw [ints, List.getElem?_map, List.getElem?_eq_getElem h, List.getD_eq_getElem?_getD, List.getElem?_eq_getElem h]
  rfl
theorem takeSucc (l : List Int) (k : Nat) (h : k < l.length) : l.take (k + 1) = l.take k ++ [l.getD k 0] := by
  rw [List.take_add_one, List.getElem?_eq_getElem h, List.getD_eq_getElem?_getD, List.getElem?_eq_getElem h]
  rfl
set_option maxRecDepth 100000 in
set_option maxHeartbeats 32000000 in
theorem schedSleeps_some (E : Nat → Addr) (l : List Int) (ao : Option Addr) (cap : Nat) (x1 : Int) (w : World) (hE : ErrsAt errT gOf w E all16) (hl : AtL w ao (ints l)) (hlz : ∀ z ∈ l, -9223372036854775808 ≤ z ∧ z ≤ 9223372036854775807) (h8 : l.length ≤ 8) (h1 : -9223372036854775808 ≤ x1 ∧ x1 ≤ 9223372036854775807) :
    Calls Tryd.prog 9 #[.slice ao l.length cap, .int .i64 x1] w fun e w' => e = .returned (.bool true) ∧ Below w.heap.size w w' := by
  obtain ⟨i0, hi, hz0, hz1, hz2⟩ := info_parts infoIntW
  have HE16 : Hid (∀ wx, Below w.heap.size w wx → ErrsAt errT gOf wx E all16) := Lib.hid fun wx h => hE.mono h
  have HE : Hid (ErrL E w) := Lib.hid fun wx h => scErr_of (hE.mono h) (by decide) (by decide) (by decide)
  have HF := Lib.hid (scfirst_true E w HE.out)
  have HN1 := Lib.hid (fun wx => number_any x1 20 wx h1.1 h1.2 (by decide) (by decide))
  have HL := Lib.hid hl
  have HLZ := Lib.hid hlz
  obtain ⟨n, hn⟩ : ∃ n, l.length = n := ⟨_, rfl⟩
  have HLN := Lib.hid hn
  obtain ⟨tn, htn⟩ : ∃ t : Nat, x1 % 20 = (t : Int) := ⟨(x1 % 20).toNat, by omega⟩
  have HT : Hid (tn < 20) := Lib.hid (by omega)
  rw [htn] at HN1
  rw [hn] at h8 ⊢
  have k1 : ¬ (8 : Int) < (n : Int) := by omega
  have HNN := Lib.hid h8
  have HRD : Hid (∀ (wr : World) (k : Nat), Below w.heap.size w wr → k < n → ∃ g off, ao = some ⟨g, off, none⟩ ∧ wr.cell? ⟨g, off + k, none⟩ = some (.int .i64 (l.getD k 0)) ∧ g < wr.heap.size ∧ ∀ wx, Calls Tryd.prog 13 #[.int .i64 (l.getD k 0), .int .i64 20] wx fun e w' => e = .returned (.int .i64 (slD l (k : Int))) ∧ wx = w') := Lib.hid fun wr k hb hk => by
    obtain ⟨g, off, e, c0, hg⟩ := HL.out k _ (slGet l k (by omega))
    have hzb : -9223372036854775808 ≤ l.getD k 0 ∧ l.getD k 0 ≤ 9223372036854775807 := HLZ.out _ (by
      rw [List.getD_eq_getElem?_getD, List.getElem?_eq_getElem (by omega)]
      exact List.getElem_mem _)
    refine ⟨g, off, e, (hb.cell (p := ⟨g, off + k, none⟩) hg).trans c0, Nat.lt_of_lt_of_le hg hb.size, fun wx => ?_⟩
    have := number_any (l.getD k 0) 20 wx hzb.1 hzb.2 (by decide) (by decide)
    unfold slD
    rw [Int.toNat_natCast]
    exact this
  have HIS : Hid (∀ c : Int, (c = 0 ∨ (101 ≤ c ∧ c ≤ 116)) → ∀ wx, Below w.heap.size w wx → Calls Tryd.prog 19 #[errD E c, .int .i64 c] wx fun e w' => e = .returned (.bool true) ∧ Below wx.heap.size wx w') := Lib.hid fun c hc wx hx => by
    have := is_any E (errD E c) c c (errD_num E c hc) wx (HE16.out wx hx)
    rwa [decide_eq_true rfl] at this
  clear hE hl hlz h1 hn htn h8
  go_enter Tryd.func9, Tryd.ntmps9
  go_wp2_with fail
  refine HF.out.mono ?_
  rintro y w0 ⟨rfl, hb0⟩
  have HN := Lib.hid (slNew w w0 hb0)
  clear hb0
  go_wp2_with fail
  refine (HN1.out _).mono ?_
  rintro y wq ⟨rfl, rfl⟩
  go_wp2_with fail
  refine HN.out.mono ?_
  rintro y w1 ⟨sb, rfl, s1⟩
  rw [slSt_zero l] at s1
  have HST : Hid (SlA l n sb w (.int .i64 0) w1) := Lib.hid ⟨0, Nat.zero_le _, rfl, s1⟩
  clear s1
  go_wp2_with fail
  go_loopw [8] (fun i wr => SlA l n sb w i wr) (fun i _ => n - (intOf i).toNat)
  case atStart => exact HST.out
  case round =>
    obtain ⟨k, hk, rfl, hs⟩ := hrel
    have HS := Lib.hid hs
    have hk8 : k ≤ 8 := by have := HNN.out; omega
    clear hs HST
    by_cases hlt : k < n
    · have hki : (k : Int) < (n : Int) := by omega
      have wk := IntWalk.i64_in ((k : Int) + 1) (by omega)
      have HKW : Hid (kw (k : Int)) := Lib.hid (kw_of (by omega))
      have HAD := Lib.hid (slAdd HE.out HS.out (by omega) (k : Int) 10 (by unfold addBad; omega) (slSt_out _ _ _ (by omega)))
      go_wp2_with fail
      refine HAD.out.mono ?_
      rintro y w2 ⟨rfl, u, hu, s2⟩
      obtain rfl := slSt_minU hu
      have hsl := slSleep HE.out s2 (k : Int) 1000 HKW.out (kw_of (by omega)) _ (updSame _ _ _)
      rw [upd_upd] at hsl
      have HSL1 := Lib.hid hsl
      clear hu s2 hsl
      go_wp2_with fail
      refine HSL1.out.mono ?_
      rintro y w3 ⟨rfl, s3⟩
      obtain ⟨g, off, rfl, c1, lg, hnu⟩ := HRD.out w3 k s3.b hlt
      have HNU := Lib.hid hnu
      have hsl := slSleep HE.out s3 (k : Int) (slD l (k : Int)) HKW.out (kw_of (by have := slD_range l (k : Int); omega)) _ (updSame _ _ _)
      rw [upd_upd] at hsl
      dsimp only at hsl
      rw [slSt_add] at hsl
      have HSL2 := Lib.hid hsl
      obtain ⟨z, hz⟩ : ∃ z, l.getD k 0 = z := ⟨_, rfl⟩
      rw [hz] at c1 HNU
      clear hnu s3 hsl hz
      go_wp2_with fail
      refine (HNU.out _).mono ?_
      rintro y wy ⟨rfl, rfl⟩
      go_wp2_with fail
      refine HSL2.out.mono ?_
      rintro y w4 ⟨rfl, s4⟩
      have HF2 : Hid (SlA l n sb w (.int .i64 ((k : Int) + 1)) w4) := Lib.hid ⟨k + 1, hlt, by go_num, s4⟩
      clear s4 c1 lg
      go_wp2_with fail
      go_roundw
      case rel => exact HF2.out
      case measure => simp [intOf]; omega
    · have hkn : k = n := by omega
      subst hkn
      have hki : ¬ (k : Int) < (k : Int) := by omega
      obtain ⟨Zn, hsc, hZn, hrw⟩ := HS.out.sc.tight
      have HSC := Lib.hid hsc
      have HZN := Lib.hid hZn
      have HST2 : Hid (SlB l k tn wr (.slice none 0 0) (.int .i64 0) wr) := Lib.hid ⟨0, Nat.zero_le _, rfl, none, 0, rfl, Below.refl _ _, own_nil _ _ _, fun b hb => by simp [inRow, Value.ownBlock] at hb⟩
      have HBW : Hid (Below w.heap.size w wr) := Lib.hid HS.out.b
      obtain ⟨W1, hW1⟩ : ∃ W, W = wr := ⟨_, rfl⟩
      subst hW1
      clear hsc hZn hrw HS
      go_wp2_with fail
      go_loopw [7, 9] (fun v t wr => SlB l k tn W1 v t wr) (fun _ t _ => tn + 1 - (intOf t).toNat)
      case atStart => exact HST2.out
      case round =>
        obtain ⟨t, ht, rfl, vo, vc, rfl, hb, hown, hfr⟩ := hrel
        have HB := Lib.hid hb
        have HOWN := Lib.hid hown
        have HFR := Lib.hid hfr
        clear hb hown hfr HST2
        by_cases htl : t < tn + 1
        · have hti : (t : Int) ≤ (tn : Int) := by omega
          have wt1 := IntWalk.i64_in ((t : Int) + 1) (by have := HT.out; omega)
          have HST3 : Hid (SlC l k t W1 (.slice vo (wnT l k t).length vc) (.int .i64 0) wr) := Lib.hid ⟨0, Nat.zero_le _, rfl, by
            have : wnI l (t : Int) 0 = [] := rfl
            rw [this, List.append_nil]
            exact ⟨vo, vc, rfl, HB.out, HOWN.out, HFR.out⟩⟩
          obtain ⟨a, ha⟩ : ∃ a, (wnT l k t).length = a := ⟨_, rfl⟩
          rw [ha] at HST3 ⊢
          clear HB HOWN HFR ha
          go_wp2_with fail
          go_loopw [7, 10] (fun v i wr => SlC l k t W1 v i wr) (fun _ i _ => k - (intOf i).toNat)
          case atStart => exact HST3.out
          case round =>
            obtain ⟨i, hik, rfl, vo2, vc2, rfl, hb, hown, hfr⟩ := hrel
            have HB := Lib.hid hb
            have HOWN := Lib.hid hown
            have HFR := Lib.hid hfr
            clear hb hown hfr HST3
            by_cases hil : i < k
            · have hii : (i : Int) < (k : Int) := by omega
              have wi1 := IntWalk.i64_in ((i : Int) + 1) (by omega)
              obtain ⟨g, off, rfl, c1, lg, hnu⟩ := HRD.out wr i (HBW.out.trans (HB.out.mono HBW.out.size)) hil
              have HNU := Lib.hid hnu
              have HYES := Lib.hid (fun h => wnI_yes l (t : Int) i h)
              have HNO := Lib.hid (fun h => wnI_no l (t : Int) i h)
              have HCNT : Hid ((wnT l k t ++ wnI l (t : Int) i).length ≤ 1000) := Lib.hid (by
                have h1 := wnT_len l k t
                have h2 := wnI_len l (t : Int) i
                have h3 := HT.out
                have h4 : k * t ≤ 8 * 20 := Nat.mul_le_mul hk8 (by omega)
                rw [List.length_append]
                omega)
              obtain ⟨z, hz⟩ : ∃ z, l.getD i 0 = z := ⟨_, rfl⟩
              rw [hz] at c1 HNU
              obtain ⟨q, hq⟩ : ∃ q, slD l (i : Int) = q := ⟨_, rfl⟩
              rw [hq] at HNU HYES HNO
              obtain ⟨xs, hxs⟩ : ∃ xs, wnT l k t ++ wnI l (t : Int) i = xs := ⟨_, rfl⟩
              rw [hxs] at HOWN HFR HCNT ⊢
              have HXS := Lib.hid hxs
              obtain ⟨a, ha⟩ : ∃ a, xs.length = a := ⟨_, rfl⟩
              have HA := Lib.hid ha
              rw [ha] at HOWN HFR HCNT ⊢
              clear hnu hz hq hxs ha
              by_cases hqt : q = (t : Int)
              · have hqb : (q == (t : Int)) = true := by rw [beq_iff_eq]; exact hqt
                have HAP : Hid (wnT l k t ++ wnI l (t : Int) (i + 1) = xs ++ [(i : Int)]) := Lib.hid (by rw [HYES.out hqt, ← HXS.out, List.append_assoc])
                clear hqt
                go_wp2_with fail
                refine (HNU.out _).mono ?_
                rintro y wy ⟨rfl, rfl⟩
                go_wp2_with (at_builtin; refine wpList_append_sep _ rfl _ _ 35 rfl 3 i0 (.int .i64 0) 1 8 Tryd.underlying35 hi hz0 hz1 hz2 rfl (by decide) _ _ _ rfl (HOWN.out.alloc _) ⟨wr.heap.size, 0, none⟩ 1 1 [.int .i64 (i : Int)] rfl rfl (cell_one_new _ _ _) (by simp [Value.oneCell']) (by unfold maxLen; have := HCNT.out; omega) (by have := HCNT.out; omega) ?_)
                intro v' wx ho6 hg6 hs6
                have HFIN : Hid (SlC l k t W1 v' (.int .i64 ((i : Int) + 1)) wx) := Lib.hid ⟨i + 1, hil, by go_num, by
                  rw [HAP.out]
                  have HAo := HA.out
                  subst HAo
                  exact rowTo_grown HB.out HFR.out ho6 hg6 hs6⟩
                clear ho6 hg6 hs6 c1 lg
                go_wp2_with fail
                go_roundw
                case rel => exact HFIN.out
                case measure => simp [intOf]; omega
              · have hqb : (q == (t : Int)) = false := by rw [beq_eq_false_iff_ne]; exact hqt
                have HFIN : Hid (SlC l k t W1 (.slice vo2 a vc2) (.int .i64 ((i : Int) + 1)) wr) := Lib.hid ⟨i + 1, hil, by go_num, by
                  rw [HNO.out hqt, HXS.out]
                  have HAo := HA.out
                  subst HAo
                  exact ⟨vo2, vc2, rfl, HB.out, HOWN.out, HFR.out⟩⟩
                clear hqt
                go_wp2_with fail
                refine (HNU.out _).mono ?_
                rintro y wy ⟨rfl, rfl⟩
                go_wp2_with fail
                go_roundw
                case rel => exact HFIN.out
                case measure => simp [intOf]; omega
            · have hik2 : i = k := by omega
              subst hik2
              have hii : ¬ (i : Int) < (i : Int) := by omega
              have HFIN : Hid (SlB l i tn W1 (.slice vo2 (wnT l i t ++ wnI l (t : Int) i).length vc2) (.int .i64 ((t : Int) + 1)) wr) := Lib.hid ⟨t + 1, by omega, by go_num, by
                rw [wnT_succ]
                exact ⟨vo2, vc2, rfl, HB.out, HOWN.out, HFR.out⟩⟩
              obtain ⟨a, ha⟩ : ∃ a, (wnT l i t ++ wnI l (t : Int) i).length = a := ⟨_, rfl⟩
              rw [ha] at HFIN ⊢
              clear HB HOWN HFR ha
              go_wp2_with fail
              go_roundw
              case rel => exact HFIN.out
              case measure => simp [intOf]; omega
        · have htn : t = tn + 1 := by omega
          have hti : ¬ (t : Int) ≤ (tn : Int) := by omega
          have hwl0 := wnT_len l k t
          obtain ⟨wl, hwl⟩ : ∃ wl, wnT l k t = wl := ⟨_, rfl⟩
          have HWL : Hid (wl = wnT l k (tn + 1)) := Lib.hid (by rw [← hwl, htn])
          have HWLEN : Hid (wl.length ≤ 1000) := Lib.hid (by
            have h3 := HT.out
            have h4 : k * t ≤ 8 * 20 := Nat.mul_le_mul hk8 (by omega)
            rw [← hwl]
            omega)
          have HWP : Hid (∀ x ∈ wl, -9223372036854775808 ≤ x ∧ x ≤ 9223372036854775807 ∧ 0 ≤ x) := Lib.hid fun x hx => by
            have h3 := HWL.out
            rw [h3] at hx
            have := (mem_wnT l k (tn + 1) x).1 hx
            omega
          rw [hwl] at HOWN HFR ⊢
          clear hwl hwl0
          have hsc2 := HSC.out.below HB.out
          have HPK := Lib.hid (spick_any _ _ sb k _ hsc2)
          have HWK := Lib.hid (swake_any wr Zn sb k _ hsc2 (tn : Int))
          have HB0 : Hid (Below w.heap.size w wr) := Lib.hid (HBW.out.trans (HB.out.mono HBW.out.size))
          have HWZ : Hid (∀ b, inRow (.slice vo wl.length vc) b → ¬ Zn b) := Lib.hid fun b hb hz => by
            have h2 := HFR.out b hb
            have h3 := (HZN.out b hz).2
            omega
          clear hsc2
          go_wp2_with fail
          refine HPK.out.mono ?_
          rintro y w2 ⟨⟨v, rfl, hv⟩, rfl⟩
          obtain rfl := sleeps_none hv
          clear hv
          go_wp2_with fail
          refine HWK.out.mono ?_
          rintro y w3 ⟨gv, lw, st', Zn', rfl, hwk, -, h4, h5, ho3, hown3, hfr3⟩
          obtain rfl : lw = wl := (sleeps_got hwk).trans HWL.out.symm
          have HWOK := Lib.hid hwk
          have hwant3 := own_only HOWN.out ho3 HWZ.out
          have HB3 : Hid (Below w.heap.size w w3) := Lib.hid (HB0.out.trans (ho3.below (B := w.heap.size) HB0.out.size fun b hb => (HZN.out b hb).1))
          have HWK2 := Lib.hid (swake_any w3 Zn' sb k _ h4 (tn : Int))
          have HZ' : Hid (∀ b, Zn' b → w.heap.size ≤ b) := Lib.hid fun b hb => by
            rcases h5 b hb with h | h
            · exact (HZN.out b h).1
            · exact Nat.le_trans HB0.out.size h
          have HWZ' : Hid (∀ b, inRow (.slice vo lw.length vc) b → ¬ Zn' b) := Lib.hid fun b hb hz => by
            rcases h5 b hz with h | h
            · exact HWZ.out b hb h
            · have := own_lt HOWN.out hb
              omega
          have HW3 := Lib.hid hwant3
          have HG3 := Lib.hid hown3
          have HGF := Lib.hid hfr3
          clear hwk h4 h5 ho3 hown3 hfr3 hwant3
          go_wp2_with fail
          refine HWK2.out.mono ?_
          rintro y w4 ⟨av, l2, st2, Zn2, rfl, hwk2, -, h42, h52, ho4, hown4, -⟩
          obtain ⟨rfl, est⟩ := sleeps_again HWOK.out hwk2
          rw [est] at h42
          clear est hwk2
          have hW4 := own_only HW3.out ho4 HWZ'.out
          have hG4 := own_only HG3.out ho4 fun b hb => (HGF.out b hb).2.1
          obtain ⟨aov, acap, rfl⟩ := own_slice hown4
          obtain ⟨gov, gcap, hgv, hatg⟩ := atL_of_own hG4
          obtain ⟨wov, wcap, hwv, hatw⟩ := atL_of_own hW4
          obtain ⟨e1, -, e2⟩ := Value.slice.inj hwv
          subst e1 e2 hgv
          have HSI := Lib.hid (sameInts_any lw lw gov vo gcap vc w4 hatg hatw (by have := HWLEN.out; omega) (by have := HWLEN.out; omega))
          rw [decide_eq_true (rfl : lw = lw)] at HSI
          have HB4 : Hid (Below w.heap.size w w4) := Lib.hid (HB3.out.trans (ho4.below (B := w.heap.size) HB3.out.size fun b hb => HZ'.out b hb))
          have HSC4 := Lib.hid h42
          have HZ2 : Hid (∀ b, Zn2 b → w.heap.size ≤ b) := Lib.hid fun b hb => by
            rcases h52 b hb with h | h
            · exact HZ'.out b h
            · exact Nat.le_trans HB3.out.size h
          have HATW := Lib.hid hatw
          clear h42 h52 ho4 hown4 hW4 hG4 hatg hatw hwv
          obtain ⟨m, hm⟩ : ∃ m, lw.length = m := ⟨_, rfl⟩
          have HM := Lib.hid hm
          rw [hm] at HSI HWLEN ⊢
          clear hm
          go_wp2_with fail
          refine HSI.out.mono ?_
          rintro y w5 ⟨rfl, d, rfl⟩
          have hb5 : Below w4.heap.size w4 (w4.drewN d) := below_drewN (Below.refl _ _) d
          have hsc5 := HSC4.out.below hb5
          have HRDY := Lib.hid (sready_any _ _ sb k _ hsc5)
          have HRL : Hid ((rdL st').length = m) := Lib.hid ((sleeps_ready HWOK.out hk8).trans HM.out)
          have HAT5 : Hid (AtL (w4.drewN d) vo (ints lw)) := Lib.hid (HATW.out.mono hb5)
          have HB5 : Hid (Below w.heap.size w (w4.drewN d)) := Lib.hid (below_drewN HB4.out d)
          obtain ⟨w5, hw5⟩ : ∃ x, w4.drewN d = x := ⟨_, rfl⟩
          rw [hw5] at hsc5 HRDY HAT5 HB5 ⊢
          have HSC5 := Lib.hid hsc5
          clear hb5 hsc5 hw5
          go_wp2_with fail
          refine HRDY.out.mono ?_
          rintro y w6 ⟨rv, rfl, hown6, hb6, -⟩
          rw [HRL.out] at hown6
          obtain ⟨ro, rc, rfl⟩ := own_slice hown6
          have hmm : ((m : Int) == (m : Int)) = true := by rw [beq_iff_eq]
          have HB6 : Hid (Below w.heap.size w w6) := Lib.hid (HB5.out.trans (hb6.mono HB5.out.size))
          have hsc6 := HSC5.out.below hb6
          have HPK6 := Lib.hid (spick_any _ _ sb k _ hsc6)
          have HAT6 : Hid (AtL w6 vo (ints lw)) := Lib.hid (HAT5.out.mono hb6)
          have HS6 : Hid (ScL w w6 sb k st') := Lib.hid ⟨hsc6.mono fun b _ hb => HZ2.out b hb, HB6.out⟩
          have HDL := Lib.hid (slDelErr HE.out HS6.out 9 (kw_lit 9 (by omega)) (sleeps_nine HWOK.out hk8))
          have HNIL : Hid (lw = [] ↔ m = 0) := Lib.hid (by rw [← HM.out]; exact List.length_eq_zero_iff.symm)
          clear hown6 hb6 hsc6
          go_wp2_with fail
          refine HPK6.out.mono ?_
          rintro y w7 ⟨⟨v, rfl, hv⟩, rfl⟩
          have HV := Lib.hid (fun z hz => sleeps_pick HWOK.out hv (z := z) hz)
          have HST4 : Hid (SlE lw w6 (.int .i64 (-1)) (.int .i64 0) w6) := Lib.hid ⟨0, -1, Nat.zero_le _, rfl, rfl, .inl ⟨rfl, rfl⟩, rfl⟩
          have hvs : (∃ id b, v = .tuple #[.int .i64 id, .bool b]) := by
            rcases hv with ⟨-, h⟩ | ⟨x, g, -, -, -, h⟩
            · exact ⟨_, _, h⟩
            · exact ⟨_, _, h⟩
          obtain ⟨id, b, rfl⟩ := hvs
          clear hv
          go_wp2_with fail
          go_loopw [17, 18] (fun z i wr => SlE lw w6 z i wr) (fun _ i _ => m - (intOf i).toNat)
          case atStart => exact HST4.out
          case round =>
            obtain ⟨i, z, hi2, rfl, rfl, hls, rfl⟩ := hrel
            have HLS := Lib.hid hls
            clear hls HST4
            have him : i ≤ m := by rw [← HM.out]; exact hi2
            have hm1000 := HWLEN.out
            by_cases hil : i < m
            · have hii : (i : Int) < (m : Int) := by omega
              have wi1 := IntWalk.i64_in ((i : Int) + 1) (by omega)
              have hil2 : i < lw.length := by rw [HM.out]; exact hil
              obtain ⟨g, off, rfl, c1, lg⟩ := HAT6.out i _ (slGet lw i hil2)
              have hx0 : 0 ≤ lw.getD i 0 := (HWP.out _ (by
                rw [List.getD_eq_getElem?_getD, List.getElem?_eq_getElem hil2]
                exact List.getElem_mem _)).2.2
              have HNX := Lib.hid (fun z' h => HLS.out.next hx0 (z' := z') h)
              rw [← takeSucc lw i hil2] at HNX
              obtain ⟨x, hx⟩ : ∃ x, lw.getD i 0 = x := ⟨_, rfl⟩
              rw [hx] at c1 HNX
              have HI2 := Lib.hid hil2
              clear hx hx0 hil2 hi2
              have hcs : (z < 0 ∧ x ≤ x) ∨ (¬ z < 0 ∧ x < z) ∨ (¬ z < 0 ∧ ¬ x < z) := by omega
              rcases hcs with ⟨h1, -⟩ | ⟨h1, h2⟩ | ⟨h1, h2⟩
              · go_wp2_with fail
                go_roundw
                case rel => exact ⟨i + 1, _, HI2.out, by go_num, rfl, HNX.out _ (.inl ⟨.inl h1, rfl⟩), rfl⟩
                case measure => simp [intOf]; omega
              · go_wp2_with fail
                go_roundw
                case rel => exact ⟨i + 1, _, HI2.out, by go_num, rfl, HNX.out _ (.inl ⟨.inr h2, rfl⟩), rfl⟩
                case measure => simp [intOf]; omega
              · go_wp2_with fail
                go_roundw
                case rel => exact ⟨i + 1, _, HI2.out, by go_num, rfl, HNX.out _ (.inr ⟨h1, h2, rfl⟩), rfl⟩
                case measure => simp [intOf]; omega
            · have hii : ¬ (i : Int) < (m : Int) := by omega
              have hls := HLS.out
              rw [List.take_of_length_le (by rw [HM.out]; omega)] at hls
              have hfin : (m = 0 ∧ b = false) ∨ (0 < m ∧ id = z ∧ b = true) := by
                rcases HV.out z hls with ⟨e1, e2⟩ | ⟨e1, e2⟩
                · have e3 := Value.tuple.inj e2
                  simp at e3
                  exact .inl ⟨HNIL.out.1 e1, e3.2⟩
                · have e3 := Value.tuple.inj e2
                  simp at e3
                  exact .inr ⟨Nat.pos_of_ne_zero fun e => e1 (HNIL.out.2 e), e3.1, e3.2⟩
              clear hls HV hi2
              rcases hfin with ⟨rfl, rfl⟩ | ⟨hm0, rfl, rfl⟩
              · go_wp2_with fail
                refine HDL.out.mono ?_
                rintro y w7 ⟨rfl, s7⟩
                have HI := Lib.hid (HIS.out 107 (by omega) w7 s7.b)
                have S7 := Lib.hid s7
                clear s7
                go_wp2_with fail
                refine HI.out.mono ?_
                rintro y w8 ⟨rfl, hb8⟩
                have HB8 := Lib.hid hb8
                clear hb8
                go_wp2
                go_ret
                exact ⟨rfl, (S7.out.below HB8.out).b⟩
              · have hm1 : (0 : Int) < (m : Int) := by omega
                have hzz : (id == id) = true := by rw [beq_iff_eq]
                go_wp2_with fail
                refine HDL.out.mono ?_
                rintro y w7 ⟨rfl, s7⟩
                have HI := Lib.hid (HIS.out 107 (by omega) w7 s7.b)
                have S7 := Lib.hid s7
                clear s7
                go_wp2_with fail
                refine HI.out.mono ?_
                rintro y w8 ⟨rfl, hb8⟩
                have HB8 := Lib.hid hb8
                clear hb8
                go_wp2
                go_ret
                exact ⟨rfl, (S7.out.below HB8.out).b⟩
theorem schedSleeps_walk (E : Nat → Addr) (l : List Int) (v : Value) (x1 : Int) (w : World) (hE : ErrsAt errT gOf w E all16) (hr : Reads w v l.length (ints l)) (hlz : ∀ z ∈ l, -9223372036854775808 ≤ z ∧ z ≤ 9223372036854775807) (h1 : -9223372036854775808 ≤ x1 ∧ x1 ≤ 9223372036854775807) :
    Calls Tryd.prog 9 #[v, .int .i64 x1] w fun e w' => e = .returned (.bool true) ∧ Below w.heap.size w w' := by
  obtain ⟨ao, cap, rfl, hl⟩ := atL_of_reads hr
  by_cases hle : l.length ≤ 8
  · exact schedSleeps_some E l ao cap x1 w hE hl hlz hle h1
  · have HE : Hid (ErrL E w) := Lib.hid fun wx h => scErr_of (hE.mono h) (by decide) (by decide) (by decide)
    have HF1 := Lib.hid (scfirst_true E w HE.out)
    obtain ⟨n, hn⟩ : ∃ n, l.length = n := ⟨_, rfl⟩
    rw [hn] at hle ⊢
    have hlen2 : (8 : Int) < (n : Int) := by omega
    clear hE hr hl hlz h1 hn hle HE
    go_enter Tryd.func9, Tryd.ntmps9
    go_wp2_with fail
    refine HF1.out.mono ?_
    rintro y w0 ⟨rfl, hb0⟩
    have HB0 := Lib.hid hb0
    clear hb0
    go_wp2
    go_ret
    exact ⟨rfl, HB0.out⟩
end Go.Proofs.YtnhocmmgdkiepaaDoor

/-
  sched.Sched and facaderef16.Sched side by side: each thing told to both.
-/
namespace Go.Proofs.YtnhocmmgdkiepaaDoor
open Go.RowKit

theorem ScMem.other {w : World} {p : Sl} {m : Nat} {F : Int → Option Nat} {R A : List On} (h : ScMem w p m F R A) {b : Nat} {cs : Array Value} {T : TypeId} (hb : w.heap[b]? = some (.cells cs T (0, 0))) (hT : T = 92 ∨ T = 98) : ¬ scz p R A b ∧ b ≠ p.sb := by
  rcases hT with rfl | rfl
  all_goals
    refine ⟨fun hz => ?_, cells_ne hb h.row (by decide)⟩
    rcases hz with e | e | e | e | e
    · obtain ⟨es, c, hm⟩ := h.map.ty
      exact map_ne hm hb e.symm
    · exact cells_ne hb h.rd.hdr (by decide) e
    · exact cells_ne hb h.sd.hdr (by decide) e
    · rcases h.rd.ty b e with ⟨c, h1⟩ | ⟨c, h1⟩
      · exact cells_ne hb h1 (by decide) rfl
      · exact cells_ne hb h1 (by decide) rfl
    · rcases h.sd.ty b e with ⟨c, h1⟩ | ⟨c, h1⟩
      · exact cells_ne hb h1 (by decide) rfl
      · exact cells_ne hb h1 (by decide) rfl
theorem SdAt.ty {w : World} {xb : Nat} {v : Value} {L : List Tn} (h : SdAt w xb v L) (b : Nat) (hb : sdz xb v b) : ∃ cs T, w.heap[b]? = some (.cells cs T (0, 0)) ∧ (T = 92 ∨ T = 98) := by
  rcases hb with rfl | hb
  · exact ⟨_, _, h.1, .inl rfl⟩
  · obtain ⟨cs, hc⟩ := own_type h.2 hb
    exact ⟨cs, _, hc, .inr rfl⟩
theorem ScAt.tightX {w : World} {Z : Nat → Prop} {sb m : Nat} {st : Int → Option Gu} (h : ScAt w Z sb m st) : ∃ Zn : Nat → Prop, ScAt w Zn sb m st ∧ (∀ b, Zn b → Z b ∧ b < w.heap.size) ∧ ∀ xb v L, SdAt w xb v L → ∀ b, sdz xb v b → ¬ Zn b := by
  obtain ⟨p, F, R, A, rfl, hm, hp, hs, hz⟩ := h
  refine ⟨scz p R A, ⟨p, F, R, A, rfl, hm, hp, hs, fun b h => h⟩, fun b hb => ⟨hz b hb, hm.lt.2 b hb⟩, fun xb v L hx b hb => ?_⟩
  obtain ⟨cs, T, h1, h2⟩ := hx.ty b hb
  exact (hm.other h1 h2).1
theorem ScAt.keepX {w w' : World} {Z : Nat → Prop} {sb m xb : Nat} {st : Int → Option Gu} {v : Value} {L : List Tn} (h : ScAt w Z sb m st) (hx : SdAt w xb v L) (ho : Only (sdz xb v) w w') : ScAt w' Z sb m st := by
  obtain ⟨p, F, R, A, rfl, hm, hp, hs, hz⟩ := h
  refine ⟨p, F, R, A, rfl, hm.keep ho (fun e => ?_) (fun b hb e => ?_), hp, hs, hz⟩
  · obtain ⟨cs, T, h1, h2⟩ := hx.ty _ e
    exact (hm.other h1 h2).2 rfl
  · obtain ⟨cs, T, h1, h2⟩ := hx.ty _ e
    exact (hm.other h1 h2).1 hb
structure Pre (w W : World) (Zn : Nat → Prop) (da sb xb cb m m0 : Nat) (st stc : Int → Option Gu) (v : Value) (L : List Tn) : Prop where
  s : ScAt W Zn sb m st
  zn : ∀ b, Zn b → w.heap.size ≤ b ∧ b < da
  x : SdAt W xb v L
  xs : SdS L st
  xl : L.length ≤ m
  xz : ∀ b, sdz xb v b → (w.heap.size ≤ b ∧ b < da) ∧ ¬ Zn b
  c : ScAt W (fun b => da < b) cb m0 stc
  cl : da < cb
  b : Below w.heap.size w W
theorem Pre.below {w W : World} {Zn : Nat → Prop} {da sb xb cb m m0 : Nat} {st stc : Int → Option Gu} {v : Value} {L : List Tn} (h : Pre w W Zn da sb xb cb m m0 st stc v L) {W' : World} (hb : Below W.heap.size W W') : Pre w W' Zn da sb xb cb m m0 st stc v L :=
  ⟨h.s.below hb, h.zn, h.x.below hb, h.xs, h.xl, h.xz, h.c.below hb, h.cl, h.b.trans (hb.mono h.b.size)⟩
structure Mid (w W : World) (Zn : Nat → Prop) (da sb xb cb m m0 : Nat) (st stc : Int → Option Gu) (v : Value) (L : List Tn) (w5 : World) : Prop where
  s : ScAt w5 (fun b => Zn b ∨ W.heap.size ≤ b) sb m st
  x : SdAt w5 xb v L
  c : ScAt w5 (fun b => da < b) cb m0 stc
  o : Only (fun k => w.heap.size ≤ k ∧ k < da) W w5
structure SpE (w w6 : World) (sb xb cb m m0 : Nat) (st stc : Int → Option Gu) : Prop where
  s : ScAt w6 (fun b => w.heap.size ≤ b) sb m st
  x : ∃ v L, SdAt w6 xb v L ∧ SdS L st ∧ L.length ≤ m ∧ ∀ b, sdz xb v b → w.heap.size ≤ b
  c : ∃ Zc, ScAt w6 Zc cb m0 stc
  b : Below w.heap.size w w6
theorem SpE.below {w w6 w7 : World} {sb xb cb m m0 : Nat} {st stc : Int → Option Gu} (h : SpE w w6 sb xb cb m m0 st stc) (hb : Below w6.heap.size w6 w7) : SpE w w7 sb xb cb m m0 st stc := by
  obtain ⟨v, L, h1, h2, h3, h4⟩ := h.x
  obtain ⟨Zc, h5⟩ := h.c
  exact ⟨h.s.below hb, ⟨v, L, h1.below hb, h2, h3, h4⟩, ⟨Zc, h5.below hb⟩, h.b.trans (hb.mono h.b.size)⟩
theorem Pre.sop {w W : World} {Zn : Nat → Prop} {da sb xb cb m m0 : Nat} {st stc : Int → Option Gu} {v : Value} {L : List Tn} (h : Pre w W Zn da sb xb cb m m0 st stc v L) {m' : Nat} {st' : Int → Option Gu} {w5 : World} (h1 : ScAt w5 (fun b => Zn b ∨ W.heap.size ≤ b) sb m' st') (ho : Only Zn W w5) : Mid w W Zn da sb xb cb m' m0 st' stc v L w5 :=
  ⟨h1, h.x.only ho fun b hb => (h.xz b hb).2, h.c.keep ho (fun e => by have := (h.zn _ e).2; have := h.cl; omega) (fun b hb _ e => by have := (h.zn _ e).2; have hb2 : da < b := hb; omega), ho.mono fun b hb => .inl (h.zn b hb)⟩
theorem Pre.none {w W : World} {Zn : Nat → Prop} {da sb xb cb m m0 : Nat} {st stc : Int → Option Gu} {v : Value} {L : List Tn} (h : Pre w W Zn da sb xb cb m m0 st stc v L) : SpE w W sb xb cb m m0 st stc :=
  ⟨h.s.mono fun b _ hb => (h.zn b hb).1, ⟨v, L, h.x, h.xs, h.xl, fun b hb => (h.xz b hb).1.1⟩, ⟨_, h.c⟩, h.b⟩
theorem SpE.up {w w6 : World} {sb xb cb m m' m0 : Nat} {st stc : Int → Option Gu} (h : SpE w w6 sb xb cb m m0 st stc) (hm : m ≤ m') (h100 : m' ≤ 100) : SpE w w6 sb xb cb m' m0 st stc := by
  obtain ⟨v, L, h1, h2, h3, h4⟩ := h.x
  exact ⟨h.s.up hm h100, ⟨v, L, h1, h2, by omega, h4⟩, h.c, h.b⟩
theorem Mid.xop {w W : World} {Zn : Nat → Prop} {da sb xb cb m m0 : Nat} {st stc : Int → Option Gu} {v : Value} {L : List Tn} (hp : Pre w W Zn da sb xb cb m m0 st stc v L) {m' : Nat} {st' : Int → Option Gu} {w5 w6 : World} (h : Mid w W Zn da sb xb cb m' m0 st' stc v L w5) {v' : Value} {L' : List Tn} (hx : SdAt w6 xb v' L') (hs : SdS L' st') (hl : L'.length ≤ m') (ho : Only (sdz xb v) w5 w6) (hv : ∀ b, inRow v' b → inRow v b ∨ w5.heap.size ≤ b) :
    SpE w w6 sb xb cb m' m0 st' stc ∧ Only (fun k => w.heap.size ≤ k ∧ k < da) W w6 := by
  have hO : Only (fun k => w.heap.size ≤ k ∧ k < da) W w6 := h.o.trans' ho fun b hb => .inl (hp.xz b hb).1
  have hsz := hp.b.size
  refine ⟨⟨(h.s.keepX h.x ho).mono fun b _ hb => ?_, ⟨v', L', hx, hs, hl, fun b hb => ?_⟩, ⟨_, h.c.keepX h.x ho⟩, hp.b.trans (hO.below (B := w.heap.size) hsz fun b hb => hb.1)⟩, hO⟩
  · rcases hb with hb | hb
    · exact (hp.zn b hb).1
    · exact Nat.le_trans hsz hb
  · rcases hb with rfl | hb
    · exact (hp.xz _ (.inl rfl)).1.1
    · rcases hv b hb with h1 | h1
      · exact (hp.xz _ (.inr h1)).1.1
      · exact Nat.le_trans (Nat.le_trans hsz h.o.size) h1
def numOk (c : Int) : Prop := c = 0 ∨ (101 ≤ c ∧ c ≤ 116)
theorem addR_num {st st' : Int → Option Gu} {x wt c : Int} (h : AddR st x wt c st') : numOk c := by
  unfold numOk
  rcases h with ⟨-, h, -⟩ | ⟨-, -, h, -⟩ | ⟨-, -, h, -⟩ <;> omega
theorem del_num (st : Int → Option Gu) (x : Int) : numOk (scDel st x).2 := by
  unfold numOk scDel
  cases st x <;> simp
theorem ran_num (st : Int → Option Gu) (x n : Int) : numOk (scRan st x n).2 := by
  unfold numOk scRan
  cases st x with
  | none => simp
  | some g =>
    dsimp only
    split <;> simp
theorem sleep_num (st : Int → Option Gu) (x n : Int) : numOk (scSleep st x n).2 := by
  unfold numOk scSleep
  cases st x <;> simp
theorem both_add {w W : World} {Zn : Nat → Prop} {da sb xb cb m m0 : Nat} {st stc : Int → Option Gu} {v : Value} {L : List Tn} {E : Nat → Addr} (hE : ErrL E w) (hp : Pre w W Zn da sb xb cb m m0 st stc v L) (hm : m < 100) (a b : Int) :
    Calls Tryd.prog 15 #[.pointer (some ⟨sb, 0, none⟩), .int .i64 a, .int .i64 b] W fun e w5 => ∃ c st', AddR st a b c st' ∧ e = .returned (errD E c) ∧ Mid w W Zn da sb xb cb (m + 1) m0 st' stc v L w5 :=
  (sadd_any E W Zn sb m st hp.s (hE _ hp.b) a b hm).mono fun e w5 ⟨c, st', h1, h2, h3, h4⟩ => ⟨c, st', h2, h1, hp.sop h3 h4⟩
theorem both_xadd {w W : World} {Zn : Nat → Prop} {da sb xb cb m m0 : Nat} {st stc : Int → Option Gu} {v : Value} {L : List Tn} (hp : Pre w W Zn da sb xb cb m m0 st stc v L) (hm : m < 100) (a b : Int) {c : Int} {st' : Int → Option Gu} (hc : AddR st a b c st') {w5 : World} (h : Mid w W Zn da sb xb cb (m + 1) m0 st' stc v L w5) :
    Calls Tryd.prog 49 #[.pointer (some ⟨xb, 0, none⟩), .int .i64 a, .int .i64 b] w5 fun e w6 => e = .returned (.int .i64 c) ∧ SpE w w6 sb xb cb (m + 1) m0 st' stc ∧ Only (fun k => w.heap.size ≤ k ∧ k < da) W w6 :=
  (sdadd_any w5 xb m v L st h.x hp.xs hp.xl hm a b).mono fun e w6 ⟨c', st2, h1, h2, v', L', h3, h4, h5, h6, h7⟩ => by
    obtain ⟨rfl, rfl⟩ := addR_uniq hc h2
    exact ⟨h1, Mid.xop hp h h3 h4 h5 h6 h7⟩
theorem both_del {w W : World} {Zn : Nat → Prop} {da sb xb cb m m0 : Nat} {st stc : Int → Option Gu} {v : Value} {L : List Tn} {E : Nat → Addr} (hE : ErrL E w) (hp : Pre w W Zn da sb xb cb m m0 st stc v L) (a : Int) (ha : kw a) :
    Calls Tryd.prog 18 #[.pointer (some ⟨sb, 0, none⟩), .int .i64 a] W fun e w5 => e = .returned (errD E (scDel st a).2) ∧ Mid w W Zn da sb xb cb m m0 (scDel st a).1 stc v L w5 :=
  (sdel_any E W Zn sb m st hp.s (hE _ hp.b) a ha).mono fun e w5 ⟨h1, h3, h4⟩ => ⟨h1, hp.sop h3 h4⟩
theorem both_xdel {w W : World} {Zn : Nat → Prop} {da sb xb cb m m0 : Nat} {st stc : Int → Option Gu} {v : Value} {L : List Tn} (hp : Pre w W Zn da sb xb cb m m0 st stc v L) (hm : m ≤ 100) (a : Int) (ha : kw a) {w5 : World} (h : Mid w W Zn da sb xb cb m m0 (scDel st a).1 stc v L w5) :
    Calls Tryd.prog 50 #[.pointer (some ⟨xb, 0, none⟩), .int .i64 a] w5 fun e w6 => e = .returned (.int .i64 (scDel st a).2) ∧ SpE w w6 sb xb cb m m0 (scDel st a).1 stc ∧ Only (fun k => w.heap.size ≤ k ∧ k < da) W w6 :=
  (sddel_any w5 xb m v L st h.x hp.xs hp.xl hm a).mono fun e w6 ⟨h1, v', L', h3, h4, h5, h6, h7⟩ => ⟨h1, Mid.xop hp h h3 h4 h5 h6 h7⟩
theorem both_ran {w W : World} {Zn : Nat → Prop} {da sb xb cb m m0 : Nat} {st stc : Int → Option Gu} {v : Value} {L : List Tn} {E : Nat → Addr} (hE : ErrL E w) (hp : Pre w W Zn da sb xb cb m m0 st stc v L) (a n : Int) (ha : kw a) (hn : -9223372036854775808 ≤ n ∧ n ≤ 9223372036854775807) :
    Calls Tryd.prog 16 #[.pointer (some ⟨sb, 0, none⟩), .int .i64 a, .int .i64 n] W fun e w5 => e = .returned (errD E (scRan st a n).2) ∧ Mid w W Zn da sb xb cb m m0 (scRan st a n).1 stc v L w5 :=
  (sran_any E W Zn sb m st hp.s (hE _ hp.b) a n ha).mono fun e w5 ⟨h1, h3, h4⟩ => ⟨h1, hp.sop h3 h4⟩
theorem both_xran {w W : World} {Zn : Nat → Prop} {da sb xb cb m m0 : Nat} {st stc : Int → Option Gu} {v : Value} {L : List Tn} (hp : Pre w W Zn da sb xb cb m m0 st stc v L) (hm : m ≤ 100) (a n : Int) (ha : kw a) (hn : -9223372036854775808 ≤ n ∧ n ≤ 9223372036854775807) {w5 : World} (h : Mid w W Zn da sb xb cb m m0 (scRan st a n).1 stc v L w5) :
    Calls Tryd.prog 51 #[.pointer (some ⟨xb, 0, none⟩), .int .i64 a, .int .i64 n] w5 fun e w6 => e = .returned (.int .i64 (scRan st a n).2) ∧ SpE w w6 sb xb cb m m0 (scRan st a n).1 stc ∧ Only (fun k => w.heap.size ≤ k ∧ k < da) W w6 :=
  (sdran_any w5 xb m v L st h.x hp.xs hp.xl hm a n hn).mono fun e w6 ⟨h1, v', L', h3, h4, h5, h6, h7⟩ => ⟨h1, Mid.xop hp h h3 h4 h5 h6 h7⟩
theorem both_sleep {w W : World} {Zn : Nat → Prop} {da sb xb cb m m0 : Nat} {st stc : Int → Option Gu} {v : Value} {L : List Tn} {E : Nat → Addr} (hE : ErrL E w) (hp : Pre w W Zn da sb xb cb m m0 st stc v L) (a n : Int) (ha : kw a) (hn : -9223372036854775808 ≤ n ∧ n ≤ 9223372036854775807) :
    Calls Tryd.prog 20 #[.pointer (some ⟨sb, 0, none⟩), .int .i64 a, .int .i64 n] W fun e w5 => e = .returned (errD E (scSleep st a n).2) ∧ Mid w W Zn da sb xb cb m m0 (scSleep st a n).1 stc v L w5 :=
  (ssleep_any E W Zn sb m st hp.s (hE _ hp.b) a n ha (kw_of (by omega))).mono fun e w5 ⟨h1, h3, h4⟩ => ⟨h1, hp.sop h3 h4⟩
theorem both_xsleep {w W : World} {Zn : Nat → Prop} {da sb xb cb m m0 : Nat} {st stc : Int → Option Gu} {v : Value} {L : List Tn} (hp : Pre w W Zn da sb xb cb m m0 st stc v L) (hm : m ≤ 100) (a n : Int) (ha : kw a) (hn : -9223372036854775808 ≤ n ∧ n ≤ 9223372036854775807) {w5 : World} (h : Mid w W Zn da sb xb cb m m0 (scSleep st a n).1 stc v L w5) :
    Calls Tryd.prog 52 #[.pointer (some ⟨xb, 0, none⟩), .int .i64 a, .int .i64 n] w5 fun e w6 => e = .returned (.int .i64 (scSleep st a n).2) ∧ SpE w w6 sb xb cb m m0 (scSleep st a n).1 stc ∧ Only (fun k => w.heap.size ≤ k ∧ k < da) W w6 :=
  (sdsleep_any w5 xb m v L st h.x hp.xs hp.xl hm a n hn).mono fun e w6 ⟨h1, v', L', h3, h4, h5, h6, h7⟩ => ⟨h1, Mid.xop hp h h3 h4 h5 h6 h7⟩
theorem both_wake {w W : World} {Zn : Nat → Prop} {da sb xb cb m m0 : Nat} {st stc : Int → Option Gu} {v : Value} {L : List Tn} (hp : Pre w W Zn da sb xb cb m m0 st stc v L) (n : Int) (hda : da < W.heap.size) :
    Calls Tryd.prog 22 #[.pointer (some ⟨sb, 0, none⟩), .int .i64 n] W fun e w5 => ∃ ao cap l st', e = .returned (.slice ao l.length cap) ∧ Woke st n l st' ∧ l.length ≤ 100 ∧ Mid w W Zn da sb xb cb m m0 st' stc v L w5 ∧ w5.ownsRow 0 3 1 (.slice ao l.length cap) l.length (ints l) ∧ ∀ k, inRow (.slice ao l.length cap) k → da < k :=
  (swake_any W Zn sb m st hp.s n).mono fun e w5 ⟨vw, l, st', Zn', h1, h2, h3, h4, h5, h6, h7, h8⟩ => by
    obtain ⟨ao, cap, rfl⟩ := own_slice h7
    exact ⟨ao, cap, l, st', h1, h2, h3, hp.sop (h4.mono fun b _ hb => h5 b hb) h6, h7, fun k hk => Nat.lt_of_lt_of_le hda (h8 k hk).1⟩
theorem both_xwake {w W : World} {Zn : Nat → Prop} {da sb xb cb m m0 : Nat} {st stc : Int → Option Gu} {v : Value} {L : List Tn} (hp : Pre w W Zn da sb xb cb m m0 st stc v L) (hm : m ≤ 100) (n : Int) {l : List Int} {st' : Int → Option Gu} (hw : Woke st n l st') {ao : Option Addr} {cap : Nat} {w5 : World} (h : Mid w W Zn da sb xb cb m m0 st' stc v L w5) (ho : w5.ownsRow 0 3 1 (.slice ao l.length cap) l.length (ints l)) (hf : ∀ k, inRow (.slice ao l.length cap) k → da < k) :
    Calls Tryd.prog 53 #[.pointer (some ⟨xb, 0, none⟩), .int .i64 n] w5 fun e w6 => ∃ bo bc, e = .returned (.slice bo l.length bc) ∧ AtL w6 ao (ints l) ∧ AtL w6 bo (ints l) ∧ SpE w w6 sb xb cb m m0 st' stc ∧ Only (fun k => w.heap.size ≤ k ∧ k < da) W w6 :=
  (sdwake_any w5 xb v L st h.x hp.xs (by have := hp.xl; omega) n).mono fun e w6 ⟨vx, l2, st2, L2, h1, h2, h3, h4, h5, h6, h7, h8, h9⟩ => by
    obtain ⟨rfl, rfl⟩ := woke_uniq hw h2
    have hk := own_only ho h7 fun k hk hz => by
      have := (hp.xz k hz).1
      have := hf k hk
      omega
    obtain ⟨ao2, cap2, e2, ha2⟩ := atL_of_own hk
    obtain ⟨rfl, -, -⟩ := Value.slice.inj e2
    obtain ⟨bo, bc, rfl, hb⟩ := atL_of_own h8
    exact ⟨bo, bc, h1, ha2, hb, Mid.xop hp h h4 h5 (by rw [h6]; exact hp.xl) h7 (fun b hb => .inl hb)⟩
def RdS (st : Int → Option Gu) (m : Nat) (wr : World) (e : Ending) (w' : World) : Prop := ∃ (ro : Option Addr) (rc : Nat), e = .returned (.slice ro m rc) ∧ AtL w' ro (ints (rdL st)) ∧ Below wr.heap.size wr w'
theorem rdS {wr : World} {Z : Nat → Prop} {sb n m : Nat} {st : Int → Option Gu} (h : ScAt wr Z sb n st) (hm : (rdL st).length = m) : Calls Tryd.prog 47 #[.pointer (some ⟨sb, 0, none⟩)] wr (RdS st m wr) := by
  refine (sready_any wr Z sb n st h).mono fun e w' ⟨v, h1, h2, h3, _⟩ => ?_
  obtain ⟨ao, cap, rfl, h4⟩ := atL_of_own h2
  rw [hm] at h1
  exact ⟨ao, cap, h1, h4, h3⟩
theorem rdX {wr : World} {xb n m : Nat} {st : Int → Option Gu} (h : ∃ v L, SdAt wr xb v L ∧ SdS L st ∧ L.length ≤ n ∧ ∀ b, sdz xb v b → m ≤ b) {k : Nat} (hn : n ≤ 100) (hk : (rdL st).length = k) : Calls Tryd.prog 55 #[.pointer (some ⟨xb, 0, none⟩)] wr (RdS st k wr) := by
  obtain ⟨v, L, h1, h2, h3, -⟩ := h
  refine (sdready_any wr xb v L st h1 h2 (by omega)).mono fun e w' ⟨v, h1, h2, h3, _⟩ => ?_
  obtain ⟨ao, cap, rfl, h4⟩ := atL_of_own h2
  rw [hk] at h1
  exact ⟨ao, cap, h1, h4, h3⟩
theorem pkX {wr : World} {xb n m : Nat} {st : Int → Option Gu} (h : ∃ v L, SdAt wr xb v L ∧ SdS L st ∧ L.length ≤ n ∧ ∀ b, sdz xb v b → m ≤ b) (hn : n ≤ 100) : Calls Tryd.prog 54 #[.pointer (some ⟨xb, 0, none⟩)] wr fun e w' => ∃ m, e = .returned (.int .i64 m) ∧ PickN st m ∧ Below wr.heap.size wr w' := by
  obtain ⟨v, L, h1, h2, h3, -⟩ := h
  exact sdpick_any wr xb v L st h1 h2 (by omega)
structure SDo where
  kind : Int
  a : Int
  b : Int
  n : Int
deriving Inhabited
def sdoCells (d : SDo) : List Value := [.int .i64 d.kind, .int .i64 d.a, .int .i64 d.b, .int .i64 d.n]
theorem sdo_len (d : SDo) : (sdoCells d).length = 4 := rfl
def sdoOk (d : SDo) : Prop := (-9223372036854775808 ≤ d.kind ∧ d.kind ≤ 9223372036854775807) ∧ (-9223372036854775808 ≤ d.a ∧ d.a ≤ 9223372036854775807) ∧ (-9223372036854775808 ≤ d.b ∧ d.b ≤ 9223372036854775807) ∧ (-9223372036854775808 ≤ d.n ∧ d.n ≤ 9223372036854775807)
theorem sdo_at {w : World} {ao : Option Addr} {l : List SDo} (h : AtL w ao (l.flatMap sdoCells)) (k : Nat) (hk : k < l.length) : ∃ b off, ao = some ⟨b, off, none⟩ ∧ w.cell? ⟨b, off + k * 4, none⟩ = some (.int .i64 (l.getD k default).kind) ∧ w.cell? ⟨b, off + k * 4 + 1, none⟩ = some (.int .i64 (l.getD k default).a) ∧ w.cell? ⟨b, off + k * 4 + 2, none⟩ = some (.int .i64 (l.getD k default).b) ∧ w.cell? ⟨b, off + k * 4 + 3, none⟩ = some (.int .i64 (l.getD k default).n) ∧ b < w.heap.size := by
  obtain ⟨b, off, e, c0, hl⟩ := h _ _ (rec_get sdoCells 4 sdo_len l k 0 hk (by decide))
  obtain ⟨b1, off1, e1, c1, -⟩ := h _ _ (rec_get sdoCells 4 sdo_len l k 1 hk (by decide))
  obtain ⟨b2, off2, e2, c2, -⟩ := h _ _ (rec_get sdoCells 4 sdo_len l k 2 hk (by decide))
  obtain ⟨b3, off3, e3, c3, -⟩ := h _ _ (rec_get sdoCells 4 sdo_len l k 3 hk (by decide))
  subst e
  cases e1
  cases e2
  cases e3
  exact ⟨b, off, rfl, c0, by rw [Nat.add_assoc]; exact c1, by rw [Nat.add_assoc]; exact c2, by rw [Nat.add_assoc]; exact c3, hl⟩
end Go.Proofs.YtnhocmmgdkiepaaDoor

