/-
  Parts of one proof, one behind the other.
-/
import Derived.Test.YtnhocmmgdkiepaaDoorMg46e26ac5f2
/-
  SchedFair: the walk. Given where the sentinels lie.
-/
namespace Go.Proofs.YtnhocmmgdkiepaaDoor
open Go.RowKit

def FrA (n sb : Nat) (w : World) (i : Value) (wr : World) : Prop := ∃ (k : Nat) (st : Int → Option Gu), k ≤ n ∧ i = .int .i64 (k : Int) ∧ FairA k st ∧ ScL w wr sb k st
def FrB (n sb m : Nat) (out turns : Int) (w : World) (i : Value) (wr : World) : Prop := ∃ (k : Nat) (st : Int → Option Gu), (k : Int) ≤ turns ∧ i = .int .i64 (k : Int) ∧ FairB n out turns k st ∧ ScL w wr sb m st
def FrC (n : Nat) (out : Int) (st : Int → Option Gu) (w0 : World) (a b i : Value) (wr : World) : Prop := ∃ (k : Nat) (x y : Int), k ≤ n ∧ i = .int .i64 (k : Int) ∧ a = .int .i64 x ∧ b = .int .i64 y ∧ LmOk n out st x y ∧ wr = w0
theorem intsGet (l : List Int) (k : Nat) (h : k < l.length) : (ints l)[k]? = some (.int .i64 (l.getD k 0)) := by
  rw [ints, List.getElem?_map, List.getElem?_eq_getElem h, List.getD_eq_getElem?_getD, List.getElem?_eq_getElem h]
  rfl
set_option maxRecDepth 100000 in
set_option maxHeartbeats 32000000 in
theorem schedFair_some (E : Nat → Addr) (l : List Int) (ao : Option Addr) (cap : Nat) (x1 x2 : Int) (w : World) (hE : ErrL E w) (hl : AtL w ao (ints l)) (hlz : ∀ z ∈ l, -9223372036854775808 ≤ z ∧ z ≤ 9223372036854775807) (h0 : 0 < l.length) (h8 : l.length ≤ 8) (h1 : -9223372036854775808 ≤ x1 ∧ x1 ≤ 9223372036854775807) (h2 : -9223372036854775808 ≤ x2 ∧ x2 ≤ 9223372036854775807) :
    Calls Tryd.prog 4 #[.slice ao l.length cap, .int .i64 x1, .int .i64 x2] w fun e w' => e = .returned (.bool true) ∧ Below w.heap.size w w' := by
  have HE := Lib.hid hE
  have HF := Lib.hid (scfirst_true E w hE)
  have HN1 := Lib.hid (fun wx => number_any x1 200 wx h1.1 h1.2 (by decide) (by decide))
  have HL := Lib.hid hl
  have HLZ := Lib.hid hlz
  obtain ⟨n, hn⟩ : ∃ n, l.length = n := ⟨_, rfl⟩
  have HLN := Lib.hid hn
  have HN2 := Lib.hid (fun wx => number_any x2 (n : Int) wx h2.1 h2.2 (by omega) (by omega))
  obtain ⟨tn, htn⟩ : ∃ t, x1 % 200 = t := ⟨_, rfl⟩
  obtain ⟨out, hout⟩ : ∃ t, x2 % (n : Int) = t := ⟨_, rfl⟩
  have ho1 : 0 ≤ out ∧ out < (n : Int) := by rw [← hout]; exact ⟨Int.emod_nonneg _ (by omega), Int.emod_lt_of_pos _ (by omega)⟩
  have ht1 : 0 ≤ tn ∧ tn < 200 := by omega
  rw [htn] at HN1
  rw [hout] at HN2
  rw [hn] at h0 h8 ⊢
  have HT := Lib.hid ht1
  have HO := Lib.hid ho1
  have k0 : ((n : Int) == 0) = false := by rw [beq_eq_false_iff_ne]; omega
  have k1 : ¬ (8 : Int) < (n : Int) := by omega
  have HNN := Lib.hid (And.intro h0 h8)
  clear hE hl hlz h1 h2 hn htn hout ho1 ht1 h0 h8
  go_enter Tryd.func4, Tryd.ntmps4
  go_wp2_with fail
  refine HF.out.mono ?_
  rintro y w0 ⟨rfl, hb0⟩
  have HN := Lib.hid (slNew w w0 hb0)
  clear hb0
  go_wp2_with fail
  refine (HN1.out _).mono ?_
  rintro y wq ⟨rfl, rfl⟩
  go_wp2_with fail
  refine HN.out.mono ?_
  rintro y w1 ⟨sb, rfl, s1⟩
  have HST : Hid (FrA n sb w (.int .i64 0) w1) := Lib.hid ⟨0, noOne, Nat.zero_le _, rfl, fairA_zero, s1⟩
  clear s1
  go_wp2_with fail
  go_loopw [10] (fun i wr => FrA n sb w i wr) (fun i _ => n - (intOf i).toNat)
  case atStart => exact HST.out
  case round =>
    obtain ⟨k, st, hk, rfl, hA, hs⟩ := hrel
    have HA := Lib.hid hA
    have HS := Lib.hid hs
    have hk8 : k ≤ 8 := by have := HNN.out; omega
    clear hA hs HST
    by_cases hlt : k < n
    · have hki : (k : Int) < (n : Int) := by omega
      have wk := IntWalk.i64_in ((k : Int) + 1) (by omega)
      obtain ⟨g, off, e, c0, hg⟩ := HL.out k _ (intsGet l k (by rw [HLN.out]; exact hlt))
      have hzb : -9223372036854775808 ≤ l.getD k 0 ∧ l.getD k 0 ≤ 9223372036854775807 := HLZ.out _ (by
        have := HLN.out
        rw [List.getD_eq_getElem?_getD, List.getElem?_eq_getElem (by omega)]
        exact List.getElem_mem _)
      have c1 := (HS.out.b.cell (p := ⟨g, off + k, none⟩) hg).trans c0
      have lg : g < wr.heap.size := Nat.lt_of_lt_of_le hg HS.out.b.size
      subst e
      have HNU := Lib.hid (fun wx => number_any (l.getD k 0) 100 wx hzb.1 hzb.2 (by decide) (by decide))
      obtain ⟨z, hz⟩ : ∃ z, l.getD k 0 = z := ⟨_, rfl⟩
      rw [hz] at c1 HNU
      obtain ⟨q, hq⟩ : ∃ q, z % 100 = q := ⟨_, rfl⟩
      have hq1 : 0 ≤ q ∧ q < 100 := by omega
      rw [hq] at HNU
      have wq := IntWalk.i64_in (q + 1) (by omega)
      have HQ : Hid (1 ≤ q + 1 ∧ q + 1 ≤ 100) := Lib.hid (by omega)
      have HAD := Lib.hid (slAdd HE.out HS.out (by omega) (k : Int) (q + 1) (by unfold addBad; omega) HA.out.no)
      clear hzb hz hq hq1 c0
      go_wp2_with fail
      refine (HNU.out _).mono ?_
      rintro y wy ⟨rfl, rfl⟩
      go_wp2_with fail
      refine HAD.out.mono ?_
      rintro y w2 ⟨rfl, u, hu, s2⟩
      obtain rfl := HA.out.minU hu
      have HF2 : Hid (FrA n sb w (.int .i64 ((k : Int) + 1)) w2) := Lib.hid ⟨k + 1, _, hlt, by go_num, HA.out.add HQ.out, s2⟩
      clear hu s2 c1 lg
      go_wp2_with fail
      go_roundw
      case rel => exact HF2.out
      case measure => simp [intOf]; omega
    · have hkn : k = n := by omega
      subst hkn
      have HB : Hid (k = 1 ∧ FairB 1 0 tn 0 st ∨ 1 < k) := Lib.hid (by
        by_cases e : k = 1
        · subst e; exact .inl ⟨rfl, fairB_one HA.out tn⟩
        · exact .inr (by have := HNN.out; omega))
      have HSL : Hid (1 < k → ∃ g, Calls Tryd.prog 20 #[.pointer (some ⟨sb, 0, none⟩), .int .i64 out, .int .i64 tn] wr fun e w' => e = .returned .nilIface ∧ FairB k out tn 0 (upd st out (some ⟨g, 0, true, tn⟩)) ∧ ScL w w' sb k (upd st out (some ⟨g, 0, true, tn⟩))) := Lib.hid fun h1 => by
        have ho := HO.out
        have ht := HT.out
        obtain ⟨wt, -, hg⟩ := HA.out.all out ho.1 ho.2
        have hb := fairB_more HA.out h1 hk8 out tn ho ⟨wt, 0, false, 0⟩
        exact ⟨wt, (slSleep HE.out HS.out out tn (kw_of (by omega)) (kw_of (by omega)) _ hg).mono fun e w' ⟨q1, q2⟩ => ⟨q1, hb, q2⟩⟩
      have hki : ¬ (k : Int) < (k : Int) := by omega
      have HW2 : Hid (∀ (wx : World) (m : Nat) (st2 : Int → Option Gu) (i : Nat), FairB k out tn i st2 → ScL w wx sb m st2 → ∀ now, Calls Tryd.prog 22 #[.pointer (some ⟨sb, 0, none⟩), .int .i64 now] wx fun e w' => ∃ v l st3, e = .returned v ∧ Woke st2 now l st3 ∧ w'.ownsRow 0 3 1 v l.length (ints l) ∧ ScL w w' sb m st3) := Lib.hid fun wx m st2 i hB hS now => (swake_any wx _ sb m st2 hS.sc now).mono fun e w' ⟨v, l, st3, Zn, h1, h2, _, h4, h5, h6, h7, h8⟩ => ⟨v, l, st3, h1, h2, h7, hS.step (h4.mono fun b _ hb => h5 b hb) h6⟩
      by_cases hk1 : k = 1
      · have HBB : Hid (FairB k out tn 0 st) := Lib.hid (by
          subst hk1
          have h0 := HO.out
          obtain rfl : out = 0 := by omega
          exact fairB_one HA.out tn)
        have t1 : ¬ (1 : Int) < (k : Int) := by omega
        have t2 : ((k : Int) == 1) = true := by rw [beq_iff_eq]; omega
        have hkk : ¬ 1 < k := by omega
        have HST2 : Hid (FrB k sb k out tn w (.int .i64 0) wr) := Lib.hid ⟨0, _, HT.out.1, rfl, HBB.out, HS.out⟩
        clear HA HSL HBB hk1
        go_wp2_with fail
        refine (HN2.out _).mono ?_
        rintro y wz ⟨rfl, rfl⟩
        go_wp2_with fail
        go_loopw [12] (fun i wr => FrB k sb k out tn w i wr) (fun i _ => (tn - intOf i).toNat)
        case atStart => exact HST2.out
        case round =>
          obtain ⟨j, st2, hj, rfl, hB, hs⟩ := hrel
          have HB2 := Lib.hid hB
          have HS2 := Lib.hid hs
          clear hB hs HST2
          have hj200 : j < 200 ∨ (j : Int) = tn := by have := HT.out; omega
          by_cases hjt : (j : Int) < tn
          · have hj2 : j < 200 := by have := HT.out; omega
            have wj := IntWalk.i64_in ((j : Int) + 1) (by omega)
            have HPK := Lib.hid (spick_any _ _ sb k st2 HS2.out.sc)
            go_wp2_with fail
            refine HPK.out.mono ?_
            rintro y w3 ⟨⟨v, rfl, hv⟩, rfl⟩
            obtain ⟨x, wt, us, rfl, haw, hg, hwt, hus, hmin⟩ := HB2.out.pick hv
            have hrn := slRan HE.out HS2.out x 100 (kw_of (by have := haw.1; omega)) _ hg (by omega)
            dsimp only at hrn
            have hB3 := HB2.out.ran haw hg hwt hus hmin hj2
            obtain ⟨st3, hst3⟩ : ∃ s, upd st2 x (some ⟨wt, ranU us 100 wt, false, 0⟩) = s := ⟨_, rfl⟩
            rw [hst3] at hrn hB3
            have HRN := Lib.hid hrn
            have HB3 := Lib.hid hB3
            clear hv haw hg hwt hus hmin hrn hB3 hst3
            go_wp2_with fail
            refine HRN.out.mono ?_
            rintro y w4 ⟨rfl, hs4⟩
            have HS4 := Lib.hid hs4
            have HST3 : Hid (FrC k out st3 w4 (.int .i64 (-1)) (.int .i64 0) (.int .i64 0) w4) := Lib.hid ⟨0, -1, 0, Nat.zero_le _, rfl, rfl, rfl, .inl ⟨rfl, rfl⟩, rfl⟩
            clear hs4
            go_wp2_with fail
            go_loopw [15, 16, 17] (fun a b i wr => FrC k out st3 w4 a b i wr) (fun _ _ i _ => k - (intOf i).toNat)
            case atStart => exact HST3.out
            case round =>
              obtain ⟨q, a, b, hq, rfl, rfl, rfl, hlm, rfl⟩ := hrel
              have HLM := Lib.hid hlm
              have hbd := LmOk.bounds HB3.out (by omega) hlm
              have HBD := Lib.hid hbd
              clear hlm HST3 hbd
              by_cases hqk : q < k
              · have hqi : (q : Int) < (k : Int) := by omega
                have wqq := IntWalk.i64_in ((q : Int) + 1) (by omega)
                have hus := sused_any _ _ sb k st3 HS4.out.sc (q : Int) (kw_of (by omega))
                obtain ⟨wt2, us2, hg2, hw2, hu2⟩ := HB3.out.wk (q : Int) ⟨⟨by omega, by omega⟩, fun h => hkk h.1⟩
                rw [hg2] at hus
                dsimp only [usO, Option.isSome] at hus
                have HUS := Lib.hid hus
                have HNX := Lib.hid (fun a' b' ha hb => LmOk.next HB3.out (⟨⟨by omega, by omega⟩, fun h => hkk h.1⟩ : aw k out (q : Int)) hg2 hu2.1 HLM.out a' b' ha hb)
                clear hus hg2 hw2 hu2
                have hcs : (a < 0 ∧ us2 ≤ us2) ∨ (¬ a < 0 ∧ us2 < a) ∨ (¬ a < 0 ∧ ¬ us2 < a) := by omega
                by_cases hbm : b < us2
                · have hbx := hbm
                  rcases hcs with ⟨h1, -⟩ | ⟨h1, h2⟩ | ⟨h1, h2⟩
                  all_goals
                    go_wp2_with fail
                    refine HUS.out.mono ?_
                    rintro y w5 ⟨rfl, rfl⟩
                    go_wp2_with fail
                    go_roundw
                    case rel => exact ⟨q + 1, _, _, by omega, by go_num, rfl, rfl, HNX.out _ _ (by first | exact .inl rfl | exact .inr ⟨rfl, by omega⟩) (.inl rfl), rfl⟩
                    case measure => simp [intOf]; omega
                · rcases hcs with ⟨h1, -⟩ | ⟨h1, h2⟩ | ⟨h1, h2⟩
                  all_goals
                    go_wp2_with fail
                    refine HUS.out.mono ?_
                    rintro y w5 ⟨rfl, rfl⟩
                    go_wp2_with fail
                    go_roundw
                    case rel => exact ⟨q + 1, _, _, by omega, by go_num, rfl, rfl, HNX.out _ _ (by first | exact .inl rfl | exact .inr ⟨rfl, by omega⟩) (.inr rfl), rfl⟩
                    case measure => simp [intOf]; omega
              · have hqi : ¬ (q : Int) < (k : Int) := by omega
                have hnear := LmOk.near HB3.out HLM.out
                have wn := IntWalk.i64_in (b - a) (by have := HBD.out; omega)
                have hn2 : ¬ 10000 < b - a := by omega
                clear hnear
                go_wp2_with fail
                go_roundw
                case rel => exact ⟨j + 1, st3, by omega, by go_num, HB3.out, HS4.out⟩
                case measure => simp [intOf]; omega
          · have hjn : ¬ (j : Int) < tn := hjt
            have hje : (j : Int) = tn := by omega
            have wt1 := IntWalk.i64_in (tn - 1) (by have := HT.out; omega)
            have HWA := Lib.hid (HW2.out _ k st2 j HB2.out HS2.out (tn - 1))
            clear hje hjt
            go_wp2_with fail
            refine HWA.out.mono ?_
            rintro y w5 ⟨v, l5, st5, rfl, hwk, hown, hs5⟩
            obtain ⟨rfl, rfl⟩ := HB2.out.early (by omega) hwk
            obtain ⟨ao5, cap5, rfl⟩ := own_slice hown
            have HWB := Lib.hid (HW2.out _ k st5 j HB2.out hs5 tn)
            clear hwk hown hs5
            go_wp2_with fail
            refine HWB.out.mono ?_
            rintro y w6 ⟨v, l6, st6, rfl, hwk, hown, hs6⟩
            rcases HB2.out.wake hwk with ⟨-, rfl⟩ | ⟨h, -⟩
            · obtain ⟨ao6, cap6, rfl⟩ := own_slice hown
              have HS6 := Lib.hid hs6
              clear hwk hown hs6
              go_wp2_with fail
              go_ret
              exact ⟨rfl, HS6.out.b⟩
            · exact absurd h hkk
      · have hkk : 1 < k := by have := HNN.out; omega
        have t1 : (1 : Int) < (k : Int) := by omega
        have t2 : ((k : Int) == 1) = false := by rw [beq_eq_false_iff_ne]; omega
        obtain ⟨gw, hsl⟩ := HSL.out hkk
        have HSLP := Lib.hid hsl
        clear hsl HSL
        go_wp2_with fail
        refine (HN2.out _).mono ?_
        rintro y wz ⟨rfl, rfl⟩
        go_wp2_with fail
        refine HSLP.out.mono ?_
        rintro y w3 ⟨rfl, hb3, hs3⟩
        have HBB : Hid (FairB k out tn 0 (upd st out (some ⟨gw, 0, true, tn⟩))) := Lib.hid hb3

        have HST2 : Hid (FrB k sb k out tn w (.int .i64 0) w3) := Lib.hid ⟨0, _, HT.out.1, rfl, HBB.out, hs3⟩
        clear HA HBB hb3 hs3
        go_wp2_with fail
        go_loopw [12] (fun i wr => FrB k sb k out tn w i wr) (fun i _ => (tn - intOf i).toNat)
        case atStart => exact HST2.out
        case round =>
          obtain ⟨j, st2, hj, rfl, hB, hs⟩ := hrel
          have HB2 := Lib.hid hB
          have HS2 := Lib.hid hs
          clear hB hs HST2
          have hj200 : j < 200 ∨ (j : Int) = tn := by have := HT.out; omega
          by_cases hjt : (j : Int) < tn
          · have hj2 : j < 200 := by have := HT.out; omega
            have wj := IntWalk.i64_in ((j : Int) + 1) (by omega)
            have HPK := Lib.hid (spick_any _ _ sb k st2 HS2.out.sc)
            go_wp2_with fail
            refine HPK.out.mono ?_
            rintro y w3 ⟨⟨v, rfl, hv⟩, rfl⟩
            obtain ⟨x, wt, us, rfl, haw, hg, hwt, hus, hmin⟩ := HB2.out.pick hv
            have hxo : (x == out) = false := by rw [beq_eq_false_iff_ne]; exact fun e => haw.2 ⟨hkk, e⟩
            have hrn := slRan HE.out HS2.out x 100 (kw_of (by have := haw.1; omega)) _ hg (by omega)
            dsimp only at hrn
            have hB3 := HB2.out.ran haw hg hwt hus hmin hj2
            obtain ⟨st3, hst3⟩ : ∃ s, upd st2 x (some ⟨wt, ranU us 100 wt, false, 0⟩) = s := ⟨_, rfl⟩
            rw [hst3] at hrn hB3
            have HRN := Lib.hid hrn
            have HB3 := Lib.hid hB3
            clear hv haw hg hwt hus hmin hrn hB3 hst3
            go_wp2_with fail
            refine HRN.out.mono ?_
            rintro y w4 ⟨rfl, hs4⟩
            have HS4 := Lib.hid hs4
            have HST3 : Hid (FrC k out st3 w4 (.int .i64 (-1)) (.int .i64 0) (.int .i64 0) w4) := Lib.hid ⟨0, -1, 0, Nat.zero_le _, rfl, rfl, rfl, .inl ⟨rfl, rfl⟩, rfl⟩
            clear hs4 hxo
            go_wp2_with fail
            go_loopw [15, 16, 17] (fun a b i wr => FrC k out st3 w4 a b i wr) (fun _ _ i _ => k - (intOf i).toNat)
            case atStart => exact HST3.out
            case round =>
              obtain ⟨q, a, b, hq, rfl, rfl, rfl, hlm, rfl⟩ := hrel
              have HLM := Lib.hid hlm
              have hbd := LmOk.bounds HB3.out (by omega) hlm
              have HBD := Lib.hid hbd
              clear hlm HST3 hbd
              by_cases hqk : q < k
              · have hqi : (q : Int) < (k : Int) := by omega
                have wqq := IntWalk.i64_in ((q : Int) + 1) (by omega)
                have hus := sused_any _ _ sb k st3 HS4.out.sc (q : Int) (kw_of (by omega))
                by_cases hqo : (q : Int) = out
                · have hqb : ((q : Int) == out) = true := by rw [beq_iff_eq]; exact hqo
                  obtain ⟨wt2, us2, hg2⟩ := HB3.out.slp hkk
                  rw [hqo, hg2] at hus
                  dsimp only [usO, Option.isSome] at hus
                  rw [← hqo] at hus
                  have HUS := Lib.hid hus
                  clear hus hg2 hqo
                  go_wp2_with fail
                  refine HUS.out.mono ?_
                  rintro y w5 ⟨rfl, rfl⟩
                  go_wp2_with fail
                  go_roundw
                  case rel => exact ⟨q + 1, a, b, by omega, by go_num, rfl, rfl, HLM.out, rfl⟩
                  case measure => simp [intOf]; omega
                · obtain ⟨wt2, us2, hg2, hw2, hu2⟩ := HB3.out.wk (q : Int) ⟨⟨by omega, by omega⟩, fun h => hqo h.2⟩
                  rw [hg2] at hus
                  dsimp only [usO, Option.isSome] at hus
                  have HUS := Lib.hid hus
                  have HNX := Lib.hid (fun a' b' ha hb => LmOk.next HB3.out (⟨⟨by omega, by omega⟩, fun h => hqo h.2⟩ : aw k out (q : Int)) hg2 hu2.1 HLM.out a' b' ha hb)
                  have hqb : ((q : Int) == out) = false := by rw [beq_eq_false_iff_ne]; exact hqo
                  clear hus hg2 hw2 hu2
                  have hcs : (a < 0 ∧ us2 ≤ us2) ∨ (¬ a < 0 ∧ us2 < a) ∨ (¬ a < 0 ∧ ¬ us2 < a) := by omega
                  by_cases hbm : b < us2
                  · have hbx := hbm
                    rcases hcs with ⟨h1, -⟩ | ⟨h1, h2⟩ | ⟨h1, h2⟩
                    all_goals
                      go_wp2_with fail
                      refine HUS.out.mono ?_
                      rintro y w5 ⟨rfl, rfl⟩
                      go_wp2_with fail
                      go_roundw
                      case rel => exact ⟨q + 1, _, _, by omega, by go_num, rfl, rfl, HNX.out _ _ (by first | exact .inl rfl | exact .inr ⟨rfl, by omega⟩) (.inl rfl), rfl⟩
                      case measure => simp [intOf]; omega
                  · rcases hcs with ⟨h1, -⟩ | ⟨h1, h2⟩ | ⟨h1, h2⟩
                    all_goals
                      go_wp2_with fail
                      refine HUS.out.mono ?_
                      rintro y w5 ⟨rfl, rfl⟩
                      go_wp2_with fail
                      go_roundw
                      case rel => exact ⟨q + 1, _, _, by omega, by go_num, rfl, rfl, HNX.out _ _ (by first | exact .inl rfl | exact .inr ⟨rfl, by omega⟩) (.inr rfl), rfl⟩
                      case measure => simp [intOf]; omega
              · have hqi : ¬ (q : Int) < (k : Int) := by omega
                have hnear := LmOk.near HB3.out HLM.out
                have wn := IntWalk.i64_in (b - a) (by have := HBD.out; omega)
                have hn2 : ¬ 10000 < b - a := by omega
                clear hnear
                go_wp2_with fail
                go_roundw
                case rel => exact ⟨j + 1, st3, by omega, by go_num, HB3.out, HS4.out⟩
                case measure => simp [intOf]; omega
          · have hjn : ¬ (j : Int) < tn := hjt
            have hje : (j : Int) = tn := by omega
            have wt1 := IntWalk.i64_in (tn - 1) (by have := HT.out; omega)
            have HWA := Lib.hid (HW2.out _ k st2 j HB2.out HS2.out (tn - 1))
            clear hje hjt
            go_wp2_with fail
            refine HWA.out.mono ?_
            rintro y w5 ⟨v, l5, st5, rfl, hwk, hown, hs5⟩
            obtain ⟨rfl, rfl⟩ := HB2.out.early (by omega) hwk
            obtain ⟨ao5, cap5, rfl⟩ := own_slice hown
            have HWB := Lib.hid (HW2.out _ k st5 j HB2.out hs5 tn)
            clear hwk hown hs5
            go_wp2_with fail
            refine HWB.out.mono ?_
            rintro y w6 ⟨v, l6, st6, rfl, hwk, hown, hs6⟩
            rcases HB2.out.wake hwk with ⟨h, -⟩ | ⟨-, rfl⟩
            · exact absurd hkk (by omega)
            · obtain ⟨ao6, cap6, hv6, hat6⟩ := atL_of_own hown
              subst hv6
              have HS6 := Lib.hid hs6
              have HAT := Lib.hid hat6
              have hnb := blk_new w6 (.cells #[.int .i64 out] 3)
              have hat7 : AtL (w6.alloc (.cells #[.int .i64 out] 3)) (some ⟨w6.heap.size, 0, none⟩) (ints [out]) := fun i v hi => ⟨w6.heap.size, 0, rfl, by
                rw [blk_cell hnb, Nat.zero_add, List.getElem?_toArray]
                exact hi, blk_lt hnb⟩
              have HSI := Lib.hid (sameInts_any [out] [out] ao6 (some ⟨w6.heap.size, 0, none⟩) cap6 1 _ (hat6.mono ((Below.refl _ _).alloc (Nat.le_refl _) _)) hat7 (Nat.le_of_ble_eq_true rfl) (Nat.le_of_ble_eq_true rfl))
              rw [decide_eq_true (rfl : [out] = [out])] at HSI
              have HBA : Hid (Below w6.heap.size w6 (w6.alloc (.cells #[.int .i64 out] 3))) := Lib.hid ((Below.refl _ _).alloc (Nat.le_refl _) _)
              clear hwk hown hs6 hat6 hat7 hnb
              go_wp2_with fail
              refine HSI.out.mono ?_
              rintro y w7 ⟨rfl, d, rfl⟩
              go_wp2_with fail
              go_ret
              exact ⟨rfl, (HS6.out.below (below_drewN HBA.out d)).b⟩
theorem schedFair_walk (E : Nat → Addr) (l : List Int) (v : Value) (x1 x2 : Int) (w : World) (hE : ErrL E w) (hr : Reads w v l.length (ints l)) (hlz : ∀ z ∈ l, -9223372036854775808 ≤ z ∧ z ≤ 9223372036854775807) (h1 : -9223372036854775808 ≤ x1 ∧ x1 ≤ 9223372036854775807) (h2 : -9223372036854775808 ≤ x2 ∧ x2 ≤ 9223372036854775807) :
    Calls Tryd.prog 4 #[v, .int .i64 x1, .int .i64 x2] w fun e w' => e = .returned (.bool true) ∧ Below w.heap.size w w' := by
  obtain ⟨ao, cap, rfl, hl⟩ := atL_of_reads hr
  by_cases hle : 0 < l.length ∧ l.length ≤ 8
  · exact schedFair_some E l ao cap x1 x2 w hE hl hlz hle.1 hle.2 h1 h2
  · have HF1 := Lib.hid (scfirst_true E w hE)
    obtain ⟨n, hn⟩ : ∃ n, l.length = n := ⟨_, rfl⟩
    rw [hn] at hle ⊢
    by_cases h0 : n = 0
    · have hlen : ((n : Int) == 0) = true := by rw [beq_iff_eq]; omega
      clear hE hr hl hlz h1 h2 hn hle
      go_enter Tryd.func4, Tryd.ntmps4
      go_wp2_with fail
      refine HF1.out.mono ?_
      rintro y w0 ⟨rfl, hb0⟩
      have HB0 := Lib.hid hb0
      clear hb0
      go_wp2
      go_ret
      exact ⟨rfl, HB0.out⟩
    · have hlen : ((n : Int) == 0) = false := by rw [beq_eq_false_iff_ne]; omega
      have hlen2 : (8 : Int) < (n : Int) := by omega
      clear hE hr hl hlz h1 h2 hn hle
      go_enter Tryd.func4, Tryd.ntmps4
      go_wp2_with fail
      refine HF1.out.mono ?_
      rintro y w0 ⟨rfl, hb0⟩
      have HB0 := Lib.hid hb0
      clear hb0
      go_wp2
      go_ret
      exact ⟨rfl, HB0.out⟩
end Go.Proofs.YtnhocmmgdkiepaaDoor

