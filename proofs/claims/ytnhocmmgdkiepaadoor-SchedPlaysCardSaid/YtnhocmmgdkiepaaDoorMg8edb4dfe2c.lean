/-
  Parts of one proof, one behind the other.
-/
import Derived.Test.YtnhocmmgdkiepaaDoorMgc590d16fa0
import Derived.Maps.RangeWalk
/-
  container/heap over sched.turns: up, down.
-/
namespace Go.Proofs.YtnhocmmgdkiepaaDoor
open Go.RowKit

theorem run_mLen (b : Nat) : ∀ w : World, (method 333 101 (.pointer (some ⟨b, 0, none⟩)) "Len").run Tryd.prog w = .ok (62, .pointer (some ⟨b, 0, none⟩)) w := fun _ => by kernel_rfl
theorem run_mLess (b : Nat) : ∀ w : World, (method 333 101 (.pointer (some ⟨b, 0, none⟩)) "Less").run Tryd.prog w = .ok (175, .pointer (some ⟨b, 0, none⟩)) w := fun _ => by kernel_rfl
theorem run_mSwap (b : Nat) : ∀ w : World, (method 333 101 (.pointer (some ⟨b, 0, none⟩)) "Swap").run Tryd.prog w = .ok (178, .pointer (some ⟨b, 0, none⟩)) w := fun _ => by kernel_rfl
theorem run_mPush (b : Nat) : ∀ w : World, (method 333 101 (.pointer (some ⟨b, 0, none⟩)) "Push").run Tryd.prog w = .ok (177, .pointer (some ⟨b, 0, none⟩)) w := fun _ => by kernel_rfl
theorem run_mPop (b : Nat) : ∀ w : World, (method 333 101 (.pointer (some ⟨b, 0, none⟩)) "Pop").run Tryd.prog w = .ok (176, .pointer (some ⟨b, 0, none⟩)) w := fun _ => by kernel_rfl
def UpTo (R : List On) (tb : Nat) (v : Value) (l : List On) (w0 : World) (j : Value) (wr : World) : Prop := ∃ (f n : Nat) (l' : List On), j = .int .i64 (n : Int) ∧ n < f ∧ n < l'.length ∧ hUp f l' n = R ∧ Same l l' ∧ HpAt wr tb v l' ∧ Only (hz v l) w0 wr
theorem Same.hz {v : Value} {l l' : List On} (h : Same l l') (b : Nat) : hz v l' b → Go.Proofs.YtnhocmmgdkiepaaDoor.hz v l b := fun hb => by
  rcases hb with hb | ⟨j, hj, rfl⟩
  · exact .inl hb
  · obtain ⟨q, hq, e⟩ := h.fro j hj
    exact .inr ⟨q, hq, by rw [e]⟩
set_option maxRecDepth 100000 in
set_option maxHeartbeats 6400000 in
theorem hup_any (tb : Nat) (v : Value) (l : List On) (j : Nat) (w : World) (h : HpAt w tb v l) (hj : j < l.length) (f : Nat) (hf : j < f) :
    Calls Tryd.prog 91 #[.iface 101 (.pointer (some ⟨tb, 0, none⟩)), .int .i64 (j : Int)] w fun e w' => e = .returned (.tuple #[]) ∧ HpAt w' tb v (hUp f l j) ∧ Only (hz v l) w w' := by
  have HST : Hid (UpTo (hUp f l j) tb v l w (.int .i64 (j : Int)) w) := Lib.hid ⟨f, j, l, rfl, hf, hj, rfl, Same.rfl' l, h, Only.refl _ _⟩
  obtain ⟨R, hR⟩ : ∃ R, hUp f l j = R := ⟨_, rfl⟩
  rw [hR] at HST ⊢
  clear h hj hf hR
  go_enter Tryd.func91, Tryd.ntmps91
  go_wp2_with fail
  go_loopw [1] (fun i wr => UpTo R tb v l w i wr) (fun i _ => (intOf i).toNat)
  case atStart => exact HST.out
  case round =>
    obtain ⟨f', n, l', rfl, hnf, hnl, hR, hs, hh, ho⟩ := hrel
    have HR := Lib.hid hR
    have HS := Lib.hid hs
    have HO := Lib.hid ho
    have HH := Lib.hid hh
    have hmx : n < 100 := by have := hh.max; omega
    have HNF := Lib.hid (And.intro hnf hnl)
    clear hR hs ho HST hh hnf hnl
    have wa := IntWalk.i64_in ((n : Int) - 1) (by omega)
    by_cases h0 : n = 0
    · subst h0
      have HRE : Hid (hUp f' l' 0 = l') := Lib.hid (by
        cases f' with
        | zero => rfl
        | succ f' => unfold hUp; rw [if_pos (by decide)])
      go_wp2_with fail
      go_end0
      exact ⟨rfl, by rw [← HR.out, HRE.out]; exact HH.out, HO.out⟩
    · obtain ⟨i, hi⟩ : ∃ i, (n - 1) / 2 = i := ⟨_, rfl⟩
      have hd : ((n : Int) - 1) / 2 = (i : Int) := by omega
      have hne : ((((n : Int) - 1) / 2) == (n : Int)) = false := by simp; omega
      have HIN : Hid (i < n ∧ i < l'.length) := Lib.hid (by have := HNF.out.2; omega)
      have hls := tless_any tb v l' n i wr HH.out HNF.out.2 HIN.out.2
      have HSW := Lib.hid (fun wx (hx : HpAt wx tb v l') => tswap_any tb v l' i n wx hx HIN.out.2 HNF.out.2 (by have := HIN.out.1; omega))
      have HRE : Hid (∃ f'', f' = f'' + 1 ∧ R = if On.lt (og l' n) (og l' i) = true then hUp f'' (swp l' i n) i else l') := Lib.hid (by
        cases f' with
        | zero => have := HNF.out.1; omega
        | succ f'' =>
          refine ⟨f'', rfl, ?_⟩
          have := HR.out
          unfold hUp at this
          rw [if_neg (by omega), hi] at this
          exact this.symm)
      rw [← hd] at hls HSW
      have HLS := Lib.hid hls
      have HD := Lib.hid hd
      have hm1 := run_mLess tb
      have hm2 := run_mSwap tb
      obtain ⟨b, hb⟩ : ∃ b, On.lt (og l' n) (og l' i) = b := ⟨_, rfl⟩
      rw [hb] at HLS HRE
      clear hls hd hi hb
      go_wp2_with fail
      refine HLS.out.mono ?_
      rintro y w2 ⟨rfl, hb2⟩
      have HH2 := Lib.hid (HH.out.below hb2)
      have HO2 := Lib.hid (HO.out.below' hb2)
      clear hb2
      cases b with
      | true =>
        go_wp2_with fail
        refine (HSW.out _ HH2.out).mono ?_
        rintro y w3 ⟨rfl, hh3, ho3⟩
        have HH3 := Lib.hid hh3
        have HO3 := Lib.hid (HO2.out.trans (ho3.mono fun b hb => .inl (HS.out.hz b hb)))
        clear hh3 ho3
        go_wp2_with fail
        go_roundw
        case rel =>
          obtain ⟨f'', e1, e2⟩ := HRE.out
          first | rw [if_pos rfl] at e2 | rw [if_pos trivial] at e2
          exact ⟨f'', i, swp l' i n, by rw [HD.out], by have := HNF.out.1; have := HIN.out.1; omega, by rw [swp_len]; exact HIN.out.2, e2.symm, HS.out.trans (Same.swp l' i n HIN.out.2 HNF.out.2), HH3.out, HO3.out⟩
        case measure =>
          have := HIN.out.1
          have := HD.out
          simp [intOf]
          omega
      | false =>
        go_wp2_with fail
        go_end0
        obtain ⟨f'', e1, e2⟩ := HRE.out
        rw [if_neg (by decide)] at e2
        exact ⟨rfl, by rw [e2]; exact HH2.out, HO2.out⟩

def DnTo (R : List On × Nat) (tb N : Nat) (v : Value) (l : List On) (w0 : World) (j : Value) (wr : World) : Prop := ∃ (f k : Nat) (l' : List On), j = .int .i64 (k : Int) ∧ N ≤ f + k ∧ k < N ∧ N ≤ l'.length ∧ hDown f l' k N = R ∧ Same l l' ∧ HpAt wr tb v l' ∧ Only (hz v l) w0 wr
theorem kid_one (l : List On) (i n : Nat) (h : ¬ 2 * i + 1 + 1 < n) : hKid l i n = 2 * i + 1 := by unfold hKid; rw [if_neg h]
theorem kid_two (l : List On) (i n : Nat) (h : 2 * i + 1 + 1 < n) (b : Bool) (hb : On.lt (og l (2 * i + 1 + 1)) (og l (2 * i + 1)) = b) : hKid l i n = if b = true then 2 * i + 1 + 1 else 2 * i + 1 := by unfold hKid; rw [if_pos h, hb]
theorem down_one (f : Nat) (l : List On) (k n : Nat) (h : 2 * k + 1 < n) (hn : n ≤ f + k) (c : Nat) (hc : hKid l k n = c) : ∃ f', f = f' + 1 ∧ hDown f l k n = if On.lt (og l c) (og l k) = true then hDown f' (swp l k c) c n else (l, k) := by
  cases f with
  | zero => omega
  | succ f =>
    refine ⟨f, rfl, ?_⟩
    rw [hDown.eq_2, if_neg (by omega), hc]
theorem down_end (f : Nat) (l : List On) (k n : Nat) (h : n ≤ 2 * k + 1) : hDown f l k n = (l, k) := by
  cases f with
  | zero => rfl
  | succ f => rw [hDown.eq_2, if_pos h]
set_option maxRecDepth 100000 in
set_option maxHeartbeats 12800000 in
theorem hdown_any (tb : Nat) (v : Value) (l : List On) (i N : Nat) (w : World) (h : HpAt w tb v l) (hi : i < N) (hN : N ≤ l.length) (f : Nat) (hf : N ≤ f + i) :
    Calls Tryd.prog 92 #[.iface 101 (.pointer (some ⟨tb, 0, none⟩)), .int .i64 (i : Int), .int .i64 (N : Int)] w fun e w' => e = .returned (.bool (decide (i < (hDown f l i N).2))) ∧ HpAt w' tb v (hDown f l i N).1 ∧ Only (hz v l) w w' := by
  have HST : Hid (DnTo (hDown f l i N) tb N v l w (.int .i64 (i : Int)) w) := Lib.hid ⟨f, i, l, rfl, hf, hi, hN, rfl, Same.rfl' l, h, Only.refl _ _⟩
  obtain ⟨R, hR⟩ : ∃ R, hDown f l i N = R := ⟨_, rfl⟩
  rw [hR] at HST ⊢
  clear h hi hf hR hN
  go_enter Tryd.func92, Tryd.ntmps92
  go_wp2_with fail
  go_loopw [7] (fun i wr => DnTo R tb N v l w i wr) (fun i _ => N - (intOf i).toNat)
  case atStart => exact HST.out
  case round =>
    obtain ⟨f', k, l', rfl, hnf, hkn, hnl, hR, hs, hh, ho⟩ := hrel
    have HR := Lib.hid hR
    have HS := Lib.hid hs
    have HO := Lib.hid ho
    have HH := Lib.hid hh
    have hmx : N ≤ 100 := by have := hh.max; omega
    have HNF := Lib.hid (And.intro hnf (And.intro hkn hnl))
    clear hR hs ho HST hh
    have wa := IntWalk.i64_in (2 * (k : Int)) (by omega)
    have wb := IntWalk.i64_in (2 * (k : Int) + 1) (by omega)
    have hz0 : ¬ 2 * (k : Int) + 1 < 0 := by omega
    by_cases h1 : N ≤ 2 * k + 1
    · have hx : (N : Int) ≤ 2 * (k : Int) + 1 := by omega
      have HE : Hid (R = (l', k)) := Lib.hid (by rw [← HR.out]; exact down_end _ _ _ _ h1)
      clear h1 hnf hkn hnl
      go_wp2_with fail
      go_ret
      exact ⟨by rw [HE.out]; rfl, by rw [HE.out]; exact HH.out, HO.out⟩
    · have hx : ¬ (N : Int) ≤ 2 * (k : Int) + 1 := by omega
      have wc := IntWalk.i64_in (2 * (k : Int) + 1 + 1) (by omega)
      have hm1 := run_mLess tb
      have hm2 := run_mSwap tb
      have HST1 : Hid (∀ c, hKid l' k N = c → (k < c ∧ c < N) ∧ ∃ f'', f' = f'' + 1 ∧ R = if On.lt (og l' c) (og l' k) = true then hDown f'' (swp l' k c) c N else (l', k)) := Lib.hid fun c hc => by
        have hk := hKid_lt l' k N (by omega)
        rw [hc] at hk
        obtain ⟨f'', e1, e2⟩ := down_one f' l' k N (by omega) hnf c hc
        exact ⟨⟨hk.1, hk.2.1⟩, f'', e1, by rw [← HR.out]; exact e2⟩
      by_cases h2 : 2 * k + 1 + 1 < N
      · have hy : 2 * (k : Int) + 1 + 1 < (N : Int) := by omega
        have hls0 := tless_any tb v l' (2 * k + 1 + 1) (2 * k + 1) wr HH.out (by omega) (by omega)
        have hi1 : ((2 * k + 1 + 1 : Nat) : Int) = 2 * (k : Int) + 1 + 1 := by omega
        have hi2 : ((2 * k + 1 : Nat) : Int) = 2 * (k : Int) + 1 := by omega
        rw [hi1, hi2] at hls0
        have HKT := Lib.hid (fun b hb => kid_two l' k N h2 b hb)
        obtain ⟨b0, hb0⟩ : ∃ b, On.lt (og l' (2 * k + 1 + 1)) (og l' (2 * k + 1)) = b := ⟨_, rfl⟩
        rw [hb0] at hls0
        have HLS0 := Lib.hid hls0
        have HKB := Lib.hid (HKT.out b0 hb0)
        clear hls0 hi1 hi2 hb0
        go_wp2_with fail
        refine HLS0.out.mono ?_
        rintro y w2 ⟨rfl, hb2⟩
        have HH2 := Lib.hid (HH.out.below hb2)
        have HO2 := Lib.hid (HO.out.below' hb2)
        clear hb2
        cases b0 with
        | true =>
          have hcI : ((2 * k + 1 + 1 : Nat) : Int) = 2 * (k : Int) + 1 + 1 := by omega
          obtain ⟨c, hc⟩ : ∃ c : Nat, 2 * k + 1 + 1 = c := ⟨_, rfl⟩
          rw [hc] at hcI
          have HKD : Hid (hKid l' k N = c) := Lib.hid (by rw [← hc]; exact HKB.out.trans (if_pos rfl))
          obtain ⟨HCK, hstep⟩ := HST1.out c HKD.out
          have HCK2 := Lib.hid HCK
          have HSTEP := Lib.hid hstep
          have hls := fun wx (hx : HpAt wx tb v l') => tless_any tb v l' c k wx hx (by omega) (by omega)
          have hsw := fun wx (hx : HpAt wx tb v l') => tswap_any tb v l' k c wx hx (by omega) (by omega) (by omega)
          rw [hcI] at hls hsw
          have HLS := Lib.hid hls
          have HSW := Lib.hid hsw
          have HCI := Lib.hid hcI
          obtain ⟨b, hb⟩ : ∃ b, On.lt (og l' c) (og l' k) = b := ⟨_, rfl⟩
          rw [hb] at HLS HSTEP
          clear hls hsw hcI hb HCK hstep hc
          go_wp2_with fail
          refine (HLS.out _ HH2.out).mono ?_
          rintro y w3 ⟨rfl, hb3⟩
          have HH3 := Lib.hid (HH2.out.below hb3)
          have HO3 := Lib.hid (HO2.out.below' hb3)
          clear hb3
          cases b with
          | true =>
            go_wp2_with fail
            refine (HSW.out _ HH3.out).mono ?_
            rintro y w4 ⟨rfl, hh4, ho4⟩
            have HH4 := Lib.hid hh4
            have HO4 := Lib.hid (HO3.out.trans (ho4.mono fun b hb => .inl (HS.out.hz b hb)))
            clear hh4 ho4
            go_wp2_with fail
            go_roundw
            case rel =>
              obtain ⟨f'', e1, e2⟩ := HSTEP.out
              first | rw [if_pos rfl] at e2 | rw [if_pos trivial] at e2
              have h1 := HCK2.out
              have h2 := HNF.out
              exact ⟨f'', c, swp l' k c, by rw [HCI.out], by omega, by omega, by rw [swp_len]; omega, e2.symm, HS.out.trans (Same.swp l' k c (by omega) (by omega)), HH4.out, HO4.out⟩
            case measure =>
              have h1 := HCK2.out
              have h2 := HCI.out
              simp [intOf]
              omega
          | false =>
            have HE : Hid (R = (l', k)) := Lib.hid (by
              obtain ⟨f'', e1, e2⟩ := HSTEP.out
              rw [if_neg (by decide)] at e2
              exact e2)
            go_wp2_with fail
            go_ret
            exact ⟨by rw [HE.out]; rfl, by rw [HE.out]; exact HH3.out, HO3.out⟩
        | false =>
          have hcI : ((2 * k + 1 : Nat) : Int) = 2 * (k : Int) + 1 := by omega
          obtain ⟨c, hc⟩ : ∃ c : Nat, 2 * k + 1 = c := ⟨_, rfl⟩
          rw [hc] at hcI
          have HKD : Hid (hKid l' k N = c) := Lib.hid (by rw [← hc]; exact HKB.out.trans (if_neg (by decide)))
          obtain ⟨HCK, hstep⟩ := HST1.out c HKD.out
          have HCK2 := Lib.hid HCK
          have HSTEP := Lib.hid hstep
          have hls := fun wx (hx : HpAt wx tb v l') => tless_any tb v l' c k wx hx (by omega) (by omega)
          have hsw := fun wx (hx : HpAt wx tb v l') => tswap_any tb v l' k c wx hx (by omega) (by omega) (by omega)
          rw [hcI] at hls hsw
          have HLS := Lib.hid hls
          have HSW := Lib.hid hsw
          have HCI := Lib.hid hcI
          obtain ⟨b, hb⟩ : ∃ b, On.lt (og l' c) (og l' k) = b := ⟨_, rfl⟩
          rw [hb] at HLS HSTEP
          clear hls hsw hcI hb HCK hstep hc
          go_wp2_with fail
          refine (HLS.out _ HH2.out).mono ?_
          rintro y w3 ⟨rfl, hb3⟩
          have HH3 := Lib.hid (HH2.out.below hb3)
          have HO3 := Lib.hid (HO2.out.below' hb3)
          clear hb3
          cases b with
          | true =>
            go_wp2_with fail
            refine (HSW.out _ HH3.out).mono ?_
            rintro y w4 ⟨rfl, hh4, ho4⟩
            have HH4 := Lib.hid hh4
            have HO4 := Lib.hid (HO3.out.trans (ho4.mono fun b hb => .inl (HS.out.hz b hb)))
            clear hh4 ho4
            go_wp2_with fail
            go_roundw
            case rel =>
              obtain ⟨f'', e1, e2⟩ := HSTEP.out
              first | rw [if_pos rfl] at e2 | rw [if_pos trivial] at e2
              have h1 := HCK2.out
              have h2 := HNF.out
              exact ⟨f'', c, swp l' k c, by rw [HCI.out], by omega, by omega, by rw [swp_len]; omega, e2.symm, HS.out.trans (Same.swp l' k c (by omega) (by omega)), HH4.out, HO4.out⟩
            case measure =>
              have h1 := HCK2.out
              have h2 := HCI.out
              simp [intOf]
              omega
          | false =>
            have HE : Hid (R = (l', k)) := Lib.hid (by
              obtain ⟨f'', e1, e2⟩ := HSTEP.out
              rw [if_neg (by decide)] at e2
              exact e2)
            go_wp2_with fail
            go_ret
            exact ⟨by rw [HE.out]; rfl, by rw [HE.out]; exact HH3.out, HO3.out⟩
      · have hy : ¬ 2 * (k : Int) + 1 + 1 < (N : Int) := by omega
        have HH2 := HH
        have HO2 := HO
        have hcI : ((2 * k + 1 : Nat) : Int) = 2 * (k : Int) + 1 := by omega
        obtain ⟨c, hc⟩ : ∃ c : Nat, 2 * k + 1 = c := ⟨_, rfl⟩
        rw [hc] at hcI
        have HKD : Hid (hKid l' k N = c) := Lib.hid (by rw [← hc]; exact kid_one l' k N h2)
        obtain ⟨HCK, hstep⟩ := HST1.out c HKD.out
        have HCK2 := Lib.hid HCK
        have HSTEP := Lib.hid hstep
        have hls := fun wx (hx : HpAt wx tb v l') => tless_any tb v l' c k wx hx (by omega) (by omega)
        have hsw := fun wx (hx : HpAt wx tb v l') => tswap_any tb v l' k c wx hx (by omega) (by omega) (by omega)
        rw [hcI] at hls hsw
        have HLS := Lib.hid hls
        have HSW := Lib.hid hsw
        have HCI := Lib.hid hcI
        obtain ⟨b, hb⟩ : ∃ b, On.lt (og l' c) (og l' k) = b := ⟨_, rfl⟩
        rw [hb] at HLS HSTEP
        clear hls hsw hcI hb HCK hstep hc
        go_wp2_with fail
        refine (HLS.out _ HH2.out).mono ?_
        rintro y w3 ⟨rfl, hb3⟩
        have HH3 := Lib.hid (HH2.out.below hb3)
        have HO3 := Lib.hid (HO2.out.below' hb3)
        clear hb3
        cases b with
        | true =>
          go_wp2_with fail
          refine (HSW.out _ HH3.out).mono ?_
          rintro y w4 ⟨rfl, hh4, ho4⟩
          have HH4 := Lib.hid hh4
          have HO4 := Lib.hid (HO3.out.trans (ho4.mono fun b hb => .inl (HS.out.hz b hb)))
          clear hh4 ho4
          go_wp2_with fail
          go_roundw
          case rel =>
            obtain ⟨f'', e1, e2⟩ := HSTEP.out
            first | rw [if_pos rfl] at e2 | rw [if_pos trivial] at e2
            have h1 := HCK2.out
            have h2 := HNF.out
            exact ⟨f'', c, swp l' k c, by rw [HCI.out], by omega, by omega, by rw [swp_len]; omega, e2.symm, HS.out.trans (Same.swp l' k c (by omega) (by omega)), HH4.out, HO4.out⟩
          case measure =>
            have h1 := HCK2.out
            have h2 := HCI.out
            simp [intOf]
            omega
        | false =>
          have HE : Hid (R = (l', k)) := Lib.hid (by
            obtain ⟨f'', e1, e2⟩ := HSTEP.out
            rw [if_neg (by decide)] at e2
            exact e2)
          go_wp2_with fail
          go_ret
          exact ⟨by rw [HE.out]; rfl, by rw [HE.out]; exact HH3.out, HO3.out⟩
end Go.Proofs.YtnhocmmgdkiepaaDoor

/-
  container/heap over sched.turns: Push, Fix, Remove.
-/
namespace Go.Proofs.YtnhocmmgdkiepaaDoor
open Go.RowKit

set_option maxRecDepth 100000 in
set_option maxHeartbeats 6400000 in
theorem hpush_any (tb : Nat) (v : Value) (l : List On) (o : On) (p0 : Int) (w : World) (h : HpAt w tb v l) (ho : w.heap[o.blk]? = some (.cells (onCells o p0) 109 (0, 0))) (hne : ∀ j, j < l.length → (og l j).blk ≠ o.blk) (hm : l.length < 100) :
    Calls Tryd.prog 56 #[.iface 101 (.pointer (some ⟨tb, 0, none⟩)), .iface 107 (.pointer (some ⟨o.blk, 0, none⟩))] w fun e w' => e = .returned (.tuple #[]) ∧ ∃ v', HpAt w' tb v' (hPush l o) ∧ Only (fun b => b = tb ∨ hz v l b ∨ b = o.blk) w w' ∧ ∀ b, inRow v' b → inRow v b ∨ w.heap.size ≤ b := by
  have HP := Lib.hid (tpush_any tb v l o p0 w h ho hne hm)
  have hm1 := run_mLen tb
  have hm2 := run_mPush tb
  have hw := IntWalk.i64_in ((l.length : Int) + 1 - 1) (by omega)
  have HM := Lib.hid hm
  have HOL := Lib.hid (blk_lt ho)
  have HHH := Lib.hid h.lt
  clear h ho hne hm
  go_enter Tryd.func56, Tryd.ntmps56
  go_wp2_with fail
  refine HP.out.mono ?_
  rintro y w1 ⟨rfl, v', h1, ho1, hv1⟩
  have hll : (l ++ [o]).length = l.length + 1 := by simp
  have hln := tlen_any tb v' (l ++ [o]) w1 h1
  rw [hll] at hln
  have hc : ((l.length + 1 : Nat) : Int) = (l.length : Int) + 1 := by omega
  rw [hc] at hln
  have HLN := Lib.hid hln
  have hup := hup_any tb v' (l ++ [o]) l.length w1 h1 (by omega) (l.length + 1) (by omega)
  have HUP := Lib.hid hup
  have HO1 := Lib.hid ho1
  have HV1 := Lib.hid hv1
  have HSZ1 := Lib.hid ho1.size
  clear h1 ho1 hv1 hll hln hup hc
  have hw2 := IntWalk.i64_in (l.length : Int) (by have := HM.out; omega)
  go_wp2_with fail
  refine HLN.out.mono ?_
  rintro y w2 ⟨rfl, rfl⟩
  go_wp2_with fail
  refine HUP.out.mono ?_
  rintro y w3 ⟨rfl, h3, ho3⟩
  have HF : Hid (HpAt w3 tb v' (hPush l o) ∧ Only (fun b => b = tb ∨ hz v l b ∨ b = o.blk) w w3) := Lib.hid ⟨h3, (HO1.out.mono fun b hb => .inl (by
    rcases hb with hb | hb | hb
    · exact .inl hb
    · exact .inr (.inl (.inl hb))
    · exact .inr (.inr hb))).trans' ho3 fun b hb => by
    rcases hb with hb | ⟨j, hj, rfl⟩
    · rcases HV1.out b hb with h | h
      · exact .inl (.inr (.inl (.inl h)))
      · exact .inr h
    · rw [List.length_append] at hj
      by_cases hjl : j < l.length
      · rw [og_app _ _ _ hjl]
        exact .inl (.inr (.inl (.inr ⟨j, hjl, rfl⟩)))
      · have : j = l.length := by simp at hj; omega
        subst this
        rw [og_last]
        exact .inl (.inr (.inr rfl))⟩
  clear h3 ho3
  go_wp2_with fail
  go_end0
  exact ⟨rfl, v', HF.out.1, HF.out.2, HV1.out⟩
set_option maxRecDepth 100000 in
set_option maxHeartbeats 6400000 in
theorem hfix_any (tb : Nat) (v : Value) (l : List On) (i : Nat) (w : World) (h : HpAt w tb v l) (hi : i < l.length) :
    Calls Tryd.prog 57 #[.iface 101 (.pointer (some ⟨tb, 0, none⟩)), .int .i64 (i : Int)] w fun e w' => e = .returned (.tuple #[]) ∧ HpAt w' tb v (hFix l i l.length) ∧ Only (hz v l) w w' := by
  have HLN := Lib.hid (tlen_any tb v l w h)
  have HDN := Lib.hid (hdown_any tb v l i l.length w h hi (Nat.le_refl _) (l.length + 1) (by omega))
  have hsm := hDown_same (l.length + 1) l i l.length hi (Nat.le_refl _)
  have HUP := Lib.hid (fun wx (hx : HpAt wx tb v (hDown (l.length + 1) l i l.length).1) => hup_any tb v (hDown (l.length + 1) l i l.length).1 i wx hx (by rw [hsm.len]; exact hi) (l.length + 1) (by omega))
  have HSM := Lib.hid hsm
  have HR : Hid (hFix l i l.length = if i < (hDown (l.length + 1) l i l.length).2 then (hDown (l.length + 1) l i l.length).1 else hUp (l.length + 1) (hDown (l.length + 1) l i l.length).1 i) := Lib.hid rfl
  have hm1 := run_mLen tb
  obtain ⟨⟨D, d⟩, hD⟩ : ∃ D, hDown (l.length + 1) l i l.length = D := ⟨_, rfl⟩
  rw [hD] at HDN HUP HSM HR
  dsimp only at HDN HUP HSM HR
  rw [HR.out]
  clear h hi hsm hD HR
  by_cases hd : i < d
  · rw [if_pos hd]
    rw [decide_eq_true hd] at HDN
    clear hd
    go_enter Tryd.func57, Tryd.ntmps57
    go_wp2_with fail
    refine HLN.out.mono ?_
    rintro y w2 ⟨rfl, rfl⟩
    go_wp2_with fail
    refine HDN.out.mono ?_
    rintro y w3 ⟨rfl, h3, ho3⟩
    have HF := Lib.hid (And.intro h3 ho3)
    clear h3 ho3
    go_wp2_with fail
    go_end0
    exact ⟨rfl, HF.out⟩
  · rw [if_neg hd]
    rw [decide_eq_false hd] at HDN
    clear hd
    go_enter Tryd.func57, Tryd.ntmps57
    go_wp2_with fail
    refine HLN.out.mono ?_
    rintro y w2 ⟨rfl, rfl⟩
    go_wp2_with fail
    refine HDN.out.mono ?_
    rintro y w3 ⟨rfl, h3, ho3⟩
    have HU := Lib.hid (HUP.out _ h3)
    have HO3 := Lib.hid ho3
    clear h3 ho3
    go_wp2_with fail
    refine HU.out.mono ?_
    rintro y w4 ⟨rfl, h4, ho4⟩
    have HF := Lib.hid (And.intro h4 (HO3.out.trans (ho4.mono fun b hb => .inl (HSM.out.hz b hb))))
    clear h4 ho4
    go_wp2_with fail
    go_end0
    exact ⟨rfl, HF.out⟩
/-- the one at i goes; it is what comes back -/
def RemQ (tb : Nat) (v : Value) (l : List On) (i : Nat) (w : World) (e : Ending) (w' : World) : Prop := e = .returned (.iface 107 (.pointer (some ⟨(og l i).blk, 0, none⟩))) ∧ ∃ v', HpAt w' tb v' ((hRem l i).take (l.length - 1)) ∧ (∀ b, inRow v' b → inRow v b) ∧ w'.heap[(og l i).blk]? = some (.cells (onCells (og l i) ((l.length : Int) - 1)) 109 (0, 0)) ∧ Only (fun b => b = tb ∨ hz v l b) w w'
theorem rem_done {tb g cap n : Nat} {l : List On} {i : Nat} (hl : l.length = n + 1) (hi : i < l.length) {w w3 w4 : World} {e : Ending} (h3 : HpAt w3 tb (.slice (some ⟨g, 0, none⟩) (n + 1) cap) (hRem l i)) (ho3 : Only (hz (.slice (some ⟨g, 0, none⟩) (n + 1) cap) l) w w3)
    (he : e = .returned (.iface 107 (.pointer (some ⟨(og (hRem l i) n).blk, 0, none⟩)))) (h4 : HpAt w4 tb (.slice (some ⟨g, 0, none⟩) n cap) ((hRem l i).take n)) (ho4 : Only (fun b => b = tb) w3 w4) : RemQ tb (.slice (some ⟨g, 0, none⟩) (n + 1) cap) l i w e w4 := by
  have hlast := hRem_last l i hi
  have hs := hRem_same l i hi
  have e1 : l.length - 1 = n := by omega
  rw [e1] at hlast
  have ho := h3.ones n (by rw [hs.len]; omega)
  have hnt : (og (hRem l i) n).blk ≠ tb := one_ne_hdr h3 n (by rw [hs.len]; omega)
  refine ⟨by rw [he, hlast], .slice (some ⟨g, 0, none⟩) n cap, by rw [e1]; exact h4, fun b hb => hb, ?_, (ho3.mono fun b hb => .inl (.inr hb)).trans (ho4.mono fun b hb => .inl (.inl hb))⟩
  rw [hlast] at ho hnt
  have : ((l.length : Int) - 1) = (n : Int) := by omega
  rw [this]
  exact ho4.blk ho hnt
set_option maxRecDepth 100000 in
set_option maxHeartbeats 12800000 in
theorem hremove_any (tb : Nat) (v : Value) (l : List On) (i : Nat) (w : World) (h : HpAt w tb v l) (hi : i < l.length) :
    Calls Tryd.prog 59 #[.iface 101 (.pointer (some ⟨tb, 0, none⟩)), .int .i64 (i : Int)] w (RemQ tb v l i w) := by
  obtain ⟨g, cap, rfl⟩ := h.row (by omega)
  obtain ⟨n, hn⟩ : ∃ n, l.length = n + 1 := ⟨l.length - 1, by omega⟩
  have hln := tlen_any tb _ l w h
  have hmx := h.max
  rw [hn] at hln h hmx
  have HRD := Lib.hid (fun (w0 w3 w4 : World) (e : Ending) h3 ho3 he h4 ho4 => rem_done (tb := tb) (g := g) (cap := cap) (w := w0) (w3 := w3) (w4 := w4) (e := e) hn hi h3 ho3 he h4 ho4)
  have HPP : Hid (∀ wx, HpAt wx tb (.slice (some ⟨g, 0, none⟩) (n + 1) cap) (hRem l i) → Calls Tryd.prog 176 #[.pointer (some ⟨tb, 0, none⟩)] wx fun e w' => e = .returned (.iface 107 (.pointer (some ⟨(og (hRem l i) n).blk, 0, none⟩))) ∧ HpAt w' tb (.slice (some ⟨g, 0, none⟩) n cap) ((hRem l i).take n) ∧ Only (fun b => b = tb) wx w') := Lib.hid fun wx hx => tpop_any tb g cap n (hRem l i) (by rw [(hRem_same l i hi).len]; exact hn) wx hx
  have hc : ((n + 1 : Nat) : Int) = (n : Int) + 1 := by omega
  rw [hc] at hln
  have HLN := Lib.hid hln
  have hw := IntWalk.i64_in (n : Int) (by omega)
  have hm1 := run_mLen tb
  have hm2 := run_mSwap tb
  have hm3 := run_mPop tb
  have HZS : Hid (hz (.slice (some ⟨g, 0, none⟩) l.length cap) l = hz (.slice (some ⟨g, 0, none⟩) (n + 1) cap) l) := Lib.hid (by rw [hn])
  rw [hn]
  by_cases hni : n = i
  · have HRE : Hid (hRem l i = l) := Lib.hid (by unfold hRem; rw [if_pos (by omega)])
    have HH := Lib.hid h
    have hb : ((n : Int) != (i : Int)) = false := by simp; omega
    rw [HRE.out] at HPP HRD
    clear h hln hc hmx hni hi hn HRE
    go_enter Tryd.func59, Tryd.ntmps59
    go_wp2_with fail
    refine HLN.out.mono ?_
    rintro y w2 ⟨rfl, rfl⟩
    go_wp2_with fail
    refine (HPP.out _ HH.out).mono ?_
    rintro y w3 ⟨rfl, h3, ho3⟩
    have HF := Lib.hid (HRD.out _ _ _ _ HH.out (Only.refl _ w) rfl h3 ho3)
    clear h3 ho3
    go_wp2_with fail
    go_ret
    exact HF.out
  · have hb : ((n : Int) != (i : Int)) = true := by simp; omega
    have hin : i < n := by omega
    have hsw := fun wx (hx : HpAt wx tb (.slice (some ⟨g, 0, none⟩) (n + 1) cap) l) => tswap_any tb _ l i n wx hx hi (by omega) (by omega)
    have hsl : (swp l i n).length = n + 1 := by rw [swp_len]; exact hn
    have hdn := fun wx (hx : HpAt wx tb (.slice (some ⟨g, 0, none⟩) (n + 1) cap) (swp l i n)) => hdown_any tb _ (swp l i n) i n wx hx hin (by omega) (n + 1) (by omega)
    have hsm := hDown_same (n + 1) (swp l i n) i n (by omega) (by omega)
    have hup := fun wx (hx : HpAt wx tb (.slice (some ⟨g, 0, none⟩) (n + 1) cap) (hDown (n + 1) (swp l i n) i n).1) => hup_any tb _ (hDown (n + 1) (swp l i n) i n).1 i wx hx (by rw [hsm.len]; omega) (n + 1) (by omega)
    have hre : hRem l i = hFix (swp l i n) i n := by unfold hRem; rw [if_neg (by omega), show l.length - 1 = n by omega]
    have HSW := Lib.hid hsw
    have HDN := Lib.hid hdn
    have HUP := Lib.hid hup
    have hs1 := Same.swp l i n hi (by omega)
    have hs2 := hs1.trans hsm
    have HS1 := Lib.hid hs1
    have HS2 := Lib.hid hs2
    have HH := Lib.hid h
    unfold hFix at hre
    obtain ⟨⟨D, d⟩, hD⟩ : ∃ D, hDown (n + 1) (swp l i n) i n = D := ⟨_, rfl⟩
    rw [hD] at HDN HUP HS2 hre
    dsimp only at HDN HUP HS2 hre
    obtain ⟨S1, hS1⟩ : ∃ S1, swp l i n = S1 := ⟨_, rfl⟩
    rw [hS1] at HSW HDN HS1
    clear h hln hc hmx hni hi hn hin hsw hsl hdn hsm hup hs1 hs2 hD hS1
    by_cases hd : i < d
    · rw [if_pos hd] at hre
      rw [hre] at HPP HRD
      have HDD : Hid (decide (i < d) = true) := Lib.hid (decide_eq_true hd)
      rw [HDD.out] at HDN
      clear hd hre
      go_enter Tryd.func59, Tryd.ntmps59
      go_wp2_with fail
      refine HLN.out.mono ?_
      rintro y w2 ⟨rfl, rfl⟩
      go_wp2_with fail
      refine (HSW.out _ HH.out).mono ?_
      rintro y w3 ⟨rfl, h3, ho3⟩
      have HD3 := Lib.hid (HDN.out _ h3)
      have HO3 := Lib.hid ho3
      clear h3 ho3
      go_wp2_with fail
      refine HD3.out.mono ?_
      rintro y w4 ⟨rfl, h4, ho4⟩
      have HP4 := Lib.hid (HPP.out _ h4)
      have HH4 := Lib.hid h4
      have HO4 := Lib.hid (HO3.out.trans (ho4.mono fun b hb => .inl (HS1.out.hz b hb)))
      clear h4 ho4
      go_wp2_with fail
      refine HP4.out.mono ?_
      rintro y w5 ⟨rfl, h5, ho5⟩
      have HF := Lib.hid (HRD.out _ _ _ _ HH4.out HO4.out rfl h5 ho5)
      clear h5 ho5
      go_wp2_with fail
      go_ret
      exact HF.out
    · rw [if_neg hd] at hre
      rw [hre] at HPP HRD
      have HDD : Hid (decide (i < d) = false) := Lib.hid (decide_eq_false hd)
      rw [HDD.out] at HDN
      clear hd hre
      go_enter Tryd.func59, Tryd.ntmps59
      go_wp2_with fail
      refine HLN.out.mono ?_
      rintro y w2 ⟨rfl, rfl⟩
      go_wp2_with fail
      refine (HSW.out _ HH.out).mono ?_
      rintro y w3 ⟨rfl, h3, ho3⟩
      have HD3 := Lib.hid (HDN.out _ h3)
      have HO3 := Lib.hid ho3
      clear h3 ho3
      go_wp2_with fail
      refine HD3.out.mono ?_
      rintro y w4 ⟨rfl, h4, ho4⟩
      have HU4 := Lib.hid (HUP.out _ h4)
      have HO4 := Lib.hid (HO3.out.trans (ho4.mono fun b hb => .inl (HS1.out.hz b hb)))
      clear h4 ho4
      go_wp2_with fail
      refine HU4.out.mono ?_
      rintro y w5 ⟨rfl, h5, ho5⟩
      have HP5 := Lib.hid (HPP.out _ h5)
      have HH5 := Lib.hid h5
      have HO5 := Lib.hid (HO4.out.trans (ho5.mono fun b hb => .inl (HS2.out.hz b hb)))
      clear h5 ho5
      go_wp2_with fail
      refine HP5.out.mono ?_
      rintro y w6 ⟨rfl, h6, ho6⟩
      have HF := Lib.hid (HRD.out _ _ _ _ HH5.out HO5.out rfl h6 ho6)
      clear h6 ho6
      go_wp2_with fail
      go_ret
      exact HF.out
end Go.Proofs.YtnhocmmgdkiepaaDoor

/-
  The scheduler's map: from a guest's number to where it lies.
-/
namespace Go.Proofs.YtnhocmmgdkiepaaDoor
open Go.RowKit Go.Maps

def optPtr : Option Nat → Value
  | none => .pointer none
  | some b => .pointer (some ⟨b, 0, none⟩)
def pd : Option Nat → DataW Unit
  | none => .nil
  | some b => .lit (.int .i64 (b : Int))
def pR (v : Value) : Option (DataW Unit × List MemPlace) := match v with
  | .pointer none => some (.nil, [])
  | .pointer (some ⟨b, 0, none⟩) => some (.lit (.int .i64 (b : Int)), [])
  | _ => none
theorem pR_mk (o : Option Nat) : pR (optPtr o) = some (pd o, []) := by cases o <;> rfl
theorem pd_inj {a b : Option Nat} (h : pd a = pd b) : a = b := by
  cases a <;> cases b
  · rfl
  · cases h
  · cases h
  · simp only [pd, DataW.lit.injEq, Lit.int.injEq] at h
    rw [Int.ofNat_inj.1 h.2]
theorem pR_inv {v : Value} {y : DataW Unit × List MemPlace} (h : pR v = some y) : ∃ o, v = optPtr o ∧ y = (pd o, []) := by
  unfold pR at h
  split at h
  · exact ⟨none, rfl, (Option.some.inj h).symm⟩
  · rename_i b
    exact ⟨some b, rfl, (Option.some.inj h).symm⟩
  · cases h
def kw (x : Int) : Prop := (Lit.int .i64 x).wf = true
theorem kw_of {x : Int} (h : -9223372036854775808 ≤ x ∧ x ≤ 9223372036854775807) : kw x := by
  unfold kw
  simp [Lit.wf, IntKind.min, IntKind.max, IntKind.signed, IntKind.bits]
  omega
theorem keyI : Keyed Tryd.prog 3 := int_keyed Tryd.underlying3
theorem keyOfI {x : Int} (h : kw x) : keyOf Tryd.prog 3 (.int .i64 x) = some (.int .i64 x) := keyOf_int_mk Tryd.underlying3 h
theorem isKeyI {x : Int} (h : kw x) : WideAt.IsKeyLit (.int .i64 x) := keyI.key (keyOfI h)
/-- what a datum says of each number -/
def DIs (D : DataW Unit) (F : Int → Option Nat) : Prop := ∀ x, kw x → D.atKey (.int .i64 x) .nil = pd (F x) ∧ Maps.has D (.int .i64 x) = (F x).isSome
def MpAt (w : World) (mb n : Nat) (F : Int → Option Nat) : Prop := ∃ D, w.ownsMap Tryd.prog 3 pR mb n D ∧ DIs D F
theorem MpAt.keep {G : Nat → Prop} {w w' : World} {mb n : Nat} {F : Int → Option Nat} (h : MpAt w mb n F) (ho : Only G w w') (hb : ¬ G mb) : MpAt w' mb n F := by
  obtain ⟨D, ⟨es, clock, hh, r⟩, hd⟩ := h
  exact ⟨D, ⟨es, clock, ho.blk hh hb, r⟩, hd⟩
theorem MpAt.lt {w : World} {mb n : Nat} {F : Int → Option Nat} (h : MpAt w mb n F) : mb < w.heap.size := by
  obtain ⟨D, hm, -⟩ := h
  exact hm.lt
theorem mp_new (w : World) : MpAt (w.alloc (.map #[] 0)) w.heap.size 0 (fun _ => none) :=
  ⟨.map [], World.ownsMap_made w _ _ _, fun _ _ => ⟨rfl, rfl⟩⟩
theorem zeroP (w : World) : (zeroValue 107).run Tryd.prog w = .ok (.pointer none) w := by kernel_rfl
theorem mp_look {w : World} {mb n : Nat} {F : Int → Option Nat} (h : MpAt w mb n F) (x : Int) (hx : kw x) : (Instr.lookup 100 (.map (some mb)) (.int .i64 x) false).run Tryd.prog w = .ok (optPtr (F x)) w := by
  obtain ⟨D, hm, hd⟩ := h
  obtain ⟨v, ps, hrun, hv⟩ := hm.lookup keyI Tryd.underlying100 (zeroP w) (pR_mk none) (keyOfI hx)
  obtain ⟨o, rfl, hy⟩ := pR_inv hv
  have h1 := (hd x hx).1
  have h2 : D.atKey (.int .i64 x) .nil = pd o := (Prod.mk.inj hy).1
  rw [h1] at h2
  rw [hrun, pd_inj h2]
theorem ne_key {x y : Int} (h : y ≠ x) : (Lit.int .i64 y) ≠ (Lit.int .i64 x) := fun e => h (by injection e)
theorem dis_put {D : DataW Unit} {F : Int → Option Nat} (hD : IsMap D) (h : DIs D F) (x : Int) (hx : kw x) (b : Nat) : DIs (D.put (.int .i64 x) (pd (some b))) (fun z => if z = x then some b else F z) := fun y hy => by
  dsimp only
  by_cases e : y = x
  · subst e
    rw [if_pos rfl, atKey_put_same hD (isKeyI hx), has_put_same hD (isKeyI hx)]
    exact ⟨rfl, rfl⟩
  · rw [if_neg e, atKey_put_other (ne_key e), has_put_other (ne_key e)]
    exact h y hy
theorem dis_del {D : DataW Unit} {F : Int → Option Nat} (h : DIs D F) (x : Int) : DIs (D.del (.int .i64 x)) (fun z => if z = x then none else F z) := fun y hy => by
  dsimp only
  by_cases e : y = x
  · subst e
    rw [if_pos rfl, atKey_del_same, has_del_same]
    exact ⟨rfl, rfl⟩
  · rw [if_neg e, atKey_del_other (ne_key e), has_del_other (ne_key e)]
    exact h y hy
theorem only_grown {F : Nat → Prop} {w w' : World} {r : Nat} (h : w.grownBy w' (some r)) (hr : F r) : Only F w w' :=
  Only.grown (Only.refl F w) h (fun k hk => .inl (by
    have : r = k := by simpa using hk
    exact this ▸ hr))
theorem mp_put {w : World} {mb n : Nat} {F : Int → Option Nat} (h : MpAt w mb n F) (hn : n < maxLen) (x : Int) (hx : kw x) (b : Nat) : ∃ w', (Instr.mapUpdate 100 (.map (some mb)) (.int .i64 x) (.pointer (some ⟨b, 0, none⟩))).run Tryd.prog w = .ok () w' ∧ MpAt w' mb (n + 1) (fun z => if z = x then some b else F z) ∧ Only (fun k => k = mb) w w' := by
  obtain ⟨D, hm, hd⟩ := h
  obtain ⟨w', hrun, hm', hg⟩ := hm.update keyI Tryd.underlying100 hn (keyOfI hx) (pR_mk (some b))
  exact ⟨w', hrun, ⟨_, hm', dis_put hm.isMap hd x hx b⟩, only_grown hg rfl⟩
theorem mp_del {w : World} {mb n : Nat} {F : Int → Option Nat} (h : MpAt w mb n F) (x : Int) (hx : kw x) (ty : TypeId) : ∃ w', (Builtin.delete_ #[100, 3] ty #[.map (some mb), .int .i64 x]).run Tryd.prog w = .ok (.tuple #[]) w' ∧ MpAt w' mb n (fun z => if z = x then none else F z) ∧ Only (fun k => k = mb) w w' := by
  obtain ⟨D, hm, hd⟩ := h
  obtain ⟨w', hrun, hm', hg⟩ := hm.drop keyI Tryd.underlying100 (keyOfI hx) ty
  exact ⟨w', hrun, ⟨_, hm', dis_del hd x⟩, only_grown hg.grown rfl⟩
/-- 'range' under way -/
def MpR (w : World) (mb r n : Nat) (F : Int → Option Nat) (left : Int → Bool) (cnt : Nat) : Prop := ∃ D lf, w.ranges Tryd.prog 3 pR mb r n D lf cnt ∧ DIs D F ∧ ∀ x, kw x → lf (.int .i64 x) = left x
theorem MpR.cnt_eq {w : World} {mb r n : Nat} {F : Int → Option Nat} {left : Int → Bool} {cnt : Nat} (h : MpR w mb r n F left cnt) : w.rangeLeft mb r = cnt := by
  obtain ⟨D, lf, h1, -⟩ := h
  exact h1.left_eq
theorem MpR.keep {G : Nat → Prop} {w w' : World} {mb r n : Nat} {F : Int → Option Nat} {left : Int → Bool} {cnt : Nat} (h : MpR w mb r n F left cnt) (ho : Only G w w') (hb : ¬ G mb) (hr : ¬ G r) : MpR w' mb r n F left cnt := by
  obtain ⟨D, lf, ⟨es, clock, since, seen, c0, q1, q2, q3, q4, q5, rest⟩, hd, hl⟩ := h
  exact ⟨D, lf, ⟨es, clock, since, seen, c0, ho.blk q1 hb, q2, q3, q4, ho.blk q5 hr, rest⟩, hd, hl⟩
theorem MpR.map {w : World} {mb r n : Nat} {F : Int → Option Nat} {left : Int → Bool} {cnt : Nat} (h : MpR w mb r n F left cnt) : MpAt w mb n F := by
  obtain ⟨D, lf, h1, hd, -⟩ := h
  exact ⟨D, h1.owns, hd⟩
theorem same_key (z x : Int) : (Lit.int .i64 z).sameKey (.int .i64 x) = (z == x) := by
  by_cases h : z = x
  · subst h; simp [Lit.sameKey]
  · simp [Lit.sameKey, h]
section
variable (w : World) {ops : Array Oper} {rest : List Oper} {o : Oper} {a : Act} {Q : Exit → Act → World → Prop}
theorem wp_range_mp (hg : o.guard = none) (m : Operand) (hop : o.op = Op.range 100 m) (mb n : Nat) (F : Int → Option Nat) (hm : a.eval m = .map (some mb)) (h : MpAt w mb n F)
    (hK : ∀ w' cnt, MpR w' mb w.heap.size n F (fun x => (F x).isSome) cnt → Only (fun _ => False) w w' → w'.heap.size = w.heap.size + 1 → wpList Tryd.prog ops Q rest (a.put o.dst (.pointer (some ⟨w.heap.size, 0, none⟩))) w') :
    wpList Tryd.prog ops Q (o :: rest) a w := by
  obtain ⟨D, hown, hd⟩ := h
  exact wpList_range_own w hg m _ hop _ _ keyI Tryd.underlying100 pR mb n D hm hown fun w' h1 h2 h3 =>
    hK w' _ ⟨D, Maps.has D, h1, hd, fun x hx => (hd x hx).2⟩ ⟨h2.os, h2.tape, h2.output, h2.size, fun k hk _ => h2.block k hk (by simp)⟩ h3
theorem wp_next_mp (hg : o.guard = none) (it : Operand) (hop : o.op = Op.next it false) (mb r n : Nat) (F : Int → Option Nat) (left : Int → Bool) (cnt : Nat) (hit : a.eval it = .pointer (some ⟨r, 0, none⟩)) (h : MpR w mb r n F left cnt)
    (hDone : (∀ x, kw x → left x = false) → wpList Tryd.prog ops Q rest (a.put o.dst (.tuple #[.bool false])) w)
    (hMore : ∀ (x : Int) (b : Nat) (w' : World) (cnt' : Nat), kw x → left x = true → F x = some b → MpR w' mb r n F (fun z => left z && !(z == x)) cnt' → cnt' < cnt → Only (fun k => k = r) w w' → w'.heap.size = w.heap.size →
      (Instr.entry (.pointer (some ⟨r, 0, none⟩))).run Tryd.prog w' = .ok (.tuple #[.int .i64 x, .pointer (some ⟨b, 0, none⟩)]) w' → wpList Tryd.prog ops Q rest (a.put o.dst (.tuple #[.bool true, .int .i64 x, .pointer (some ⟨b, 0, none⟩)])) w') :
    wpList Tryd.prog ops Q (o :: rest) a w := by
  obtain ⟨D, lf, hr, hd, hl⟩ := h
  refine wpList_next_ranges w hg it hop 3 keyI pR (Value.int .i64) optPtr (fun key kl hk => by obtain ⟨x, rfl, -⟩ := keyOf_int_inv Tryd.underlying3 hk; exact ⟨x, rfl⟩) (fun v y hv => by obtain ⟨q, rfl, -⟩ := pR_inv hv; exact ⟨q, rfl⟩) mb r n D lf cnt hit hr (fun _ hf => hDone fun x hx => by rw [← hl x hx]; exact hf _) ?_
  intro x c kl y w' cnt' hkey hlk hv hat hrg hlt hgr hsz hen
  obtain ⟨x', ex, rfl, hwx⟩ := keyOf_int_inv Tryd.underlying3 hkey
  cases ex
  have hx : kw x := hwx
  obtain ⟨q, eq, rfl⟩ := pR_inv hv
  have hq : q = c := by cases q <;> cases c <;> simp_all [optPtr]
  subst hq
  have h1 := (hd x hx).1
  rw [hat .nil] at h1
  have hF : F x = q := pd_inj h1.symm
  have hs := has_true_of_atKey hat
  rw [(hd x hx).2, hF] at hs
  cases q with
  | none => cases hs
  | some b =>
    refine hMore x b w' cnt' hx (by rw [← hl x hx]; exact hlk) hF ⟨D, _, hrg, hd, fun z hz => ?_⟩ hlt (only_grown hgr rfl) hsz hen
    rw [hl z hz, same_key]
end
end Go.Proofs.YtnhocmmgdkiepaaDoor

/-
  sched.Sched: where it lies, what it says.
-/
namespace Go.Proofs.YtnhocmmgdkiepaaDoor
open Go.RowKit

/-- what is known of somebody -/
structure Gu where
  wt : Int
  us : Int
  sl : Bool
  un : Int
def On.gu (o : On) : Gu := ⟨o.wt, o.us, o.sl, o.un⟩
def InS (R A : List On) (o : On) : Prop := (∃ i, i < R.length ∧ og R i = o) ∨ (∃ i, i < A.length ∧ og A i = o)
def onOk (o : On) : Prop := (0 ≤ o.id ∧ o.id < 8) ∧ (1 ≤ o.wt ∧ o.wt ≤ 100) ∧ (0 ≤ o.us ∧ o.us ≤ 1152921504606846976) ∧ -9223372036854775808 ≤ o.un ∧ o.un ≤ 9223372036854775807
structure Sl where
  sb : Nat
  mb : Nat
  rb : Nat
  ab : Nat
  rv : Value
  av : Value
/-- the memory of it -/
structure ScMem (w : World) (p : Sl) (m : Nat) (F : Int → Option Nat) (R A : List On) : Prop where
  row : w.heap[p.sb]? = some (.cells #[.map (some p.mb), .pointer (some ⟨p.rb, 0, none⟩), .pointer (some ⟨p.ab, 0, none⟩)] 106 (0, 0))
  map : MpAt w p.mb m F
  rd : HpAt w p.rb p.rv R
  sd : HpAt w p.ab p.av A
  rne : p.rb ≠ p.ab
  rows : ∀ b, inRow p.rv b → ¬ inRow p.av b
  ones : ∀ i j, i < R.length → j < A.length → (og R i).blk ≠ (og A j).blk
/-- what is written -/
def scz (p : Sl) (R A : List On) (b : Nat) : Prop := b = p.mb ∨ b = p.rb ∨ b = p.ab ∨ hz p.rv R b ∨ hz p.av A b
theorem HpAt.ty {w : World} {tb : Nat} {v : Value} {l : List On} (h : HpAt w tb v l) (b : Nat) (hb : hz v l b) : (∃ cur, w.heap[b]? = some (.cells cur 107 (0, 0))) ∨ ∃ cs, w.heap[b]? = some (.cells cs 109 (0, 0)) := by
  rcases hb with hb | ⟨j, hj, rfl⟩
  · exact .inl (own_type h.own hb)
  · exact .inr ⟨_, h.ones j hj⟩
theorem MpAt.ty {w : World} {mb n : Nat} {F : Int → Option Nat} (h : MpAt w mb n F) : ∃ es clock, w.heap[mb]? = some (.map es clock) := by
  obtain ⟨D, ⟨es, clock, hh, -⟩, -⟩ := h
  exact ⟨es, clock, hh⟩
theorem cells_ne {w : World} {a b : Nat} {x y : Array Value} {s t : TypeId} (ha : w.heap[a]? = some (.cells x s (0, 0))) (hb : w.heap[b]? = some (.cells y t (0, 0))) (h : s ≠ t) : a ≠ b := fun e => by
  rw [e, hb] at ha
  simp only [Option.some.injEq, Obj.cells.injEq] at ha
  exact h ha.2.1.symm
theorem map_ne {w : World} {a b : Nat} {es : Array MapEntry} {c : Nat} {y : Array Value} {t : TypeId} (ha : w.heap[a]? = some (.map es c)) (hb : w.heap[b]? = some (.cells y t (0, 0))) : a ≠ b := fun e => by
  rw [e, hb] at ha
  cases ha
theorem hz_ne {w : World} {tb b c : Nat} {v : Value} {l : List On} (h : HpAt w tb v l) (hb : hz v l b) {x : Array Value} {t : TypeId} (hc : w.heap[c]? = some (.cells x t (0, 0))) (h1 : t ≠ 107) (h2 : t ≠ 109) : b ≠ c := by
  rcases h.ty b hb with ⟨cur, hh⟩ | ⟨cs, hh⟩
  · exact cells_ne hh hc h1.symm
  · exact cells_ne hh hc h2.symm
theorem hz_map {w : World} {tb b mb n : Nat} {v : Value} {l : List On} {F : Int → Option Nat} (h : HpAt w tb v l) (hb : hz v l b) (hm : MpAt w mb n F) : b ≠ mb := by
  obtain ⟨es, clock, hh⟩ := hm.ty
  rcases h.ty b hb with ⟨cur, h1⟩ | ⟨cs, h1⟩
  · exact (map_ne hh h1).symm
  · exact (map_ne hh h1).symm
theorem one_row {w : World} {tb b : Nat} {v : Value} {l : List On} (h : HpAt w tb v l) (hb : inRow v b) {x : Array Value} (hc : w.heap[b]? = some (.cells x 109 (0, 0))) : False := by
  obtain ⟨cur, hh⟩ := own_type h.own hb
  exact absurd rfl (cells_ne hh hc (by decide))
theorem ScMem.hz_apart {w : World} {p : Sl} {m : Nat} {F : Int → Option Nat} {R A : List On} (h : ScMem w p m F R A) (b : Nat) (h1 : hz p.rv R b) : ¬ hz p.av A b := fun h2 => by
  rcases h1 with h1 | ⟨i, hi, rfl⟩
  · rcases h2 with h2 | ⟨j, hj, rfl⟩
    · exact h.rows b h1 h2
    · exact one_row h.rd h1 (h.sd.ones j hj)
  · rcases h2 with h2 | ⟨j, hj, e⟩
    · exact one_row h.sd h2 (h.rd.ones i hi)
    · exact h.ones i j hi hj e
theorem ScMem.below {w w' : World} {p : Sl} {m : Nat} {F : Int → Option Nat} {R A : List On} (h : ScMem w p m F R A) (hb : Below w.heap.size w w') : ScMem w' p m F R A :=
  ⟨blk_below h.row hb (blk_lt h.row), h.map.keep (G := fun _ => False) (Only.of_below hb) (fun h => h), h.rd.below hb, h.sd.below hb, h.rne, h.rows, h.ones⟩
theorem ScMem.keep {G : Nat → Prop} {w w' : World} {p : Sl} {m : Nat} {F : Int → Option Nat} {R A : List On} (h : ScMem w p m F R A) (ho : Only G w w') (h0 : ¬ G p.sb) (h1 : ∀ b, scz p R A b → ¬ G b) : ScMem w' p m F R A :=
  ⟨ho.blk h.row h0, h.map.keep ho (h1 _ (.inl rfl)), h.rd.keep ho (h1 _ (.inr (.inl rfl))) (fun b hb => h1 b (.inr (.inr (.inr (.inl hb))))), h.sd.keep ho (h1 _ (.inr (.inr (.inl rfl)))) (fun b hb => h1 b (.inr (.inr (.inr (.inr hb))))), h.rne, h.rows, h.ones⟩
theorem ScMem.lt {w : World} {p : Sl} {m : Nat} {F : Int → Option Nat} {R A : List On} (h : ScMem w p m F R A) : p.sb < w.heap.size ∧ ∀ b, scz p R A b → b < w.heap.size :=
  ⟨blk_lt h.row, fun b hb => by
    rcases hb with rfl | rfl | rfl | hb | hb
    · exact h.map.lt
    · exact h.rd.lt.1
    · exact h.sd.lt.1
    · exact h.rd.lt.2 b hb
    · exact h.sd.lt.2 b hb⟩
/-- the map alone turns -/
theorem ScMem.mapOp {w w' : World} {p : Sl} {m m' : Nat} {F F' : Int → Option Nat} {R A : List On} (h : ScMem w p m F R A) (hm : MpAt w' p.mb m' F') (ho : Only (fun k => k = p.mb) w w') : ScMem w' p m' F' R A := by
  obtain ⟨es, clock, hh⟩ := h.map.ty
  exact ⟨ho.blk h.row (map_ne hh h.row).symm, hm, h.rd.keep ho (map_ne hh h.rd.hdr).symm (fun b hb => hz_map h.rd hb h.map), h.sd.keep ho (map_ne hh h.sd.hdr).symm (fun b hb => hz_map h.sd hb h.map), h.rne, h.rows, h.ones⟩
/-- those that are ready turn; X: somebody beside them -/
theorem ScMem.opR {X : Nat → Prop} {w w' : World} {p : Sl} {m : Nat} {F : Int → Option Nat} {R A R' : List On} {v' : Value} (h : ScMem w p m F R A) (h' : HpAt w' p.rb v' R') (ho : Only (fun b => b = p.rb ∨ hz p.rv R b ∨ X b) w w')
    (hX : ∀ b, X b → (∃ cs, w.heap[b]? = some (.cells cs 109 (0, 0))) ∧ ∀ j, j < A.length → (og A j).blk ≠ b) (hrow : ∀ b, inRow v' b → inRow p.rv b ∨ w.heap.size ≤ b) (hone : ∀ i j, i < R'.length → j < A.length → (og R' i).blk ≠ (og A j).blk) : ScMem w' { p with rv := v' } m F R' A := by
  obtain ⟨es, clock, hh⟩ := h.map.ty
  have nX : ∀ b, X b → ¬ hz p.av A b := fun b hb h2 => by
    obtain ⟨⟨cs, hc⟩, hx⟩ := hX b hb
    rcases h2 with h2 | ⟨j, hj, e⟩
    · exact one_row h.sd h2 hc
    · exact hx j hj e.symm
  refine ⟨ho.blk h.row (fun e => ?_), h.map.keep ho (fun e => ?_), h', h.sd.keep ho (fun e => by
      rcases e with e | e | e
      · exact h.rne e.symm
      · exact hz_ne h.rd e h.sd.hdr (by decide) (by decide) rfl
      · obtain ⟨⟨cs, hc⟩, -⟩ := hX _ e
        exact cells_ne h.sd.hdr hc (by decide) rfl) (fun b hb e => by
      rcases e with e | e | e
      · exact hz_ne h.sd hb h.rd.hdr (by decide) (by decide) e
      · exact h.hz_apart b e hb
      · exact nX b e hb), h.rne, fun b h1 h2 => ?_, fun i j hi hj => ?_⟩
  · rcases e with e | e | e
    · exact absurd e (cells_ne h.row h.rd.hdr (by decide))
    · exact hz_ne h.rd e h.row (by decide) (by decide) rfl
    · obtain ⟨⟨cs, hc⟩, -⟩ := hX _ e
      exact cells_ne h.row hc (by decide) rfl
  · rcases e with e | e | e
    · exact map_ne hh h.rd.hdr e
    · exact hz_map h.rd e h.map rfl
    · obtain ⟨⟨cs, hc⟩, -⟩ := hX _ e
      exact map_ne hh hc rfl
  · rcases hrow b h1 with h3 | h3
    · exact h.rows b h3 h2
    · have := h.sd.lt.2 b (.inl h2); omega
  · exact hone i j hi hj
/-- those that are asleep turn; X: somebody beside them -/
theorem ScMem.opA {X : Nat → Prop} {w w' : World} {p : Sl} {m : Nat} {F : Int → Option Nat} {R A R' : List On} {v' : Value} (h : ScMem w p m F A R) (h' : HpAt w' p.ab v' R') (ho : Only (fun b => b = p.ab ∨ hz p.av R b ∨ X b) w w')
    (hX : ∀ b, X b → (∃ cs, w.heap[b]? = some (.cells cs 109 (0, 0))) ∧ ∀ j, j < A.length → (og A j).blk ≠ b) (hrow : ∀ b, inRow v' b → inRow p.av b ∨ w.heap.size ≤ b) (hone : ∀ i j, i < R'.length → j < A.length → (og R' i).blk ≠ (og A j).blk) : ScMem w' { p with av := v' } m F A R' := by
  obtain ⟨es, clock, hh⟩ := h.map.ty
  have nX : ∀ b, X b → ¬ hz p.rv A b := fun b hb h2 => by
    obtain ⟨⟨cs, hc⟩, hx⟩ := hX b hb
    rcases h2 with h2 | ⟨j, hj, e⟩
    · exact one_row h.rd h2 hc
    · exact hx j hj e.symm
  refine ⟨ho.blk h.row (fun e => ?_), h.map.keep ho (fun e => ?_), h.rd.keep ho (fun e => by
      rcases e with e | e | e
      · exact h.rne e
      · exact hz_ne h.sd e h.rd.hdr (by decide) (by decide) rfl
      · obtain ⟨⟨cs, hc⟩, -⟩ := hX _ e
        exact cells_ne h.rd.hdr hc (by decide) rfl) (fun b hb e => by
      rcases e with e | e | e
      · exact hz_ne h.rd hb h.sd.hdr (by decide) (by decide) e
      · exact h.hz_apart b hb e
      · exact nX b e hb), h', h.rne, fun b h1 h2 => ?_, fun i j hi hj => ?_⟩
  · rcases e with e | e | e
    · exact absurd e (cells_ne h.row h.sd.hdr (by decide))
    · exact hz_ne h.sd e h.row (by decide) (by decide) rfl
    · obtain ⟨⟨cs, hc⟩, -⟩ := hX _ e
      exact cells_ne h.row hc (by decide) rfl
  · rcases e with e | e | e
    · exact map_ne hh h.sd.hdr e
    · exact hz_map h.sd e h.map rfl
    · obtain ⟨⟨cs, hc⟩, -⟩ := hX _ e
      exact map_ne hh hc rfl
  · rcases hrow b h2 with h3 | h3
    · exact h.rows b h1 h3
    · have := h.rd.lt.2 b (.inl h1); omega
  · exact fun e => hone j i hj hi e.symm
/-- what its lists say of each other -/
structure ScP (m : Nat) (F : Int → Option Nat) (R A : List On) : Prop where
  ids : ∀ o, InS R A o → onOk o
  f1 : ∀ o, InS R A o → F o.id = some o.blk
  f2 : ∀ x b, kw x → F x = some b → ∃ o, InS R A o ∧ o.id = x ∧ o.blk = b
  sr : AllSl false R
  sa : AllSl true A
  hr : Hp R R.length
  ha : Hp A A.length
  cnt : R.length + A.length ≤ m
  m100 : m ≤ 100
theorem InS.r {R A : List On} {i : Nat} (h : i < R.length) : InS R A (og R i) := .inl ⟨i, h, rfl⟩
theorem InS.a {R A : List On} {i : Nat} (h : i < A.length) : InS R A (og A i) := .inr ⟨i, h, rfl⟩
theorem sc_inj {w : World} {p : Sl} {m : Nat} {F : Int → Option Nat} {R A : List On} (h : ScMem w p m F R A) (hp : ScP m F R A) {o o' : On} (h1 : InS R A o) (h2 : InS R A o') (he : o.id = o'.id) : o = o' := by
  have hb : o.blk = o'.blk := by
    have e1 := hp.f1 o h1
    have e2 := hp.f1 o' h2
    rw [he, e2] at e1
    exact (Option.some.inj e1).symm
  rcases h1 with ⟨i, hi, rfl⟩ | ⟨i, hi, rfl⟩
  · rcases h2 with ⟨j, hj, rfl⟩ | ⟨j, hj, rfl⟩
    · rw [h.rd.nd i j hi hj hb]
    · exact absurd hb (h.ones i j hi hj)
  · rcases h2 with ⟨j, hj, rfl⟩ | ⟨j, hj, rfl⟩
    · exact absurd hb.symm (h.ones j i hj hi)
    · rw [h.sd.nd i j hi hj hb]
/-- what it says of each number -/
structure ScS (R A : List On) (st : Int → Option Gu) : Prop where
  s1 : ∀ o, InS R A o → st o.id = some o.gu
  s2 : ∀ x g, st x = some g → ∃ o, InS R A o ∧ o.id = x
/-- a scheduler: its header in block sb, all that it writes in Z -/
def ScAt (w : World) (Z : Nat → Prop) (sb m : Nat) (st : Int → Option Gu) : Prop := ∃ p F R A, p.sb = sb ∧ ScMem w p m F R A ∧ ScP m F R A ∧ ScS R A st ∧ ∀ b, scz p R A b → Z b
theorem ScAt.keep {G Z : Nat → Prop} {w w' : World} {sb m : Nat} {st : Int → Option Gu} (h : ScAt w Z sb m st) (ho : Only G w w') (h0 : ¬ G sb) (h1 : ∀ b, Z b → b < w.heap.size → ¬ G b) : ScAt w' Z sb m st := by
  obtain ⟨p, F, R, A, rfl, hm, hp, hs, hz⟩ := h
  exact ⟨p, F, R, A, rfl, hm.keep ho h0 (fun b hb => h1 b (hz b hb) (hm.lt.2 b hb)), hp, hs, hz⟩
theorem ScAt.below {Z : Nat → Prop} {w w' : World} {sb m : Nat} {st : Int → Option Gu} (h : ScAt w Z sb m st) (hb : Below w.heap.size w w') : ScAt w' Z sb m st :=
  h.keep (G := fun _ => False) (Only.of_below hb) (fun h => h) (fun _ _ _ h => h)
theorem ScAt.mono {Z Z' : Nat → Prop} {w : World} {sb m : Nat} {st : Int → Option Gu} (h : ScAt w Z sb m st) (hz : ∀ b, b < w.heap.size → Z b → Z' b) : ScAt w Z' sb m st := by
  obtain ⟨p, F, R, A, rfl, hm, hp, hs, h1⟩ := h
  exact ⟨p, F, R, A, rfl, hm, hp, hs, fun b hb => hz b (hm.lt.2 b hb) (h1 b hb)⟩
theorem ScAt.lt {Z : Nat → Prop} {w : World} {sb m : Nat} {st : Int → Option Gu} (h : ScAt w Z sb m st) : sb < w.heap.size := by
  obtain ⟨p, F, R, A, rfl, hm, -⟩ := h
  exact hm.lt.1
end Go.Proofs.YtnhocmmgdkiepaaDoor

/-
  sched.Sched: Used, Pick, of.
-/
namespace Go.Proofs.YtnhocmmgdkiepaaDoor
open Go.RowKit

theorem sc_look {w : World} {p : Sl} {m : Nat} {F : Int → Option Nat} {R A : List On} {st : Int → Option Gu} (hp : ScP m F R A) (hs : ScS R A st) (x : Int) (hx : kw x) : (F x = none ∧ st x = none) ∨ ∃ o, InS R A o ∧ o.id = x ∧ F x = some o.blk ∧ st x = some o.gu := by
  cases hF : F x with
  | none =>
    refine .inl ⟨rfl, ?_⟩
    cases hg : st x with
    | none => rfl
    | some g =>
      obtain ⟨o, ho, rfl⟩ := hs.s2 x g hg
      rw [hp.f1 o ho] at hF
      cases hF
  | some b =>
    obtain ⟨o, ho, rfl, rfl⟩ := hp.f2 x b hx hF
    exact .inr ⟨o, ho, rfl, rfl, hs.s1 o ho⟩
theorem ScMem.one {w : World} {p : Sl} {m : Nat} {F : Int → Option Nat} {R A : List On} (h : ScMem w p m F R A) {o : On} (ho : InS R A o) : ∃ i : Nat, w.heap[o.blk]? = some (.cells (onCells o (i : Int)) 109 (0, 0)) ∧ ((i < R.length ∧ og R i = o) ∨ (i < A.length ∧ og A i = o)) := by
  rcases ho with ⟨i, hi, rfl⟩ | ⟨i, hi, rfl⟩
  · exact ⟨i, h.rd.ones i hi, .inl ⟨hi, rfl⟩⟩
  · exact ⟨i, h.sd.ones i hi, .inr ⟨hi, rfl⟩⟩
def usO : Option Gu → Int
  | none => 0
  | some g => g.us
set_option maxHeartbeats 1600000 in
theorem sused_any (w : World) (Z : Nat → Prop) (sb m : Nat) (st : Int → Option Gu) (h : ScAt w Z sb m st) (x : Int) (hx : kw x) :
    Calls Tryd.prog 17 #[.pointer (some ⟨sb, 0, none⟩), .int .i64 x] w fun e w' => e = .returned (.tuple #[.int .i64 (usO (st x)), .bool (st x).isSome]) ∧ w = w' := by
  obtain ⟨p, F, R, A, rfl, hm, hp, hs, -⟩ := h
  have c0 : w.cell? ⟨p.sb, 0, none⟩ = some (.map (some p.mb)) := blk_cell hm.row 0
  have lt := blk_lt hm.row
  have hl := mp_look hm.map x hx
  rcases sc_look (w := w) (p := p) hp hs x hx with ⟨h1, h2⟩ | ⟨o, ho, rfl, h1, h2⟩
  · rw [h1] at hl
    rw [h2]
    unfold optPtr at hl
    clear hm hp hs h1 h2
    go_enter Tryd.func17, Tryd.ntmps17
    go_wp2
    go_ret2
    exact ⟨rfl, rfl⟩
  · obtain ⟨i, hb, -⟩ := hm.one ho
    have c2 : w.cell? ⟨o.blk, 2, none⟩ = some (.int .i64 o.us) := blk_cell hb 2
    have lo := blk_lt hb
    rw [h1] at hl
    rw [h2]
    unfold optPtr at hl
    clear hm hp hs h1 h2 ho hb
    go_enter Tryd.func17, Tryd.ntmps17
    go_wp2
    go_ret2
    exact ⟨rfl, rfl⟩
/-- whose turn it is -/
def PickQ (st : Int → Option Gu) (v : Value) : Prop := ((∀ x g, st x = some g → g.sl = true) ∧ v = .tuple #[.int .i64 0, .bool false]) ∨ ∃ x g, st x = some g ∧ g.sl = false ∧ (∀ y g', st y = some g' → g'.sl = false → g.us < g'.us ∨ (g.us = g'.us ∧ x ≤ y)) ∧ v = .tuple #[.int .i64 x, .bool true]
set_option maxHeartbeats 1600000 in
theorem spick_any (w : World) (Z : Nat → Prop) (sb m : Nat) (st : Int → Option Gu) (h : ScAt w Z sb m st) :
    Calls Tryd.prog 21 #[.pointer (some ⟨sb, 0, none⟩)] w fun e w' => (∃ v, e = .returned v ∧ PickQ st v) ∧ w = w' := by
  obtain ⟨p, F, R, A, rfl, hm, hp, hs, -⟩ := h
  have c1 : w.cell? ⟨p.sb, 1, none⟩ = some (.pointer (some ⟨p.rb, 0, none⟩)) := blk_cell hm.row 1
  have lt := blk_lt hm.row
  have HLN := Lib.hid (tlen_any p.rb p.rv R w hm.rd)
  by_cases h0 : R.length = 0
  · have HQ : Hid (PickQ st (.tuple #[.int .i64 0, .bool false])) := Lib.hid (.inl ⟨fun x g hg => by
      obtain ⟨o, ho, rfl⟩ := hs.s2 x g hg
      have hg2 := hs.s1 o ho
      rw [hg] at hg2
      rcases ho with ⟨i, hi, -⟩ | ⟨i, hi, rfl⟩
      · omega
      · rw [Option.some.inj hg2]
        exact hp.sa i hi, rfl⟩)
    rw [h0] at HLN
    clear hm hp hs h0
    go_enter Tryd.func21, Tryd.ntmps21
    go_wp2_with fail
    refine HLN.out.mono ?_
    rintro y w2 ⟨rfl, rfl⟩
    go_wp2
    go_ret2
    exact ⟨⟨_, rfl, HQ.out⟩, rfl⟩
  · have h1 : 0 < R.length := by omega
    have hib : ((R.length : Int) == 0) = false := by rw [beq_eq_false_iff_ne]; omega
    have HQ : Hid (PickQ st (.tuple #[.int .i64 (og R 0).id, .bool true])) := Lib.hid (.inr ⟨(og R 0).id, (og R 0).gu, hs.s1 _ (.r h1), hp.sr 0 h1, (fun y g' hg hsl => by
      obtain ⟨o, ho, rfl⟩ := hs.s2 y g' hg
      have hg2 := hs.s1 o ho
      rw [hg] at hg2
      obtain rfl := Option.some.inj hg2
      rcases ho with ⟨i, hi, rfl⟩ | ⟨i, hi, rfl⟩
      · have hr := hp_root false R R.length (Nat.le_refl _) hp.sr hp.hr i hi
        rw [lt_false false _ (hp.sr i hi)] at hr
        unfold On.ky at hr
        simp only [Bool.false_eq_true, if_false] at hr
        exact hr
      · have := hp.sa i hi
        rw [show (og A i).gu.sl = (og A i).sl from rfl, this] at hsl
        cases hsl), rfl⟩)
    obtain ⟨g, cap, hv⟩ := hm.rd.row h1
    have hrd := hm.rd
    rw [hv] at hrd
    have c2 : w.cell? ⟨p.rb, 0, none⟩ = some (.slice (some ⟨g, 0, none⟩) R.length cap) := blk_cell hrd.hdr 0
    have l2 := blk_lt hrd.hdr
    have c3 := hrd.ptr 0 h1
    have l3 : g < w.heap.size := hrd.lt.2 g (.inl rfl)
    have c4 : w.cell? ⟨(og R 0).blk, 0, none⟩ = some (.int .i64 (og R 0).id) := blk_cell (hrd.ones 0 h1) 0
    have l4 := blk_lt (hrd.ones 0 h1)
    obtain ⟨⟨oi, ow, ou, os, on, ob⟩, ho⟩ : ∃ o, og R 0 = o := ⟨_, rfl⟩
    rw [ho] at HQ c3 c4 l4
    dsimp only at HQ c3 c4
    have hii : (0 : Int) < (R.length : Int) := by omega
    obtain ⟨n, hn⟩ : ∃ n, R.length = n := ⟨_, rfl⟩
    rw [hn] at HLN c2 h1 hib hii
    clear hm hp hs h0 hv hrd ho hn
    go_enter Tryd.func21, Tryd.ntmps21
    go_wp2_with fail
    refine HLN.out.mono ?_
    rintro y w2 ⟨rfl, rfl⟩
    go_wp2
    go_ret2
    exact ⟨⟨_, rfl, HQ.out⟩, rfl⟩
set_option maxHeartbeats 1600000 in
theorem sof_row (w : World) (sb mb rb ab : Nat) (h : w.heap[sb]? = some (.cells #[.map (some mb), .pointer (some ⟨rb, 0, none⟩), .pointer (some ⟨ab, 0, none⟩)] 106 (0, 0))) (o : On) (pl : Int) (ho : w.heap[o.blk]? = some (.cells (onCells o pl) 109 (0, 0))) :
    Calls Tryd.prog 58 #[.pointer (some ⟨sb, 0, none⟩), .pointer (some ⟨o.blk, 0, none⟩)] w fun e w' => e = .returned (.pointer (some ⟨if o.sl = true then ab else rb, 0, none⟩)) ∧ w = w' := by
  have c1 : w.cell? ⟨sb, 1, none⟩ = some (.pointer (some ⟨rb, 0, none⟩)) := blk_cell h 1
  have c2 : w.cell? ⟨sb, 2, none⟩ = some (.pointer (some ⟨ab, 0, none⟩)) := blk_cell h 2
  have lt := blk_lt h
  have c3 : w.cell? ⟨o.blk, 3, none⟩ = some (.bool o.sl) := blk_cell ho 3
  have lo := blk_lt ho
  obtain ⟨oi, ow, ou, os, on, ob⟩ := o
  dsimp only at c3 lo ⊢
  clear h ho
  cases os with
  | true =>
    go_enter Tryd.func58, Tryd.ntmps58
    go_wp2
    go_ret
    exact ⟨rfl, rfl⟩
  | false =>
    go_enter Tryd.func58, Tryd.ntmps58
    go_wp2
    go_ret
    exact ⟨rfl, rfl⟩
end Go.Proofs.YtnhocmmgdkiepaaDoor

