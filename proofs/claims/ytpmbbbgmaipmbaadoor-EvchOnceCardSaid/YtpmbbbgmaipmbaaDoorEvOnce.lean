/-
  Chapter 21: what is sent is told once.
-/
import Derived.Test.YtpmbbbgmaipmbaaDoorEvBits
namespace Go.Proofs.YtpmbbbgmaipmbaaDoor
open Go.RowKit

/-- port p of guest a and port q of guest b are each other's; does the second pend, is it masked -/
def OnB (l : List Pe) (a p b q : Nat) (pn mk : Bool) : Prop := l.length = 128 ∧ l.getD (a * 16 + p) default = ⟨true, true, false, false, b, q⟩ ∧ l.getD (b * 16 + q) default = ⟨true, true, mk, pn, a, p⟩ ∧ ∀ i, i ≠ b * 16 + q → (l.getD i default).pend = false
theorem once_init (a b : Nat) (ha : a < 8) (hb : b < 8) : ∃ (p q : Nat) (L1 L2 L3 L4 : List Pe), p < 16 ∧ q < 16 ∧ a * 16 + p ≠ b * 16 + q ∧ allocP none128 b = some 0 ∧ none128.set (b * 16 + 0) { none128.getD (b * 16 + 0) default with live := true } = L1 ∧ allocP L1 a = some p ∧ L1.set (a * 16 + p) { L1.getD (a * 16 + p) default with live := true } = L2 ∧
    allocP L2 b = some q ∧ L2.set (b * 16 + q) { L2.getD (b * 16 + q) default with live := true } = L3 ∧ atP L3 a (p : Int) = some p ∧ atP L3 b (q : Int) = some q ∧ ¬ busyB L3 a p b q ∧ bindTo (bindTo L3 (a * 16 + p) b q) (b * 16 + q) a p = L4 ∧ atP L4 a (p : Int) = some p ∧ atP L4 b (q : Int) = some q ∧ busyB L4 a p b q ∧ OnB L4 a p b q false false := by
  obtain ⟨p, q, hpq⟩ : ∃ p q : Nat, (a = b ∧ p = 1 ∧ q = 2) ∨ (a ≠ b ∧ p = 0 ∧ q = 1) := by
    by_cases h : a = b
    · exact ⟨1, 2, .inl ⟨h, rfl, rfl⟩⟩
    · exact ⟨0, 1, .inr ⟨h, rfl, rfl⟩⟩
  have hp : p < 16 := by omega
  have hq : q < 16 := by omega
  have hne : a * 16 + p ≠ b * 16 + q := by omega
  have g1 : ∀ i, (none128.set (b * 16 + 0) { none128.getD (b * 16 + 0) default with live := true }).getD i default = if i = b * 16 + 0 then { live := true } else {} := fun i => by
    rw [set_getD _ _ _ _ (by show b * 16 + 0 < 128; omega), none128_get, none128_get]
  obtain ⟨L1, h1⟩ : ∃ L1, none128.set (b * 16 + 0) { none128.getD (b * 16 + 0) default with live := true } = L1 := ⟨_, rfl⟩
  have l1 : L1.length = 128 := by rw [← h1, List.length_set]; rfl
  rw [h1] at g1
  have g2 : ∀ i, (L1.set (a * 16 + p) { L1.getD (a * 16 + p) default with live := true }).getD i default = if i = a * 16 + p ∨ i = b * 16 + 0 then { live := true } else {} := fun i => by
    rw [set_getD _ _ _ _ (by omega), g1, g1, if_neg (show ¬ a * 16 + p = b * 16 + 0 by omega)]
    by_cases e : i = a * 16 + p
    · rw [if_pos e, if_pos (.inl e)]
    · rw [if_neg e]
      by_cases e2 : i = b * 16 + 0
      · rw [if_pos e2, if_pos (.inr e2)]
      · rw [if_neg e2, if_neg (by omega)]
  obtain ⟨L2, h2⟩ : ∃ L2, L1.set (a * 16 + p) { L1.getD (a * 16 + p) default with live := true } = L2 := ⟨_, rfl⟩
  have l2 : L2.length = 128 := by rw [← h2, List.length_set, l1]
  rw [h2] at g2
  have g3 : ∀ i, (L2.set (b * 16 + q) { L2.getD (b * 16 + q) default with live := true }).getD i default = if i = a * 16 + p ∨ i = b * 16 + 0 ∨ i = b * 16 + q then { live := true } else {} := fun i => by
    rw [set_getD _ _ _ _ (by omega), g2, g2, if_neg (show ¬ (b * 16 + q = a * 16 + p ∨ b * 16 + q = b * 16 + 0) by omega)]
    by_cases e : i = b * 16 + q
    · rw [if_pos e, if_pos (.inr (.inr e))]
    · rw [if_neg e]
      by_cases e2 : i = a * 16 + p ∨ i = b * 16 + 0
      · rw [if_pos e2, if_pos (by omega)]
      · rw [if_neg e2, if_neg (by omega)]
  obtain ⟨L3, h3⟩ : ∃ L3, L2.set (b * 16 + q) { L2.getD (b * 16 + q) default with live := true } = L3 := ⟨_, rfl⟩
  have l3 : L3.length = 128 := by rw [← h3, List.length_set, l2]
  rw [h3] at g3
  have a3 : L3.getD (a * 16 + p) default = { live := true } := by rw [g3, if_pos (.inl rfl)]
  have b3 : L3.getD (b * 16 + q) default = { live := true } := by rw [g3, if_pos (.inr (.inr rfl))]
  have g4 : ∀ i, (bindTo (bindTo L3 (a * 16 + p) b q) (b * 16 + q) a p).getD i default = if i = b * 16 + q then ⟨true, true, false, false, a, p⟩ else if i = a * 16 + p then ⟨true, true, false, false, b, q⟩ else L3.getD i default := fun i => by
    rw [bindTo_get _ _ _ _ _ (by rw [bindTo_len]; omega), bindTo_get _ _ (b * 16 + q) _ _ (by omega), if_neg (show ¬ b * 16 + q = a * 16 + p by omega), b3, bindTo_get _ _ _ _ _ (by omega), a3]
  obtain ⟨L4, h4⟩ : ∃ L4, bindTo (bindTo L3 (a * 16 + p) b q) (b * 16 + q) a p = L4 := ⟨_, rfl⟩
  have l4 : L4.length = 128 := by rw [← h4, bindTo_len, bindTo_len, l3]
  rw [h4] at g4
  have a4 : L4.getD (a * 16 + p) default = ⟨true, true, false, false, b, q⟩ := by rw [g4, if_neg hne, if_pos rfl]
  have b4 : L4.getD (b * 16 + q) default = ⟨true, true, false, false, a, p⟩ := by rw [g4, if_pos rfl]
  refine ⟨p, q, L1, L2, L3, L4, hp, hq, hne, allocP_some _ _ _ (fun i hi => absurd hi (by omega)) (by decide) (by rw [none128_get]), h1, allocP_some _ _ _ (fun i hi => by rw [g1, if_pos (by omega)]) hp (by rw [g1, if_neg (by omega)]), h2,
    allocP_some _ _ _ (fun i hi => by rw [g2, if_pos (by omega)]) hq (by rw [g2, if_neg (by omega)]), h3, atP_of _ _ _ hp (by rw [a3]), atP_of _ _ _ hq (by rw [b3]), ?_, h4, atP_of _ _ _ hp (by rw [a4]), atP_of _ _ _ hq (by rw [b4]), .inl (by rw [a4]), l4, a4, b4, fun i hi => ?_⟩
  · rintro (e | e | ⟨e, e'⟩)
    · rw [a3] at e; cases e
    · rw [b3] at e; cases e
    · omega
  · rw [g4, if_neg hi]
    by_cases e : i = a * 16 + p
    · rw [if_pos e]
    · rw [if_neg e, g3]
      split <;> rfl
theorem once_send {l : List Pe} {a p b q : Nat} {pn mk : Bool} (h : OnB l a p b q pn mk) (hp : p < 16) (hb : b < 8) (hq : q < 16) (hne : a * 16 + p ≠ b * 16 + q) : sendP l a (p : Int) = some p ∧ (l.getD (a * 16 + p) default).guest = (b : Int) ∧ (l.getD (a * 16 + p) default).port = (q : Int) ∧ OnB (l.set (b * 16 + q) { l.getD (b * 16 + q) default with pend := true }) a p b q true mk := by
  obtain ⟨h1, h2, h3, h4⟩ := h
  have g : ∀ i, (l.set (b * 16 + q) { l.getD (b * 16 + q) default with pend := true }).getD i default = if i = b * 16 + q then ⟨true, true, mk, true, a, p⟩ else l.getD i default := fun i => by rw [set_getD _ _ _ _ (by omega), h3]
  exact ⟨sendP_of _ _ _ hp (by rw [h2]) (by rw [h2]), by rw [h2], by rw [h2], by rw [List.length_set, h1], by rw [g, if_neg hne, h2], by rw [g, if_pos rfl], fun i hi => by rw [g, if_neg hi, h4 i hi]⟩
theorem once_mask {l : List Pe} {a p b q : Nat} {pn mk : Bool} (v : Bool) (h : OnB l a p b q pn mk) (hb : b < 8) (hq : q < 16) (hne : a * 16 + p ≠ b * 16 + q) : atP l b (q : Int) = some q ∧ OnB (l.set (b * 16 + q) { l.getD (b * 16 + q) default with masked := v }) a p b q pn v := by
  obtain ⟨h1, h2, h3, h4⟩ := h
  have g : ∀ i, (l.set (b * 16 + q) { l.getD (b * 16 + q) default with masked := v }).getD i default = if i = b * 16 + q then ⟨true, true, v, pn, a, p⟩ else l.getD i default := fun i => by rw [set_getD _ _ _ _ (by omega), h3]
  exact ⟨atP_of _ _ _ hq (by rw [h3]), by rw [List.length_set, h1], by rw [g, if_neg hne, h2], by rw [g, if_pos rfl], fun i hi => by rw [g, if_neg hi, h4 i hi]⟩
theorem once_take {l : List Pe} {a p b q : Nat} {pn mk : Bool} (h : OnB l a p b q pn mk) (ha : a < 8) (hp : p < 16) (hb : b < 8) (hq : q < 16) (hne : a * 16 + p ≠ b * 16 + q) : anyE l b = (if (pn && !mk) = true then 2 ^ q else 0) ∧ OnB (takeE l b 16) a p b q (pn && mk) mk := by
  obtain ⟨h1, h2, h3, h4⟩ := h
  have pq : ∀ i, i < 16 → (pendB l b i && !maskB l b i) = (decide (i = q) && (pn && !mk)) := fun i hi => by
    unfold pendB maskB
    by_cases e : i = q
    · subst e
      rw [h3, decide_eq_true rfl, Bool.true_and]
    · rw [h4 _ (by omega), decide_eq_false e, Bool.false_and, Bool.false_and]
  have g : ∀ i, (takeE l b 16).getD i default = if b * 16 ≤ i ∧ i < b * 16 + 16 then { l.getD i default with pend := (l.getD i default).pend && (l.getD i default).masked } else l.getD i default := fun i => takeE_get _ _ _ _ (by omega)
  refine ⟨?_, by rw [takeE_len, h1], ?_, ?_, fun i hi => ?_⟩
  · unfold anyE
    rw [orN_congr pq]
    cases hc : (pn && !mk)
    · rw [if_neg (by decide)]
      exact (orN_zero_iff _ _).2 fun i _ => by simp
    · rw [if_pos rfl]
      simp only [Bool.and_true]
      exact orN_one q 16 hq
  · rw [g, h2]
    split <;> rfl
  · rw [g, if_pos ⟨by omega, by omega⟩, h3]
  · rw [g, h4 i hi]
    split
    · rw [Bool.false_and]
    · exact h4 i hi

def OnceTo (n c a p b q : Nat) (w : World) (pe ma i : Value) (wr : World) : Prop := ∃ (j : Nat) (l : List Pe) (pn mk : Bool), j ≤ n ∧ i = .int .i64 (j : Int) ∧ pe = .bool pn ∧ ma = .bool mk ∧ NAt wr c l ∧ OnB l a p b q pn mk ∧ Below w.heap.size w wr
theorem two_ne (q : Nat) (h : q < 32) : ((2 : Int) ^ q % 4294967296 != 0) = true ∧ ((2 : Int) ^ q % 4294967296 == 0) = false ∧ decide ((2 ^ q : Nat) ≠ 0) = true := by
  have h0 : (0 : Nat) < 2 ^ q := Nat.two_pow_pos q
  rw [shl_val q h]
  obtain ⟨z, hz⟩ : ∃ z : Nat, 2 ^ q = z := ⟨_, rfl⟩
  rw [hz] at h0 ⊢
  refine ⟨?_, ?_, ?_⟩
  · rw [bne_iff_ne]; omega
  · rw [beq_eq_false_iff_ne]; omega
  · rw [decide_eq_true_eq]; omega
theorem num4 (z : Int) : z % 4 = 0 ∨ z % 4 = 1 ∨ z % 4 = 2 ∨ z % 4 = 3 := by omega
set_option maxRecDepth 100000 in
set_option maxHeartbeats 8000000 in
theorem evchOnce_walk (E : Nat → Addr) (x0 x1 : Int) (xs : List Int) (v : Value) (w : World) (hE : ErrsAt errT gOf w E all16) (h0 : -9223372036854775808 ≤ x0 ∧ x0 ≤ 9223372036854775807) (h1 : -9223372036854775808 ≤ x1 ∧ x1 ≤ 9223372036854775807) (hrx : Reads w v xs.length (xs.map (Value.int .i64))) (hx : ∀ z ∈ xs, -9223372036854775808 ≤ z ∧ z ≤ 9223372036854775807) (hmx : xs.length ≤ maxLen) :
    Calls Tryd.prog 8 #[.int .i64 x0, .int .i64 x1, v] w fun e w' => e = .returned (.bool true) ∧ Below w.heap.size w w' := by
  unfold maxLen at hmx
  obtain ⟨xo, xc, rfl, hax⟩ := atL_of_reads hrx
  have HAX := Lib.hid hax
  have HX := Lib.hid hx
  have HE := Lib.hid hE
  have HN0 := Lib.hid (fun wx => number_any x0 8 wx h0.1 h0.2 (by decide) (by decide))
  have HN1 := Lib.hid (fun wx => number_any x1 8 wx h1.1 h1.2 (by decide) (by decide))
  obtain ⟨a, haq⟩ : ∃ g : Nat, x0 % 8 = (g : Int) := ⟨(x0 % 8).toNat, by omega⟩
  have ha : a < 8 := by omega
  obtain ⟨b, hbq⟩ : ∃ m : Nat, x1 % 8 = (m : Int) := ⟨(x1 % 8).toNat, by omega⟩
  have hb : b < 8 := by omega
  rw [haq] at HN0
  rw [hbq] at HN1
  clear haq hbq h0 h1 hE hrx hax hx
  by_cases hbig : 30 < xs.length
  · go_enter Tryd.func8, Tryd.ntmps8
    go_wp2_with fail
    refine (ev_first E _ HE.out).mono ?_
    rintro e w1 ⟨rfl, hb1⟩
    have HB1 := Lib.hid hb1
    clear hb1
    go_wp2
    go_ret
    exact ⟨rfl, HB1.out⟩
  · have hxl : xs.length ≤ 30 := by omega
    have hdx : decide ((30 : Int) < (xs.length : Int)) = false := by simp; omega
    clear hbig
    obtain ⟨p, q, L1, L2, L3, L4, hp, hq, hne, q1, q2, q3, q4, q5, q6, q7, q8, q9, q10, q11, q12, q13, q14⟩ := once_init a b ha hb
    have H1 := Lib.hid q1
    have H2 := Lib.hid q2
    have H3 := Lib.hid q3
    have H4 := Lib.hid q4
    have H5 := Lib.hid q5
    have H6 := Lib.hid q6
    have H7 := Lib.hid q7
    have H8 := Lib.hid q8
    have H9 := Lib.hid q9
    have H10 := Lib.hid q10
    have H11 := Lib.hid q11
    have H12 := Lib.hid q12
    have H13 := Lib.hid q13
    have H14 := Lib.hid q14
    have HNE := Lib.hid hne
    clear q1 q2 q3 q4 q5 q6 q7 q8 q9 q10 q11 q12 q13 q14 hne
    go_enter Tryd.func8, Tryd.ntmps8
    go_wp2_with fail
    refine (ev_first E _ HE.out).mono ?_
    rintro e w1 ⟨rfl, hb1⟩
    have HB1 := Lib.hid hb1
    clear hb1
    go_wp2_with fail
    refine (HN0.out _).mono ?_
    rintro e w2 ⟨rfl, rfl⟩
    go_wp2_with fail
    refine (HN1.out _).mono ?_
    rintro e w2 ⟨rfl, rfl⟩
    have HN2 := Lib.hid (ev_new w1)
    have HB2 := Lib.hid (HB1.out.alloc HB1.out.size (.cells Tryd.zeroCells41 41))
    have HBS : Hid (w.heap.size ≤ w1.heap.size) := Lib.hid HB1.out.size
    have HEK : Hid (∀ wx, Below w.heap.size w wx → ErrsAt errT gOf wx E all16) := Lib.hid fun wx h => HE.out.mono h
    go_wp2_with fail
    generalize w1.alloc (.cells Tryd.zeroCells41 41) = w2 at HN2 HB2 ⊢
    obtain ⟨c, hc⟩ : ∃ b, w1.heap.size = b := ⟨_, rfl⟩
    rw [hc] at HN2 HBS ⊢
    clear hc HB1 HN0 HN1
    have HOF : Hid (∀ wa wb : World, Below w.heap.size w wa → Only (fun k => k = c) wa wb → Below w.heap.size w wb) := Lib.hid fun wa wb h ho => h.trans (ho.below (B := w.heap.size) h.size (fun k hk => by subst hk; exact HBS.out))
    refine (alloc_any E none128 c b _ all16 (by decide) (HEK.out _ HB2.out) HN2.out hb).mono ?_
    rintro e w3 ⟨h1, -⟩
    obtain ⟨rfl, hn, ho⟩ := h1 0 H1.out
    rw [H2.out] at hn
    have HN3 := Lib.hid hn
    have HB3 := Lib.hid (HOF.out _ _ HB2.out ho)
    clear h1 hn ho
    go_wp2_with fail
    refine (alloc_any E L1 c a _ all16 (by decide) (HEK.out _ HB3.out) HN3.out ha).mono ?_
    rintro e w4 ⟨h1, -⟩
    obtain ⟨rfl, hn, ho⟩ := h1 p H3.out
    rw [H4.out] at hn
    have HN4 := Lib.hid hn
    have HB4 := Lib.hid (HOF.out _ _ HB3.out ho)
    clear h1 hn ho
    go_wp2_with fail
    refine (alloc_any E L2 c b _ all16 (by decide) (HEK.out _ HB4.out) HN4.out hb).mono ?_
    rintro e w5 ⟨h1, -⟩
    obtain ⟨rfl, hn, ho⟩ := h1 q H5.out
    rw [H6.out] at hn
    have HN5 := Lib.hid hn
    have HB5 := Lib.hid (HOF.out _ _ HB4.out ho)
    clear h1 hn ho
    go_wp2_with fail
    refine (bind_ok L3 c a b p q _ HN5.out ha hb H7.out H8.out H9.out).mono ?_
    rintro e w6 ⟨rfl, hn, ho⟩
    rw [H10.out] at hn
    have HN6 := Lib.hid hn
    have HB6 := Lib.hid (HOF.out _ _ HB5.out ho)
    clear hn ho
    go_wp2_with fail
    refine (bind_busy E L4 c a b p q _ _ _ all16 (by decide) (HEK.out _ HB6.out) HN6.out ha hb H11.out H12.out H13.out).mono ?_
    rintro e w7 ⟨rfl, rfl⟩
    go_wp2_with fail
    refine (is_any E (errV (E 11)) 112 112 (.inr ⟨11, by decide, rfl, rfl⟩) _ (HEK.out _ HB6.out)).mono ?_
    rintro e w7 ⟨rfl, hb7⟩
    have HS : Hid (OnceTo xs.length c a p b q w (.bool false) (.bool false) (.int .i64 0) w7) := Lib.hid ⟨0, L4, false, false, Nat.zero_le _, rfl, rfl, rfl, HN6.out.below hb7, H14.out, HB6.out.trans (hb7.mono HB6.out.size)⟩
    clear hb7 HN6 HB6 HN5 HB5 HN4 HB4 HN3 HB3 HN2 HB2 H1 H2 H3 H4 H5 H6 H7 H8 H9 H10 H11 H12 H13 H14
    go_wp2_with fail
    go_loopw [13, 14, 15] (fun pe ma i wr => OnceTo xs.length c a p b q w pe ma i wr) (fun _ _ i _ => xs.length - (intOf i).toNat)
    case atStart => exact HS.out
    case round =>
      obtain ⟨j, l, pn, mk, hj, rfl, rfl, rfl, hn, hf, hb'⟩ := hrel
      have HN := Lib.hid hn
      have HF := Lib.hid hf
      have HB := Lib.hid hb'
      clear hn hf hb' HS
      by_cases hlt : j < xs.length
      · have hji : (j : Int) < (xs.length : Int) := by omega
        obtain ⟨sb, so, rfl, q0, hql⟩ := HAX.out j _ (i64s_get xs j hlt)
        have HZB := Lib.hid (HX.out _ (getD_mem xs j hlt))
        obtain ⟨z, hz⟩ : ∃ z, xs.getD j 0 = z := ⟨_, rfl⟩
        rw [hz] at q0 HZB
        have c0 := (HB.out.cell (p := ⟨sb, so + j, none⟩) hql).trans q0
        clear hz q0 hql
        have HNUM := Lib.hid (fun wx => number_any z 4 wx HZB.out.1 HZB.out.2 (by decide) (by decide))
        have HSD := Lib.hid (once_send HF.out hp hb hq HNE.out)
        have HMK := Lib.hid (once_mask (!mk) HF.out hb hq HNE.out)
        have HTK := Lib.hid (once_take HF.out ha hp hb hq HNE.out)
        have HTK2 := Lib.hid (once_take HTK.out.2 ha hp hb hq HNE.out)
        rcases num4 z with hz | hz | hz | hz
        all_goals
          rw [hz] at HNUM
          clear hz
          go_wp2_with fail
          refine (HNUM.out _).mono ?_
          rintro e w3 ⟨rfl, rfl⟩
        · go_wp2_with fail
          refine (send_ok l c a p b q _ _ HN.out ha HSD.out.1 HSD.out.2.1 HSD.out.2.2.1 hb hq).mono ?_
          rintro e w4 ⟨rfl, hn, ho⟩
          have HN4 := Lib.hid hn
          have HB4 := Lib.hid (HOF.out _ _ HB.out ho)
          clear hn ho
          go_wp2
          go_roundw
          case rel => exact ⟨j + 1, _, true, mk, by omega, by go_num, rfl, rfl, HN4.out, HSD.out.2.2.2, HB4.out⟩
          case measure => simp [intOf]; omega
        · go_wp2_with fail
          refine (send_ok l c a p b q _ _ HN.out ha HSD.out.1 HSD.out.2.1 HSD.out.2.2.1 hb hq).mono ?_
          rintro e w4 ⟨rfl, hn, ho⟩
          have HN4 := Lib.hid hn
          have HB4 := Lib.hid (HOF.out _ _ HB.out ho)
          clear hn ho
          go_wp2
          go_roundw
          case rel => exact ⟨j + 1, _, true, mk, by omega, by go_num, rfl, rfl, HN4.out, HSD.out.2.2.2, HB4.out⟩
          case measure => simp [intOf]; omega
        · go_wp2_with fail
          refine (mask_ok l c b q _ (!mk) _ HN.out hb HMK.out.1).mono ?_
          rintro e w4 ⟨rfl, hn, ho⟩
          have HN4 := Lib.hid hn
          have HB4 := Lib.hid (HOF.out _ _ HB.out ho)
          clear hn ho
          go_wp2
          go_roundw
          case rel => exact ⟨j + 1, _, pn, !mk, by omega, by go_num, rfl, rfl, HN4.out, HMK.out.2, HB4.out⟩
          case measure => simp [intOf]; omega
        · have HAN : Hid (((pn && !mk) = true ∧ anyE l b = 2 ^ q) ∨ ((pn && !mk) = false ∧ anyE l b = 0)) := Lib.hid (by
            have := HTK.out.1
            cases hc : (pn && !mk)
            · rw [hc] at this
              exact .inr ⟨rfl, this⟩
            · rw [hc] at this
              exact .inl ⟨rfl, this⟩)
          have HA2 : Hid (anyE (takeE l b 16) b = 0) := Lib.hid (by
            rw [HTK2.out.1]
            cases pn <;> cases mk <;> rfl)
          have HP0 : Hid ((0 : Nat) < 2 ^ q) := Lib.hid (Nat.two_pow_pos q)
          cases pn
          · have HZ : Hid (anyE l b = 0) := Lib.hid (by rcases HAN.out with h | h; exact absurd h.1 (by simp); exact h.2)
            go_wp2_with fail
            refine (any_any l c b _ HN.out hb).mono ?_
            rintro e w4 ⟨rfl, hb4⟩
            rw [HZ.out]
            have HN4 := Lib.hid (HN.out.below hb4)
            have HB4 := Lib.hid (HB.out.trans (hb4.mono HB.out.size))
            clear hb4
            go_wp2_with fail
            refine (take_any' l c b _ HN4.out hb).mono ?_
            rintro e w5 ⟨rfl, hn, ho⟩
            rw [HZ.out]
            have HN5 := Lib.hid hn
            have HB5 := Lib.hid (HOF.out _ _ HB4.out ho)
            clear hn ho
            go_wp2_with fail
            refine (take_any' _ c b _ HN5.out hb).mono ?_
            rintro e w6 ⟨rfl, hn, ho⟩
            rw [HA2.out]
            have HN6 := Lib.hid hn
            have HB6 := Lib.hid (HOF.out _ _ HB5.out ho)
            clear hn ho
            go_wp2
            go_roundw
            case rel => exact ⟨j + 1, _, _, mk, by omega, by go_num, rfl, rfl, HN6.out, HTK2.out.2, HB6.out⟩
            case measure => simp [intOf]; omega
          · cases mk
            · have HZ : Hid (anyE l b = 2 ^ q) := Lib.hid (by rcases HAN.out with h | h; exact h.2; exact absurd h.1 (by simp))
              obtain ⟨hT1, hT2, hT3⟩ := two_ne q (by omega)
              have HT3 := Lib.hid hT3
              clear hT3
              go_wp2_with fail
              refine (any_any l c b _ HN.out hb).mono ?_
              rintro e w4 ⟨rfl, hb4⟩
              rw [show decide (anyE l b ≠ 0) = true by rw [HZ.out]; exact HT3.out]
              have HN4 := Lib.hid (HN.out.below hb4)
              have HB4 := Lib.hid (HB.out.trans (hb4.mono HB.out.size))
              clear hb4
              go_wp2_with fail
              refine (take_any' l c b _ HN4.out hb).mono ?_
              rintro e w5 ⟨rfl, hn, ho⟩
              rw [show ((anyE l b : Nat) : Int) = (2 : Int) ^ q % 4294967296 by rw [HZ.out, shl_val q (by omega)]]
              have HN5 := Lib.hid hn
              have HB5 := Lib.hid (HOF.out _ _ HB4.out ho)
              clear hn ho
              go_wp2_with fail
              refine (take_any' _ c b _ HN5.out hb).mono ?_
              rintro e w6 ⟨rfl, hn, ho⟩
              rw [HA2.out]
              have HN6 := Lib.hid hn
              have HB6 := Lib.hid (HOF.out _ _ HB5.out ho)
              clear hn ho
              go_wp2
              go_roundw
              case rel => exact ⟨j + 1, _, _, false, by omega, by go_num, rfl, rfl, HN6.out, HTK2.out.2, HB6.out⟩
              case measure => simp [intOf]; omega
            · have HZ : Hid (anyE l b = 0) := Lib.hid (by rcases HAN.out with h | h; exact absurd h.1 (by simp); exact h.2)
              go_wp2_with fail
              refine (any_any l c b _ HN.out hb).mono ?_
              rintro e w4 ⟨rfl, hb4⟩
              rw [HZ.out]
              have HN4 := Lib.hid (HN.out.below hb4)
              have HB4 := Lib.hid (HB.out.trans (hb4.mono HB.out.size))
              clear hb4
              go_wp2_with fail
              refine (take_any' l c b _ HN4.out hb).mono ?_
              rintro e w5 ⟨rfl, hn, ho⟩
              rw [HZ.out]
              have HN5 := Lib.hid hn
              have HB5 := Lib.hid (HOF.out _ _ HB4.out ho)
              clear hn ho
              go_wp2_with fail
              refine (take_any' _ c b _ HN5.out hb).mono ?_
              rintro e w6 ⟨rfl, hn, ho⟩
              rw [HA2.out]
              have HN6 := Lib.hid hn
              have HB6 := Lib.hid (HOF.out _ _ HB5.out ho)
              clear hn ho
              go_wp2
              go_roundw
              case rel => exact ⟨j + 1, _, _, true, by omega, by go_num, rfl, rfl, HN6.out, HTK2.out.2, HB6.out⟩
              case measure => simp [intOf]; omega
      · obtain rfl : j = xs.length := by omega
        go_wp2
        go_ret
        exact ⟨rfl, HB.out⟩
end Go.Proofs.YtpmbbbgmaipmbaaDoor
