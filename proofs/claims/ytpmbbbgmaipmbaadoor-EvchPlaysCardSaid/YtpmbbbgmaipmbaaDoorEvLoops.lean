/-
  Chapter 21: the first check; ports bound to ports of the same guest.
-/
import Derived.Test.YtpmbbbgmaipmbaaDoorEv6
import Derived.Test.YtpmbbbgmaipmbaaDoorNumber
namespace Go.Proofs.YtpmbbbgmaipmbaaDoor
open Go.RowKit

theorem atP_of (l : List Pe) (g r : Nat) (hr : r < 16) (h : (l.getD (g * 16 + r) default).live = true) : atP l g (r : Int) = some r := by
  unfold atP
  rw [if_pos ⟨by omega, by omega, by rw [Int.toNat_natCast]; exact h⟩, Int.toNat_natCast]
theorem atP_dead (l : List Pe) (g r : Nat) (h : (l.getD (g * 16 + r) default).live = false) : atP l g (r : Int) = none := by
  unfold atP
  rw [if_neg]
  rintro ⟨-, -, h2⟩
  rw [Int.toNat_natCast, h] at h2
  cases h2
theorem sendP_of (l : List Pe) (g r : Nat) (hr : r < 16) (h : (l.getD (g * 16 + r) default).live = true) (hb : (l.getD (g * 16 + r) default).bound = true) : sendP l g (r : Int) = some r := by
  unfold sendP
  rw [atP_of l g r hr h]
  dsimp only
  rw [if_pos hb]
theorem sendP_not (l : List Pe) (g r : Nat) (hr : r < 16) (h : (l.getD (g * 16 + r) default).live = true) (hb : (l.getD (g * 16 + r) default).bound = false) : sendP l g (r : Int) = none := by
  unfold sendP
  rw [atP_of l g r hr h]
  dsimp only
  rw [hb]
  rfl
theorem bindTo_get (l : List Pe) (k i : Nat) (og op : Int) (hk : k < l.length) : (bindTo l k og op).getD i default = if i = k then { l.getD k default with bound := true, guest := og, port := op } else l.getD i default := set_getD _ _ _ _ hk
theorem bindTo_len (l : List Pe) (k : Nat) (og op : Int) : (bindTo l k og op).length = l.length := by unfold bindTo; simp
theorem anyE_one (l : List Pe) (g r : Nat) (hr : r < 16) (h : ∀ i, i < 16 → (pendB l g i && !maskB l g i) = decide (i = r)) : anyE l g = 2 ^ r := by
  unfold anyE
  rw [orN_congr h, orN_one r 16 hr]
theorem pend_one (l : List Pe) (g r : Nat) (hr : r < 16) (h : ∀ i, i < 16 → pendB l g i = decide (i = r)) : orN (pendB l g) 16 = 2 ^ r := by
  rw [orN_congr h, orN_one r 16 hr]

set_option maxRecDepth 100000 in
set_option maxHeartbeats 1000000 in
theorem ev_first (E : Nat → Addr) (w : World) (hE : ErrsAt errT gOf w E all16) : Calls Tryd.prog 18 #[] w fun e w' => e = .returned (.bool true) ∧ Below w.heap.size w w' := by
  have HG := Lib.hid (ev_new w)
  have HB := Lib.hid (show Below w.heap.size w (w.alloc (.cells Tryd.zeroCells41 41)) from (Below.refl _ _).alloc (Nat.le_refl _) _)
  have HE := Lib.hid (hE.mono HB.out)
  have HE0 := Lib.hid hE
  have hal : Hid (allocP none128 1 = some 0) := Lib.hid (allocP_some _ _ _ (fun i hi => absurd hi (by omega)) (by decide) (by rw [none128_get]))
  clear hE
  go_enter Tryd.func18, Tryd.ntmps18
  go_wp2_with fail
  refine (alloc_any E none128 _ 1 _ all16 (by decide) HE.out HG.out (by decide)).mono ?_
  rintro e w1 ⟨h1, -⟩
  obtain ⟨rfl, hn, ho⟩ := h1 0 hal.out
  have HN := Lib.hid hn
  have HB1 := Lib.hid (HB.out.trans (ho.below (B := w.heap.size) HB.out.size (fun k hk => by subst hk; exact Nat.le_refl _)))
  have HE1 := Lib.hid (HE0.out.mono HB1.out)
  clear h1 hn ho
  go_wp2_with fail
  refine (send_none E _ _ 1 0 _ all16 (by decide) HE1.out HN.out (by decide) (sendP_not _ 1 0 (by decide) (by rw [set_getD _ _ _ _ (by decide)]; rfl) (by rw [set_getD _ _ _ _ (by decide), if_pos rfl, none128_get]))).mono ?_
  rintro e w2 ⟨rfl, rfl⟩
  go_wp2_with fail
  refine (is_any E (errV (E 6)) 107 107 (.inr ⟨6, by decide, rfl, rfl⟩) _ HE1.out).mono ?_
  rintro e w2 ⟨rfl, hb2⟩
  have HB2 := Lib.hid (HB1.out.trans (hb2.mono HB1.out.size))
  clear hb2
  go_wp2
  go_ret
  exact ⟨rfl, HB2.out⟩

/-- the first k ports of guest g are live, there is nothing else -/
def Fresh (l : List Pe) (g k : Nat) : Prop := l.length = 128 ∧ ∀ i, l.getD i default = if g * 16 ≤ i ∧ i < g * 16 + k then { live := true } else {}
theorem fresh_none (g : Nat) : Fresh none128 g 0 := ⟨rfl, fun i => by rw [none128_get, if_neg (by omega)]⟩
theorem fresh_next {l : List Pe} {g k : Nat} (h : Fresh l g k) (hg : g < 8) (hk : k < 16) : allocP l g = some k ∧ Fresh (l.set (g * 16 + k) { l.getD (g * 16 + k) default with live := true }) g (k + 1) := by
  refine ⟨allocP_some _ _ _ (fun i hi => by rw [h.2, if_pos ⟨by omega, by omega⟩]) hk (by rw [h.2, if_neg (by omega)]), by rw [List.length_set]; exact h.1, fun i => ?_⟩
  rw [set_getD _ _ _ _ (by rw [h.1]; omega)]
  by_cases e : i = g * 16 + k
  · rw [if_pos e, if_pos ⟨by omega, by omega⟩, h.2, if_neg (by omega)]
  · rw [if_neg e, h.2]
    by_cases h1 : g * 16 ≤ i ∧ i < g * 16 + k
    · rw [if_pos h1, if_pos ⟨by omega, by omega⟩]
    · rw [if_neg h1, if_neg (by omega)]

theorem loops_facts (L : List Pe) (g n : Nat) (h : Fresh L g n) (hg : g < 8) (h2 : 2 ≤ n) (h16 : n < 16) :
    ∃ L2 L3 L4 L5 : List Pe, atP L g ((1 : Nat) : Int) = some 1 ∧ busyB L g 1 g 1 ∧ atP L g ((0 : Nat) : Int) = some 0 ∧ atP L g ((n - 1 : Nat) : Int) = some (n - 1) ∧ ¬ busyB L g 0 g (n - 1) ∧ bindTo (bindTo L (g * 16 + 0) g (n - 1 : Nat)) (g * 16 + (n - 1)) g (0 : Nat) = L2 ∧
      sendP L2 g ((0 : Nat) : Int) = some 0 ∧ (L2.getD (g * 16 + 0) default).guest = (g : Int) ∧ (L2.getD (g * 16 + 0) default).port = ((n - 1 : Nat) : Int) ∧ L2.set (g * 16 + (n - 1)) { L2.getD (g * 16 + (n - 1)) default with pend := true } = L3 ∧
      anyE L3 g = 2 ^ (n - 1) ∧ takeE L3 g 16 = L4 ∧ sendP L4 g ((n - 1 : Nat) : Int) = some (n - 1) ∧ (L4.getD (g * 16 + (n - 1)) default).guest = (g : Int) ∧ (L4.getD (g * 16 + (n - 1)) default).port = ((0 : Nat) : Int) ∧ L4.set (g * 16 + 0) { L4.getD (g * 16 + 0) default with pend := true } = L5 ∧ orN (pendB L5 g) 16 = 1 := by
  have hl := h.1
  have live : ∀ r, r < n → (L.getD (g * 16 + r) default).live = true := fun r hr => by rw [h.2, if_pos ⟨by omega, by omega⟩]
  have liveE : ∀ r, r < n → L.getD (g * 16 + r) default = { live := true } := fun r hr => by rw [h.2, if_pos ⟨by omega, by omega⟩]
  have unb : ∀ i, (L.getD i default).bound = false := fun i => by rw [h.2]; split <;> rfl
  have g2 : ∀ i, (bindTo (bindTo L (g * 16 + 0) g (n - 1 : Nat)) (g * 16 + (n - 1)) g (0 : Nat)).getD i default = if i = g * 16 + (n - 1) then ⟨true, true, false, false, g, ((0 : Nat) : Int)⟩ else if i = g * 16 + 0 then ⟨true, true, false, false, g, ((n - 1 : Nat) : Int)⟩ else L.getD i default := fun i => by
    rw [bindTo_get _ _ _ _ _ (by rw [bindTo_len, hl]; omega), bindTo_get _ _ _ _ _ (by rw [hl]; omega), bindTo_get _ _ _ _ _ (by rw [hl]; omega), if_neg (show ¬ g * 16 + (n - 1) = g * 16 + 0 by omega), liveE 0 (by omega), liveE (n - 1) (by omega)]
  obtain ⟨L2, hL2⟩ : ∃ L2, bindTo (bindTo L (g * 16 + 0) g (n - 1 : Nat)) (g * 16 + (n - 1)) g (0 : Nat) = L2 := ⟨_, rfl⟩
  have l2 : L2.length = 128 := by rw [← hL2, bindTo_len, bindTo_len, hl]
  rw [hL2] at g2
  have g3 : ∀ i, (L2.set (g * 16 + (n - 1)) { L2.getD (g * 16 + (n - 1)) default with pend := true }).getD i default = if i = g * 16 + (n - 1) then ⟨true, true, false, true, g, ((0 : Nat) : Int)⟩ else if i = g * 16 + 0 then ⟨true, true, false, false, g, ((n - 1 : Nat) : Int)⟩ else L.getD i default := fun i => by
    rw [set_getD _ _ _ _ (by rw [l2]; omega), g2 (g * 16 + (n - 1)), if_pos rfl, g2 i]
    split <;> rfl
  obtain ⟨L3, hL3⟩ : ∃ L3, L2.set (g * 16 + (n - 1)) { L2.getD (g * 16 + (n - 1)) default with pend := true } = L3 := ⟨_, rfl⟩
  have l3 : L3.length = 128 := by rw [← hL3, List.length_set, l2]
  rw [hL3] at g3
  have np : ∀ i, (L.getD i default).pend = false ∧ (L.getD i default).masked = false := fun i => by rw [h.2]; split <;> exact ⟨rfl, rfl⟩
  have g4 : ∀ i, (takeE L3 g 16).getD i default = if i = g * 16 + (n - 1) then ⟨true, true, false, false, g, ((0 : Nat) : Int)⟩ else if i = g * 16 + 0 then ⟨true, true, false, false, g, ((n - 1 : Nat) : Int)⟩ else L.getD i default := fun i => by
    rw [takeE_get L3 g 16 i (by rw [l3]; omega), g3 i]
    by_cases e1 : i = g * 16 + (n - 1)
    · rw [if_pos e1, if_pos e1, if_pos ⟨by omega, by omega⟩]; rfl
    · rw [if_neg e1, if_neg e1]
      by_cases e2 : i = g * 16 + 0
      · rw [if_pos e2, if_pos ⟨by omega, by omega⟩]; rfl
      · rw [if_neg e2, (np i).1, Bool.false_and]
        have : ({ L.getD i default with pend := false } : Pe) = L.getD i default := by
          have := (np i).1
          revert this
          generalize L.getD i default = x
          obtain ⟨_, _, _, p, _, _⟩ := x
          rintro rfl
          rfl
        rw [this, ite_self]
  obtain ⟨L4, hL4⟩ : ∃ L4, takeE L3 g 16 = L4 := ⟨_, rfl⟩
  have l4 : L4.length = 128 := by rw [← hL4, takeE_len, l3]
  rw [hL4] at g4
  have a0 : L2.getD (g * 16 + 0) default = ⟨true, true, false, false, g, ((n - 1 : Nat) : Int)⟩ := by rw [g2, if_neg (by omega), if_pos rfl]
  have a4 : L4.getD (g * 16 + (n - 1)) default = ⟨true, true, false, false, g, ((0 : Nat) : Int)⟩ := by rw [g4, if_pos rfl]
  refine ⟨L2, L3, L4, _, atP_of _ _ _ (by omega) (live 1 (by omega)), .inr (.inr ⟨rfl, rfl⟩), atP_of _ _ _ (by omega) (live 0 (by omega)), atP_of _ _ _ (by omega) (live _ (by omega)), ?_, hL2, sendP_of _ _ _ (by omega) (by rw [a0]) (by rw [a0]), by rw [a0], by rw [a0], hL3,
    anyE_one _ _ _ (by omega) fun i hi => ?_, hL4, sendP_of _ _ _ (by omega) (by rw [a4]) (by rw [a4]), by rw [a4], by rw [a4], rfl, ?_⟩
  · rintro (h1 | h1 | ⟨-, h1⟩)
    · rw [unb] at h1; cases h1
    · rw [unb] at h1; cases h1
    · omega
  · unfold pendB maskB
    rw [g3]
    by_cases e1 : i = n - 1
    · rw [if_pos (by omega), decide_eq_true e1]; rfl
    · rw [if_neg (by omega), decide_eq_false e1]
      by_cases e2 : i = 0
      · rw [if_pos (by omega)]; rfl
      · rw [if_neg (by omega), (np _).1]; rfl
  · refine pend_one _ g 0 (by decide) fun i hi => ?_
    unfold pendB
    rw [set_getD _ _ _ _ (by rw [l4]; omega)]
    by_cases e2 : i = 0
    · rw [if_pos (by omega), decide_eq_true e2]
    · rw [if_neg (by omega), decide_eq_false e2, g4]
      by_cases e1 : i = n - 1
      · rw [if_pos (by omega)]
      · rw [if_neg (by omega), if_neg (by omega), (np _).1]

def LoopsTo (b g n : Nat) (w : World) (i : Value) (wr : World) : Prop := ∃ (j : Nat) (l : List Pe), j ≤ n ∧ i = .int .i64 (j : Int) ∧ NAt wr b l ∧ Fresh l g j ∧ Below w.heap.size w wr
set_option maxRecDepth 100000 in
set_option maxHeartbeats 4000000 in
theorem evchLoops_walk (E : Nat → Addr) (x0 x1 : Int) (w : World) (hE : ErrsAt errT gOf w E all16) (h0 : -9223372036854775808 ≤ x0 ∧ x0 ≤ 9223372036854775807) (h1 : -9223372036854775808 ≤ x1 ∧ x1 ≤ 9223372036854775807) :
    Calls Tryd.prog 4 #[.int .i64 x0, .int .i64 x1] w fun e w' => e = .returned (.bool true) ∧ Below w.heap.size w w' := by
  have HN0 := Lib.hid (fun wx => number_any x0 8 wx h0.1 h0.2 (by decide) (by decide))
  have HN1 := Lib.hid (fun wx => number_any x1 14 wx h1.1 h1.2 (by decide) (by decide))
  obtain ⟨g, hgq⟩ : ∃ g : Nat, x0 % 8 = (g : Int) := ⟨(x0 % 8).toNat, by omega⟩
  have hg : g < 8 := by omega
  obtain ⟨m, hmq⟩ : ∃ m : Nat, x1 % 14 = (m : Int) := ⟨(x1 % 14).toNat, by omega⟩
  have hm : m < 14 := by omega
  rw [hgq] at HN0
  rw [hmq] at HN1
  obtain ⟨n, hn⟩ : ∃ n : Nat, n = m + 2 := ⟨_, rfl⟩
  have hni : (m : Int) + 2 = (n : Int) := by omega
  have HNI := Lib.hid hni
  have hn2 : 2 ≤ n := by omega
  have hn16 : n < 16 := by omega
  have HE := Lib.hid hE
  clear hgq hmq hn h0 h1 hE hni
  go_enter Tryd.func4, Tryd.ntmps4
  go_wp2_with fail
  refine (ev_first E _ HE.out).mono ?_
  rintro e w1 ⟨rfl, hb1⟩
  have HB1 := Lib.hid hb1
  clear hb1
  go_wp2_with fail
  refine (HN0.out _).mono ?_
  rintro e w2 ⟨rfl, rfl⟩
  go_wp2_with fail
  refine (HN1.out _).mono ?_
  rintro e w2 ⟨rfl, rfl⟩
  have HST : Hid (LoopsTo w1.heap.size g n w (.int .i64 0) (w1.alloc (.cells Tryd.zeroCells41 41))) := Lib.hid ⟨0, _, Nat.zero_le _, rfl, ev_new w1, fresh_none g, HB1.out.alloc HB1.out.size _⟩
  have HBS : Hid (w.heap.size ≤ w1.heap.size) := Lib.hid HB1.out.size
  have HEK : Hid (∀ wx, Below w.heap.size w wx → ErrsAt errT gOf wx E all16) := Lib.hid fun wx h => HE.out.mono h
  go_wp2_with fail
  rw [HNI.out]
  generalize w1.alloc (.cells Tryd.zeroCells41 41) = w2 at HST ⊢
  obtain ⟨b, hb⟩ : ∃ b, w1.heap.size = b := ⟨_, rfl⟩
  rw [hb] at HST HBS ⊢
  clear hb HB1 HNI HN0 HN1
  go_loopw [7] (fun i wr => LoopsTo b g n w i wr) (fun i _ => n - (intOf i).toNat)
  case atStart => exact HST.out
  case round =>
    obtain ⟨j, l, hj, rfl, hn, hf, hb⟩ := hrel
    have HN := Lib.hid hn
    have HF := Lib.hid hf
    have HB := Lib.hid hb
    clear hn hf hb HST
    by_cases hlt : j < n
    · have hji : (j : Int) < (n : Int) := by omega
      have hj63 : (j : Int) < 16 := by omega
      have HX := Lib.hid (fresh_next HF.out hg (by omega : j < 16))
      go_wp2_with fail
      refine (alloc_any E l b g _ all16 (by decide) (HEK.out _ HB.out) HN.out hg).mono ?_
      rintro e w3 ⟨h1, -⟩
      obtain ⟨rfl, hn, ho⟩ := h1 j HX.out.1
      have HN3 := Lib.hid hn
      have HB3 := Lib.hid (HB.out.trans (ho.below (B := w.heap.size) HB.out.size (fun k hk => by subst hk; exact HBS.out)))
      clear h1 hn ho
      go_wp2
      go_roundw
      case rel => exact ⟨j + 1, _, by omega, by go_num, HN3.out, HX.out.2, HB3.out⟩
      case measure => simp [intOf]; omega
    · obtain rfl : j = n := by omega
      obtain ⟨L2, L3, L4, L5, q1, q2, q3, q4, q5, q6, q7, q8, q9, q10, q11, q12, q13, q14, q15, q16, q17⟩ := loops_facts l g j HF.out hg hn2 hn16
      have HQ := Lib.hid (And.intro q1 (And.intro q2 (And.intro q3 (And.intro q4 q5))))
      have H6 := Lib.hid q6
      have H7 := Lib.hid (And.intro q7 (And.intro q8 q9))
      have H10 := Lib.hid q10
      have H11 := Lib.hid q11
      have H12 := Lib.hid q12
      have H13 := Lib.hid (And.intro q13 (And.intro q14 q15))
      have H16 := Lib.hid q16
      have H17 := Lib.hid q17
      clear q1 q2 q3 q4 q5 q6 q7 q8 q9 q10 q11 q12 q13 q14 q15 q16 q17
      obtain ⟨k, hk⟩ : ∃ k : Nat, j - 1 = k := ⟨_, rfl⟩
      rw [hk] at HQ H6 H7 H10 H11 H13
      have hki : (j : Int) - 1 = (k : Int) := by omega
      have hk16 : k < 15 := by omega
      have HKI := Lib.hid hki
      clear hk hki
      go_wp2_with fail
      refine (bind_busy E l b g g 1 1 _ _ _ all16 (by decide) (HEK.out _ HB.out) HN.out hg hg HQ.out.1 HQ.out.1 HQ.out.2.1).mono ?_
      rintro e w3 ⟨rfl, rfl⟩
      go_wp2_with fail
      rw [HKI.out]
      refine (bind_ok l b g g 0 k _ HN.out hg hg HQ.out.2.2.1 HQ.out.2.2.2.1 HQ.out.2.2.2.2).mono ?_
      rintro e w4 ⟨rfl, hn4, ho4⟩
      rw [H6.out] at hn4
      have HN4 := Lib.hid hn4
      have HB4 := Lib.hid (HB.out.trans (ho4.below (B := w.heap.size) HB.out.size (fun k hk => by subst hk; exact HBS.out)))
      clear hn4 ho4
      go_wp2_with fail
      refine (send_ok L2 b g 0 g k _ _ HN4.out hg H7.out.1 H7.out.2.1 H7.out.2.2 hg (by omega)).mono ?_
      rintro e w5 ⟨rfl, hn5, ho5⟩
      rw [H10.out] at hn5
      have HN5 := Lib.hid hn5
      have HB5 := Lib.hid (HB4.out.trans (ho5.below (B := w.heap.size) HB4.out.size (fun k hk => by subst hk; exact HBS.out)))
      clear hn5 ho5
      go_wp2_with fail
      refine (take_any' L3 b g _ HN5.out hg).mono ?_
      rintro e w6 ⟨rfl, hn6, ho6⟩
      rw [H12.out] at hn6
      have HN6 := Lib.hid hn6
      have HB6 := Lib.hid (HB5.out.trans (ho6.below (B := w.heap.size) HB5.out.size (fun k hk => by subst hk; exact HBS.out)))
      clear hn6 ho6
      rw [show ((anyE L3 g : Nat) : Int) = (2 : Int) ^ k % 4294967296 by rw [H11.out, shl_val k (by omega)]]
      go_wp2_with fail
      rw [HKI.out]
      refine (send_ok L4 b g k g 0 _ _ HN6.out hg H13.out.1 H13.out.2.1 H13.out.2.2 hg (by omega)).mono ?_
      rintro e w7 ⟨rfl, hn7, ho7⟩
      rw [H16.out] at hn7
      have HN7 := Lib.hid hn7
      have HB7 := Lib.hid (HB6.out.trans (ho7.below (B := w.heap.size) HB6.out.size (fun k hk => by subst hk; exact HBS.out)))
      clear hn7 ho7
      go_wp2_with fail
      refine (ebits_any L5 b g _ HN7.out hg).mono ?_
      rintro e w8 ⟨rfl, hb8⟩
      have HB8 := Lib.hid (HB7.out.trans (hb8.mono HB7.out.size))
      rw [H17.out]
      clear hb8
      go_wp2_with fail
      refine (is_any E (errV (E 11)) 112 112 (.inr ⟨11, by decide, rfl, rfl⟩) _ (HEK.out _ HB8.out)).mono ?_
      rintro e w9 ⟨rfl, hb9⟩
      have HB9 := Lib.hid (HB8.out.trans (hb9.mono HB8.out.size))
      clear hb9
      have hki := HKI.out
      go_wp2
      go_ret
      exact ⟨rfl, HB9.out⟩
end Go.Proofs.YtpmbbbgmaipmbaaDoor
