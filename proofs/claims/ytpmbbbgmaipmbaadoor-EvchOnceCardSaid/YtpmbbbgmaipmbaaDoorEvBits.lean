/-
  Chapter 21: what pends, what is masked, as bits.
-/
import Derived.Test.YtpmbbbgmaipmbaaDoorEvLoops
namespace Go.Proofs.YtpmbbbgmaipmbaaDoor
open Go.RowKit

/-- so many ports of guests 2 and 5, each bound to the other's -/
def StB (l : List Pe) (k : Nat) : Prop := l.length = 128 ∧ ∀ i, l.getD i default = if 32 ≤ i ∧ i < 32 + k then ⟨true, true, false, false, 5, ((i - 32 : Nat) : Int)⟩ else if 80 ≤ i ∧ i < 80 + k then ⟨true, true, false, false, 2, ((i - 80 : Nat) : Int)⟩ else {}
theorem stB_none : StB none128 0 := ⟨rfl, fun i => by rw [none128_get, if_neg (by omega), if_neg (by omega)]⟩
theorem stB_next (L : List Pe) (k : Nat) (h : StB L k) (hk : k < 16) : ∃ L1 L2 L3, allocP L 2 = some k ∧ L.set (2 * 16 + k) { L.getD (2 * 16 + k) default with live := true } = L1 ∧ allocP L1 5 = some k ∧ L1.set (5 * 16 + k) { L1.getD (5 * 16 + k) default with live := true } = L2 ∧
    atP L2 2 (k : Int) = some k ∧ atP L2 5 (k : Int) = some k ∧ ¬ busyB L2 2 k 5 k ∧ bindTo (bindTo L2 (2 * 16 + k) (5 : Nat) k) (5 * 16 + k) (2 : Nat) k = L3 ∧ StB L3 (k + 1) := by
  obtain ⟨hl, hg⟩ := h
  have q1 : L.getD (2 * 16 + k) default = {} := by rw [hg, if_neg (by omega), if_neg (by omega)]
  have g1 : ∀ i, (L.set (2 * 16 + k) { L.getD (2 * 16 + k) default with live := true }).getD i default = if i = 32 + k then { live := true } else L.getD i default := fun i => by
    rw [set_getD _ _ _ _ (by omega), q1]
  obtain ⟨L1, h1⟩ : ∃ L1, L.set (2 * 16 + k) { L.getD (2 * 16 + k) default with live := true } = L1 := ⟨_, rfl⟩
  have l1 : L1.length = 128 := by rw [← h1, List.length_set, hl]
  rw [h1] at g1
  have q2 : L1.getD (5 * 16 + k) default = {} := by rw [g1, if_neg (by omega), hg, if_neg (by omega), if_neg (by omega)]
  have g2 : ∀ i, (L1.set (5 * 16 + k) { L1.getD (5 * 16 + k) default with live := true }).getD i default = if i = 80 + k then { live := true } else if i = 32 + k then { live := true } else L.getD i default := fun i => by
    rw [set_getD _ _ _ _ (by omega), q2, g1]
  obtain ⟨L2, h2⟩ : ∃ L1', L1.set (5 * 16 + k) { L1.getD (5 * 16 + k) default with live := true } = L1' := ⟨_, rfl⟩
  have l2 : L2.length = 128 := by rw [← h2, List.length_set, l1]
  rw [h2] at g2
  have a2 : L2.getD (2 * 16 + k) default = { live := true } := by rw [g2, if_neg (by omega), if_pos (by omega)]
  have a5 : L2.getD (5 * 16 + k) default = { live := true } := by rw [g2, if_pos (by omega)]
  refine ⟨L1, L2, _, allocP_some _ _ _ (fun i hi => by rw [hg, if_pos ⟨by omega, by omega⟩]) hk (by rw [q1]), h1, allocP_some _ _ _ (fun i hi => by rw [g1, if_neg (by omega), hg, if_neg (by omega), if_pos ⟨by omega, by omega⟩]) hk (by rw [q2]), h2,
    atP_of _ _ _ hk (by rw [a2]), atP_of _ _ _ hk (by rw [a5]), ?_, rfl, by rw [bindTo_len, bindTo_len, l2], fun i => ?_⟩
  · rintro (e | e | ⟨e, -⟩)
    · rw [a2] at e; cases e
    · rw [a5] at e; cases e
    · cases e
  · rw [bindTo_get _ _ _ _ _ (by rw [bindTo_len, l2]; omega), bindTo_get _ _ _ _ _ (by rw [l2]; omega), if_neg (show ¬ 5 * 16 + k = 2 * 16 + k by omega), a5, bindTo_get _ _ _ _ _ (by rw [l2]; omega), a2, g2, hg]
    by_cases e1 : i = 5 * 16 + k
    · rw [if_pos e1, if_neg (by omega), if_pos ⟨by omega, by omega⟩, show i - 80 = k by omega]
      rfl
    · rw [if_neg e1]
      by_cases e2 : i = 2 * 16 + k
      · rw [if_pos e2, if_pos ⟨by omega, by omega⟩, show i - 32 = k by omega]
        rfl
      · rw [if_neg e2, if_neg (show ¬ i = 80 + k by omega), if_neg (show ¬ i = 32 + k by omega)]
        by_cases e3 : 32 ≤ i ∧ i < 32 + k
        · rw [if_pos e3, if_pos ⟨by omega, by omega⟩]
        · rw [if_neg e3, if_neg (show ¬ (32 ≤ i ∧ i < 32 + (k + 1)) by omega)]
          by_cases e4 : 80 ≤ i ∧ i < 80 + k
          · rw [if_pos e4, if_pos ⟨by omega, by omega⟩]
          · rw [if_neg e4, if_neg (by omega)]
/-- all are bound; which of guest 5's pend, which are masked -/
def SdB (l : List Pe) (ps ms : Nat → Bool) : Prop := l.length = 128 ∧ ∀ i, l.getD i default = if 32 ≤ i ∧ i < 48 then ⟨true, true, false, false, 5, ((i - 32 : Nat) : Int)⟩ else if 80 ≤ i ∧ i < 96 then ⟨true, true, ms (i - 80), ps (i - 80), 2, ((i - 80 : Nat) : Int)⟩ else {}
theorem sdB_of {l : List Pe} (h : StB l 16) : SdB l (fun _ => false) (fun _ => false) := ⟨h.1, fun i => h.2 i⟩
def plus (f : Nat → Bool) (k : Nat) (i : Nat) : Bool := f i || decide (i = k)
theorem plus_or (f : Nat → Bool) (k : Nat) (hk : k < 16) : bits BinOp.or IntKind.u32 (orN f 16 : Nat) ((2 : Int) ^ k % 4294967296) = ((orN (plus f k) 16 : Nat) : Int) := by
  rw [shl_val k (by omega), ← orN_one k 16 hk, orN_or f _ 16 (by decide)]
  rfl
theorem sdB_send (L : List Pe) (ps ms : Nat → Bool) (k : Nat) (h : SdB L ps ms) (hk : k < 16) : ∃ L1, sendP L 2 (k : Int) = some k ∧ (L.getD (2 * 16 + k) default).guest = ((5 : Nat) : Int) ∧ (L.getD (2 * 16 + k) default).port = (k : Int) ∧ L.set (5 * 16 + k) { L.getD (5 * 16 + k) default with pend := true } = L1 ∧ SdB L1 (plus ps k) ms := by
  obtain ⟨hl, hg⟩ := h
  have q : L.getD (2 * 16 + k) default = ⟨true, true, false, false, 5, (k : Int)⟩ := by rw [hg, if_pos ⟨by omega, by omega⟩, show 2 * 16 + k - 32 = k by omega]
  have q5 : L.getD (5 * 16 + k) default = ⟨true, true, ms k, ps k, 2, (k : Int)⟩ := by rw [hg, if_neg (by omega), if_pos ⟨by omega, by omega⟩, show 5 * 16 + k - 80 = k by omega]
  refine ⟨_, sendP_of _ _ _ hk (by rw [q]) (by rw [q]), by rw [q]; rfl, by rw [q], rfl, by rw [List.length_set, hl], fun i => ?_⟩
  rw [set_getD _ _ _ _ (by omega), q5, hg]
  by_cases e : i = 5 * 16 + k
  · rw [if_pos e, if_neg (by omega), if_pos ⟨by omega, by omega⟩, show i - 80 = k by omega]
    unfold plus
    rw [decide_eq_true rfl, Bool.or_true]
  · rw [if_neg e]
    by_cases e1 : 32 ≤ i ∧ i < 48
    · rw [if_pos e1, if_pos e1]
    · rw [if_neg e1, if_neg e1]
      by_cases e2 : 80 ≤ i ∧ i < 96
      · rw [if_pos e2, if_pos e2]
        unfold plus
        rw [decide_eq_false (show ¬ i - 80 = k by omega), Bool.or_false]
      · rw [if_neg e2, if_neg e2]
theorem sdB_mask (L : List Pe) (ps ms : Nat → Bool) (k : Nat) (h : SdB L ps ms) (hk : k < 16) : ∃ L1, atP L 5 (k : Int) = some k ∧ L.set (5 * 16 + k) { L.getD (5 * 16 + k) default with masked := true } = L1 ∧ SdB L1 ps (plus ms k) := by
  obtain ⟨hl, hg⟩ := h
  have q5 : L.getD (5 * 16 + k) default = ⟨true, true, ms k, ps k, 2, (k : Int)⟩ := by rw [hg, if_neg (by omega), if_pos ⟨by omega, by omega⟩, show 5 * 16 + k - 80 = k by omega]
  refine ⟨_, atP_of _ _ _ hk (by rw [q5]), rfl, by rw [List.length_set, hl], fun i => ?_⟩
  rw [set_getD _ _ _ _ (by omega), q5, hg]
  by_cases e : i = 5 * 16 + k
  · rw [if_pos e, if_neg (by omega), if_pos ⟨by omega, by omega⟩, show i - 80 = k by omega]
    unfold plus
    rw [decide_eq_true rfl, Bool.or_true]
  · rw [if_neg e]
    by_cases e1 : 32 ≤ i ∧ i < 48
    · rw [if_pos e1, if_pos e1]
    · rw [if_neg e1, if_neg e1]
      by_cases e2 : 80 ≤ i ∧ i < 96
      · rw [if_pos e2, if_pos e2]
        unfold plus
        rw [decide_eq_false (show ¬ i - 80 = k by omega), Bool.or_false]
      · rw [if_neg e2, if_neg e2]
theorem sdB_bits (L : List Pe) (ps ms : Nat → Bool) (h : SdB L ps ms) : orN (pendB L 5) 16 = orN ps 16 ∧ orN (maskB L 5) 16 = orN ms 16 ∧ anyE L 5 = orN (fun i => ps i && !ms i) 16 ∧ orN (pendB (takeE L 5 16) 5) 16 = orN (fun i => ps i && ms i) 16 ∧ orN (maskB (takeE L 5 16) 5) 16 = orN ms 16 ∧
    orN (pendB (takeE L 5 16) 2) 16 = 0 ∧ orN (maskB (takeE L 5 16) 2) 16 = 0 := by
  obtain ⟨hl, hg⟩ := h
  have q5 : ∀ k, k < 16 → L.getD (5 * 16 + k) default = ⟨true, true, ms k, ps k, 2, (k : Int)⟩ := fun k hk => by rw [hg, if_neg (by omega), if_pos ⟨by omega, by omega⟩, show 5 * 16 + k - 80 = k by omega]
  have q2 : ∀ k, k < 16 → L.getD (2 * 16 + k) default = ⟨true, true, false, false, 5, (k : Int)⟩ := fun k hk => by rw [hg, if_pos ⟨by omega, by omega⟩, show 2 * 16 + k - 32 = k by omega]
  have t5 : ∀ k, k < 16 → (takeE L 5 16).getD (5 * 16 + k) default = ⟨true, true, ms k, ps k && ms k, 2, (k : Int)⟩ := fun k hk => by rw [takeE_get _ _ _ _ (by omega), if_pos ⟨by omega, by omega⟩, q5 k hk]
  have t2 : ∀ k, k < 16 → (takeE L 5 16).getD (2 * 16 + k) default = ⟨true, true, false, false, 5, (k : Int)⟩ := fun k hk => by rw [takeE_get _ _ _ _ (by omega), if_neg (by omega), q2 k hk]
  refine ⟨orN_congr fun i hi => ?_, orN_congr fun i hi => ?_, orN_congr fun i hi => ?_, orN_congr fun i hi => ?_, orN_congr fun i hi => ?_, (orN_zero_iff _ _).2 fun i hi => ?_, (orN_zero_iff _ _).2 fun i hi => ?_⟩
  · unfold pendB; rw [q5 i hi]
  · unfold maskB; rw [q5 i hi]
  · unfold pendB maskB; rw [q5 i hi]
  · unfold pendB; rw [t5 i hi]
  · unfold maskB; rw [t5 i hi]
  · unfold pendB; rw [t2 i hi]
  · unfold maskB; rw [t2 i hi]
def i64s (l : List Int) : List Value := l.map (Value.int .i64)
theorem i64s_get (l : List Int) (k : Nat) (h : k < l.length) : (i64s l)[k]? = some (.int .i64 (l.getD k 0)) := by
  unfold i64s
  rw [List.getElem?_map, List.getD_eq_getElem?_getD, List.getElem?_eq_getElem h]
  rfl
theorem getD_mem (l : List Int) (k : Nat) (h : k < l.length) : l.getD k 0 ∈ l := by
  rw [List.getD_eq_getElem?_getD, List.getElem?_eq_getElem h]
  exact List.getElem_mem h
theorem num16 (z : Int) : ∃ k : Nat, z % 16 = (k : Int) ∧ k < 16 := ⟨(z % 16).toNat, by omega, by omega⟩

def BTo1 (b : Nat) (w : World) (i : Value) (wr : World) : Prop := ∃ (j : Nat) (l : List Pe), j ≤ 16 ∧ i = .int .i64 (j : Int) ∧ NAt wr b l ∧ StB l j ∧ Below w.heap.size w wr
def BTo2 (b n : Nat) (w : World) (p i : Value) (wr : World) : Prop := ∃ (j : Nat) (l : List Pe) (ps : Nat → Bool), j ≤ n ∧ i = .int .i64 (j : Int) ∧ p = .int .u32 (orN ps 16 : Nat) ∧ NAt wr b l ∧ SdB l ps (fun _ => false) ∧ Below w.heap.size w wr
def BTo3 (b n : Nat) (ps : Nat → Bool) (w : World) (p i : Value) (wr : World) : Prop := ∃ (j : Nat) (l : List Pe) (ms : Nat → Bool), j ≤ n ∧ i = .int .i64 (j : Int) ∧ p = .int .u32 (orN ms 16 : Nat) ∧ NAt wr b l ∧ SdB l ps ms ∧ Below w.heap.size w wr
set_option maxRecDepth 100000 in
set_option maxHeartbeats 8000000 in
theorem evchBits_walk (E : Nat → Addr) (xs : List Int) (v : Value) (ys : List Int) (u : Value) (w : World) (hE : ErrsAt errT gOf w E all16) (hrx : Reads w v xs.length (xs.map (Value.int .i64))) (hx : ∀ z ∈ xs, -9223372036854775808 ≤ z ∧ z ≤ 9223372036854775807)
    (hry : Reads w u ys.length (ys.map (Value.int .i64))) (hy : ∀ z ∈ ys, -9223372036854775808 ≤ z ∧ z ≤ 9223372036854775807) (hmx : xs.length ≤ maxLen) (hmy : ys.length ≤ maxLen) :
    Calls Tryd.prog 7 #[v, u] w fun e w' => e = .returned (.bool true) ∧ Below w.heap.size w w' := by
  unfold maxLen at hmx hmy
  obtain ⟨xo, xc, rfl, hax⟩ := atL_of_reads hrx
  obtain ⟨yo, yc, rfl, hay⟩ := atL_of_reads hry
  have HAX := Lib.hid hax
  have HAY := Lib.hid hay
  have HX := Lib.hid hx
  have HY := Lib.hid hy
  have HE := Lib.hid hE
  clear hrx hry hax hay hx hy hE
  by_cases hbig : 16 < xs.length ∨ 16 < ys.length
  · have hc : 16 < xs.length ∨ (¬ 16 < xs.length ∧ 16 < ys.length) := by omega
    clear hbig
    rcases hc with h | ⟨h, h'⟩
    all_goals
      go_enter Tryd.func7, Tryd.ntmps7
      go_wp2_with fail
      refine (ev_first E _ HE.out).mono ?_
      rintro e w1 ⟨rfl, hb1⟩
      have HB1 := Lib.hid hb1
      clear hb1
      go_wp2
      go_ret
      exact ⟨rfl, HB1.out⟩
  · have hxl : xs.length ≤ 16 := by omega
    have hyl : ys.length ≤ 16 := by omega
    have hdx : decide ((16 : Int) < (xs.length : Int)) = false := by simp; omega
    have hdy : decide ((16 : Int) < (ys.length : Int)) = false := by simp; omega
    clear hbig
    go_enter Tryd.func7, Tryd.ntmps7
    go_wp2_with fail
    refine (ev_first E _ HE.out).mono ?_
    rintro e w1 ⟨rfl, hb1⟩
    have HB1 := Lib.hid hb1
    clear hb1
    have HST : Hid (BTo1 w1.heap.size w (.int .i64 0) (w1.alloc (.cells Tryd.zeroCells41 41))) := Lib.hid ⟨0, _, Nat.zero_le _, rfl, ev_new w1, stB_none, HB1.out.alloc HB1.out.size _⟩
    have HBS : Hid (w.heap.size ≤ w1.heap.size) := Lib.hid HB1.out.size
    have HEK : Hid (∀ wx, Below w.heap.size w wx → ErrsAt errT gOf wx E all16) := Lib.hid fun wx h => HE.out.mono h
    go_wp2_with fail
    generalize w1.alloc (.cells Tryd.zeroCells41 41) = w2 at HST ⊢
    obtain ⟨b, hb⟩ : ∃ b, w1.heap.size = b := ⟨_, rfl⟩
    rw [hb] at HST HBS ⊢
    clear hb HB1
    have HOF : Hid (∀ wa wb : World, Below w.heap.size w wa → Only (fun k => k = b) wa wb → Below w.heap.size w wb) := Lib.hid fun wa wb h ho => h.trans (ho.below (B := w.heap.size) h.size (fun k hk => by subst hk; exact HBS.out))
    go_loopw [7] (fun i wr => BTo1 b w i wr) (fun i _ => 16 - (intOf i).toNat)
    case atStart => exact HST.out
    case round =>
      obtain ⟨j, l, hj, rfl, hn, hf, hb⟩ := hrel
      have HN := Lib.hid hn
      have HF := Lib.hid hf
      have HB := Lib.hid hb
      clear hn hf hb HST
      by_cases hlt : j < 16
      · have hji : (j : Int) < 16 := by omega
        obtain ⟨L1, L2, L3, q1, q2, q3, q4, q5, q6, q7, q8, q9⟩ := stB_next l j HF.out hlt
        have H1 := Lib.hid q1
        have H2 := Lib.hid q2
        have H3 := Lib.hid q3
        have H4 := Lib.hid q4
        have H5 := Lib.hid q5
        have H6 := Lib.hid q6
        have H7 := Lib.hid q7
        have H8 := Lib.hid q8
        have H9 := Lib.hid q9
        clear q1 q2 q3 q4 q5 q6 q7 q8 q9
        go_wp2_with fail
        refine (alloc_any E l b 2 _ all16 (by decide) (HEK.out _ HB.out) HN.out (by decide)).mono ?_
        rintro e w3 ⟨h1, -⟩
        obtain ⟨rfl, hn, ho⟩ := h1 j H1.out
        rw [H2.out] at hn
        have HN3 := Lib.hid hn
        have HB3 := Lib.hid (HOF.out _ _ HB.out ho)
        clear h1 hn ho
        go_wp2_with fail
        refine (alloc_any E L1 b 5 _ all16 (by decide) (HEK.out _ HB3.out) HN3.out (by decide)).mono ?_
        rintro e w4 ⟨h1, -⟩
        obtain ⟨rfl, hn, ho⟩ := h1 j H3.out
        rw [H4.out] at hn
        have HN4 := Lib.hid hn
        have HB4 := Lib.hid (HOF.out _ _ HB3.out ho)
        clear h1 hn ho
        go_wp2_with fail
        refine (bind_ok L2 b 2 5 j j _ HN4.out (by decide) (by decide) H5.out H6.out H7.out).mono ?_
        rintro e w5 ⟨rfl, hn, ho⟩
        rw [H8.out] at hn
        have HN5 := Lib.hid hn
        have HB5 := Lib.hid (HOF.out _ _ HB4.out ho)
        clear hn ho
        go_wp2
        go_roundw
        case rel => exact ⟨j + 1, L3, by omega, by go_num, HN5.out, H9.out, HB5.out⟩
        case measure => simp [intOf]; omega
      · obtain rfl : j = 16 := by omega
        have HS2 : Hid (BTo2 b xs.length w (.int .u32 0) (.int .i64 0) wr) := Lib.hid ⟨0, l, fun _ => false, Nat.zero_le _, rfl, rfl, HN.out, sdB_of HF.out, HB.out⟩
        clear HF HB HN
        go_wp2_with fail
        rw [show ((16 : Nat) : Int) = 16 from rfl]
        go_loopw [8, 10] (fun p i wr => BTo2 b xs.length w p i wr) (fun _ i _ => xs.length - (intOf i).toNat)
        case atStart => exact HS2.out
        case round =>
          obtain ⟨j, l, ps, hj, rfl, rfl, hn, hf, hb⟩ := hrel
          have HN := Lib.hid hn
          have HF := Lib.hid hf
          have HB := Lib.hid hb
          clear hn hf hb HS2
          by_cases hlt : j < xs.length
          · have hji : (j : Int) < (xs.length : Int) := by omega
            obtain ⟨sb, so, rfl, q0, hql⟩ := HAX.out j _ (i64s_get xs j hlt)
            have HZB := Lib.hid (HX.out _ (getD_mem xs j hlt))
            obtain ⟨z, hz⟩ : ∃ z, xs.getD j 0 = z := ⟨_, rfl⟩
            rw [hz] at q0 HZB
            have c0 := (HB.out.cell (p := ⟨sb, so + j, none⟩) hql).trans q0
            clear hz q0 hql
            obtain ⟨k, hk, hk16⟩ := num16 z
            have HNUM := Lib.hid (fun wx => number_any z 16 wx HZB.out.1 HZB.out.2 (by decide) (by decide))
            rw [hk] at HNUM
            clear hk
            obtain ⟨L1, q1, q2, q3, q4, q5⟩ := sdB_send l ps _ k HF.out hk16
            have H1 := Lib.hid q1
            have H2 := Lib.hid q2
            have H3 := Lib.hid q3
            have H4 := Lib.hid q4
            have H5 := Lib.hid q5
            have HOR := Lib.hid (plus_or ps k hk16)
            clear q1 q2 q3 q4 q5
            go_wp2_with fail
            refine (HNUM.out _).mono ?_
            rintro e w3 ⟨rfl, rfl⟩
            go_wp2_with fail
            refine (send_ok l b 2 k 5 k _ _ HN.out (by decide) H1.out H2.out H3.out (by decide) hk16).mono ?_
            rintro e w4 ⟨rfl, hn, ho⟩
            rw [H4.out] at hn
            have HN4 := Lib.hid hn
            have HB4 := Lib.hid (HOF.out _ _ HB.out ho)
            clear hn ho
            have hor := HOR.out
            go_wp2
            go_roundw
            case rel => exact ⟨j + 1, L1, plus ps k, by omega, by go_num, rfl, HN4.out, H5.out, HB4.out⟩
            case measure => simp [intOf]; omega
          · obtain rfl : j = xs.length := by omega
            have HS3 : Hid (BTo3 b ys.length ps w (.int .u32 0) (.int .i64 0) wr) := Lib.hid ⟨0, l, fun _ => false, Nat.zero_le _, rfl, rfl, HN.out, HF.out, HB.out⟩
            clear HF HB HN HAX HX
            go_wp2_with fail
            go_loopw [9, 12] (fun p i wr => BTo3 b ys.length ps w p i wr) (fun _ i _ => ys.length - (intOf i).toNat)
            case atStart => exact HS3.out
            case round =>
              obtain ⟨j, l, ms, hj, rfl, rfl, hn, hf, hb⟩ := hrel
              have HN := Lib.hid hn
              have HF := Lib.hid hf
              have HB := Lib.hid hb
              clear hn hf hb HS3
              by_cases hlt : j < ys.length
              · have hji : (j : Int) < (ys.length : Int) := by omega
                obtain ⟨sb, so, rfl, q0, hql⟩ := HAY.out j _ (i64s_get ys j hlt)
                have HZB := Lib.hid (HY.out _ (getD_mem ys j hlt))
                obtain ⟨z, hz⟩ : ∃ z, ys.getD j 0 = z := ⟨_, rfl⟩
                rw [hz] at q0 HZB
                have c0 := (HB.out.cell (p := ⟨sb, so + j, none⟩) hql).trans q0
                clear hz q0 hql
                obtain ⟨k, hk, hk16⟩ := num16 z
                have HNUM := Lib.hid (fun wx => number_any z 16 wx HZB.out.1 HZB.out.2 (by decide) (by decide))
                rw [hk] at HNUM
                clear hk
                obtain ⟨L1, q1, q2, q3⟩ := sdB_mask l ps ms k HF.out hk16
                have H1 := Lib.hid q1
                have H2 := Lib.hid q2
                have H3 := Lib.hid q3
                have HOR := Lib.hid (plus_or ms k hk16)
                clear q1 q2 q3
                go_wp2_with fail
                refine (HNUM.out _).mono ?_
                rintro e w3 ⟨rfl, rfl⟩
                go_wp2_with fail
                refine (mask_ok l b 5 k _ true _ HN.out (by decide) H1.out).mono ?_
                rintro e w4 ⟨rfl, hn, ho⟩
                rw [H2.out] at hn
                have HN4 := Lib.hid hn
                have HB4 := Lib.hid (HOF.out _ _ HB.out ho)
                clear hn ho
                have hor := HOR.out
                go_wp2
                go_roundw
                case rel => exact ⟨j + 1, L1, plus ms k, by omega, by go_num, rfl, HN4.out, H3.out, HB4.out⟩
                case measure => simp [intOf]; omega
              · obtain rfl : j = ys.length := by omega
                obtain ⟨q1, q2, q3, q4, q5, q6, q7⟩ := sdB_bits l ps ms HF.out
                have H1 := Lib.hid q1
                have H2 := Lib.hid q2
                have H3 := Lib.hid q3
                have H4 := Lib.hid q4
                have H5 := Lib.hid q5
                have H6 := Lib.hid q6
                have H7 := Lib.hid q7
                have HA := Lib.hid (orN_and ps ms 16 (by decide))
                have HAN := Lib.hid (orN_andNot ps ms 16 (by decide))
                clear q1 q2 q3 q4 q5 q6 q7
                go_wp2_with fail
                refine (ebits_any l b 5 _ HN.out (by decide)).mono ?_
                rintro e w3 ⟨rfl, hb⟩
                rw [H1.out, H2.out]
                have HN3 := Lib.hid (HN.out.below hb)
                have HB3 := Lib.hid (HB.out.trans (hb.mono HB.out.size))
                clear hb
                go_wp2_with fail
                refine (any_any l b 5 _ HN3.out (by decide)).mono ?_
                rintro e w4 ⟨rfl, hb⟩
                rw [H3.out]
                have HN4 := Lib.hid (HN3.out.below hb)
                have HB4 := Lib.hid (HB3.out.trans (hb.mono HB3.out.size))
                clear hb
                go_wp2_with fail
                refine (take_any' l b 5 _ HN4.out (by decide)).mono ?_
                rintro e w5 ⟨rfl, hn, ho⟩
                rw [H3.out]
                have HN5 := Lib.hid hn
                have HB5 := Lib.hid (HOF.out _ _ HB4.out ho)
                clear hn ho
                go_wp2_with fail
                refine (ebits_any _ b 5 _ HN5.out (by decide)).mono ?_
                rintro e w6 ⟨rfl, hb⟩
                rw [H4.out, H5.out]
                have HN6 := Lib.hid (HN5.out.below hb)
                have HB6 := Lib.hid (HB5.out.trans (hb.mono HB5.out.size))
                clear hb
                go_wp2_with fail
                refine (ebits_any _ b 2 _ HN6.out (by decide)).mono ?_
                rintro e w7 ⟨rfl, hb⟩
                rw [H6.out, H7.out]
                have HB7 := Lib.hid (HB6.out.trans (hb.mono HB6.out.size))
                clear hb
                have hand := HA.out
                have handn := HAN.out
                obtain ⟨P, hP⟩ : ∃ P, orN ps 16 = P := ⟨_, rfl⟩
                obtain ⟨M, hM⟩ : ∃ M, orN ms 16 = M := ⟨_, rfl⟩
                obtain ⟨A, hA⟩ : ∃ M, orN (fun i => ps i && ms i) 16 = M := ⟨_, rfl⟩
                obtain ⟨D, hD⟩ : ∃ M, orN (fun i => ps i && !ms i) 16 = M := ⟨_, rfl⟩
                rw [hP, hM, hA] at hand
                rw [hP, hM, hD] at handn
                rw [hP, hM, hA, hD]
                clear hP hM hA hD HA HAN H1 H2 H3 H4 H5 H6 H7
                by_cases hD0 : D = 0
                · subst hD0
                  go_wp2
                  go_ret
                  exact ⟨rfl, HB7.out⟩
                · have e1 : decide (D = 0) = false := by simp [hD0]
                  have e2 : ((D : Int) == 0) = false := by simp [hD0]
                  have e3 : ((D : Int) != 0) = true := by simp [hD0]
                  clear hD0
                  go_wp2
                  go_ret
                  exact ⟨rfl, HB7.out⟩
end Go.Proofs.YtpmbbbgmaipmbaaDoor
