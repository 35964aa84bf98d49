/-
  Parts of one proof, one behind the other.
-/
import Derived.Test.YtnhocmmgdkiepaaDoorMgdf1c79bb83
import Derived.Test.YtnhocmmgdkiepaaDoorMg96796b0608
import Derived.BigQuiet
import Derived.Test.YtnhocmmgdkiepaaDoorRows
import Derived.Test.YtnhocmmgdkiepaaDoorMg891e6fd1b3
/-
  facaderef16.Sched: Add.
-/
namespace Go.Proofs.YtnhocmmgdkiepaaDoor
open Go.RowKit

theorem infoTn : (Tryd.prog.info? 98).map (fun i => (i.zero, i.size, i.bytes)) = some (some (.agg #[.int .i64 0, .int .i64 0, .int .i64 0, .bool false, .int .i64 0]), 5, 40) := by kernel_rfl
def SdAddQ (xb m : Nat) (v : Value) (st : Int → Option Gu) (x wt : Int) (w : World) (e : Ending) (w' : World) : Prop := ∃ c st', e = .returned (.int .i64 c) ∧ AddR st x wt c st' ∧ ∃ v' L', SdAt w' xb v' L' ∧ SdS L' st' ∧ L'.length ≤ m + 1 ∧ Only (sdz xb v) w w' ∧ ∀ b, inRow v' b → inRow v b ∨ w.heap.size ≤ b
def LeastTo (L : List Tn) (w : World) (u i : Value) (wr : World) : Prop := ∃ (k : Nat) (x : Int), k ≤ L.length ∧ i = .int .i64 (k : Int) ∧ u = .int .i64 x ∧ LeastU L k x ∧ w = wr
theorem one_tn (W : World) (a b c d e : Value) (j : Nat) (u : Value) (h : ([a, b, c, d, e] : List Value)[j]? = some u) : (W.alloc (.cells #[a, b, c, d, e] 98)).cell? ((⟨W.heap.size, 0, none⟩ : Addr).add j) = some u := by
  rw [Addr.add_lit, blk_cell (blk_new W (.cells #[a, b, c, d, e] 98)), Nat.zero_add]
  simpa using h
theorem app_done {w w2 : World} {xb : Nat} {v : Value} {L : List Tn} (h : SdAt w xb v L) (t : Tn) {v' : Value} (a b c d e : Value) (ht : tnOne t = [a, b, c, d, e])
    (ho : w2.ownsRow 0 98 5 v' (L.length + 1) (tnCells L ++ [a, b, c, d, e])) (hg : (w.alloc (.cells #[a, b, c, d, e] 98)).grownBy w2 v.ownBlock) (hs : ∀ k, inRow v' k → inRow v k ∨ w.heap.size + 1 ≤ k) :
    w2.cell? ⟨xb, 0, none⟩ = some v ∧ w2.frozen? ⟨xb, 0, none⟩ = false ∧ xb < w2.heap.size ∧ SdAt (w2.setCell ⟨xb, 0, none⟩ v') xb v' (L ++ [t]) ∧ Only (sdz xb v) w (w2.setCell ⟨xb, 0, none⟩ v') ∧ ∀ b, inRow v' b → inRow v b ∨ w.heap.size ≤ b := by
  have hrow := blk_grown (blk_old h.1 (.cells #[a, b, c, d, e] 98)) hg h.not
  have hO : Only (sdz xb v) w w2 := Only.grown ((Only.refl _ w).alloc' _) hg (fun k hk => .inl (.inr hk))
  refine ⟨blk_cell hrow 0, blk_free hrow 0, blk_lt hrow, ⟨blk_put hrow 0 v', ?_⟩, hO.setCell (p := ⟨xb, 0, none⟩) (.inl (.inl rfl)) _, fun k hk => ?_⟩
  · have e1 : tnCells (L ++ [t]) = tnCells L ++ [a, b, c, d, e] := by unfold tnCells; rw [List.flatMap_append, ← ht]; simp
    rw [List.length_append, e1]
    exact own_set ho hrow (by decide) 0 _
  · rcases hs k hk with h1 | h1
    · exact .inl h1
    · exact .inr (by omega)
set_option maxRecDepth 100000 in
set_option maxHeartbeats 12800000 in
theorem sdadd_any (w : World) (xb m : Nat) (v : Value) (L : List Tn) (st : Int → Option Gu) (h : SdAt w xb v L) (hs : SdS L st) (hm : L.length ≤ m) (h100 : m < 100) (x wt : Int) :
    Calls Tryd.prog 49 #[.pointer (some ⟨xb, 0, none⟩), .int .i64 x, .int .i64 wt] w (SdAddQ xb m v st x wt w) := by
  obtain ⟨i0, hi, hz0, hz1, hz2⟩ := info_parts infoTn
  have HG := Lib.hid (guest_any16 x w)
  have HFD := Lib.hid (sdfind_any w xb v L h (by omega) x)
  have HH := Lib.hid h
  have HS := Lib.hid hs
  have HM := Lib.hid hm
  have HREF : Hid (∀ c, AddR st x wt c st → SdAddQ xb m v st x wt w (.returned (.int .i64 c)) w) := Lib.hid fun c hc => ⟨c, st, rfl, hc, v, L, h, hs, by omega, Only.refl _ _, fun b hb => .inl hb⟩
  have c := h.cell
  have lt := blk_lt h.1
  clear h hs hm
  by_cases hbad : addBad x wt
  · have HF := Lib.hid (HREF.out 103 (.inl ⟨hbad, rfl, rfl⟩))
    unfold addBad at hbad
    have hc : (x < 0 ∨ 8 ≤ x) ∨ (¬ (x < 0 ∨ 8 ≤ x) ∧ wt < 1) ∨ (¬ (x < 0 ∨ 8 ≤ x) ∧ ¬ wt < 1 ∧ 100 < wt) := by omega
    rcases hc with h1 | ⟨h1, h2⟩ | ⟨h1, h2, h3⟩
    · rw [show (decide (0 ≤ x) && decide (x < 8)) = false by rw [Bool.and_eq_false_iff, decide_eq_false_iff_not, decide_eq_false_iff_not]; omega] at HG
      clear hbad h1
      go_enter Tryd.func49, Tryd.ntmps49
      go_wp2_with fail
      refine HG.out.mono ?_
      rintro y w1 ⟨rfl, rfl⟩
      go_wp2_with fail
      go_ret
      exact HF.out
    · rw [show (decide (0 ≤ x) && decide (x < 8)) = true by rw [Bool.and_eq_true, decide_eq_true_eq, decide_eq_true_eq]; omega] at HG
      clear hbad h1
      go_enter Tryd.func49, Tryd.ntmps49
      go_wp2_with fail
      refine HG.out.mono ?_
      rintro y w1 ⟨rfl, rfl⟩
      go_wp2_with fail
      go_ret
      exact HF.out
    · rw [show (decide (0 ≤ x) && decide (x < 8)) = true by rw [Bool.and_eq_true, decide_eq_true_eq, decide_eq_true_eq]; omega] at HG
      clear hbad h1
      go_enter Tryd.func49, Tryd.ntmps49
      go_wp2_with fail
      refine HG.out.mono ?_
      rintro y w1 ⟨rfl, rfl⟩
      go_wp2_with fail
      go_ret
      exact HF.out
  · have HBAD := Lib.hid hbad
    unfold addBad at hbad
    rw [show (decide (0 ≤ x) && decide (x < 8)) = true by rw [Bool.and_eq_true, decide_eq_true_eq, decide_eq_true_eq]; omega] at HG
    have h2 : ¬ wt < 1 := by omega
    have h3 : ¬ 100 < wt := by omega
    clear hbad
    go_enter Tryd.func49, Tryd.ntmps49
    go_wp2_with fail
    refine HG.out.mono ?_
    rintro y w1 ⟨rfl, rfl⟩
    go_wp2_with fail
    refine HFD.out.mono ?_
    rintro y w1 ⟨r, rfl, hr, rfl⟩
    rcases hr with ⟨rfl, hno⟩ | ⟨i, hi2, hid, rfl⟩
    · have HNO := Lib.hid (HS.out.none x hno)
      have HST : Hid (LeastTo L w (.int .i64 0) (.int .i64 0) w) := Lib.hid ⟨0, 0, Nat.zero_le _, rfl, rfl, .inl ⟨rfl, rfl⟩, rfl⟩
      obtain ⟨ao, cap, rfl⟩ := HH.out.slice
      clear hno c lt
      go_wp2_with fail
      go_loopw [7, 8] (fun u i wr => LeastTo L w u i wr) (fun _ i _ => L.length - (intOf i).toNat)
      case atStart => exact HST.out
      case round =>
        obtain ⟨k, u, hk, rfl, rfl, hle, rfl⟩ := hrel
        have HLE := Lib.hid hle
        have c := HH.out.cell
        have lt := blk_lt HH.out.1
        have hlm := HM.out
        clear hle HST
        by_cases hlt : k < L.length
        · have hki : (k : Int) < (L.length : Int) := by omega
          have wk := IntWalk.i64_in ((k : Int) + 1) (by omega)
          obtain ⟨g, cap2, hv⟩ := HH.out.row (by omega)
          obtain ⟨rfl, -, rfl⟩ := Value.slice.inj hv
          obtain ⟨-, -, c2, -, -⟩ := HH.out.at k hlt
          have ltg := own_lt HH.out.2 (k := g) rfl
          obtain ⟨z, hz⟩ : ∃ z, (tg L k).us = z := ⟨_, rfl⟩
          have HZ := Lib.hid hz
          rw [hz] at c2
          clear hz hv
          by_cases hk0 : k = 0
          · have hkb : ((k : Int) == 0) = true := by rw [beq_iff_eq]; omega
            have HN : Hid (LeastU L (k + 1) z) := Lib.hid (by rw [← HZ.out]; exact leastU_take HLE.out (.inl hk0))
            clear hk0
            go_wp2_with fail
            go_roundw
            case rel => exact ⟨k + 1, _, hlt, by go_num, rfl, HN.out, rfl⟩
            case measure => simp [intOf]; omega
          · have hkb : ((k : Int) == 0) = false := by rw [beq_eq_false_iff_ne]; omega
            by_cases hzu : z < u
            · have HN : Hid (LeastU L (k + 1) z) := Lib.hid (by rw [← HZ.out]; exact leastU_take HLE.out (.inr (by rw [HZ.out]; exact hzu)))
              go_wp2_with fail
              go_roundw
              case rel => exact ⟨k + 1, _, hlt, by go_num, rfl, HN.out, rfl⟩
              case measure => simp [intOf]; omega
            · have HN : Hid (LeastU L (k + 1) u) := Lib.hid (leastU_stay HLE.out hk0 (by rw [HZ.out]; exact hzu))
              go_wp2_with fail
              go_roundw
              case rel => exact ⟨k + 1, _, hlt, by go_num, rfl, HN.out, rfl⟩
              case measure => simp [intOf]; omega
        · have hki : ¬ (k : Int) < (L.length : Int) := by omega
          obtain rfl : k = L.length := by omega
          have HMU := Lib.hid (HS.out.minU HLE.out)
          have HUS := Lib.hid (HS.out.us HLE.out)
          have HAPP := Lib.hid (HS.out.app ⟨x, wt, u, false, 0⟩ (by unfold tnOk; have := HBAD.out; unfold addBad at this; have := HUS.out; refine ⟨?_, ?_, ?_, ?_⟩ <;> (try dsimp only) <;> omega) HNO.out ⟨wt, u, false, 0⟩ ⟨rfl, rfl, rfl, fun e => by cases e⟩)
          have hln : L.length < 100 := by have := HM.out; omega
          have HOA := Lib.hid (fun X => HH.out.2.alloc X)
          have HDN : Hid (∀ w2 v', w2.ownsRow 0 98 5 v' (L.length + 1) (tnCells L ++ [.int .i64 x, .int .i64 wt, .int .i64 u, .bool false, .int .i64 0]) → (w.alloc (.cells #[.int .i64 x, .int .i64 wt, .int .i64 u, .bool false, .int .i64 0] 98)).grownBy w2 (Value.slice ao L.length cap).ownBlock → (∀ k, inRow v' k → inRow (.slice ao L.length cap) k ∨ w.heap.size + 1 ≤ k) →
              w2.cell? ⟨xb, 0, none⟩ = some (.slice ao L.length cap) ∧ w2.frozen? ⟨xb, 0, none⟩ = false ∧ xb < w2.heap.size ∧ SdAddQ xb m (.slice ao L.length cap) st x wt w (.returned (.int .i64 0)) (w2.setCell ⟨xb, 0, none⟩ v')) := Lib.hid fun w2 v' ho hg hs => by
            obtain ⟨a1, a2, a3, a4, a5, a6⟩ := app_done HH.out ⟨x, wt, u, false, 0⟩ _ _ _ _ _ rfl ho hg hs
            exact ⟨a1, a2, a3, 0, _, rfl, .inr (.inr ⟨HBAD.out, HNO.out, rfl, u, HMU.out, rfl⟩), v', _, a4, HAPP.out, by rw [List.length_append, List.length_singleton]; have := HM.out; omega, a5, a6⟩
          clear hk HREF
          go_wp2_with (at_builtin; refine wpList_append_sep _ rfl _ _ 90 rfl 98 i0 (.agg #[.int .i64 0, .int .i64 0, .int .i64 0, .bool false, .int .i64 0]) 5 40 Tryd.underlying90 hi hz0 hz1 hz2 rfl (by decide) _ _ _ rfl (HOA.out _) ⟨w.heap.size, 0, none⟩ 1 1 [.int .i64 x, .int .i64 wt, .int .i64 u, .bool false, .int .i64 0] rfl rfl (one_tn w _ _ _ _ _) (by simp [Value.oneCell']) (by unfold maxLen; omega) (by omega) ?_)
          intro v' w2 ho hg hs
          obtain ⟨c2, f2, lt2, hq⟩ := HDN.out w2 v' ho hg hs
          obtain ⟨ao2, cap2, rfl⟩ := own_slice ho
          have HF := Lib.hid hq
          clear ho hg hs hq
          go_wp2_with fail
          go_ret
          exact HF.out
    · have hi0 : 0 ≤ (i : Int) := by omega
      have HF := Lib.hid (HREF.out 106 (.inr (.inl ⟨HBAD.out, by
        obtain ⟨g, hg, -⟩ := HS.out.s1 i hi2
        rw [← hid, hg]
        rfl, rfl, rfl⟩)))
      clear hid
      go_wp2_with fail
      go_ret
      exact HF.out
end Go.Proofs.YtnhocmmgdkiepaaDoor

/-
  facaderef16.Sched: Ran, Sleep.
-/
namespace Go.Proofs.YtnhocmmgdkiepaaDoor
open Go.RowKit

def SdQ (xb m : Nat) (v : Value) (R : (Int → Option Gu) × Int) (w : World) (e : Ending) (w' : World) : Prop := e = .returned (.int .i64 R.2) ∧ ∃ v' L', SdAt w' xb v' L' ∧ SdS L' R.1 ∧ L'.length ≤ m ∧ Only (sdz xb v) w w' ∧ ∀ b, inRow v' b → inRow v b ∨ w.heap.size ≤ b
theorem SdQ.same {xb m : Nat} {v : Value} {L : List Tn} {st : Int → Option Gu} {w w' : World} {c : Int} (h : SdAt w' xb v L) (hs : SdS L st) (hm : L.length ≤ m) (hb : Below w.heap.size w w') : SdQ xb m v (st, c) w (.returned (.int .i64 c)) w' :=
  ⟨rfl, v, L, h, hs, hm, Only.of_below hb, fun b hb => .inl hb⟩
set_option maxRecDepth 100000 in
set_option maxHeartbeats 6400000 in
theorem sdran_any (w : World) (xb m : Nat) (v : Value) (L : List Tn) (st : Int → Option Gu) (h : SdAt w xb v L) (hs : SdS L st) (hm : L.length ≤ m) (h100 : m ≤ 100) (x n : Int) (hn : -9223372036854775808 ≤ n ∧ n ≤ 9223372036854775807) :
    Calls Tryd.prog 51 #[.pointer (some ⟨xb, 0, none⟩), .int .i64 x, .int .i64 n] w (SdQ xb m v (scRan st x n) w) := by
  have HFD := Lib.hid (sdfind_any w xb v L h (by omega) x)
  have HH := Lib.hid h
  have HS := Lib.hid hs
  have HM := Lib.hid hm
  have HN := Lib.hid hn
  have c := h.cell
  have lt := blk_lt h.1
  clear h hs hm h100 hn
  go_enter Tryd.func51, Tryd.ntmps51
  go_wp2_with fail
  refine HFD.out.mono ?_
  rintro y w1 ⟨r, rfl, hr, rfl⟩
  rcases hr with ⟨rfl, hno⟩ | ⟨i, hi, hid, rfl⟩
  · have HF : Hid (SdQ xb m v (scRan st x n) w (.returned (.int .i64 107)) w) := Lib.hid (by
      have hg := HS.out.none x hno
      have : scRan st x n = (st, 107) := by unfold scRan; rw [hg]
      rw [this]
      exact .same HH.out HS.out HM.out (Below.refl _ _))
    clear hno
    go_wp2_with fail
    go_ret
    exact HF.out
  · have hi0 : ¬ (i : Int) < 0 := by omega
    obtain ⟨g, hg, hfit⟩ := HS.out.s1 i hi
    rw [hid] at hg
    by_cases hbad : n < 0 ∨ 1073741824 < n
    · have HF : Hid (SdQ xb m v (scRan st x n) w (.returned (.int .i64 103)) w) := Lib.hid (by
        have : scRan st x n = (st, 103) := by unfold scRan; rw [hg]; dsimp only; rw [if_pos hbad]
        rw [this]
        exact .same HH.out HS.out HM.out (Below.refl _ _))
      clear hg hfit hid
      have hb2 : n < 0 ∨ (¬ n < 0 ∧ 1073741824 < n) := by omega
      clear hbad
      rcases hb2 with h1 | ⟨h1, h2⟩
      · go_wp2_with fail
        go_ret
        exact HF.out
      · go_wp2_with fail
        go_ret
        exact HF.out
    · obtain ⟨ga, cap, rfl⟩ := HH.out.row (by omega)
      have hok := HS.out.ok i hi
      obtain ⟨⟨a0, a1⟩, b0, b1⟩ := ran_range (us := (tg L i).us) (n := n) (wt := (tg L i).wt) hok.2.1 hok.2.2.1 (by omega)
      have hR : scRan st x n = (upd st x (some ⟨g.wt, ranU g.us n g.wt, g.sl, g.un⟩), 0) := by unfold scRan; rw [hg]; dsimp only; rw [if_neg hbad]
      have hput := HH.out.put i hi 2 (by decide) { tg L i with us := ranU (tg L i).us n (tg L i).wt } (.int .i64 (ranU (tg L i).us n (tg L i).wt)) rfl
      have hset := HS.out.set hi { tg L i with us := ranU (tg L i).us n (tg L i).wt } rfl ⟨hok.1, hok.2.1, ⟨b0, b1⟩, hok.2.2.2⟩ ⟨g.wt, ranU g.us n g.wt, g.sl, g.un⟩ ⟨hfit.1, by rw [hfit.1, hfit.2.1], hfit.2.2.1, hfit.2.2.2⟩
      rw [show ({ tg L i with us := ranU (tg L i).us n (tg L i).wt } : Tn).id = x from hid] at hset
      have HF : Hid (∀ wz, Below (w.setCell ⟨ga, i * 5 + 2, none⟩ (.int .i64 (ranU (tg L i).us n (tg L i).wt))).heap.size (w.setCell ⟨ga, i * 5 + 2, none⟩ (.int .i64 (ranU (tg L i).us n (tg L i).wt))) wz → SdQ xb m (.slice (some ⟨ga, 0, none⟩) L.length cap) (scRan st x n) w (.returned (.int .i64 0)) wz) := Lib.hid fun wz hz => by
        rw [hR]
        exact ⟨rfl, _, _, hput.1.below hz, hset, by rw [List.length_set]; exact HM.out, hput.2.trans' (Only.of_below (F := fun _ => False) hz) (fun _ h => h.elim), fun b hb => .inl hb⟩
      obtain ⟨-, c1, c2, -, -⟩ := HH.out.at i hi
      have f2 := own_free HH.out.2 (i * 5 + 2)
      have ltg := own_lt HH.out.2 (k := ga) rfl
      have hii : (i : Int) < (L.length : Int) := by omega
      obtain ⟨⟨ti, tw, tu, ts, tn⟩, ht⟩ : ∃ t, tg L i = t := ⟨_, rfl⟩
      rw [ht] at c1 c2 HF hok a0 a1 b0 b1
      dsimp only at c1 c2 HF hok a0 a1 b0 b1
      unfold tnOk at hok
      dsimp only at hok
      obtain ⟨w1, w2⟩ := hok.2.1
      obtain ⟨u1, u2⟩ := hok.2.2.1
      have k1 : ¬ n < 0 := by omega
      have k2 : ¬ 1073741824 < n := by omega
      have wa := IntWalk.i64_in (100 * n) (by omega)
      have k3 : ¬ tw = 0 := by omega
      have k4 : (tw == 0) = false := by rw [beq_eq_false_iff_ne]; exact k3
      have wb : wrap64 ((100 * n).tdiv tw) = 100 * n / tw := by
        rw [Int.tdiv_eq_ediv_of_nonneg (by omega)]
        exact IntWalk.wrap64_in _ (by omega)
      have wb2 := IntWalk.i64_in (100 * n / tw) (by omega)
      have wc := IntWalk.i64_in (tu + 100 * n / tw) (by omega)
      have hu : min (tu + 100 * n / tw) 1152921504606846976 = ranU tu n tw := by unfold ranU; split <;> omega
      have HU := Lib.hid hu
      clear hg hfit hid hbad hR hput hset ht hok hu hi b0 b1
      go_wp2_with fail
      go_region
      rw [HU.out]
      have HFD := Lib.hid (HF.out _ (Below.refl _ _).drew)
      go_wp2_with fail
      go_ret
      exact HFD.out
set_option maxRecDepth 100000 in
set_option maxHeartbeats 6400000 in
theorem sdsleep_any (w : World) (xb m : Nat) (v : Value) (L : List Tn) (st : Int → Option Gu) (h : SdAt w xb v L) (hs : SdS L st) (hm : L.length ≤ m) (h100 : m ≤ 100) (x n : Int) (hn : -9223372036854775808 ≤ n ∧ n ≤ 9223372036854775807) :
    Calls Tryd.prog 52 #[.pointer (some ⟨xb, 0, none⟩), .int .i64 x, .int .i64 n] w (SdQ xb m v (scSleep st x n) w) := by
  have HFD := Lib.hid (sdfind_any w xb v L h (by omega) x)
  have HH := Lib.hid h
  have HS := Lib.hid hs
  have HM := Lib.hid hm
  have HN := Lib.hid hn
  have c := h.cell
  have lt := blk_lt h.1
  clear h hs hm h100 hn
  go_enter Tryd.func52, Tryd.ntmps52
  go_wp2_with fail
  refine HFD.out.mono ?_
  rintro y w1 ⟨r, rfl, hr, rfl⟩
  rcases hr with ⟨rfl, hno⟩ | ⟨i, hi, hid, rfl⟩
  · have HF : Hid (SdQ xb m v (scSleep st x n) w (.returned (.int .i64 107)) w) := Lib.hid (by
      have hg := HS.out.none x hno
      have : scSleep st x n = (st, 107) := by unfold scSleep; rw [hg]
      rw [this]
      exact .same HH.out HS.out HM.out (Below.refl _ _))
    clear hno
    go_wp2_with fail
    go_ret
    exact HF.out
  · have hi0 : ¬ (i : Int) < 0 := by omega
    obtain ⟨g, hg, hfit⟩ := HS.out.s1 i hi
    rw [hid] at hg
    obtain ⟨ga, cap, rfl⟩ := HH.out.row (by omega)
    have hok := HS.out.ok i hi
    have hR : scSleep st x n = (upd st x (some ⟨g.wt, g.us, true, n⟩), 0) := by unfold scSleep; rw [hg]
    have hput := HH.out.put i hi 3 (by decide) { tg L i with sl := true } (.bool true) rfl
    have hput2 := hput.1.put i (by rw [List.length_set]; exact hi) 4 (by decide) { tg L i with sl := true, un := n } (.int .i64 n) (by rw [tg_set_eq L i _ hi]; rfl)
    have hset := HS.out.set hi { tg L i with sl := true, un := n } rfl ⟨hok.1, hok.2.1, hok.2.2.1, HN.out⟩ ⟨g.wt, g.us, true, n⟩ ⟨hfit.1, hfit.2.1, rfl, fun _ => rfl⟩
    rw [show ({ tg L i with sl := true, un := n } : Tn).id = x from hid] at hset
    rw [List.set_set, List.length_set] at hput2
    have HF : Hid (SdQ xb m (.slice (some ⟨ga, 0, none⟩) L.length cap) (scSleep st x n) w (.returned (.int .i64 0)) ((w.setCell ⟨ga, i * 5 + 3, none⟩ (.bool true)).setCell ⟨ga, i * 5 + 4, none⟩ (.int .i64 n))) := Lib.hid (by
      rw [hR]
      refine ⟨rfl, _, _, hput2.1, hset, by rw [List.length_set]; exact HM.out, ?_, fun b hb => .inl hb⟩
      exact hput.2.trans hput2.2)
    have c2 : (w.setCell ⟨ga, i * 5 + 3, none⟩ (.bool true)).cell? ⟨xb, 0, none⟩ = some (.slice (some ⟨ga, 0, none⟩) L.length cap) := by
      have := hput.1.cell
      rwa [List.length_set] at this
    obtain ⟨-, -, -, c3, c4⟩ := HH.out.at i hi
    have f3 := own_free HH.out.2 (i * 5 + 3)
    have f4 : (w.setCell ⟨ga, i * 5 + 3, none⟩ (.bool true)).frozen? ⟨ga, i * 5 + 4, none⟩ = false := own_free hput.1.2 (i * 5 + 4)
    have ltg := own_lt HH.out.2 (k := ga) rfl
    have hii : (i : Int) < (L.length : Int) := by omega
    clear hg hfit hid hR hput hput2 hset hok hi
    go_wp2_with fail
    go_ret
    exact HF.out
end Go.Proofs.YtnhocmmgdkiepaaDoor

/-
  facaderef16.Sched: Del.
-/
namespace Go.Proofs.YtnhocmmgdkiepaaDoor
open Go.RowKit

theorem infoTn2 : (Tryd.prog.info? 98).map (fun i => (i.zero, i.size, i.bytes)) = some (some (.agg #[.int .i64 0, .int .i64 0, .int .i64 0, .bool false, .int .i64 0]), 5, 40) := by kernel_rfl
theorem own_none (w : World) (T : TypeId) (s : Nat) : (w.alloc (.cells #[] T)).ownsRow 0 T s (.slice (some ⟨w.heap.size, 0, none⟩) 0 0) 0 [] :=
  ⟨by simp, .inr ⟨w.heap.size, 0, #[], rfl, Nat.zero_le _, blk_new _ _, Nat.le_refl _, by unfold maxLen; omega, by simp, by simp⟩⟩
theorem tn_one (l : List Tn) : ∀ u ∈ tnCells l, u.oneCell' = true := fun u hu => by
  unfold tnCells at hu
  obtain ⟨t, -, ht⟩ := List.mem_flatMap.1 hu
  unfold tnOne at ht
  simp only [List.mem_cons, List.not_mem_nil, or_false] at ht
  rcases ht with rfl | rfl | rfl | rfl | rfl <;> rfl
theorem tn_len (l : List Tn) : (tnCells l).length = l.length * 5 := rec_len tnOne 5 tnOne_len l
theorem tn_take {w : World} {xb g cap : Nat} {L : List Tn} (h : SdAt w xb (.slice (some ⟨g, 0, none⟩) L.length cap) L) (i : Nat) (j : Nat) (u : Value) (hj : (tnCells (L.take i))[j]? = some u) : w.cell? ((⟨g, 0, none⟩ : Addr).add j) = some u := by
  have e : tnCells L = tnCells (L.take i) ++ tnCells (L.drop i) := by unfold tnCells; rw [← List.flatMap_append, List.take_append_drop]
  have hlt : j < (tnCells (L.take i)).length := (List.getElem?_eq_some_iff.1 hj).1
  have h2 : (tnCells L)[j]? = some u := by rw [e, List.getElem?_append_left hlt]; exact hj
  have h3 : j < (tnCells L).length := (List.getElem?_eq_some_iff.1 h2).1
  rw [Addr.add_lit, Nat.zero_add, own_cell h.2 j (by rw [tn_len] at h3; exact h3)]
  exact h2
theorem tn_drop {w : World} {xb g cap : Nat} {L : List Tn} (h : SdAt w xb (.slice (some ⟨g, 0, none⟩) L.length cap) L) (i : Nat) (hi : i ≤ L.length) (j : Nat) (u : Value) (hj : (tnCells (L.drop i))[j]? = some u) : w.cell? ((⟨g, i * 5, none⟩ : Addr).add j) = some u := by
  have e : tnCells L = tnCells (L.take i) ++ tnCells (L.drop i) := by unfold tnCells; rw [← List.flatMap_append, List.take_append_drop]
  have hl : (tnCells (L.take i)).length = i * 5 := by rw [tn_len, List.length_take]; omega
  have h2 : (tnCells L)[i * 5 + j]? = some u := by rw [e, List.getElem?_append_right (by omega), hl, Nat.add_sub_cancel_left]; exact hj
  have h3 : i * 5 + j < (tnCells L).length := (List.getElem?_eq_some_iff.1 h2).1
  rw [Addr.add_lit, own_cell h.2 (i * 5 + j) (by rw [tn_len] at h3; exact h3)]
  exact h2
theorem del_done {w w3 : World} {xb m : Nat} {v : Value} {L : List Tn} (h : SdAt w xb v L) (L' : List Tn) {v' : Value} (hb : Below w.heap.size w w3) (ho : w3.ownsRow 0 98 5 v' L'.length (tnCells L')) (hf : ∀ k, inRow v' k → w.heap.size ≤ k) {st : Int → Option Gu} (hs : SdS L' st) (hm : L'.length ≤ m) :
    w3.cell? ⟨xb, 0, none⟩ = some v ∧ w3.frozen? ⟨xb, 0, none⟩ = false ∧ xb < w3.heap.size ∧ SdQ xb m v (st, 0) w (.returned (.int .i64 0)) (w3.setCell ⟨xb, 0, none⟩ v') := by
  have hrow := (h.below hb).1
  exact ⟨blk_cell hrow 0, blk_free hrow 0, blk_lt hrow, rfl, v', L', ⟨blk_put hrow 0 v', own_set ho hrow (by decide) 0 _⟩, hs, hm, (Only.of_below hb).setCell (p := ⟨xb, 0, none⟩) (.inl (.inl rfl)) _, fun b hb => .inr (hf b hb)⟩
set_option maxRecDepth 100000 in
set_option maxHeartbeats 12800000 in
theorem sddel_any (w : World) (xb m : Nat) (v : Value) (L : List Tn) (st : Int → Option Gu) (h : SdAt w xb v L) (hs : SdS L st) (hm : L.length ≤ m) (h100 : m ≤ 100) (x : Int) :
    Calls Tryd.prog 50 #[.pointer (some ⟨xb, 0, none⟩), .int .i64 x] w (SdQ xb m v (scDel st x) w) := by
  obtain ⟨i0, hi, hz0, hz1, hz2⟩ := info_parts infoTn2
  have HFD := Lib.hid (sdfind_any w xb v L h (by omega) x)
  have HH := Lib.hid h
  have HS := Lib.hid hs
  have HM := Lib.hid hm
  have hl100 : L.length ≤ 100 := by omega
  have c := h.cell
  have lt := blk_lt h.1
  clear h hs hm h100
  go_enter Tryd.func50, Tryd.ntmps50
  go_wp2_with fail
  refine HFD.out.mono ?_
  rintro y w1 ⟨r, rfl, hr, rfl⟩
  rcases hr with ⟨rfl, hno⟩ | ⟨i, hi2, hid, rfl⟩
  · have HF : Hid (SdQ xb m v (scDel st x) w (.returned (.int .i64 107)) w) := Lib.hid (by
      have hg := HS.out.none x hno
      have : scDel st x = (st, 107) := by unfold scDel; rw [hg]
      rw [this]
      exact .same HH.out HS.out HM.out (Below.refl _ _))
    clear hno
    go_wp2_with fail
    go_ret
    exact HF.out
  · have hi0 : ¬ (i : Int) < 0 := by omega
    obtain ⟨g, hg, -⟩ := HS.out.s1 i hi2
    rw [hid] at hg
    have hR : scDel st x = (upd st x none, 0) := by unfold scDel; rw [hg]
    have hds := HS.out.del hi2
    rw [hid] at hds
    have HDEL := Lib.hid hds
    have HR := Lib.hid hR
    rcases own_shape HH.out.2 with ⟨-, h0, -⟩ | ⟨ga, cap, rfl, hcl, -⟩
    · omega
    have HDN : Hid (∀ w3 v', Below w.heap.size w w3 → w3.ownsRow 0 98 5 v' (i + (L.length - (i + 1))) (tnCells (L.take i) ++ tnCells (L.drop (i + 1))) → (∀ k, inRow v' k → w.heap.size ≤ k) →
        w3.cell? ⟨xb, 0, none⟩ = some (.slice (some ⟨ga, 0, none⟩) L.length cap) ∧ w3.frozen? ⟨xb, 0, none⟩ = false ∧ xb < w3.heap.size ∧ SdQ xb m (.slice (some ⟨ga, 0, none⟩) L.length cap) (scDel st x) w (.returned (.int .i64 0)) (w3.setCell ⟨xb, 0, none⟩ v')) := Lib.hid fun w3 v' hb ho hf => by
      rw [HR.out]
      refine del_done HH.out (L.take i ++ L.drop (i + 1)) hb ?_ hf HDEL.out (by rw [del_len L i hi2]; have := HM.out; omega)
      rw [show tnCells (L.take i ++ L.drop (i + 1)) = tnCells (L.take i) ++ tnCells (L.drop (i + 1)) by unfold tnCells; rw [List.flatMap_append], del_len L i hi2, show L.length - 1 = i + (L.length - (i + 1)) by omega]
      exact ho
    have HL1 : Hid ((tnCells (L.take i)).length = i * 5) := Lib.hid (by rw [tn_len, List.length_take]; omega)
    have HL2 : Hid ((tnCells (L.drop (i + 1))).length = (L.length - (i + 1)) * 5) := Lib.hid (by rw [tn_len, List.length_drop])
    have HTK := Lib.hid (fun W (hW : Below w.heap.size w W) => tn_take (HH.out.below hW) i)
    have HDR := Lib.hid (fun W (hW : Below w.heap.size w W) => tn_drop (HH.out.below hW) (i + 1) hi2)
    have HB1 : Hid (Below w.heap.size w (w.alloc (.cells #[] 98))) := Lib.hid ((Below.refl _ _).alloc (Nat.le_refl _) _)
    have HO1 := Lib.hid (own_none w 98 5)
    have wi := IntWalk.i64_in ((i : Int) + 1) (by omega)
    have hic : i ≤ cap := by omega
    have hic1 : i + 1 ≤ cap := by omega
    have hil : (i : Int) < (L.length : Int) := by omega
    clear hg hid hR hds
    go_wp2_with (at_builtin; refine wpList_append_sep _ rfl _ _ 90 rfl 98 i0 (.agg #[.int .i64 0, .int .i64 0, .int .i64 0, .bool false, .int .i64 0]) 5 40 Tryd.underlying90 hi hz0 hz1 hz2 rfl (by decide) _ _ _ rfl HO1.out ⟨ga, 0, none⟩ i cap (tnCells (L.take i)) rfl HL1.out (HTK.out _ HB1.out) (tn_one _) (by unfold maxLen; omega) (by omega) ?_)
    intro v2 w2 ho2 hg2 hs2
    obtain ⟨ao2, cap2, rfl⟩ := own_slice ho2
    have hb2 : Below w.heap.size w w2 := HB1.out.grown hg2 HB1.out.size (fun j hj => by
      have e : w.heap.size = j := by simpa [Value.ownBlock] using hj
      omega)
    have HF2 : Hid (∀ b, inRow (.slice ao2 i cap2) b → w.heap.size ≤ b) := Lib.hid fun b hb => by
      rcases hs2 b hb with h | h
      · have e : w.heap.size = b := by simpa [inRow, Value.ownBlock] using h
        omega
      · omega
    have HO2 := Lib.hid ho2
    have HB2 := Lib.hid hb2
    have c2 := (HH.out.below hb2).cell
    have lt2 := blk_lt (HH.out.below hb2).1
    have h63 : i + (L.length - (i + 1)) ≤ maxLen := by unfold maxLen; omega
    clear ho2 hg2 hs2 hb2
    by_cases hcN : cap = i + 1
    · subst hcN
      have e1 : L.length - (i + 1) = 0 := by omega
      have e2 : tnCells (L.drop (i + 1)) = [] := by rw [List.drop_eq_nil_of_le (by omega)]; rfl
      have HE1 := Lib.hid e1
      have HE2 := Lib.hid e2
      have h64 : i + 0 ≤ maxLen := by omega
      clear e1 e2
      go_wp2_with (at_builtin; refine wpList_append_sep _ rfl _ _ 90 rfl 98 i0 (.agg #[.int .i64 0, .int .i64 0, .int .i64 0, .bool false, .int .i64 0]) 5 40 Tryd.underlying90 hi hz0 hz1 hz2 rfl (by decide) _ _ _ rfl HO2.out ⟨ga, 0, none⟩ 0 0 [] rfl rfl (fun j u h => by simp at h) (fun u h => by simp at h) (by unfold maxLen; omega) (by omega) ?_)
      intro v3 w3 ho3 hg3 hs3
      obtain ⟨c3, f3, lt3, hq⟩ := HDN.out w3 v3 (HB2.out.grown hg3 HB2.out.size (fun j hj => HF2.out j hj)) (by rw [HE1.out, HE2.out, List.append_nil, Nat.add_zero]; exact ho3) (fun b hb => by
        rcases hs3 b hb with h | h
        · exact HF2.out b h
        · exact Nat.le_trans HB2.out.size h)
      obtain ⟨ao3, cap3, rfl⟩ := own_slice ho3
      have HF := Lib.hid hq
      clear ho3 hg3 hs3 hq
      go_wp2_with fail
      go_ret
      exact HF.out
    · go_wp2_with (at_builtin; refine wpList_append_sep _ rfl _ _ 90 rfl 98 i0 (.agg #[.int .i64 0, .int .i64 0, .int .i64 0, .bool false, .int .i64 0]) 5 40 Tryd.underlying90 hi hz0 hz1 hz2 rfl (by decide) _ _ _ rfl HO2.out ⟨ga, (i + 1) * 5, none⟩ (L.length - (i + 1)) (cap - (i + 1)) (tnCells (L.drop (i + 1))) rfl HL2.out (HDR.out _ HB2.out) (tn_one _) (by unfold maxLen; omega) (by omega) ?_)
      intro v3 w3 ho3 hg3 hs3
      obtain ⟨c3, f3, lt3, hq⟩ := HDN.out w3 v3 (HB2.out.grown hg3 HB2.out.size (fun j hj => HF2.out j hj)) ho3 (fun b hb => by
        rcases hs3 b hb with h | h
        · exact HF2.out b h
        · exact Nat.le_trans HB2.out.size h)
      obtain ⟨ao3, cap3, rfl⟩ := own_slice ho3
      have HF := Lib.hid hq
      clear ho3 hg3 hs3 hq
      go_wp2_with fail
      go_ret
      exact HF.out
end Go.Proofs.YtnhocmmgdkiepaaDoor

/-
  facaderef16.Sched: Pick.
-/
namespace Go.Proofs.YtnhocmmgdkiepaaDoor
open Go.RowKit

def SdPickTo (L : List Tn) (w : World) (b i : Value) (wr : World) : Prop := ∃ (k : Nat) (x : Int), k ≤ L.length ∧ i = .int .i64 (k : Int) ∧ b = .int .i64 x ∧ Best pkP Tn.us L k x ∧ Below w.heap.size w wr
theorem best_kind {p : Tn → Bool} {key : Tn → Int} {L : List Tn} {k : Nat} {b : Int} (h : Best p key L k b) : b = -1 ∨ ∃ i : Nat, i < k ∧ b = (i : Int) := by
  rcases h with ⟨h, -⟩ | ⟨i, hi, h, -⟩
  · exact .inl h
  · exact .inr ⟨i, hi, h⟩
set_option maxRecDepth 100000 in
set_option maxHeartbeats 12800000 in
theorem sdpick_any (w : World) (xb : Nat) (v : Value) (L : List Tn) (st : Int → Option Gu) (h : SdAt w xb v L) (hs : SdS L st) (h100 : L.length ≤ 100) :
    Calls Tryd.prog 54 #[.pointer (some ⟨xb, 0, none⟩)] w fun e w' => ∃ m, e = .returned (.int .i64 m) ∧ PickN st m ∧ Below w.heap.size w w' := by
  have HH := Lib.hid h
  have HS := Lib.hid hs
  have HST : Hid (SdPickTo L w (.int .i64 (-1)) (.int .i64 0) w) := Lib.hid ⟨0, -1, Nat.zero_le _, rfl, rfl, best_zero _ _ _, Below.refl _ _⟩
  obtain ⟨ao, cap, rfl⟩ := h.slice
  clear h hs
  go_enter Tryd.func54, Tryd.ntmps54
  go_wp2_with fail
  go_loopw [3, 4] (fun b i wr => SdPickTo L w b i wr) (fun _ i _ => L.length - (intOf i).toNat)
  case atStart => exact HST.out
  case round =>
    obtain ⟨k, x, hk, rfl, rfl, hbest, hb⟩ := hrel
    have HBE := Lib.hid hbest
    have HB := Lib.hid hb
    have hhr := HH.out.below hb
    have HR := Lib.hid hhr
    have c := hhr.cell
    have lt := blk_lt hhr.1
    clear hbest hb hhr HST
    by_cases hlt : k < L.length
    · have hki : (k : Int) < (L.length : Int) := by omega
      have wk := IntWalk.i64_in ((k : Int) + 1) (by omega)
      obtain ⟨g, cap2, hv⟩ := HR.out.row (by omega)
      obtain ⟨rfl, -, rfl⟩ := Value.slice.inj hv
      obtain ⟨c0, c1, c2, c3, c4⟩ := HR.out.at k hlt
      have ltg := own_lt HR.out.2 (k := g) rfl
      obtain ⟨⟨ti, tw, tu, ts, tn⟩, ht⟩ : ∃ t, tg L k = t := ⟨_, rfl⟩
      have HT := Lib.hid ht
      rw [ht] at c0 c1 c2 c3 c4
      dsimp only at c0 c1 c2 c3 c4
      clear ht hv
      go_wp2_with fail
      have HB1 : Hid (Below w.heap.size w (wr.alloc (.cells #[.int .i64 ti, .int .i64 tw, .int .i64 tu, .bool ts, .int .i64 tn] 98))) := Lib.hid (HB.out.alloc HB.out.size _)
      have hw1 : Below wr.heap.size wr (wr.alloc (.cells #[.int .i64 ti, .int .i64 tw, .int .i64 tu, .bool ts, .int .i64 tn] 98)) := (Below.refl _ _).alloc (Nat.le_refl _) _
      have hr1 := HR.out.below hw1
      have hnew := blk_new wr (.cells #[.int .i64 ti, .int .i64 tw, .int .i64 tu, .bool ts, .int .i64 tn] 98)
      obtain ⟨nb, hnb⟩ : ∃ b, wr.heap.size = b := ⟨_, rfl⟩
      rw [hnb] at hnew ⊢
      obtain ⟨W1, hW1⟩ : ∃ W1, wr.alloc (.cells #[.int .i64 ti, .int .i64 tw, .int .i64 tu, .bool ts, .int .i64 tn] 98) = W1 := ⟨_, rfl⟩
      rw [hW1] at HB1 hr1 hnew ⊢
      have d0 : W1.cell? ⟨nb, 0, none⟩ = some (.int .i64 ti) := blk_cell hnew 0
      have d2 : W1.cell? ⟨nb, 2, none⟩ = some (.int .i64 tu) := blk_cell hnew 2
      have d3 : W1.cell? ⟨nb, 3, none⟩ = some (.bool ts) := blk_cell hnew 3
      have ltn := blk_lt hnew
      have c := hr1.cell
      have lt := blk_lt hr1.1
      have ltg := own_lt hr1.2 (k := g) rfl
      have HR1 := Lib.hid hr1
      have HBQ : Hid (∀ n, Below w.heap.size w (W1.drewN n)) := Lib.hid fun n => below_drewN HB1.out n
      clear hw1 hr1 hnew hnb hW1 c0 c1 c2 c3 c4 HB1
      cases ts
      · rcases best_kind HBE.out with rfl | ⟨i, hi, rfl⟩
        · have hx0 : decide ((-1 : Int) < 0) = true := rfl
          have HBN : Hid (Best pkP Tn.us L (k + 1) (k : Int)) := Lib.hid (best_first HBE.out (by rw [HT.out]; rfl))
          go_quiet (fail)
          go_wp2_with fail
          go_roundw
          case rel => exact ⟨k + 1, _, hlt, by go_num, rfl, HBN.out, HBQ.out _⟩
          case measure => simp [intOf]; omega
        · obtain ⟨e0, e1, e2, e3, e4⟩ := HR1.out.at i (by omega)
          have hi0 : ¬ (i : Int) < 0 := by omega
          have hx0 : decide ((i : Int) < 0) = false := decide_eq_false hi0
          have hi1 : (i : Int) < (L.length : Int) := by omega
          obtain ⟨⟨qi, qw, qu, qs, qn⟩, hq⟩ : ∃ t, tg L i = t := ⟨_, rfl⟩
          have HQ := Lib.hid hq
          rw [hq] at e0 e1 e2 e3 e4
          dsimp only at e0 e1 e2 e3 e4
          clear hq e1 e3
          by_cases hl1 : tu < qu
          · have hb1 : decide (tu < qu) = true := decide_eq_true hl1
            have HBN : Hid (Best pkP Tn.us L (k + 1) (k : Int)) := Lib.hid (best_take HBE.out (by rw [HT.out]; rfl) (by rw [HT.out, HQ.out]; exact .inl hl1))
            go_quiet (fail)
            go_wp2_with fail
            go_roundw
            case rel => exact ⟨k + 1, _, hlt, by go_num, rfl, HBN.out, HBQ.out _⟩
            case measure => simp [intOf]; omega
          · have hb1 : decide (tu < qu) = false := decide_eq_false hl1
            by_cases hl2 : tu = qu
            · have hb2 : (tu == qu) = true := by rw [beq_iff_eq]; exact hl2
              by_cases hl3 : ti < qi
              · have hb3 : decide (ti < qi) = true := decide_eq_true hl3
                have HBN : Hid (Best pkP Tn.us L (k + 1) (k : Int)) := Lib.hid (best_take HBE.out (by rw [HT.out]; rfl) (by rw [HT.out, HQ.out]; exact .inr ⟨hl2, hl3⟩))
                clear hl2
                go_quiet (fail)
                go_wp2_with fail
                go_roundw
                case rel => exact ⟨k + 1, _, hlt, by go_num, rfl, HBN.out, HBQ.out _⟩
                case measure => simp [intOf]; omega
              · have hb3 : decide (ti < qi) = false := decide_eq_false hl3
                have HBN : Hid (Best pkP Tn.us L (k + 1) (i : Int)) := Lib.hid (best_stay HBE.out (by rw [HT.out, HQ.out]; intro e; rcases e with e | ⟨-, e⟩; exact hl1 e; exact hl3 e))
                clear hl2
                go_quiet (fail)
                go_wp2_with fail
                go_roundw
                case rel => exact ⟨k + 1, _, hlt, by go_num, rfl, HBN.out, HBQ.out _⟩
                case measure => simp [intOf]; omega
            · have hb2 : (tu == qu) = false := by rw [beq_eq_false_iff_ne]; exact hl2
              have HBN : Hid (Best pkP Tn.us L (k + 1) (i : Int)) := Lib.hid (best_stay HBE.out (by rw [HT.out, HQ.out]; intro e; rcases e with e | ⟨e, -⟩; exact hl1 e; exact hl2 e))
              clear hl2
              go_quiet (fail)
              go_wp2_with fail
              go_roundw
              case rel => exact ⟨k + 1, _, hlt, by go_num, rfl, HBN.out, HBQ.out _⟩
              case measure => simp [intOf]; omega
      · have HBN : Hid (Best pkP Tn.us L (k + 1) x) := Lib.hid (best_no HBE.out (by rw [HT.out]; rfl))
        go_quiet (fail)
        go_wp2_with fail
        go_roundw
        case rel => exact ⟨k + 1, _, hlt, by go_num, rfl, HBN.out, HBQ.out _⟩
        case measure => simp [intOf]; omega
    · have hki : ¬ (k : Int) < (L.length : Int) := by omega
      obtain rfl : k = L.length := by omega
      rcases best_kind HBE.out with rfl | ⟨i, hi, rfl⟩
      · have HF := Lib.hid (HS.out.pickNone HBE.out)
        clear hk
        go_wp2_with fail
        go_ret
        exact ⟨_, rfl, HF.out, HB.out⟩
      · have HF := Lib.hid (HS.out.pickSome HBE.out).2
        obtain ⟨g, cap2, hv⟩ := HR.out.row (by omega)
        obtain ⟨rfl, -, rfl⟩ := Value.slice.inj hv
        obtain ⟨c0, -⟩ := HR.out.at i hi
        have ltg := own_lt HR.out.2 (k := g) rfl
        have hi0 : ¬ (i : Int) < 0 := by omega
        have hi1 : (i : Int) < (L.length : Int) := by omega
        obtain ⟨z, hz⟩ : ∃ z, (tg L i).id = z := ⟨_, rfl⟩
        rw [hz] at c0 HF
        clear hz hv hk
        go_wp2_with fail
        go_ret
        exact ⟨_, rfl, HF.out, HB.out⟩
end Go.Proofs.YtnhocmmgdkiepaaDoor

/-
  facaderef16.Sched: Wake.
-/
namespace Go.Proofs.YtnhocmmgdkiepaaDoor
open Go.RowKit

theorem infoIntK : (Tryd.prog.info? 3).map (fun i => (i.zero, i.size, i.bytes)) = some (some (.int .i64 0), 1, 8) := by kernel_rfl
def cntS (L : List Tn) : Nat := L.countP Tn.sl
theorem cntS_le (L : List Tn) : cntS L ≤ L.length := List.countP_le_length
theorem cntS_set (L : List Tn) (i : Nat) (hi : i < L.length) (h : (tg L i).sl = true) (t : Tn) (ht : t.sl = false) : cntS (L.set i t) + 1 = cntS L := by
  have e : L[i] = tg L i := by unfold tg; rw [List.getD_eq_getElem?_getD, List.getElem?_eq_getElem hi]; rfl
  have hp : 0 < L.countP Tn.sl := List.countP_pos_iff.2 ⟨L[i], List.getElem_mem hi, by rw [e]; exact h⟩
  unfold cntS
  rw [List.countP_set hi, e, h, ht]
  simp
  omega
def lenV : Value → Nat
  | .slice _ n _ => n
  | _ => 0
def SdBestTo (p : Tn → Bool) (key : Tn → Int) (L : List Tn) (w : World) (b i : Value) (wr : World) : Prop := ∃ (k : Nat) (x : Int), k ≤ L.length ∧ i = .int .i64 (k : Int) ∧ b = .int .i64 x ∧ Best p key L k x ∧ Below w.heap.size w wr
def SdWkTo (st : Int → Option Gu) (now : Int) (xb n : Nat) (v0 : Value) (w : World) (v : Value) (wr : World) : Prop := ∃ (L : List Tn) (sk : Int → Option Gu) (l : List Int) (vo : Option Addr) (vc : Nat), v = .slice vo l.length vc ∧ SdAt wr xb v0 L ∧ SdS L sk ∧ L.length = n ∧ cntS L + l.length ≤ n ∧ Only (sdz xb v0) w wr ∧ wr.ownsRow 0 3 1 v l.length (ints l) ∧ (∀ b, inRow v b → w.heap.size ≤ b) ∧ ∀ l2 s2, Woke sk now l2 s2 → Woke st now (l ++ l2) s2
def SdWakeQ (xb n : Nat) (v0 : Value) (st : Int → Option Gu) (now : Int) (w : World) (e : Ending) (w' : World) : Prop := ∃ v l st' L, e = .returned v ∧ Woke st now l st' ∧ l.length ≤ n ∧ SdAt w' xb v0 L ∧ SdS L st' ∧ L.length = n ∧ Only (sdz xb v0) w w' ∧ w'.ownsRow 0 3 1 v l.length (ints l) ∧ ∀ b, inRow v b → w.heap.size ≤ b
theorem wk_next {st sk : Int → Option Gu} {now : Int} {xb g cap : Nat} {w W wr wx : World} {L0 L : List Tn} {l : List Int} {i : Nat} {vo : Option Addr} {vc : Nat} {v' : Value} (h0 : SdAt w xb (.slice (some ⟨g, 0, none⟩) L.length cap) L0) (h : SdAt W xb (.slice (some ⟨g, 0, none⟩) L.length cap) L) (hs : SdS L sk) (hc : cntS L + l.length ≤ L.length) (hO : Only (sdz xb (.slice (some ⟨g, 0, none⟩) L.length cap)) w W) (hown : W.ownsRow 0 3 1 (.slice vo l.length vc) l.length (ints l)) (hf : ∀ b, inRow (.slice vo l.length vc) b → w.heap.size ≤ b) (hw : ∀ l2 s2, Woke sk now l2 s2 → Woke st now (l ++ l2) s2) (hb : Below W.heap.size W wr)
    (hbest : Best (wkP now) Tn.un L L.length (i : Int)) (ho : wx.ownsRow 0 3 1 v' (l.length + 1) (ints l ++ [.int .i64 (tg L i).id])) (hg : ((wr.setCell ⟨g, i * 5 + 3, none⟩ (.bool false)).alloc (.cells #[.int .i64 (tg L i).id] 3)).grownBy wx (Value.slice vo l.length vc).ownBlock) (hs2 : ∀ k, inRow v' k → inRow (.slice vo l.length vc) k ∨ wr.heap.size + 1 ≤ k) :
    SdWkTo st now xb L.length (.slice (some ⟨g, 0, none⟩) L.length cap) w v' wx ∧ lenV v' = l.length + 1 := by
  obtain ⟨hi, gu, hgu, hset, hstep⟩ := hs.wokeStep hbest
  have hsl : (tg L i).sl = true := by
    rcases hbest with ⟨e, -⟩ | ⟨i', hi', e, hp, -⟩
    · omega
    · obtain rfl : i = i' := by omega
      unfold wkP at hp
      rw [Bool.and_eq_true] at hp
      exact hp.1
  have hr := h.below hb
  have hput := hr.put i hi 3 (by decide) { tg L i with sl := false } (.bool false) rfl
  rw [List.length_set] at hput
  obtain ⟨hp1, hp2⟩ := hput
  have hOw : Only (sdz xb (.slice (some ⟨g, 0, none⟩) L.length cap)) w (wr.setCell ⟨g, i * 5 + 3, none⟩ (.bool false)) := (hO.below' hb).trans hp2
  have hsz0 : w.heap.size ≤ (wr.setCell ⟨g, i * 5 + 3, none⟩ (.bool false)).heap.size := hOw.size
  have hOg : Only (fun b => inRow (.slice vo l.length vc) b) (wr.setCell ⟨g, i * 5 + 3, none⟩ (.bool false)) wx := ((Only.refl _ _).alloc' _).grown hg (fun k hk => .inl hk)
  have hlt := h0.lt.2
  obtain ⟨ao, cap2, rfl⟩ := own_slice ho
  refine ⟨⟨_, _, l ++ [(tg L i).id], ao, cap2, by rw [List.length_append]; rfl, hp1.only hOg (fun b hb2 hb3 => ?_), hset, List.length_set, ?_, hOw.trans' hOg fun b hb2 => .inr (hf b hb2), ?_, fun b hb2 => ?_, fun l2 s2 h2 => ?_⟩, rfl⟩
  · have h1 := hlt b hb2
    have h2 := hf b hb3
    omega
  · have := cntS_set L i hi hsl { tg L i with sl := false } rfl
    rw [List.length_append, List.length_singleton]
    omega
  · rw [List.length_append, show ints (l ++ [(tg L i).id]) = ints l ++ [.int .i64 (tg L i).id] by simp [ints]]
    exact ho
  · rcases hs2 b hb2 with h1 | h1
    · exact hf b h1
    · have h2 : w.heap.size ≤ wr.heap.size := Nat.le_trans hO.size hb.size
      omega
  · have h3 := hw ((tg L i).id :: l2) s2 (hstep l2 s2 h2)
    rw [List.append_assoc]
    exact h3
set_option maxRecDepth 100000 in
set_option maxHeartbeats 32000000 in
theorem sdwake_any (w : World) (xb : Nat) (v : Value) (L : List Tn) (st : Int → Option Gu) (h : SdAt w xb v L) (hs : SdS L st) (h100 : L.length ≤ 100) (now : Int) :
    Calls Tryd.prog 53 #[.pointer (some ⟨xb, 0, none⟩), .int .i64 now] w (SdWakeQ xb L.length v st now w) := by
  obtain ⟨i0, hi, hz0, hz1, hz2⟩ := info_parts infoIntK
  have HH0 := Lib.hid h
  have HST : Hid (SdWkTo st now xb L.length v w (.slice none 0 0) w) := Lib.hid ⟨L, st, [], none, 0, rfl, h, hs, rfl, by have := cntS_le L; simp; omega, Only.refl _ _, own_nil _ _ _, (fun b hb => by simp [inRow, Value.ownBlock] at hb), fun l2 s2 h => h⟩
  obtain ⟨ao, cap, rfl⟩ := h.slice
  obtain ⟨n, hn⟩ : ∃ n, L.length = n := ⟨_, rfl⟩
  rw [hn] at HST HH0 h100 ⊢
  clear h hs hn
  go_enter Tryd.func53, Tryd.ntmps53
  go_wp2_with fail
  go_loopw [5] (fun b wr => SdWkTo st now xb n (.slice ao n cap) w b wr) (fun v _ => 101 - lenV v)
  case atStart => exact HST.out
  case round =>
    obtain ⟨L1, sk, l, vo, vc, rfl, h1, hs1, hn1, hcn, hO, hown, hfr, hwk⟩ := hrel
    subst hn1
    have HH := Lib.hid h1
    have HS := Lib.hid hs1
    have HCN := Lib.hid hcn
    have HO := Lib.hid hO
    have HOWN := Lib.hid hown
    have HFR := Lib.hid hfr
    have HWK := Lib.hid hwk
    obtain ⟨W, hW⟩ : ∃ W, W = wr := ⟨_, rfl⟩
    subst hW
    have HST2 : Hid (SdBestTo (wkP now) Tn.un L1 W (.int .i64 (-1)) (.int .i64 0) W) := Lib.hid ⟨0, -1, Nat.zero_le _, rfl, rfl, best_zero _ _ _, Below.refl _ _⟩
    obtain ⟨a, ha⟩ : ∃ a, l.length = a := ⟨_, rfl⟩
    have HA := Lib.hid ha
    have hla : a ≤ 100 := by omega
    rw [ha]
    clear h1 hs1 hcn hO hown hfr hwk HST ha
    go_wp2_with fail
    go_loopw [6, 7] (fun b i wr => SdBestTo (wkP now) Tn.un L1 W b i wr) (fun _ i _ => L1.length - (intOf i).toNat)
    case atStart => exact HST2.out
    case round =>
      obtain ⟨k, x, hk, rfl, rfl, hbest, hb⟩ := hrel
      have HBE := Lib.hid hbest
      have HB := Lib.hid hb
      have hhr := HH.out.below hb
      have HR := Lib.hid hhr
      have c := hhr.cell
      have lt := blk_lt hhr.1
      clear hbest hb hhr HST2
      by_cases hlt : k < L1.length
      · have hki : (k : Int) < (L1.length : Int) := by omega
        have wk := IntWalk.i64_in ((k : Int) + 1) (by omega)
        obtain ⟨g, cap2, hv⟩ := HR.out.row (by omega)
        obtain ⟨rfl, -, rfl⟩ := Value.slice.inj hv
        obtain ⟨c0, c1, c2, c3, c4⟩ := HR.out.at k hlt
        have ltg := own_lt HR.out.2 (k := g) rfl
        obtain ⟨⟨ti, tw, tu, ts, tn⟩, ht⟩ : ∃ t, tg L1 k = t := ⟨_, rfl⟩
        have HT := Lib.hid ht
        rw [ht] at c0 c1 c2 c3 c4
        dsimp only at c0 c1 c2 c3 c4
        clear ht hv
        go_wp2_with fail
        have HB1 : Hid (Below W.heap.size W (wr.alloc (.cells #[.int .i64 ti, .int .i64 tw, .int .i64 tu, .bool ts, .int .i64 tn] 98))) := Lib.hid (HB.out.alloc HB.out.size _)
        have hw1 : Below wr.heap.size wr (wr.alloc (.cells #[.int .i64 ti, .int .i64 tw, .int .i64 tu, .bool ts, .int .i64 tn] 98)) := (Below.refl _ _).alloc (Nat.le_refl _) _
        have hr1 := HR.out.below hw1
        have hnew := blk_new wr (.cells #[.int .i64 ti, .int .i64 tw, .int .i64 tu, .bool ts, .int .i64 tn] 98)
        obtain ⟨nb, hnb⟩ : ∃ b, wr.heap.size = b := ⟨_, rfl⟩
        rw [hnb] at hnew ⊢
        obtain ⟨W1, hW1⟩ : ∃ W1, wr.alloc (.cells #[.int .i64 ti, .int .i64 tw, .int .i64 tu, .bool ts, .int .i64 tn] 98) = W1 := ⟨_, rfl⟩
        rw [hW1] at HB1 hr1 hnew ⊢
        have d0 : W1.cell? ⟨nb, 0, none⟩ = some (.int .i64 ti) := blk_cell hnew 0
        have d2 : W1.cell? ⟨nb, 4, none⟩ = some (.int .i64 tn) := blk_cell hnew 4
        have d3 : W1.cell? ⟨nb, 3, none⟩ = some (.bool ts) := blk_cell hnew 3
        have ltn := blk_lt hnew
        have c := hr1.cell
        have lt := blk_lt hr1.1
        have ltg := own_lt hr1.2 (k := g) rfl
        have HR1 := Lib.hid hr1
        have HBQ : Hid (∀ n, Below W.heap.size W (W1.drewN n)) := Lib.hid fun n => below_drewN HB1.out n
        clear hw1 hr1 hnew hnb hW1 c0 c1 c2 c3 c4 HB1
        cases ts
        · have HBN : Hid (Best (wkP now) Tn.un L1 (k + 1) x) := Lib.hid (best_no HBE.out (by rw [HT.out]; rfl))
          go_quiet (fail)
          go_wp2_with fail
          go_roundw
          case rel => exact ⟨k + 1, _, hlt, by go_num, rfl, HBN.out, HBQ.out _⟩
          case measure => simp [intOf]; omega
        · by_cases hnn : tn ≤ now
          · have hnb : decide (tn ≤ now) = true := decide_eq_true hnn
            rcases best_kind HBE.out with rfl | ⟨i, hi, rfl⟩
            · have hx0 : decide ((-1 : Int) < 0) = true := rfl
              have HBN : Hid (Best (wkP now) Tn.un L1 (k + 1) (k : Int)) := Lib.hid (best_first HBE.out (by rw [HT.out]; show (true && decide (tn ≤ now)) = true; rw [hnb]; rfl))
              go_quiet (fail)
              go_wp2_with fail
              go_roundw
              case rel => exact ⟨k + 1, _, hlt, by go_num, rfl, HBN.out, HBQ.out _⟩
              case measure => simp [intOf]; omega
            · obtain ⟨e0, e1, e2, e3, e4⟩ := HR1.out.at i (by omega)
              have hi0 : ¬ (i : Int) < 0 := by omega
              have hx0 : decide ((i : Int) < 0) = false := decide_eq_false hi0
              have hi1 : (i : Int) < (L1.length : Int) := by omega
              obtain ⟨⟨qi, qw, qu, qs, qn⟩, hq⟩ : ∃ t, tg L1 i = t := ⟨_, rfl⟩
              have HQ := Lib.hid hq
              rw [hq] at e0 e1 e2 e3 e4
              dsimp only at e0 e1 e2 e3 e4
              clear hq e1 e3
              by_cases hl1 : tn < qn
              · have hb1 : decide (tn < qn) = true := decide_eq_true hl1
                have HBN : Hid (Best (wkP now) Tn.un L1 (k + 1) (k : Int)) := Lib.hid (best_take HBE.out (by rw [HT.out]; show (true && decide (tn ≤ now)) = true; rw [hnb]; rfl) (by rw [HT.out, HQ.out]; exact .inl hl1))
                go_quiet (fail)
                go_wp2_with fail
                go_roundw
                case rel => exact ⟨k + 1, _, hlt, by go_num, rfl, HBN.out, HBQ.out _⟩
                case measure => simp [intOf]; omega
              · have hb1 : decide (tn < qn) = false := decide_eq_false hl1
                by_cases hl2 : tn = qn
                · have hb2 : (tn == qn) = true := by rw [beq_iff_eq]; exact hl2
                  by_cases hl3 : ti < qi
                  · have hb3 : decide (ti < qi) = true := decide_eq_true hl3
                    have HBN : Hid (Best (wkP now) Tn.un L1 (k + 1) (k : Int)) := Lib.hid (best_take HBE.out (by rw [HT.out]; show (true && decide (tn ≤ now)) = true; rw [hnb]; rfl) (by rw [HT.out, HQ.out]; exact .inr ⟨hl2, hl3⟩))
                    clear hl2
                    go_quiet (fail)
                    go_wp2_with fail
                    go_roundw
                    case rel => exact ⟨k + 1, _, hlt, by go_num, rfl, HBN.out, HBQ.out _⟩
                    case measure => simp [intOf]; omega
                  · have hb3 : decide (ti < qi) = false := decide_eq_false hl3
                    have HBN : Hid (Best (wkP now) Tn.un L1 (k + 1) (i : Int)) := Lib.hid (best_stay HBE.out (by rw [HT.out, HQ.out]; intro e; rcases e with e | ⟨-, e⟩; exact hl1 e; exact hl3 e))
                    clear hl2
                    go_quiet (fail)
                    go_wp2_with fail
                    go_roundw
                    case rel => exact ⟨k + 1, _, hlt, by go_num, rfl, HBN.out, HBQ.out _⟩
                    case measure => simp [intOf]; omega
                · have hb2 : (tn == qn) = false := by rw [beq_eq_false_iff_ne]; exact hl2
                  have HBN : Hid (Best (wkP now) Tn.un L1 (k + 1) (i : Int)) := Lib.hid (best_stay HBE.out (by rw [HT.out, HQ.out]; intro e; rcases e with e | ⟨e, -⟩; exact hl1 e; exact hl2 e))
                  clear hl2
                  go_quiet (fail)
                  go_wp2_with fail
                  go_roundw
                  case rel => exact ⟨k + 1, _, hlt, by go_num, rfl, HBN.out, HBQ.out _⟩
                  case measure => simp [intOf]; omega
          · have hnb : decide (tn ≤ now) = false := decide_eq_false hnn
            have HBN : Hid (Best (wkP now) Tn.un L1 (k + 1) x) := Lib.hid (best_no HBE.out (by rw [HT.out]; show (true && decide (tn ≤ now)) = false; rw [hnb]; rfl))
            go_quiet (fail)
            go_wp2_with fail
            go_roundw
            case rel => exact ⟨k + 1, _, hlt, by go_num, rfl, HBN.out, HBQ.out _⟩
            case measure => simp [intOf]; omega
      · have hki : ¬ (k : Int) < (L1.length : Int) := by omega
        obtain rfl : k = L1.length := by omega
        rcases best_kind HBE.out with rfl | ⟨i, hi2, rfl⟩
        · have HF : Hid (SdWakeQ xb L1.length (.slice ao L1.length cap) st now w (.returned (.slice vo a vc)) wr) := Lib.hid (by
            have h2 := HWK.out [] sk (HS.out.wokeDone HBE.out)
            rw [List.append_nil] at h2
            rw [← HA.out]
            exact ⟨_, l, sk, L1, rfl, h2, by have := HCN.out; omega, HR.out, HS.out, rfl, HO.out.below' HB.out, own_only (F := fun _ => False) HOWN.out (Only.of_below HB.out) (fun _ _ h => h), HFR.out⟩)
          clear hk
          go_wp2_with fail
          go_ret
          exact HF.out
        · obtain ⟨g, cap2, hv⟩ := HR.out.row (by omega)
          obtain ⟨rfl, -, rfl⟩ := Value.slice.inj hv
          have hi0 : ¬ (i : Int) < 0 := by omega
          have hi1 : (i : Int) < (L1.length : Int) := by omega
          have hput := HR.out.put i hi2 3 (by decide) { tg L1 i with sl := false } (.bool false) rfl
          rw [List.length_set] at hput
          have c5 := hput.1.cell
          have lt5 := blk_lt hput.1.1
          have d5 : (wr.setCell ⟨g, i * 5 + 3, none⟩ (.bool false)).cell? ⟨g, i * 5, none⟩ = some (.int .i64 (tg L1 i).id) := by
            have := hput.1
            have e9 : (L1.set i { tg L1 i with sl := false }).length = L1.length := List.length_set
            rw [← e9] at this
            have e := (this.at i (by rw [List.length_set]; exact hi2)).1
            rw [tg_set_eq L1 i _ hi2] at e
            exact e
          have f3 := own_free HR.out.2 (i * 5 + 3)
          have c3 := (HR.out.at i hi2).2.2.2.1
          have ltg := own_lt HR.out.2 (k := g) rfl
          have hn5 : ¬ inRow (.slice vo l.length vc) g := fun e => by
            have h1 := HFR.out g e
            have h2 := HH0.out.lt.2 g (.inr rfl)
            omega
          have HOW5 : Hid ((wr.setCell ⟨g, i * 5 + 3, none⟩ (.bool false)).ownsRow 0 3 1 (.slice vo a vc) a (ints l)) := Lib.hid (by
            rw [← HA.out]
            exact own_only (F := fun b => b = g) (own_only (F := fun _ => False) HOWN.out (Only.of_below HB.out) (fun _ _ h => h)) ((Only.refl (fun b => b = g) _).setCell (p := ⟨g, i * 5 + 3, none⟩) (.inl rfl) _) (fun k hk e => hn5 (e ▸ hk)))
          have HNX : Hid (∀ v' wx, wx.ownsRow 0 3 1 v' (a + 1) (ints l ++ [.int .i64 (tg L1 i).id]) → ((wr.setCell ⟨g, i * 5 + 3, none⟩ (.bool false)).alloc (.cells #[.int .i64 (tg L1 i).id] 3)).grownBy wx (Value.slice vo a vc).ownBlock → (∀ k, inRow v' k → inRow (.slice vo a vc) k ∨ wr.heap.size + 1 ≤ k) → SdWkTo st now xb L1.length (.slice (some ⟨g, 0, none⟩) L1.length cap) w v' wx ∧ lenV v' = a + 1) := Lib.hid fun v' wx ho hg hs => by
            have e := HA.out
            subst e
            exact wk_next HH0.out HH.out HS.out HCN.out HO.out HOWN.out HFR.out HWK.out HB.out HBE.out ho hg hs
          obtain ⟨oi, hoi⟩ : ∃ x, (tg L1 i).id = x := ⟨_, rfl⟩
          rw [hoi] at d5 HNX
          have hsz5 : (wr.setCell ⟨g, i * 5 + 3, none⟩ (.bool false)).heap.size = wr.heap.size := by simp [World.setCell]
          clear hput hoi hv hk hn5
          go_wp2_with (at_builtin; refine wpList_append_sep _ rfl _ _ 35 rfl 3 i0 (.int .i64 0) 1 8 Tryd.underlying35 hi hz0 hz1 hz2 rfl (by decide) _ _ _ rfl (HOW5.out.alloc _) ⟨wr.heap.size, 0, none⟩ 1 1 [.int .i64 oi] rfl rfl (by have := cell_one_new (wr.setCell ⟨g, i * 5 + 3, none⟩ (.bool false)) (.int .i64 oi) 3; rw [hsz5] at this; exact this) (by simp [Value.oneCell']) (by unfold maxLen; omega) (by omega) ?_)
          intro v' wx ho6 hg6 hs6
          obtain ⟨h7, h8⟩ := HNX.out v' wx ho6 hg6 (by
            intro k hk
            have := hs6 k hk
            try simp only [World.size_alloc, hsz5] at this
            exact this)
          have H7 := Lib.hid h7
          have H8 := Lib.hid h8
          clear ho6 hg6 hs6 h7 h8
          go_wp2_with fail
          go_roundw
          case rel => exact H7.out
          case measure =>
            show 101 - lenV v' < 101 - lenV (.slice vo a vc)
            rw [H8.out]
            show 101 - (a + 1) < 101 - a
            omega
end Go.Proofs.YtnhocmmgdkiepaaDoor

/-
  facaderef.Ints: a copy, in new memory.
-/
namespace Go.Proofs.YtnhocmmgdkiepaaDoor
open Go.RowKit

theorem infoInts : (Tryd.prog.info? 3).map (fun i => (i.zero, i.size, i.bytes)) = some (some (.int .i64 0), 1, 8) := by kernel_rfl

/-- the first k are copied -/
def CopyIntsTo (xs : List Int) (w : World) (v i : Value) (wr : World) : Prop :=
  ∃ k : Nat, k ≤ xs.length ∧ i = .int .i64 k ∧ wr.ownsRow 0 3 1 v k (ints (xs.take k)) ∧ (∀ j, inRow v j → w.heap.size ≤ j) ∧ Below w.heap.size w wr ∧ ∃ ao cap, v = .slice ao k cap

set_option maxHeartbeats 800000 in
theorem copyInts_any (ao : Option Addr) (c1 : Nat) (xs : List Int) (w : World) (hr : AtL w ao (ints xs)) (hn : xs.length ≤ 1000000000) :
    Calls Tryd.prog 123 #[.slice ao xs.length c1] w fun e w' => ∃ v', e = .returned v' ∧ w'.ownsRow 0 3 1 v' xs.length (ints xs) ∧ (∀ k, inRow v' k → w.heap.size ≤ k) ∧ Below w.heap.size w w' := by
  obtain ⟨i0, hi, hz0, hz1, hz2⟩ := info_parts infoInts
  have HC := Lib.hid hr
  clear hr
  go_enter Tryd.func123, Tryd.ntmps123
  go_wp2_with (at_make; refine wpList_make_own _ rfl _ _ 35 rfl 0 3 i0 (.int .i64 0) 1 Tryd.underlying35 hi hz0 hz1 _ _ _ xs.length rfl rfl rfl (by rw [hz2]; omega) (by unfold maxLen; omega) (Nat.zero_le _) ?_)
  intro w1 ho hg
  have hO0 : Below w.heap.size w w1 := (Below.refl _ _).grown hg (Nat.le_refl _) (fun k hk => by cases hk)
  have HO := Lib.hid ho
  have HB := Lib.hid hO0
  clear ho hg hO0
  go_wp2_with fail
  go_loopw [3, 4] (fun v i wr => CopyIntsTo xs w v i wr) (fun _ i _ => xs.length - (intOf i).toNat)
  case atStart => exact ⟨0, Nat.zero_le _, rfl, HO.out, fun j hj => by simp [inRow, Value.ownBlock] at hj; omega, HB.out, _, _, rfl⟩
  case round =>
    obtain ⟨k, hk, rfl, hown, hf, hbw, ao', cap', rfl⟩ := hrel
    by_cases hlt : k < xs.length
    · obtain ⟨b, off, rfl, hcell, hbl⟩ := HC.out k _ (ints_get xs k hlt)
      have cr : wr.cell? ⟨b, off + k, none⟩ = some (.int .i64 (xs.getD k 0)) := (hbw.cell (p := ⟨b, off + k, none⟩) hbl).trans hcell
      obtain ⟨z, hz⟩ : ∃ z, xs.getD k 0 = z := ⟨_, rfl⟩
      rw [hz] at cr
      have HZ := Lib.hid hz
      have HF := Lib.hid hf
      have HW := Lib.hid hbw
      clear hz hcell hf hbw
      go_wp2_with (at_builtin; refine wpList_append_sep _ rfl _ _ 35 rfl 3 i0 (.int .i64 0) 1 8 Tryd.underlying35 hi hz0 hz1 hz2 rfl (by decide) _ _ _ rfl (hown.alloc _) ⟨wr.heap.size, 0, none⟩ 1 1 [.int .i64 z] rfl rfl (cell_one_new _ _ _) (by simp [Value.oneCell']) (by unfold maxLen; omega) (by omega) ?_)
      intro v' w2 ho2 hg2 hs2
      obtain ⟨ao2, cap2, rfl⟩ := own_slice ho2
      have e1 : ints (xs.take (k + 1)) = ints (xs.take k) ++ [.int .i64 z] := by
        rw [ints_take xs k hlt, HZ.out]
      rw [← e1] at ho2
      have hw2 : Below w.heap.size w w2 := (HW.out.alloc HW.out.size _).grown hg2 (by have := HW.out.size; simp; omega) (fun j hj => HF.out j hj)
      have HO2 := Lib.hid ho2
      have HW2 := Lib.hid hw2
      have HF2 := Lib.hid (show ∀ j, inRow (.slice ao2 (k + 1) cap2) j → w.heap.size ≤ j from fun j hj => by
        rcases hs2 j hj with h | h
        · exact HF.out j h
        · exact Nat.le_trans HW.out.size (Nat.le_trans (by simp) h))
      clear ho2 hg2 hs2 e1 hw2 hown
      go_wp2
      go_roundw
      case rel => exact ⟨k + 1, by omega, by go_num, HO2.out, HF2.out, HW2.out, _, _, rfl⟩
      case measure => simp [intOf]; omega
    · obtain rfl : k = xs.length := by omega
      have HO2 := Lib.hid hown
      have HF2 := Lib.hid hf
      have HW2 := Lib.hid hbw
      clear hown hf hbw
      go_wp2
      go_ret
      have := HO2.out
      rw [List.take_length] at this
      exact ⟨_, rfl, this, HF2.out, HW2.out⟩
end Go.Proofs.YtnhocmmgdkiepaaDoor

