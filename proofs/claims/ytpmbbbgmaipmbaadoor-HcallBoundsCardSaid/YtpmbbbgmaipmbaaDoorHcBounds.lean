/-
  HcallBounds: for every two numbers the call returns true; nothing that was there is turned. Given where the sentinels lie.
-/
import Derived.Test.YtpmbbbgmaipmbaaDoorHcBatch
import Derived.Test.YtpmbbbgmaipmbaaDoorNumber
import Derived.Test.YtpmbbbgmaipmbaaDoorHcCode
namespace Go.Proofs.YtpmbbbgmaipmbaaDoor
open Go.RowKit

theorem infoU32b : (Tryd.prog.info? 22).map (fun i => (i.zero, i.size, i.bytes)) = some (some (.int .u32 0), 1, 4) := by kernel_rfl
theorem made_u32b (w : World) (n : Nat) (h : n ≤ 1000) : (Instr.makeSlice 63 (.int .i64 (n : Int)) (.int .i64 (n : Int))).run Tryd.prog w = .ok (.slice (some ⟨w.heap.size, 0, none⟩) n n) (w.alloc (.cells (u32s (List.replicate n 0)).toArray 22)) := by
  obtain ⟨i, hi, hz0, hz1, hz2⟩ := info_parts infoU32b
  have e := run_make (P := Tryd.prog) w 63 22 i (.int .u32 0) Tryd.underlying63 hi hz0 .i64 .i64 n n (by omega) (by omega) (by rw [hz2]; omega) (by omega)
  rw [e, hz1, Int.toNat_natCast, Nat.mul_one]
  have : madeCells (Value.int IntKind.u32 0).cells n = (u32s (List.replicate n 0)).toArray := by
    apply Array.toList_inj.1
    rw [show (Value.int IntKind.u32 0).cells = #[Value.int IntKind.u32 0] from rfl, toList_madeCells_one]
    simp [u32s]
  rw [this]
def BoTo (n q wb : Nat) (w0 : World) (i : Value) (wr : World) : Prop :=
  ∃ j : Nat, j ≤ n ∧ i = .int .i64 (j : Int) ∧ (∃ L : List Int, L.length = q ∧ wr.heap[wb]? = some (.cells (u32s L).toArray 22 (0, 0)) ∧ (∀ k, k < j → 5 * k < q → L.getD (5 * k) 0 = 13) ∧ ∀ z ∈ L, 0 ≤ z ∧ z ≤ 4294967295) ∧ Only (fun k => k = wb) w0 wr
/-- what Batch of such words answers -/
def BoAns (E : Nat → Addr) (n q : Nat) (ev : Value) (l : Nat) (c : Int) : Prop :=
  (16 < n ∧ ev = errV (E 3) ∧ l = 0 ∧ c = 104) ∨ (n ≤ 16 ∧ q ≠ 5 * n ∧ ev = errV (E 2) ∧ l = 0 ∧ c = 103) ∨ (n ≤ 16 ∧ q = 5 * n ∧ ev = .nilIface ∧ l = n ∧ c = 0)
theorem bo_batch (E : Nat → Addr) (n q wb : Nat) (ev : Value) (l : Nat) (c : Int) (h : BoAns E n q ev l c) (hq : q ≤ 1000) (L : List Int) (hL : L.length = q) (w : World) (hE : ErrsAt errT gOf w E all16)
    (hb : w.heap[wb]? = some (.cells (u32s L).toArray 22 (0, 0))) (hg : q = 5 * n → ∀ k, k < n → L.getD (5 * k) 0 = 13) (hz : ∀ z ∈ L, 0 ≤ z ∧ z ≤ 4294967295) :
    Calls Tryd.prog 32 #[.slice (some ⟨wb, 0, none⟩) q q, .int .i64 (n : Int)] w fun e w' => ∃ ao cap, e = .returned (.tuple #[.slice ao l cap, ev]) ∧ Below w.heap.size w w' := by
  rcases h with ⟨h, rfl, rfl, -⟩ | ⟨h, hne, rfl, rfl, -⟩ | ⟨h, rfl, rfl, rfl, -⟩
  · refine (batch_many E _ _ _ _ w hE (.inr (by omega))).mono ?_
    rintro e w' ⟨rfl, hbw⟩
    exact ⟨none, 0, rfl, hbw⟩
  · refine (batch_range E _ _ _ _ w hE h hne (by omega)).mono ?_
    rintro e w' ⟨rfl, hbw⟩
    exact ⟨none, 0, rfl, hbw⟩
  · have := batch_any E L (some ⟨wb, 0, none⟩) (5 * l) l w hE h hL (by omega) (by omega) (fun i v hi => ⟨wb, 0, rfl, (blk_cell hb (0 + i)).trans (by rw [Nat.zero_add, List.getElem?_toArray]; exact hi), blk_lt hb⟩) hz
    rw [hL] at this
    refine this.mono ?_
    rintro e w' ⟨hbw, -, h2⟩
    obtain ⟨v, rfl, ho, -⟩ := h2 (hcBad_none L l fun i hi => by rw [hg rfl i hi]; rfl)
    obtain ⟨ao, cap, rfl, -⟩ := atL_of_own ho
    exact ⟨ao, cap, rfl, hbw⟩
theorem bo_zero (E : Nat → Addr) (w : World) (hE : ErrsAt errT gOf w E all16) :
    Calls Tryd.prog 32 #[.slice none 0 0, .int .i64 0] w fun e w' => ∃ ao cap, e = .returned (.tuple #[.slice ao 0 cap, .nilIface]) ∧ Below w.heap.size w w' := by
  refine (batch_any E [] none 0 0 w hE (by decide) rfl (Nat.le_refl _) (by decide) (fun i v hi => by cases hi) (fun z hz => by cases hz)).mono ?_
  rintro e w' ⟨hbw, -, h2⟩
  obtain ⟨v, rfl, ho, -⟩ := h2 (hcBad_none [] 0 fun i hi => absurd hi (by omega))
  obtain ⟨ao, cap, rfl, -⟩ := atL_of_own ho
  exact ⟨ao, cap, rfl, hbw⟩

set_option maxRecDepth 100000 in
set_option maxHeartbeats 8000000 in
theorem hcallBounds_walk (E : Nat → Addr) (x0 x1 : Int) (w : World) (hE : ErrsAt errT gOf w E all16) (h0 : -9223372036854775808 ≤ x0 ∧ x0 ≤ 9223372036854775807) (h1 : -9223372036854775808 ≤ x1 ∧ x1 ≤ 9223372036854775807) :
    Calls Tryd.prog 9 #[.int .i64 x0, .int .i64 x1] w fun e w' => e = .returned (.bool true) ∧ Below w.heap.size w w' := by
  have HN0 := Lib.hid (fun wx => number_any x0 4 wx h0.1 h0.2 (by decide) (by decide))
  have HN1 := Lib.hid (fun wx => number_any x1 11 wx h1.1 h1.2 (by decide) (by decide))
  obtain ⟨a, ha⟩ : ∃ g : Nat, x0 % 4 = (g : Int) := ⟨(x0 % 4).toNat, by omega⟩
  have ha4 : a < 4 := by omega
  rw [ha] at HN0
  obtain ⟨b, hb⟩ : ∃ g : Nat, x1 % 11 = (g : Int) := ⟨(x1 % 11).toNat, by omega⟩
  have hb11 : b < 11 := by omega
  rw [hb] at HN1
  clear ha hb h0 h1
  obtain ⟨n, hn⟩ : ∃ n : Nat, n = a + 14 := ⟨_, rfl⟩
  obtain ⟨q, hq⟩ : ∃ q : Nat, q + 5 = 5 * n + b := ⟨5 * n + b - 5, by omega⟩
  have hni : (a : Int) + 14 = (n : Int) := by omega
  have hqi : 5 * (n : Int) + ((b : Int) - 5) = (q : Int) := by omega
  have hq1 : q ≤ 100 := by omega
  have wa := IntWalk.i64_in ((a : Int) + 14) (by omega)
  have wb5 := IntWalk.i64_in ((b : Int) - 5) (by omega)
  have wn5 := IntWalk.i64_in (5 * (n : Int)) (by omega)
  have wq := IntWalk.i64_in (5 * (n : Int) + ((b : Int) - 5)) (by omega)
  have hn17 : n ≤ 17 := by omega
  have HNI := Lib.hid hni
  have HQI := Lib.hid hqi
  have HQ := Lib.hid hq
  have HN := Lib.hid hn
  have hq5 : q = 5 * n ↔ b = 5 := by omega
  have HEK : Hid (∀ wx, Below w.heap.size w wx → ErrsAt errT gOf wx E all16) := Lib.hid fun wx h => hE.mono h
  obtain ⟨ev, l, c, HANS⟩ : ∃ ev l c, Hid (BoAns E n q ev l c) := by
    by_cases g1 : 16 < n
    · exact ⟨_, _, _, Lib.hid (.inl ⟨g1, rfl, rfl, rfl⟩)⟩
    · by_cases g2 : q = 5 * n
      · exact ⟨_, _, _, Lib.hid (.inr (.inr ⟨by omega, g2, rfl, rfl, rfl⟩))⟩
      · exact ⟨_, _, _, Lib.hid (.inr (.inl ⟨by omega, g2, rfl, rfl, rfl⟩))⟩
  clear hE hni hqi hq5 hq hn
  go_enter Tryd.func9, Tryd.ntmps9
  go_wp2_with fail
  refine (hc_first E _ (HEK.out _ (Below.refl _ _))).mono ?_
  rintro e w1 ⟨rfl, hb1⟩
  have HB1 := Lib.hid hb1
  clear hb1
  go_wp2_with fail
  refine (HN0.out _).mono ?_
  rintro e w2 ⟨rfl, rfl⟩
  go_wp2_with fail
  rw [HNI.out]
  refine (HN1.out _).mono ?_
  rintro e w2 ⟨rfl, rfl⟩
  have hmk := made_u32b w1 q (by omega)
  rw [← HQI.out] at hmk
  go_wp2_with fail
  have HWB : Hid (BoTo n q w1.heap.size (w1.alloc (.cells (u32s (List.replicate q 0)).toArray 22)) (.int .i64 0) (w1.alloc (.cells (u32s (List.replicate q 0)).toArray 22))) := Lib.hid ⟨0, Nat.zero_le _, rfl, ⟨_, List.length_replicate, blk_new _ _, fun k hk => absurd hk (by omega), fun z hz => by rw [List.eq_of_mem_replicate hz]; omega⟩, Only.refl _ _⟩
  have HB5 : Hid (Below w.heap.size w (w1.alloc (.cells (u32s (List.replicate q 0)).toArray 22))) := Lib.hid (HB1.out.alloc HB1.out.size _)
  generalize w1.alloc (.cells (u32s (List.replicate q 0)).toArray 22) = w5 at HWB HB5 ⊢
  have HLT : Hid (w.heap.size ≤ w1.heap.size) := Lib.hid HB1.out.size
  obtain ⟨wb, hwb⟩ : ∃ wb, w1.heap.size = wb := ⟨_, rfl⟩
  rw [hwb] at HWB HLT ⊢
  clear hwb hmk HB1
  go_loopw [7] (fun i wr => BoTo n q wb w5 i wr) (fun i _ => n - (intOf i).toNat)
  case atStart => exact HWB.out
  case round =>
    obtain ⟨j, hj, rfl, ⟨L, hL, hblk, h13, hz⟩, ho⟩ := hrel
    have HBLK := Lib.hid hblk
    have HO := Lib.hid ho
    have H13 := Lib.hid h13
    have HZ := Lib.hid hz
    have HL := Lib.hid hL
    clear ho h13 hz HWB hL
    by_cases hlt : j < n ∧ 5 * j < q
    · have hji : (j : Int) < (n : Int) := by omega
      have hjq : 5 * (j : Int) < (q : Int) := by omega
      have hold : wr.cell? ⟨wb, 5 * j, none⟩ = some (.int .u32 (L.getD (5 * j) 0)) := by
        rw [blk_cell hblk, List.getElem?_toArray]
        exact u32s_get _ _ (by have := HL.out; omega)
      have f0 := blk_free hblk (5 * j)
      have HP := Lib.hid (blk_put hblk (5 * j) (.int .u32 13))
      have HPL : Hid ((u32s L).toArray.setIfInBounds (5 * j) (.int .u32 13) = (u32s (L.set (5 * j) 13)).toArray) := Lib.hid (by unfold u32s; simp [List.map_set])
      rw [HPL.out] at HP
      have HO6 : Hid (Only (fun k => k = wb) w5 (wr.setCell ⟨wb, 5 * j, none⟩ (.int .u32 13))) := Lib.hid (HO.out.setCell (p := ⟨wb, 5 * j, none⟩) (.inl rfl) _)
      have H13' : Hid (∀ k, k < j + 1 → 5 * k < q → (L.set (5 * j) 13).getD (5 * k) 0 = 13) := Lib.hid fun k hk hkq => by
        by_cases e : k = j
        · subst e
          rw [List.getD_eq_getElem?_getD, List.getElem?_set_self (by have := HL.out; omega)]
          rfl
        · rw [List.getD_eq_getElem?_getD, List.getElem?_set_ne (by omega), ← List.getD_eq_getElem?_getD]
          exact H13.out k (by omega) hkq
      have HZ' : Hid (∀ z ∈ L.set (5 * j) 13, 0 ≤ z ∧ z ≤ 4294967295) := Lib.hid fun z hz => by
        rcases List.mem_or_eq_of_mem_set hz with h | rfl
        · exact HZ.out z h
        · omega
      clear hblk
      go_wp2
      go_roundw
      case rel => exact ⟨j + 1, by omega, by go_num, ⟨_, by rw [List.length_set]; exact HL.out, HP.out, H13'.out, HZ'.out⟩, HO6.out⟩
      case measure => simp [intOf]; omega
    · have HB6 := Lib.hid (HB5.out.trans (HO.out.below (B := w.heap.size) HB5.out.size (fun k hk => by subst hk; exact HLT.out)))
      have HG : Hid (q = 5 * n → ∀ k, k < n → L.getD (5 * k) 0 = 13) := Lib.hid fun e k hk => H13.out k (by omega) (by omega)
      have hx : ¬ (j : Int) < (n : Int) ∨ ((j : Int) < (n : Int) ∧ ¬ 5 * (j : Int) < (q : Int)) := by omega
      have HBAT := Lib.hid (bo_batch E n q wb ev l c HANS.out (by omega) L HL.out wr (HEK.out _ HB6.out) HBLK.out HG.out HZ.out)
      clear hblk hlt
      rcases hx with hx | ⟨hx, hx'⟩
      all_goals
        go_wp2_with fail
        refine HBAT.out.mono ?_
        rintro e w7 ⟨ao, cap, rfl, hb7⟩
        have HB7 := Lib.hid (HB6.out.trans (hb7.mono HB6.out.size))
        clear hb7
        go_wp2_with fail
        refine (batch_many E _ _ _ _ w7 (HEK.out _ HB7.out) (.inl (by decide))).mono ?_
        rintro e w8 ⟨rfl, hb8⟩
        have HB8 := Lib.hid (HB7.out.trans (hb8.mono HB7.out.size))
        clear hb8
        go_wp2_with fail
        refine (bo_zero E w8 (HEK.out _ HB8.out)).mono ?_
        rintro e w9 ⟨ao2, cap2, rfl, hb9⟩
        have HB9 := Lib.hid (HB8.out.trans (hb9.mono HB8.out.size))
        clear hb9
        rcases HANS.out with ⟨g1, rfl, rfl, rfl⟩ | ⟨g1, g2, rfl, rfl, rfl⟩ | ⟨g1, g2, rfl, rfl, rfl⟩
        · have gi : (16 : Int) < (n : Int) := by omega
          go_wp2_with fail
          refine (is_any E (errV (E 3)) 104 104 (.inr ⟨3, by decide, rfl, rfl⟩) w9 (HEK.out _ HB9.out)).mono ?_
          rintro e w10 ⟨rfl, hb10⟩
          have HB10 := Lib.hid (HB9.out.trans (hb10.mono HB9.out.size))
          clear hb10
          go_wp2
          go_ret
          exact ⟨rfl, HB10.out⟩
        · have gi : ¬ (16 : Int) < (n : Int) := by omega
          have gb : ¬ (b : Int) - 5 = 0 := by have := HQ.out; omega
          go_wp2_with fail
          refine (is_any E (errV (E 2)) 103 103 (.inr ⟨2, by decide, rfl, rfl⟩) w9 (HEK.out _ HB9.out)).mono ?_
          rintro e w10 ⟨rfl, hb10⟩
          have HB10 := Lib.hid (HB9.out.trans (hb10.mono HB9.out.size))
          clear hb10
          go_wp2
          go_ret
          exact ⟨rfl, HB10.out⟩
        · first
            | (exfalso; omega)
            | skip
              have gi : ¬ (16 : Int) < (l : Int) := by omega
              obtain rfl : b = 5 := by have := HQ.out; omega
              go_wp2_with fail
              refine (is_any E (errV (E 3)) 104 104 (.inr ⟨3, by decide, rfl, rfl⟩) w9 (HEK.out _ HB9.out)).mono ?_
              rintro e w10 ⟨rfl, hb10⟩
              have HB10 := Lib.hid (HB9.out.trans (hb10.mono HB9.out.size))
              clear hb10
              go_wp2
              go_ret
              exact ⟨rfl, HB10.out⟩
end Go.Proofs.YtpmbbbgmaipmbaaDoor
