/-
  QueueStops: the walk. Given where the sixteen sentinels lie.
-/
import Derived.Test.YtnhocmmgdkiepaaDoorQsLaw
import Derived.Test.YtnhocmmgdkiepaaDoorQuFirst
import Derived.Test.YtnhocmmgdkiepaaDoorNumber
namespace Go.Proofs.YtnhocmmgdkiepaaDoor
open Go.RowKit

def QsTo (nn bad : Nat) (g b : Int) (p : Pl) (qb : Nat) (w : World) (i : Value) (wr : World) : Prop := ∃ (k : Nat) (qv : Value), k ≤ nn ∧ i = .int .i64 (k : Int) ∧ QuAt wr qb qv (qsL k bad g b) ∧ PtAt wr p qsT ∧ Below w.heap.size w wr ∧ (∀ j, inRow qv j → qb < j)
theorem three_u32 (g18 : Int) (r : Nat) (hr : r < 3) : (#[Value.int .u32 g18, .int .u32 2, .int .u32 4361] : Array Value)[r]? = some (.int .u32 (if r = 0 then g18 else if r = 1 then 2 else 4361)) := by
  match r, hr with
  | 0, _ => rfl
  | 1, _ => rfl
  | 2, _ => rfl
theorem three_i64 (r : Nat) (hr : r < 3) : (#[Value.int .i64 107, .int .i64 102, .int .i64 102] : Array Value)[r]? = some (.int .i64 (if r = 0 then 107 else 102)) := by
  match r, hr with
  | 0, _ => rfl
  | 1, _ => rfl
  | 2, _ => rfl
theorem qs_keep {w w' : World} {p : Pl} {s : Ts} {qb : Nat} {qv : Value} (h : PtAt w p s) (ho : Only (fun k => k = qb ∨ inRow qv k) w w') (hz : ∀ k, (p.z0 k ∨ p.z1 k ∨ p.z2 k ∨ p.z3 k) → k < qb) (hr : ∀ j, inRow qv j → qb < j) : PtAt w' p s := by
  have hn : ∀ k, k < qb → ¬ (k = qb ∨ inRow qv k) := fun k hk e => by
    rcases e with e | e
    · omega
    · have := hr k e; omega
  exact h.keep ho (fun k h => hn k (hz k (.inl h))) (fun k h => hn k (hz k (.inr (.inl h)))) (fun k h => hn k (hz k (.inr (.inr (.inl h))))) (fun k h => hn k (hz k (.inr (.inr (.inr h)))))
theorem qs_below {w wr w1 : World} {qb : Nat} {qv : Value} (h : Below w.heap.size w wr) (ho : Only (fun k => k = qb ∨ inRow qv k) wr w1) (hq : w.heap.size ≤ qb) (hr : ∀ j, inRow qv j → qb < j) : Below w.heap.size w w1 :=
  h.trans (ho.below (B := w.heap.size) h.size fun j hj => by
    rcases hj with hj | hj
    · rw [hj]; exact hq
    · exact Nat.le_trans hq (Nat.le_of_lt (hr j hj)))
theorem qs_beyond {wr : World} {qb : Nat} {qv qv' : Value} {l : List Up} (h : QuAt wr qb qv l) (h1 : ∀ k, inRow qv' k → inRow qv k ∨ wr.heap.size ≤ k) (hr : ∀ j, inRow qv j → qb < j) : ∀ j, inRow qv' j → qb < j := fun j hj => by
  rcases h1 j hj with h' | h'
  · exact hr j h'
  · have := blk_lt h.1; omega
theorem qs_apart {p : Pl} {qb : Nat} {qv : Value} (hz : ∀ k, (p.z0 k ∨ p.z1 k ∨ p.z2 k ∨ p.z3 k) → k < qb) (hr : ∀ j, inRow qv j → qb < j) : (∀ k, inRow qv k → ¬ p.zw k) ∧ ¬ p.zw qb ∧ ¬ p.z0 qb := by
  have hw : ∀ k, p.zw k → k < qb := fun k h => by
    rcases h with h | h | h | h
    · exact hz k (.inr (.inl h))
    · exact hz k (.inr (.inr (.inl h)))
    · exact hz k (.inr (.inr (.inr (.inl h))))
    · exact hz k (.inr (.inr (.inr (.inr h))))
  exact ⟨fun k hk h => by have := hw k h; have := hr k hk; omega, fun h => Nat.lt_irrefl _ (hw _ h), fun h => Nat.lt_irrefl _ (hz _ (.inl h))⟩
theorem bits_g : bitsA ⟨17, true, true, false⟩ = (entW 17 true true false, true) := by kernel_rfl
theorem bits_18 : bitsA ⟨18, true, false, false⟩ = (entW 18 true false false, true) := by kernel_rfl
theorem of_2 : (ofA 2).2 = false := by kernel_rfl
theorem of_4361 : (ofA 4361).2 = false := by kernel_rfl

set_option maxRecDepth 100000 in
set_option maxHeartbeats 32000000 in
theorem queueStops_walk (E : Nat → Addr) (x0 x1 x2 : Int) (w : World) (hE : ErrsAt errT gOf w E all16) (h0 : -9223372036854775808 ≤ x0 ∧ x0 ≤ 9223372036854775807) (h1 : -9223372036854775808 ≤ x1 ∧ x1 ≤ 9223372036854775807) (h2 : -9223372036854775808 ≤ x2 ∧ x2 ≤ 9223372036854775807) :
    Calls Tryd.prog 6 #[.int .i64 x0, .int .i64 x1, .int .i64 x2] w fun y w' => y = .returned (.bool true) ∧ Below w.heap.size w w' := by
  have HE16 : Hid (∀ wx, Below w.heap.size w wx → ErrsAt errT gOf wx E all16) := Lib.hid fun wx h => hE.mono h
  have HEK : Hid (∀ wx, Below w.heap.size w wx → ErrsAt errT gOf wx E nine) := Lib.hid fun wx h => errs9 (hE.mono h)
  have HF1 := Lib.hid (qfirst_true E w (errs9 hE))
  have HN0 := Lib.hid (fun wx => number_any x0 16 wx h0.1 h0.2 (by decide) (by decide))
  have HN2 := Lib.hid (fun wx => number_any x2 3 wx h2.1 h2.2 (by decide) (by decide))
  obtain ⟨nn, hnn, hn1, hn17⟩ : ∃ nn : Nat, x0 % 16 + 1 = (nn : Int) ∧ 1 ≤ nn ∧ nn ≤ 16 := ⟨(x0 % 16 + 1).toNat, by omega, by omega, by omega⟩
  have wn := IntWalk.i64_in (x0 % 16 + 1) (by omega)
  have HNN := Lib.hid hnn
  have HN1 := Lib.hid (fun wx => number_any x1 ((nn : Int) + 1) wx h1.1 h1.2 (by omega) (by omega))
  have wn1 := IntWalk.i64_in ((nn : Int) + 1) (by omega)
  obtain ⟨bad, hbad, hbn⟩ : ∃ bad : Nat, x1 % ((nn : Int) + 1) = (bad : Int) ∧ bad ≤ nn := ⟨(x1 % ((nn : Int) + 1)).toNat, by have := Int.emod_nonneg x1 (show (nn : Int) + 1 ≠ 0 by omega); omega, by have := Int.emod_nonneg x1 (show (nn : Int) + 1 ≠ 0 by omega); have := Int.emod_lt_of_pos x1 (show (0 : Int) < (nn : Int) + 1 by omega); omega⟩
  rw [hbad] at HN1
  obtain ⟨r, hr, hr3⟩ : ∃ r : Nat, x2 % 3 = (r : Int) ∧ r < 3 := ⟨(x2 % 3).toNat, by omega, by omega⟩
  rw [hr] at HN2
  obtain ⟨g, hg⟩ : ∃ g, entW 17 true true false = g := ⟨_, rfl⟩
  obtain ⟨g18, hg18⟩ : ∃ g, entW 18 true false false = g := ⟨_, rfl⟩
  have HBG : Hid (∀ wx, Calls Tryd.prog 25 #[.agg #[.int .i64 17, .bool true, .bool true, .bool false]] wx fun x w' => x = .returned (.tuple #[.int .u32 g, .bool true]) ∧ Below wx.heap.size wx w') := Lib.hid fun wx => by
    have := rbits_any ⟨17, true, true, false⟩ wx
    rw [bits_g, hg] at this
    exact this
  have HB18 : Hid (∀ wx, Calls Tryd.prog 25 #[.agg #[.int .i64 18, .bool true, .bool false, .bool false]] wx fun x w' => x = .returned (.tuple #[.int .u32 g18, .bool true]) ∧ Below wx.heap.size wx w') := Lib.hid fun wx => by
    have := rbits_any ⟨18, true, false, false⟩ wx
    rw [bits_18, hg18] at this
    exact this
  have HG : Hid (ofA g = (qsGood, true)) := Lib.hid (by rw [← hg]; exact ofA_ent'' ⟨by decide, by decide, fun h => by cases h⟩)
  have HG32 : Hid (W32 g) := Lib.hid (by have := bitsA_w32 ⟨17, true, true, false⟩; rw [bits_g, hg] at this; exact this)
  have HG18 : Hid (ofA g18 = (⟨18, true, false, false⟩, true) ∧ W32 g18) := Lib.hid ⟨by rw [← hg18]; exact ofA_ent'' ⟨by decide, by decide, fun h => by cases h⟩, by have := bitsA_w32 ⟨18, true, false, false⟩; rw [bits_18, hg18] at this; exact this⟩
  obtain ⟨b, hb⟩ : ∃ b : Int, (if r = 0 then g18 else if r = 1 then 2 else 4361) = b := ⟨_, rfl⟩
  obtain ⟨c, hc⟩ : ∃ c : Int, (if r = 0 then (107 : Int) else 102) = c := ⟨_, rfl⟩
  have HBC0 : Hid (((ofA b = (⟨18, true, false, false⟩, true) ∧ c = 107) ∨ ((ofA b).2 = false ∧ c = 102)) ∧ W32 b) := Lib.hid (by
    match r, hr3 with
    | 0, _ =>
      have e1 : g18 = b := hb
      have e2 : (107 : Int) = c := hc
      rw [← e1, ← e2]
      exact ⟨.inl ⟨HG18.out.1, rfl⟩, HG18.out.2⟩
    | 1, _ =>
      have e1 : (2 : Int) = b := hb
      have e2 : (102 : Int) = c := hc
      rw [← e1, ← e2]
      exact ⟨.inr ⟨of_2, rfl⟩, ⟨by decide, by decide⟩⟩
    | 2, _ =>
      have e1 : (4361 : Int) = b := hb
      have e2 : (102 : Int) = c := hc
      rw [← e1, ← e2]
      exact ⟨.inr ⟨of_4361, rfl⟩, ⟨by decide, by decide⟩⟩)
  have HU3 := Lib.hid (three_u32 g18 r hr3)
  have HI3 := Lib.hid (three_i64 r hr3)
  rw [hb] at HU3
  rw [hc] at HI3
  have hri : (r : Int) < 3 := by omega
  have hr0 : (0 : Int) ≤ (r : Int) := by omega
  clear hE h0 h1 h2 hnn hbad hr hg hg18 hb hc
  go_enter Tryd.func6, Tryd.ntmps6
  go_wp2_with fail
  refine HF1.out.mono ?_
  rintro y w0 ⟨rfl, hb0⟩
  have HB0 := Lib.hid hb0
  clear hb0
  go_wp2_with fail
  refine (HN0.out _).mono ?_
  rintro y w1 ⟨rfl, rfl⟩
  go_wp2_with fail
  rw [HNN.out]
  refine (HN1.out _).mono ?_
  rintro y w1 ⟨rfl, rfl⟩
  go_wp2_with fail
  refine (mm_new 40 _ (by decide) (by decide)).mono ?_
  rintro y wa ⟨mb, mv, rfl, hma, hsa, hva, hba⟩
  have HMA := Lib.hid hma
  have HSA := Lib.hid hsa
  have HVA := Lib.hid hva
  have HBA := Lib.hid (HB0.out.trans (hba.mono HB0.out.size))
  clear hma hsa hva hba
  go_wp2_with fail
  refine (fnew_ok 40 _ (by decide) (by decide)).mono ?_
  rintro y wb ⟨fb, fg, rfl, hfb, hsb, hsg, hbb⟩
  have HMB := Lib.hid (HMA.out.below hbb)
  have HFB : Hid (FrAt 128 126 wb fb fg 40 (frU 40 0 0 (0))) := Lib.hid (by rw [frU_new]; exact hfb)
  have HBB := Lib.hid (HBA.out.trans (hbb.mono HBA.out.size))
  have HZ0 : Hid (w.heap.size ≤ mb ∧ (∀ k, inRow mv k → w.heap.size ≤ k ∧ k < wa.heap.size) ∧ wa.heap.size ≤ fb ∧ wa.heap.size ≤ fg ∧ mb < wa.heap.size) := Lib.hid ⟨Nat.le_trans HB0.out.size HSA.out, fun k hk => ⟨Nat.le_trans HB0.out.size (HVA.out k hk), own_lt HMA.out.2.1 hk⟩, hsb, hsg, blk_lt HMA.out.1⟩
  clear hfb hsb hsg hbb
  have HZW : Hid (∀ wx, Only (nz mv fg) wb wx → Below w.heap.size w wx) := Lib.hid fun wx ho => HBB.out.trans (ho.below (B := w.heap.size) HBB.out.size fun k hk => by
    rcases hk with hk | hk
    · exact (HZ0.out.2.1 k hk).1
    · rw [hk]; exact Nat.le_trans HBA.out.size HZ0.out.2.2.2.1)
  have HNW := Lib.hid (tnew_ok E 40 0 mb fb fg mv (List.replicate (16 * 40) 0) (0) wb (fun wx ho => HEK.out wx (HZW.out wx ho)) HMB.out HFB.out ⟨fun k hk => ⟨fun e => by have := HZ0.out.2.1 k hk; have := HZ0.out.2.2.1; omega, fun e => by have := HZ0.out.2.1 k hk; have := HZ0.out.2.2.2.1; omega⟩, fun e => by have := HZ0.out.2.2.2; omega⟩ (by unfold frOwns; omega) (by decide) (by decide))
  go_wp2_with fail
  refine HNW.out.mono ?_
  rintro y wc ⟨pv, lv, rfl, hpc, hoc, hvc⟩
  have HBC := Lib.hid (HZW.out _ hoc)
  obtain ⟨p, hp⟩ : ∃ p : Pl, p = ⟨wb.heap.size + 1, mb, fb, fg, wb.heap.size, mv, pv, lv⟩ := ⟨_, rfl⟩
  have htb : p.tb = wb.heap.size + 1 := by rw [hp]
  have HPC : Hid (PtAt wc p (tNew 40 0 (0))) := Lib.hid (by rw [hp]; exact hpc)
  have HPZ : Hid (∀ k, p.zw k → w.heap.size ≤ k) := Lib.hid fun k hk => by
    rw [hp] at hk
    rcases hk with hk | hk | hk | hk
    · exact (HZ0.out.2.1 k hk).1
    · rw [show k = fg from hk]; exact Nat.le_trans HBA.out.size HZ0.out.2.2.2.1
    · rw [show k = wb.heap.size from hk]; exact HBB.out.size
    · exact Nat.le_trans HBB.out.size (hvc k hk)
  have HTI := Lib.hid (tNew_inv 40 0 (0) (by unfold frOwns; omega) (by decide) (by decide))
  have hs1 : w.heap.size ≤ wb.heap.size := HBB.out.size
  clear hpc hoc hvc HNW hp
  have HZLC : Hid (∀ k, (p.z0 k ∨ p.z1 k ∨ p.z2 k ∨ p.z3 k) → k < wc.heap.size) := Lib.hid fun k hk => HPC.out.lt k hk
  have had := tadd_any E p (tNew 40 0 0) 1 wc (fun wx ho => HEK.out wx (HBC.out.trans (ho.below (B := w.heap.size) HBC.out.size HPZ.out))) HPC.out HTI.out
  unfold AddQ at had
  rw [qsT_add, htb] at had
  have HAD := Lib.hid had
  clear had
  go_wp2_with fail
  refine HAD.out.mono ?_
  rintro y wd ⟨pv2, rfl, hpd, hod, hvd⟩
  obtain ⟨p2, hp2⟩ : ∃ p2 : Pl, p2 = { p with pv := pv2 } := ⟨_, rfl⟩
  have htb2 : p2.tb = wb.heap.size + 1 := by rw [hp2]; exact htb
  have HPD : Hid (PtAt wd p2 qsT) := Lib.hid (by rw [hp2]; rw [htb]; exact hpd)
  have HBD : Hid (Below w.heap.size w wd) := Lib.hid (HBC.out.trans (hod.below (B := w.heap.size) HBC.out.size HPZ.out))
  have HPZ2 : Hid (∀ k, p2.zw k → w.heap.size ≤ k) := Lib.hid fun k hk => by
    rw [hp2] at hk
    rcases hk with hk | hk | hk | hk
    · exact HPZ.out k (.inl hk)
    · exact HPZ.out k (.inr (.inl hk))
    · exact HPZ.out k (.inr (.inr (.inl hk)))
    · rcases hvd k hk with h | h
      · exact HPZ.out k (.inr (.inr (.inr h)))
      · exact Nat.le_trans HBC.out.size h
  clear hpd hod hvd hp2 hs1
  unfold errC
  rw [if_pos rfl]
  go_wp2_with fail
  refine (HBG.out _).mono ?_
  rintro y we ⟨rfl, hbe⟩
  have HPE := Lib.hid (HPD.out.below hbe)
  have HBE := Lib.hid (HBD.out.trans (hbe.mono HBD.out.size))
  clear hbe
  go_wp2_with fail
  refine (HB18.out _).mono ?_
  rintro y wf ⟨rfl, hbf⟩
  have HPF := Lib.hid (HPE.out.below hbf)
  have HBF := Lib.hid (HBE.out.trans (hbf.mono HBE.out.size))
  clear hbf
  go_wp2_with fail
  refine (HN2.out _).mono ?_
  rintro y wx0 ⟨rfl, rfl⟩
  have hu3 := (blk_cell (blk_new wf (.cells #[.int .u32 g18, .int .u32 2, .int .u32 4361] 43)) r).trans HU3.out
  obtain ⟨wg, hwg⟩ : ∃ wg, wf.alloc (.cells #[.int .u32 g18, .int .u32 2, .int .u32 4361] 43) = wg := ⟨_, rfl⟩
  rw [hwg] at hu3
  have HBG2 : Hid (Below wf.heap.size wf wg) := Lib.hid (hwg ▸ (Below.refl _ _).alloc (Nat.le_refl _) _)
  have HPG := Lib.hid (HPF.out.below HBG2.out)
  have HBGG := Lib.hid (HBF.out.trans (HBG2.out.mono HBF.out.size))
  rw [hwg]
  clear hwg
  go_wp2_with fail
  refine (HN2.out _).mono ?_
  rintro y wx0 ⟨rfl, rfl⟩
  have hi3 := (blk_cell (blk_new wg (.cells #[.int .i64 107, .int .i64 102, .int .i64 102] 3)) r).trans HI3.out
  obtain ⟨wh, hwh⟩ : ∃ wh, wg.alloc (.cells #[.int .i64 107, .int .i64 102, .int .i64 102] 3) = wh := ⟨_, rfl⟩
  rw [hwh] at hi3
  have HBH2 : Hid (Below wg.heap.size wg wh) := Lib.hid (hwh ▸ (Below.refl _ _).alloc (Nat.le_refl _) _)
  have HPH := Lib.hid (HPG.out.below HBH2.out)
  have HBH := Lib.hid (HBGG.out.trans (HBH2.out.mono HBGG.out.size))
  rw [hwh]
  clear hwh hu3
  obtain ⟨qb, hqb⟩ : ∃ qb, wh.heap.size = qb := ⟨_, rfl⟩
  have HQ0 : Hid (QuAt (wh.alloc (.cells #[.slice none 0 0] 53)) qb (.slice none 0 0) []) := Lib.hid (hqb ▸ QuAt.new wh)
  have HPI := Lib.hid (HPH.out.below ((Below.refl _ _).alloc (Nat.le_refl _) (.cells #[.slice none 0 0] 53)))
  have HBI := Lib.hid (HBH.out.alloc HBH.out.size (.cells #[.slice none 0 0] 53))
  have HZL : Hid (∀ k, (p2.z0 k ∨ p2.z1 k ∨ p2.z2 k ∨ p2.z3 k) → k < qb) := Lib.hid fun k hk => hqb ▸ HPH.out.lt k hk
  have HQB : Hid (w.heap.size ≤ qb) := Lib.hid (hqb ▸ HBH.out.size)
  have HST : Hid (QsTo nn bad g b p2 qb w (.int .i64 0) (wh.alloc (.cells #[.slice none 0 0] 53))) := Lib.hid ⟨0, _, Nat.zero_le _, rfl, HQ0.out, HPI.out, HBI.out, fun j h => by cases h⟩
  go_wp2_with fail
  try rw [hqb]
  clear hqb hi3
  go_loopw [23] (fun i wr => QsTo nn bad g b p2 qb w i wr) (fun i _ => nn - (intOf i).toNat)
  case atStart => exact HST.out
  case round =>
    obtain ⟨k, qv, hk, rfl, hq, hpp, hbb, hrr⟩ := hrel
    have HQ := Lib.hid hq
    have HP := Lib.hid hpp
    have HB := Lib.hid hbb
    have HR := Lib.hid hrr
    clear hq hpp hbb hrr HST
    by_cases hlt : k < nn
    · have hki : (k : Int) < (nn : Int) := by omega
      have w3k := IntWalk.i64_in (3 * (k : Int)) (by omega)
      have hx3 : ((3 * k : Nat) : Int) = 3 * (k : Int) := by omega
      by_cases hkb0 : k = bad
      · skip
        have hkb : ((k : Int) == (bad : Int)) = true := by simp; omega
        have HKB := Lib.hid hkb0
        clear hkb0
        have HPUT := Lib.hid (qput_ok (qsL k bad g b) qb qv ((3 * k : Nat) : Int) b _ HQ.out (by rw [qsL_len]; omega))
        rw [hx3] at HPUT
        go_wp2_with fail
        refine HPUT.out.mono ?_
        rintro y w1 ⟨rfl, qv', hq1, ho1, hr1⟩
        have HQ1 : Hid (QuAt w1 qb qv' (qsL (k + 1) bad g b)) := Lib.hid (by rw [qsL_succ, if_pos HKB.out, hx3]; exact hq1)
        have HP1 : Hid (PtAt w1 p2 qsT) := Lib.hid (qs_keep HP.out ho1 HZL.out HR.out)
        have HB1 : Hid (Below w.heap.size w w1) := Lib.hid (qs_below HB.out ho1 HQB.out HR.out)
        have HR1 : Hid (∀ j, inRow qv' j → qb < j) := Lib.hid (qs_beyond HQ.out hr1 HR.out)
        clear hq1 ho1 hr1
        go_wp2_with fail
        go_roundw
        case rel => exact ⟨k + 1, qv', by omega, by go_num, HQ1.out, HP1.out, HB1.out, HR1.out⟩
        case measure => simp [intOf]; omega
      · skip
        have hkb : ((k : Int) == (bad : Int)) = false := by simp; omega
        have HKB := Lib.hid hkb0
        clear hkb0
        have HPUT := Lib.hid (qput_ok (qsL k bad g b) qb qv ((3 * k : Nat) : Int) g _ HQ.out (by rw [qsL_len]; omega))
        rw [hx3] at HPUT
        go_wp2_with fail
        refine HPUT.out.mono ?_
        rintro y w1 ⟨rfl, qv', hq1, ho1, hr1⟩
        have HQ1 : Hid (QuAt w1 qb qv' (qsL (k + 1) bad g b)) := Lib.hid (by rw [qsL_succ, if_neg HKB.out, hx3]; exact hq1)
        have HP1 : Hid (PtAt w1 p2 qsT) := Lib.hid (qs_keep HP.out ho1 HZL.out HR.out)
        have HB1 : Hid (Below w.heap.size w w1) := Lib.hid (qs_below HB.out ho1 HQB.out HR.out)
        have HR1 : Hid (∀ j, inRow qv' j → qb < j) := Lib.hid (qs_beyond HQ.out hr1 HR.out)
        clear hq1 ho1 hr1
        go_wp2_with fail
        go_roundw
        case rel => exact ⟨k + 1, qv', by omega, by go_num, HQ1.out, HP1.out, HB1.out, HR1.out⟩
        case measure => simp [intOf]; omega
    · have hkn : k = nn := by omega
      have hkin : ¬ (k : Int) < (nn : Int) := by omega
      have hqn : QuAt wr qb qv (qsL nn bad g b) := hkn ▸ HQ.out
      have HQN := Lib.hid hqn
      have hfl := qflush_any E p2 qsT 2 (qsL nn bad g b) qb qv wr (fun wx ho => HEK.out wx (HB.out.trans (ho.below (B := w.heap.size) HB.out.size fun j hj => by
          rcases hj with hj | hj
          · exact HPZ2.out j hj
          · rw [hj]; exact HQB.out))) HP.out qsT_inv (by rw [qsL_len]; omega) (by rw [qsL_len]; omega) hqn (fun u hu => by
          obtain ⟨i, -, rfl⟩ := List.mem_map.1 hu
          show W32 (if i = bad then b else g)
          split
          · exact HBC0.out.2
          · exact HG32.out) (qs_apart HZL.out HR.out)
      rw [htb2] at hfl
      have HFL := Lib.hid hfl
      clear hqn hfl hkn hlt hk
      go_wp2_with fail
      refine HFL.out.mono ?_
      rintro y wj ⟨k2, cx, hfi, rfl, hpj, hoj, hqj⟩
      have HFI := Lib.hid hfi
      have HPJ := Lib.hid hpj
      have HQJ := Lib.hid hqj
      have HBJ : Hid (Below w.heap.size w wj) := Lib.hid (HB.out.trans (hoj.below (B := w.heap.size) HB.out.size fun j hj => by
          rcases hj with hj | hj
          · exact HPZ2.out j hj
          · rw [hj]; exact HQB.out))
      clear hfi hpj hoj hqj
      obtain ⟨hk2, hcx, hlive⟩ := qs_ans nn bad g b c (by omega) hbn HG.out HBC0.out.1 HFI.out
      subst k2
      obtain ⟨m2, HI2⟩ : ∃ m2, Hid (TInv m2 (qS qsT (qsL nn bad g b) bad)) := ⟨_, Lib.hid (qS_inv qsT_inv (qsL nn bad g b) bad)⟩
      have htl := tlive_any p2 (qS qsT (qsL nn bad g b) bad) m2
      rw [htb2, hlive] at htl
      have HTL := Lib.hid htl
      have HNU := Lib.hid (errC_num E c (by rcases HBC0.out.1 with ⟨-, h⟩ | ⟨-, h⟩ <;> omega))
      clear htl hlive HFI
      by_cases hbnn : bad = nn
      · have hbq : ((bad : Int) == (nn : Int)) = true := by simp; omega
        rw [if_pos hbnn] at hcx
        subst cx
        have hnil : errC E 0 = .nilIface := if_pos rfl
        rw [hnil]
        have hsame : (bad : Int) = (nn : Int) := by omega
        clear hbnn HNU
        go_wp2_with fail
        refine (HTL.out _ HPJ.out HI2.out).mono ?_
        rintro y wk ⟨v', rfl, hov, -, hbv⟩
        have HQK := Lib.hid (HQJ.out.below hbv)
        have HBK := Lib.hid (HBJ.out.trans (hbv.mono HBJ.out.size))
        obtain ⟨ao, cap, rfl⟩ := own_slice hov
        clear hov hbv
        go_wp2_with fail
        refine (qlen_any _ _ _ _ HQK.out).mono ?_
        rintro y wl ⟨rfl, rfl⟩
        go_wp2
        go_ret
        exact ⟨rfl, HBK.out⟩
      · have hbq : ((bad : Int) == (nn : Int)) = false := by simp; omega
        rw [if_neg hbnn] at hcx
        subst cx
        obtain ⟨jv, hjv⟩ : ∃ jv, errC E c = jv := ⟨_, rfl⟩
        rw [hjv] at HNU ⊢
        clear hbnn hjv
        go_wp2_with fail
        refine (is_any E jv c c HNU.out _ (HE16.out _ HBJ.out)).mono ?_
        rintro y wi ⟨rfl, hbi⟩
        have HPI2 := Lib.hid (HPJ.out.below hbi)
        have HQI := Lib.hid (HQJ.out.below hbi)
        have HBI2 := Lib.hid (HBJ.out.trans (hbi.mono HBJ.out.size))
        clear hbi
        have hdx : decide (c = c) = true := decide_eq_true rfl
        go_wp2_with fail
        refine (HTL.out _ HPI2.out HI2.out).mono ?_
        rintro y wk ⟨v', rfl, hov, -, hbv⟩
        have HQK := Lib.hid (HQI.out.below hbv)
        have HBK := Lib.hid (HBI2.out.trans (hbv.mono HBI2.out.size))
        obtain ⟨ao, cap, rfl⟩ := own_slice hov
        clear hov hbv
        go_wp2_with fail
        refine (qlen_any _ _ _ _ HQK.out).mono ?_
        rintro y wl ⟨rfl, rfl⟩
        go_wp2
        go_ret
        exact ⟨rfl, HBK.out⟩
end Go.Proofs.YtnhocmmgdkiepaaDoor
