/-
  Parts of one proof, one behind the other.
-/
import Derived.Test.YtnhocmmgdkiepaaDoorMg21b771d923
import Derived.Test.YtnhocmmgdkiepaaDoorMg6588ca331e
/-
  QueueLast: the walk. Given where nine sentinels lie.
-/
namespace Go.Proofs.YtnhocmmgdkiepaaDoor
open Go.RowKit

def QlA (p : Pl) (w : World) (i : Value) (wr : World) : Prop := ∃ (k : Nat) (pv : Value), k ≤ 6 ∧ i = .int .i64 (k : Int) ∧ PtAt wr { p with pv := pv } (qlS k) ∧ (∀ j, Pl.zw { p with pv := pv } j → w.heap.size ≤ j) ∧ Below w.heap.size w wr
def QlTo (l : List Int) (page : Int) (p : Pl) (qb : Nat) (w : World) (v i : Value) (wr : World) : Prop := ∃ (k : Nat) (qv : Value), k ≤ l.length ∧ i = .int .i64 (k : Int) ∧ v = .int .i64 (qlLast l page k) ∧ QuAt wr qb qv (qlU l k) ∧ PtAt wr p (qlS 6) ∧ Below w.heap.size w wr ∧ (∀ j, inRow qv j → qb < j)
theorem ql_bits (v : Int) (h : 0 ≤ v ∧ v < 7) (w : World) : Calls Tryd.prog 25 #[(qlEnt v).v] w fun x w' => x = .returned (.tuple #[.int .u32 (bitsA (qlEnt v)).1, .bool true]) ∧ Below w.heap.size w w' := by
  have := rbits_any (qlEnt v) w
  unfold wordV at this
  rw [(qlEnt_bits v h).1] at this
  exact this

set_option maxRecDepth 100000 in
set_option maxHeartbeats 32000000 in
theorem queueLast_some (E : Nat → Addr) (l : List Int) (ao : Option Addr) (cap : Nat) (x1 : Int) (w : World) (hE : ErrsAt errT gOf w E nine) (hl : AtL w ao (ints l)) (hl64 : ∀ z ∈ l, -9223372036854775808 ≤ z ∧ z ≤ 9223372036854775807) (hle : l.length ≤ 16) (h1 : -9223372036854775808 ≤ x1 ∧ x1 ≤ 9223372036854775807) :
    Calls Tryd.prog 7 #[.slice ao l.length cap, .int .i64 x1] w fun y w' => y = .returned (.bool true) ∧ Below w.heap.size w w' := by
  have HEK : Hid (∀ wx, Below w.heap.size w wx → ErrsAt errT gOf wx E nine) := Lib.hid fun wx h => hE.mono h
  have HF1 := Lib.hid (qfirst_true E w hE)
  have HN1 := Lib.hid (fun wx => number_any x1 3 wx h1.1 h1.2 (by decide) (by decide))
  have HL := Lib.hid (fun wx (hb : Below w.heap.size w wx) => hl.mono hb)
  have HL64 := Lib.hid hl64
  obtain ⟨page, hpage⟩ : ∃ page, x1 % 3 = page := ⟨_, rfl⟩
  rw [hpage] at HN1
  have HPG : Hid (0 ≤ page ∧ page < 3) := Lib.hid (by omega)
  have hlen : ¬ (16 : Int) < (l.length : Int) := by omega
  have hlen64 : (l.length : Int) ≤ 16 := by omega
  clear hE hl hl64 h1 hpage
  go_enter Tryd.func7, Tryd.ntmps7
  go_wp2_with fail
  refine HF1.out.mono ?_
  rintro y w0 ⟨rfl, hb0⟩
  have HB0 := Lib.hid hb0
  clear hb0
  go_wp2_with fail
  refine (HN1.out _).mono ?_
  rintro y wx ⟨rfl, rfl⟩
  go_wp2_with fail
  refine (mm_new 60 _ (by decide) (by decide)).mono ?_
  rintro y wa ⟨mb, mv, rfl, hma, hsa, hva, hba⟩
  have HMA := Lib.hid hma
  have HSA := Lib.hid hsa
  have HVA := Lib.hid hva
  have HBA := Lib.hid (HB0.out.trans (hba.mono HB0.out.size))
  clear hma hsa hva hba
  go_wp2_with fail
  refine (fnew_ok 60 _ (by decide) (by decide)).mono ?_
  rintro y wb ⟨fb, fg, rfl, hfb, hsb, hsg, hbb⟩
  have HMB := Lib.hid (HMA.out.below hbb)
  have HFB : Hid (FrAt 128 126 wb fb fg 60 (frU 60 0 0 (4))) := Lib.hid (by rw [frU_new]; exact hfb)
  have HBB := Lib.hid (HBA.out.trans (hbb.mono HBA.out.size))
  have HZ0 : Hid (w.heap.size ≤ mb ∧ (∀ k, inRow mv k → w.heap.size ≤ k ∧ k < wa.heap.size) ∧ wa.heap.size ≤ fb ∧ wa.heap.size ≤ fg ∧ mb < wa.heap.size) := Lib.hid ⟨Nat.le_trans HB0.out.size HSA.out, fun k hk => ⟨Nat.le_trans HB0.out.size (HVA.out k hk), own_lt HMA.out.2.1 hk⟩, hsb, hsg, blk_lt HMA.out.1⟩
  clear hfb hsb hsg hbb
  have HZW : Hid (∀ wx, Only (nz mv fg) wb wx → Below w.heap.size w wx) := Lib.hid fun wx ho => HBB.out.trans (ho.below (B := w.heap.size) HBB.out.size fun k hk => by
    rcases hk with hk | hk
    · exact (HZ0.out.2.1 k hk).1
    · rw [hk]; exact Nat.le_trans HBA.out.size HZ0.out.2.2.2.1)
  have HNW := Lib.hid (tnew_ok E 60 0 mb fb fg mv (List.replicate (16 * 60) 0) (4) wb (fun wx ho => HEK.out wx (HZW.out wx ho)) HMB.out HFB.out ⟨fun k hk => ⟨fun e => by have := HZ0.out.2.1 k hk; have := HZ0.out.2.2.1; omega, fun e => by have := HZ0.out.2.1 k hk; have := HZ0.out.2.2.2.1; omega⟩, fun e => by have := HZ0.out.2.2.2; omega⟩ (by unfold frOwns; omega) (by decide) (by decide))
  go_wp2_with fail
  refine HNW.out.mono ?_
  rintro y wc ⟨pv, lv, rfl, hpc, hoc, hvc⟩
  have HBC := Lib.hid (HZW.out _ hoc)
  obtain ⟨p, hp⟩ : ∃ p : Pl, p = ⟨wb.heap.size + 1, mb, fb, fg, wb.heap.size, mv, pv, lv⟩ := ⟨_, rfl⟩
  have htb : p.tb = wb.heap.size + 1 := by rw [hp]
  have HPC : Hid (PtAt wc p (tNew 60 0 (4))) := Lib.hid (by rw [hp]; exact hpc)
  have HPZ : Hid (∀ k, p.zw k → w.heap.size ≤ k) := Lib.hid fun k hk => by
    rw [hp] at hk
    rcases hk with hk | hk | hk | hk
    · exact (HZ0.out.2.1 k hk).1
    · rw [show k = fg from hk]; exact Nat.le_trans HBA.out.size HZ0.out.2.2.2.1
    · rw [show k = wb.heap.size from hk]; exact HBB.out.size
    · exact Nat.le_trans HBB.out.size (hvc k hk)
  have HTI := Lib.hid (tNew_inv 60 0 (4) (by unfold frOwns; omega) (by decide) (by decide))
  have hs1 : w.heap.size ≤ wb.heap.size := HBB.out.size
  clear hpc hoc hvc HNW hp
  have HZLC : Hid (∀ k, (p.z0 k ∨ p.z1 k ∨ p.z2 k ∨ p.z3 k) → k < wc.heap.size) := Lib.hid fun k hk => HPC.out.lt k hk
  go_wp2_with fail
  go_loopw [12] (fun i wr => QlA p w i wr) (fun i _ => 6 - (intOf i).toNat)
  case atStart => exact ⟨0, p.pv, Nat.zero_le _, rfl, HPC.out, HPZ.out, HBC.out⟩
  case round =>
    obtain ⟨k, pv0, hk, rfl, hpp, hzz, hbb⟩ := hrel
    have HPR := Lib.hid hpp
    have HZR := Lib.hid hzz
    have HBR := Lib.hid hbb
    clear hpp hzz hbb HPC HPZ HTI HZLC
    obtain ⟨p1, hp1⟩ : ∃ p1 : Pl, p1 = { p with pv := pv0 } := ⟨_, rfl⟩
    have htb1 : p1.tb = wb.heap.size + 1 := by rw [hp1]; exact htb
    have HTB1 := Lib.hid htb1
    have HPR1 : Hid (PtAt wr p1 (qlS k)) := Lib.hid (by rw [hp1]; exact HPR.out)
    have HZR1 : Hid (∀ j, p1.zw j → w.heap.size ≤ j) := Lib.hid (by rw [hp1]; exact HZR.out)
    have HPP : Hid (∀ pv2, ({ p1 with pv := pv2 } : Pl) = { p with pv := pv2 }) := Lib.hid fun pv2 => by rw [hp1]
    clear hp1 HPR HZR
    by_cases hlt : k < 6
    · have hki : (k : Int) < 6 := by omega
      have had := tadd_any E p1 (qlS k) (1 + (k : Int)) wr (fun wx ho => HEK.out wx (HBR.out.trans (ho.below (B := w.heap.size) HBR.out.size HZR1.out))) HPR1.out (qlS_at k (by omega)).inv
      unfold AddQ at had
      rw [htb1] at had
      have HAD := Lib.hid had
      clear had htb1
      go_wp2_with fail
      refine HAD.out.mono ?_
      rintro y wd ⟨pv2, rfl, hpd, hod, hvd⟩
      have hQ : QlA p w (.int .i64 ((k : Int) + 1)) wd := ⟨k + 1, pv2, by omega, by rw [show ((k + 1 : Nat) : Int) = (k : Int) + 1 by omega], by rw [← HPP.out pv2, HTB1.out]; exact hpd, fun j hj => by
        rw [← HPP.out pv2] at hj
        rcases hj with hj | hj | hj | hj
        · exact HZR1.out j (.inl hj)
        · exact HZR1.out j (.inr (.inl hj))
        · exact HZR1.out j (.inr (.inr (.inl hj)))
        · rcases hvd j hj with h | h
          · exact HZR1.out j (.inr (.inr (.inr h)))
          · exact Nat.le_trans HBR.out.size h, HBR.out.trans (hod.below (B := w.heap.size) HBR.out.size HZR1.out)⟩
      have HQ := Lib.hid hQ
      have wk := IntWalk.i64_in ((k : Int) + 1) (by omega)
      clear hQ hpd hod hvd HAD
      go_wp2_with fail
      go_roundw
      case rel => exact HQ.out
      case measure => simp [intOf]; omega
    · have hk6 : k = 6 := by omega
      have HPS : Hid (PtAt wr p1 (qlS 6)) := Lib.hid (hk6 ▸ HPR1.out)
      have hsix : ¬ (k : Int) < 6 := by omega
      clear hk6 hk hlt HPR1
      obtain ⟨qb, hqb⟩ : ∃ qb, wr.heap.size = qb := ⟨_, rfl⟩
      have HQ0 : Hid (QuAt (wr.alloc (.cells #[.slice none 0 0] 53)) qb (.slice none 0 0) []) := Lib.hid (hqb ▸ QuAt.new wr)
      have HPI := Lib.hid (HPS.out.below ((Below.refl _ _).alloc (Nat.le_refl _) (.cells #[.slice none 0 0] 53)))
      have HBI := Lib.hid (HBR.out.alloc HBR.out.size (.cells #[.slice none 0 0] 53))
      have HZL : Hid (∀ k, (p1.z0 k ∨ p1.z1 k ∨ p1.z2 k ∨ p1.z3 k) → k < qb) := Lib.hid fun k hk => hqb ▸ HPS.out.lt k hk
      have HQB : Hid (w.heap.size ≤ qb) := Lib.hid (hqb ▸ HBR.out.size)
      have HST : Hid (QlTo l page p1 qb w (.int .i64 0) (.int .i64 0) (wr.alloc (.cells #[.slice none 0 0] 53))) := Lib.hid ⟨0, _, Nat.zero_le _, rfl, rfl, HQ0.out, HPI.out, HBI.out, fun j h => by cases h⟩
      go_wp2_with fail
      try rw [hqb]
      clear hqb
      go_loopw [14, 15] (fun v i wr => QlTo l page p1 qb w v i wr) (fun _ i _ => l.length - (intOf i).toNat)
      case atStart => exact HST.out
      case round =>
        obtain ⟨k, qv, hk, rfl, rfl, hq, hpp, hbb, hrr⟩ := hrel
        have HQ := Lib.hid hq
        have HP := Lib.hid hpp
        have HB := Lib.hid hbb
        have HR := Lib.hid hrr
        clear hq hpp hbb hrr HST HQ0 HPI HBI HBR HPS
        obtain ⟨last, hlast⟩ : ∃ v, qlLast l page k = v := ⟨_, rfl⟩
        have HLAST := Lib.hid hlast
        by_cases hlt : k < l.length
        · rw [hlast]
          clear hlast
          have hki : (k : Int) < (l.length : Int) := by omega
          obtain ⟨z, hz⟩ : ∃ z, l.getD k 0 = z := ⟨_, rfl⟩
          have hzm : z ∈ l := by rw [← hz, List.getD_eq_getElem?_getD, List.getElem?_eq_getElem hlt]; exact List.getElem_mem _
          have hz64 := HL64.out z hzm
          obtain ⟨ab, ao', rfl, c0, gab⟩ := HL.out _ HB.out k _ (ints_get l k hlt)
          rw [hz] at c0
          have HZ := Lib.hid hz
          have HNZ := Lib.hid (fun wx => number_any z 3 wx hz64.1 hz64.2 (by decide) (by decide))
          obtain ⟨q, hq⟩ : ∃ q, z.tdiv 3 = q := ⟨_, rfl⟩
          have hq64 : -9223372036854775808 ≤ q ∧ q ≤ 9223372036854775807 := by
            rcases Int.le_total 0 z with h | h
            · rw [← hq, Int.tdiv_eq_ediv_of_nonneg h]; omega
            · have h2 : q = -((-z) / 3) := by rw [← hq, ← Int.neg_neg z, Int.neg_tdiv, Int.tdiv_eq_ediv_of_nonneg (by omega)]; simp
              omega
          have HNQ := Lib.hid (fun wx => number_any q 7 wx hq64.1 hq64.2 (by decide) (by decide))
          obtain ⟨v, hv⟩ : ∃ v, q % 7 = v := ⟨_, rfl⟩
          obtain ⟨pg, hpg⟩ : ∃ pg, z % 3 = pg := ⟨_, rfl⟩
          rw [hv] at HNQ
          rw [hpg] at HNZ
          have hvr : 0 ≤ v ∧ v < 7 := by omega
          have HV : Hid (qlK z = v ∧ qlP z = pg) := Lib.hid ⟨by rw [← hv, ← hq]; rfl, by rw [← hpg]; rfl⟩
          have hqw := IntWalk.wrap64_in q (by omega)
          have hqi := IntWalk.i64_in q (by omega)
          have HBIT := Lib.hid (ql_bits v hvr)
          obtain ⟨g, hg⟩ : ∃ g, (bitsA (qlEnt v)).1 = g := ⟨_, rfl⟩
          rw [hg] at HBIT
          have HW : Hid (qlW z = g) := Lib.hid (by unfold qlW; rw [HV.out.1]; exact hg)
          have hn0 := blk_new wr (.cells #[.int .i64 0, .bool false, .bool false, .bool false] 42)
          obtain ⟨w1, hw1⟩ : ∃ w1, wr.alloc (.cells #[.int .i64 0, .bool false, .bool false, .bool false] 42) = w1 := ⟨_, rfl⟩
          have HW1 := Lib.hid hw1
          have hbw : Below wr.heap.size wr w1 := hw1 ▸ (Below.refl _ _).alloc (Nat.le_refl _) _
          rw [hw1] at hn0
          have HBW := Lib.hid hbw
          clear hw1
          have hwe : w.heap.size ≤ wr.heap.size := HB.out.size
          by_cases hv0 : 0 < v
          · obtain ⟨bw, hbw2⟩ : ∃ bw, decide (v % 2 = 0) = bw := ⟨_, rfl⟩
            have hvt : (v.tmod 2 == 0) = bw := by rw [Int.tmod_eq_emod_of_nonneg hvr.1, ← hbw2]; rfl
            have hve : (v % 2 == 0) = bw := by rw [← hbw2]; rfl
            have h16 := IntWalk.i64_in (16 + v) (by omega)
            have HEV : Hid ((qlEnt v).v = .agg #[.int .i64 (16 + v), .bool true, .bool bw, .bool false]) := Lib.hid (by unfold qlEnt; rw [if_pos hv0, hbw2]; rfl)
            rw [HEV.out] at HBIT
            have hn4 := blk_put (blk_put (blk_put (blk_put hn0 0 (.int .i64 (16 + v))) 1 (.bool true)) 2 (.bool bw)) 3 (.bool false)
            obtain ⟨w2, hw2⟩ : ∃ w2, (((w1.setCell ⟨wr.heap.size, 0, none⟩ (.int .i64 (16 + v))).setCell ⟨wr.heap.size, 1, none⟩ (.bool true)).setCell ⟨wr.heap.size, 2, none⟩ (.bool bw)).setCell ⟨wr.heap.size, 3, none⟩ (.bool false) = w2 := ⟨_, rfl⟩
            have hb2 : Below wr.heap.size wr w2 := by
              rw [← hw2]
              have hle : wr.heap.size ≤ wr.heap.size := Nat.le_refl _
              exact (((HBW.out.setCell (p := ⟨wr.heap.size, 0, none⟩) hle _).setCell (p := ⟨wr.heap.size, 1, none⟩) hle _).setCell (p := ⟨wr.heap.size, 2, none⟩) hle _).setCell (p := ⟨wr.heap.size, 3, none⟩) hle _
            rw [hw2] at hn4
            have f0 := blk_free hn0 0
            have f1 := blk_free hn0 1
            have f2 := blk_free hn0 2
            have f3 := blk_free hn0 3
            have z0 := blk_cell hn0 0
            have z1 := blk_cell hn0 1
            have z2 := blk_cell hn0 2
            have z3 := blk_cell hn0 3
            have y0 := blk_cell hn4 0
            have y1 := blk_cell hn4 1
            have y2 := blk_cell hn4 2
            have y3 := blk_cell hn4 3
            have HBW2 := Lib.hid hb2
            clear hb2 hn0 hn4 hbw hz hv hpg hg hbw2
            go_wp2_with fail
            refine (HNZ.out _).mono ?_
            rintro y wx ⟨rfl, rfl⟩
            go_wp2_with fail
            refine (HNQ.out _).mono ?_
            rintro y wx ⟨rfl, rfl⟩
            rw [HW1.out]
            go_wp2_with fail
            refine (HBIT.out _).mono ?_
            rintro y we ⟨rfl, hbe⟩
            have hbe2 := HBW2.out.trans (hbe.mono HBW2.out.size)
            have HPE := Lib.hid (HP.out.below hbe2)
            have HQE := Lib.hid (HQ.out.below hbe2)
            have HBE := Lib.hid (HB.out.trans (hbe2.mono HB.out.size))
            clear hbe hbe2
            have HPUT := Lib.hid (qput_ok (qlU l k) qb qv pg g _ HQE.out (by rw [qlU_len]; omega))
            go_wp2_with fail
            refine HPUT.out.mono ?_
            rintro y wf ⟨rfl, qv', hq1, ho1, hr1⟩
            have HQ1 : Hid (QuAt wf qb qv' (qlU l (k + 1))) := Lib.hid (by rw [qlU_succ, HZ.out, HV.out.2, HW.out]; exact hq1)
            have HP1 : Hid (PtAt wf p1 (qlS 6)) := Lib.hid (qs_keep HPE.out ho1 HZL.out HR.out)
            have HB1 : Hid (Below w.heap.size w wf) := Lib.hid (qs_below HBE.out ho1 HQB.out HR.out)
            have HR1 : Hid (∀ j, inRow qv' j → qb < j) := Lib.hid (qs_beyond HQE.out hr1 HR.out)
            have wk := IntWalk.i64_in ((k : Int) + 1) (by omega)
            have HKK : Hid (((k + 1 : Nat) : Int) = (k : Int) + 1) := Lib.hid (by omega)
            clear hq1 ho1 hr1
            by_cases hpp : pg = page
            · have hpb : (pg == page) = true := by simp [hpp]
              have HL1 : Hid (qlLast l page (k + 1) = v) := Lib.hid (by
                show (if qlP (l.getD k 0) = page then qlK (l.getD k 0) else qlLast l page k) = v
                rw [HZ.out, HV.out.1, HV.out.2, if_pos hpp])
              clear hpp
              go_wp2_with fail
              go_roundw
              case rel => exact ⟨k + 1, qv', by omega, by rw [HKK.out], by rw [HL1.out], HQ1.out, HP1.out, HB1.out, HR1.out⟩
              case measure => simp [intOf]; omega
            · have hpb : (pg == page) = false := by simp [hpp]
              have HL1 : Hid (qlLast l page (k + 1) = last) := Lib.hid (by
                show (if qlP (l.getD k 0) = page then qlK (l.getD k 0) else qlLast l page k) = last
                rw [HZ.out, HV.out.2, if_neg hpp]
                exact HLAST.out)
              clear hpp
              go_wp2_with fail
              go_roundw
              case rel => exact ⟨k + 1, qv', by omega, by rw [HKK.out], by rw [HL1.out], HQ1.out, HP1.out, HB1.out, HR1.out⟩
              case measure => simp [intOf]; omega
          · have HEV : Hid ((qlEnt v).v = .agg #[.int .i64 0, .bool false, .bool false, .bool false]) := Lib.hid (by unfold qlEnt; rw [if_neg hv0]; rfl)
            rw [HEV.out] at HBIT
            have z0 := blk_cell hn0 0
            have z1 := blk_cell hn0 1
            have z2 := blk_cell hn0 2
            have z3 := blk_cell hn0 3
            clear hn0 hbw hz hv hpg hg
            go_wp2_with fail
            refine (HNZ.out _).mono ?_
            rintro y wx ⟨rfl, rfl⟩
            go_wp2_with fail
            refine (HNQ.out _).mono ?_
            rintro y wx ⟨rfl, rfl⟩
            rw [HW1.out]
            go_wp2_with fail
            refine (HBIT.out _).mono ?_
            rintro y we ⟨rfl, hbe⟩
            have hbe2 := HBW.out.trans (hbe.mono HBW.out.size)
            have HPE := Lib.hid (HP.out.below hbe2)
            have HQE := Lib.hid (HQ.out.below hbe2)
            have HBE := Lib.hid (HB.out.trans (hbe2.mono HB.out.size))
            clear hbe hbe2
            have HPUT := Lib.hid (qput_ok (qlU l k) qb qv pg g _ HQE.out (by rw [qlU_len]; omega))
            go_wp2_with fail
            refine HPUT.out.mono ?_
            rintro y wf ⟨rfl, qv', hq1, ho1, hr1⟩
            have HQ1 : Hid (QuAt wf qb qv' (qlU l (k + 1))) := Lib.hid (by rw [qlU_succ, HZ.out, HV.out.2, HW.out]; exact hq1)
            have HP1 : Hid (PtAt wf p1 (qlS 6)) := Lib.hid (qs_keep HPE.out ho1 HZL.out HR.out)
            have HB1 : Hid (Below w.heap.size w wf) := Lib.hid (qs_below HBE.out ho1 HQB.out HR.out)
            have HR1 : Hid (∀ j, inRow qv' j → qb < j) := Lib.hid (qs_beyond HQE.out hr1 HR.out)
            have wk := IntWalk.i64_in ((k : Int) + 1) (by omega)
            have HKK : Hid (((k + 1 : Nat) : Int) = (k : Int) + 1) := Lib.hid (by omega)
            clear hq1 ho1 hr1
            by_cases hpp : pg = page
            · have hpb : (pg == page) = true := by simp [hpp]
              have HL1 : Hid (qlLast l page (k + 1) = v) := Lib.hid (by
                show (if qlP (l.getD k 0) = page then qlK (l.getD k 0) else qlLast l page k) = v
                rw [HZ.out, HV.out.1, HV.out.2, if_pos hpp])
              clear hpp
              go_wp2_with fail
              go_roundw
              case rel => exact ⟨k + 1, qv', by omega, by rw [HKK.out], by rw [HL1.out], HQ1.out, HP1.out, HB1.out, HR1.out⟩
              case measure => simp [intOf]; omega
            · have hpb : (pg == page) = false := by simp [hpp]
              have HL1 : Hid (qlLast l page (k + 1) = last) := Lib.hid (by
                show (if qlP (l.getD k 0) = page then qlK (l.getD k 0) else qlLast l page k) = last
                rw [HZ.out, HV.out.2, if_neg hpp]
                exact HLAST.out)
              clear hpp
              go_wp2_with fail
              go_roundw
              case rel => exact ⟨k + 1, qv', by omega, by rw [HKK.out], by rw [HL1.out], HQ1.out, HP1.out, HB1.out, HR1.out⟩
              case measure => simp [intOf]; omega
        · have hkl : k = l.length := by omega
          have hkin : ¬ (k : Int) < (l.length : Int) := by omega
          have hsm : (k : Int) = (l.length : Int) := by omega
          have hqn : QuAt wr qb qv (qlU l l.length) := hkl ▸ HQ.out
          have HQN := Lib.hid hqn
          have hfl := qflush_any E p1 (qlS 6) (1 + ((6 : Nat) : Int)) (qlU l l.length) qb qv wr (fun wx ho => HEK.out wx (HB.out.trans (ho.below (B := w.heap.size) HB.out.size fun j hj => by
              rcases hj with hj | hj
              · exact HZR1.out j hj
              · rw [hj]; exact HQB.out))) HP.out (qlS_at 6 (Nat.le_refl _)).inv (by rw [qlU_len]; omega) (by rw [qlU_len]; omega) hqn (fun u hu => by
              obtain ⟨i, -, rfl⟩ := List.mem_map.1 hu
              exact bitsA_w32 _) (qs_apart HZL.out HR.out)
          rw [htb1] at hfl
          have HFL := Lib.hid hfl
          have HLL : Hid (qlLast l page l.length = last) := Lib.hid (by rw [← hkl]; exact hlast)
          rw [hlast]
          clear hqn hfl hkl hlt hk HLAST hlast
          go_wp2_with fail
          refine HFL.out.mono ?_
          rintro y wj ⟨k2, cx, hfi, rfl, hpj, hoj, hqj⟩
          obtain ⟨hk2, hcx⟩ := ql_ans l l.length hfi
          subst k2
          subst cx
          have hnil : errC E 0 = .nilIface := if_pos rfl
          rw [hnil]
          have HT := Lib.hid (ql_flush l l.length l.length (Nat.le_refl _)).1
          have HBJ : Hid (Below w.heap.size w wj) := Lib.hid (HB.out.trans (hoj.below (B := w.heap.size) HB.out.size fun j hj => by
              rcases hj with hj | hj
              · exact HZR1.out j hj
              · rw [hj]; exact HQB.out))
          have hlr : 0 ≤ last ∧ last < 7 := by rw [← HLL.out]; exact qlLast_in _ _ _
          have hgt := tget_any p1 _ _ page wj hpj HT.out.inv
          rw [ql_get HT.out page last hlr (by rw [HLL.out]), htb1] at hgt
          have HGT := Lib.hid hgt
          clear hfi hpj hoj hqj hgt HFL
          by_cases hl0 : 0 < last
          · obtain ⟨bw, hbw2⟩ : ∃ bw, decide (last % 2 = 0) = bw := ⟨_, rfl⟩
            have hvt : (last.tmod 2 == 0) = bw := by rw [Int.tmod_eq_emod_of_nonneg hlr.1, ← hbw2]; rfl
            have hve : (last % 2 == 0) = bw := by rw [← hbw2]; rfl
            have h16 := IntWalk.i64_in (16 + last) (by omega)
            have HEV : Hid (qlE last = ⟨16 + last, true, bw, true⟩) := Lib.hid (by unfold qlE; rw [if_pos hl0, hbw2])
            rw [HEV.out] at HGT
            unfold Ent.v at HGT
            dsimp only at HGT
            clear hbw2
            go_wp2_with fail
            refine HGT.out.mono ?_
            rintro y wk ⟨rfl, hbk⟩
            have HBK : Hid (Below w.heap.size w (wk.alloc (.cells #[.int .i64 (16 + last), .bool true, .bool bw, .bool true] 42))) := Lib.hid ((HBJ.out.trans (hbk.mono HBJ.out.size)).alloc (HBJ.out.trans (hbk.mono HBJ.out.size)).size _)
            clear hbk
            have hn := blk_new wk (.cells #[.int .i64 (16 + last), .bool true, .bool bw, .bool true] 42)
            have z0 := blk_cell hn 0
            have z2 := blk_cell hn 2
            have z3 := blk_cell hn 3
            clear hn
            cases bw
            all_goals
              go_wp2
              go_ret
              exact ⟨rfl, HBK.out⟩
          · have HEV : Hid (qlE last = Ent.z) := Lib.hid (by unfold qlE; rw [if_neg hl0])
            rw [HEV.out] at HGT
            unfold Ent.v at HGT
            dsimp only [Ent.z] at HGT
            go_wp2_with fail
            refine HGT.out.mono ?_
            rintro y wk ⟨rfl, hbk⟩
            have HBK : Hid (Below w.heap.size w (wk.alloc (.cells #[.int .i64 0, .bool false, .bool false, .bool false] 42))) := Lib.hid ((HBJ.out.trans (hbk.mono HBJ.out.size)).alloc (HBJ.out.trans (hbk.mono HBJ.out.size)).size _)
            clear hbk
            go_wp2
            go_ret
            exact ⟨ret_bool (by simp [hl0]), HBK.out⟩
end Go.Proofs.YtnhocmmgdkiepaaDoor

/-
  QueueLast: the walk, of updates of any number.
-/
namespace Go.Proofs.YtnhocmmgdkiepaaDoor
open Go.RowKit

set_option maxRecDepth 100000 in
set_option maxHeartbeats 1600000 in
theorem queueLast_walk (E : Nat → Addr) (l : List Int) (v : Value) (x1 : Int) (w : World) (hE : ErrsAt errT gOf w E nine) (hr : Reads w v l.length (ints l)) (hl64 : ∀ z ∈ l, -9223372036854775808 ≤ z ∧ z ≤ 9223372036854775807) (h1 : -9223372036854775808 ≤ x1 ∧ x1 ≤ 9223372036854775807) :
    Calls Tryd.prog 7 #[v, .int .i64 x1] w fun y w' => y = .returned (.bool true) ∧ Below w.heap.size w w' := by
  obtain ⟨ao, cap, rfl, hl⟩ := atL_of_reads hr
  by_cases hle : l.length ≤ 16
  · exact queueLast_some E l ao cap x1 w hE hl hl64 hle h1
  · have HF1 := Lib.hid (qfirst_true E w hE)
    obtain ⟨n, hn⟩ : ∃ n, l.length = n := ⟨_, rfl⟩
    rw [hn] at hle ⊢
    have hlen : (16 : Int) < (n : Int) := by omega
    clear hE hr hl hl64 h1 hn
    go_enter Tryd.func7, Tryd.ntmps7
    go_wp2_with fail
    refine HF1.out.mono ?_
    rintro y w0 ⟨rfl, hb0⟩
    have HB0 := Lib.hid hb0
    clear hb0
    go_wp2
    go_ret
    exact ⟨rfl, HB0.out⟩
end Go.Proofs.YtnhocmmgdkiepaaDoor

