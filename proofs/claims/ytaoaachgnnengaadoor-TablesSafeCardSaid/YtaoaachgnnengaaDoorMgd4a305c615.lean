/-
  Parts of one proof, one behind the other.
-/
import Derived.Test.YtaoaachgnnengaaDoorMg2230bf7427
import Derived.Test.YtaoaachgnnengaaDoorMged77e2d291
import Derived.Test.YtaoaachgnnengaaDoorMg0dbf8be0e0
import Derived.Test.YtaoaachgnnengaaDoorMgdb2dba5253
import Derived.Test.YtaoaachgnnengaaDoorRows
import Derived.Test.YtaoaachgnnengaaDoorMg27fb478bb6
import Derived.WalkKit
import Derived.BigQuiet
/-
  facadelaw18.made: tables of a guest, and the document's, side by side.
-/
namespace Go.Proofs.YtaoaachgnnengaaDoor
open Go.RowKit

theorem frU_three (n k : Nat) (hk : k < n) : frAlloc (frU n k 0 1) 3 = ⟨frU n (k + 1) 0 1, (k : Int), 0⟩ := by
  have hg := fun i hi => frU_get n k 0 i 1 hi
  have hf : frFree (frU n k 0 1) = some k := frFree_is (by rw [frU_len]; exact hk) (by rw [hg k hk, if_neg (by omega), if_neg (by omega)]; rfl) fun i hi => by
    rw [hg i (by omega), if_pos hi]
    decide
  unfold frAlloc
  rw [if_pos (by unfold frOwns; omega), hf]
  dsimp only
  have hx : (frU n k 0 1).getD k default = frNo := by rw [hg k hk, if_neg (by omega), if_neg (by omega)]
  rw [hx]
  have hl : (frU n k 0 1).set k ⟨3, frNo.kind, frNo.wr, frNo.us⟩ = frU n (k + 1) 0 1 := by
    apply fr_ext
    · rw [List.length_set, frU_len, frU_len]
    · intro i hi
      rw [List.length_set, frU_len] at hi
      rw [fr_setD _ _ _ _ (by rw [frU_len]; exact hk), hg i hi, frU_get n (k + 1) 0 i 1 hi]
      by_cases h1 : i = k
      · rw [if_pos h1, if_pos (by omega)]
        rfl
      · rw [if_neg h1]
        by_cases h2 : i < k
        · rw [if_pos h2, if_pos (by omega)]
        · rw [if_neg h2, if_neg (by omega), if_neg (by omega), if_neg (by omega)]
  rw [hl]
theorem frU_noz (n k : Nat) : ∀ x ∈ frU n k 0 1, x.owner = -1 → x = frNo := fun x hx h => by
  unfold frU at hx
  obtain ⟨i, -, rfl⟩ := List.mem_map.1 hx
  by_cases h1 : i < k
  · rw [if_pos h1] at h
    cases h
  · rw [if_neg h1, if_neg (by omega)]
/-- what made answers -/
def MadeQ (n o : Nat) (w : World) (y : Ending) (w' : World) : Prop := ∃ (p : Pl) (z : Zl), y = .returned (.tuple #[.pointer (some ⟨p.tb, 0, none⟩), .pointer (some ⟨z.zb, 0, none⟩), .pointer (some ⟨p.mb, 0, none⟩), .pointer (some ⟨p.fb, 0, none⟩)]) ∧ Tw w w' p z (tNew n o 1) (tNew n o 1) ∧ (w.heap.size ≤ p.mb)
def MdTo (n o fb fg zfb zfg : Nat) (w0 : World) (i : Value) (wr : World) : Prop := ∃ k : Nat, k ≤ o ∧ i = .int .i64 (k : Int) ∧ FrAt 95 33 wr fb fg n (frU n k 0 1) ∧ FrAt 54 51 wr zfb zfg n (frU n k 0 1) ∧ Only (fun j => j = fg ∨ j = zfg) w0 wr

set_option maxRecDepth 100000 in
set_option maxHeartbeats 32000000 in
theorem made_any (E : Nat → Addr) (n o : Nat) (w : World) (hE : ErrsAt errT gOf w E all16) (hn : o + 17 ≤ n) (hn2 : n ≤ 1024) :
    Calls Tryd.prog 33 #[.int .i64 (n : Int), .int .i64 (o : Int)] w (MadeQ n o w) := by
  have HE16 : Hid (∀ wx, Below w.heap.size w wx → ErrsAt errT gOf wx E all16) := Lib.hid fun wx h => hE.mono h
  have HEK : Hid (∀ wx, Below w.heap.size w wx → ErrsAt errT gOf wx E nine) := Lib.hid fun wx h => errs9 (hE.mono h)
  clear hE
  go_enter Tryd.func33, Tryd.ntmps33
  go_wp2_with fail
  refine (mm_new n _ (by omega) hn2).mono ?_
  rintro y wa ⟨mb, mv, rfl, hma, hsa, hva, hba⟩
  have HMA := Lib.hid hma
  have HSA : Hid (w.heap.size ≤ mb ∧ mb < wa.heap.size ∧ ∀ k, inRow mv k → w.heap.size ≤ k ∧ k < wa.heap.size) := Lib.hid ⟨hsa, blk_lt hma.1, fun k hk => ⟨hva k hk, own_lt hma.2.1 hk⟩⟩
  have HBA := Lib.hid hba
  clear hma hsa hva hba
  go_wp2_with fail
  refine (fnew_ok n _ (by omega) hn2).mono ?_
  rintro y wb ⟨fb, fg, rfl, hfb, hsb, hsg, hbb⟩
  have HFB : Hid (FrAt 95 33 wb fb fg n (frU n 0 0 1)) := Lib.hid (by rw [frU_new]; exact hfb)
  have HSB : Hid (wa.heap.size ≤ fb ∧ wa.heap.size ≤ fg ∧ fb < wb.heap.size ∧ fg < wb.heap.size ∧ wa.heap.size ≤ wb.heap.size) := Lib.hid ⟨hsb, hsg, hfb.lt.1, hfb.lt.2, hbb.size⟩
  have HMB := Lib.hid (HMA.out.below hbb)
  have HBB := Lib.hid (HBA.out.trans (hbb.mono HBA.out.size))
  clear hfb hsb hsg hbb
  go_wp2_with fail
  refine (mr_new n _ (by omega) hn2).mono ?_
  rintro y wc ⟨zmb, zmv, rfl, hmc, hsc, hvc, hbc⟩
  have HMC := Lib.hid hmc
  have HSC : Hid (wb.heap.size ≤ zmb ∧ zmb < wc.heap.size ∧ (∀ k, inRow zmv k → wb.heap.size ≤ k ∧ k < wc.heap.size) ∧ wb.heap.size ≤ wc.heap.size) := Lib.hid ⟨hsc, blk_lt hmc.1, fun k hk => ⟨hvc k hk, own_lt hmc.2.1 hk⟩, hbc.size⟩
  have HMB2 := Lib.hid (HMB.out.below hbc)
  have HFB2 := Lib.hid (HFB.out.below hbc)
  have HBC := Lib.hid (HBB.out.trans (hbc.mono HBB.out.size))
  clear hmc hsc hvc hbc
  go_wp2_with fail
  refine (rnew_ok n _ hn2).mono ?_
  rintro y wd ⟨zfb, zfg, rfl, hfd, hsd, hsg, hbd⟩
  have HFD : Hid (FrAt 54 51 wd zfb zfg n (frU n 0 0 1)) := Lib.hid (by rw [frU_new]; exact hfd)
  have HSD : Hid (wc.heap.size ≤ zfb ∧ wc.heap.size ≤ zfg ∧ zfb < wd.heap.size ∧ zfg < wd.heap.size ∧ wc.heap.size ≤ wd.heap.size) := Lib.hid ⟨hsd, hsg, hfd.lt.1, hfd.lt.2, hbd.size⟩
  have HMD := Lib.hid (HMB2.out.below hbd)
  have HMZ := Lib.hid (HMC.out.below hbd)
  have HFZ := Lib.hid (HFB2.out.below hbd)
  have HBD := Lib.hid (HBC.out.trans (hbd.mono HBC.out.size))
  have HST : Hid (MdTo n o fb fg zfb zfg wd (.int .i64 0) wd) := Lib.hid ⟨0, Nat.zero_le _, rfl, HFZ.out, HFD.out, Only.refl _ _⟩
  have HSS : Hid (w.heap.size ≤ wa.heap.size) := Lib.hid HBA.out.size
  clear hfd hsd hsg hbd HMA HMB HMB2 HFB HFB2 HMC HFD HFZ HBA HBB HBC
  go_wp2_with fail
  go_loopw [14] (fun i wr => MdTo n o fb fg zfb zfg wd i wr) (fun i _ => o - (intOf i).toNat)
  case atStart => exact HST.out
  case round =>
    obtain ⟨k, hk, rfl, hf, hz, ho⟩ := hrel
    have HF := Lib.hid hf
    have HZ := Lib.hid hz
    have HO := Lib.hid ho
    have HBR : Hid (Below w.heap.size w wr) := Lib.hid (HBD.out.trans (ho.below (B := w.heap.size) HBD.out.size fun j hj => by
      have h0 := HSS.out
      have h1 := HSB.out
      have h2 := HSC.out
      have h3 := HSD.out
      rcases hj with rfl | rfl <;> omega))
    clear hf hz ho HST
    by_cases hlt : k < o
    · have hki : (k : Int) < (o : Int) := by omega
      have wk := IntWalk.i64_in ((k : Int) + 1) (by omega)
      have ha := falloc_any E (frU n k 0 1) fb fg n 3 wr (HEK.out _ HBR.out) HF.out
      rw [frU_three n k (by omega)] at ha
      have HA := Lib.hid ha
      have HZA : Hid (∀ wx, FrAt 54 51 wx zfb zfg n (frU n k 0 1) → Calls Tryd.prog 53 #[.pointer (some ⟨zfb, 0, none⟩), .int .i64 3] wx (FrNA 54 51 zfb zfg n ⟨frU n (k + 1) 0 1, (k : Int), 0⟩ wx)) := Lib.hid fun wx hx => frU_three n k (by omega) ▸ ralloc_any (frU n k 0 1) zfb zfg n 3 wx (frU_noz n k) hx
      have HNE : Hid (zfb ≠ fg ∧ zfg ≠ fg ∧ fb ≠ zfg ∧ fg ≠ zfg) := Lib.hid (by
        have h1 := HSB.out
        have h2 := HSC.out
        have h3 := HSD.out
        omega)
      clear ha
      go_wp2_with fail
      refine HA.out.mono ?_
      rintro y we ⟨rfl, hfe, hoe⟩
      have HFE := Lib.hid hfe
      have HZE := Lib.hid (HZ.out.only hoe HNE.out.1 HNE.out.2.1)
      have HOE := Lib.hid (HO.out.trans (hoe.mono fun _ h => .inl (.inl h)))
      clear hfe hoe
      go_wp2_with fail
      refine (HZA.out _ HZE.out).mono ?_
      rintro y wf ⟨rfl, hff, hof⟩
      have HFF := Lib.hid hff
      have HFE2 := Lib.hid (HFE.out.only hof HNE.out.2.2.1 HNE.out.2.2.2)
      have HOF := Lib.hid (HOE.out.trans (hof.mono fun _ h => .inl (.inr h)))
      clear hff hof
      go_wp2_with fail
      go_roundw
      case rel => exact ⟨k + 1, by omega, by go_num, HFE2.out, HFF.out, HOF.out⟩
      case measure => simp [intOf]; omega
    · have hki : ¬ (k : Int) < (o : Int) := by omega
      have hko : k = o := by omega
      have HMR := Lib.hid (HMD.out.only HO.out (fun h => by
        have h0 := HSA.out
        have h1 := HSB.out
        have h2 := HSC.out
        have h3 := HSD.out
        rcases h with h | h <;> omega) (fun j hj h => by
        have h0 := HSA.out.2.2 j hj
        have h1 := HSB.out
        have h2 := HSC.out
        have h3 := HSD.out
        rcases h with h | h <;> omega))
      have HZR := Lib.hid (HMZ.out.only' HO.out (fun h => by
        have h1 := HSB.out
        have h2 := HSC.out
        have h3 := HSD.out
        rcases h with h | h <;> omega) (fun j hj h => by
        have h1 := HSB.out
        have h2 := HSC.out.2.2.1 j hj
        have h3 := HSD.out
        rcases h with h | h <;> omega))
      have HFO : Hid (FrAt 95 33 wr fb fg n (frU n o 0 1)) := Lib.hid (hko ▸ HF.out)
      have HZO : Hid (FrAt 54 51 wr zfb zfg n (frU n o 0 1)) := Lib.hid (hko ▸ HZ.out)
      have HSR : Hid (wd.heap.size ≤ wr.heap.size) := Lib.hid HO.out.size
      have HZW : Hid (∀ wx, Only (nz mv fg) wr wx → Below w.heap.size w wx) := Lib.hid fun wx ho => HBR.out.trans (ho.below (B := w.heap.size) HBR.out.size fun j hj => by
        have h0 := HSS.out
        have h1 := HSB.out
        rcases hj with hj | hj
        · exact (HSA.out.2.2 j hj).1
        · rw [hj]; omega)
      have HNW := Lib.hid (tnew_all E n o mb fb fg mv (List.replicate (16 * n) 0) 1 wr (fun wx ho => HEK.out wx (HZW.out wx ho)) HMR.out HFO.out ⟨fun j hj => ⟨fun e => by have := HSA.out.2.2 j hj; have := HSB.out.1; omega, fun e => by have := HSA.out.2.2 j hj; have := HSB.out.2.1; omega⟩, fun e => by have := HSA.out.2.1; have := HSB.out.2.1; omega⟩ (by unfold frOwns; omega) hn hn2)
      clear HF HZ HMD HMZ hlt hk hko HO
      go_wp2_with fail
      refine HNW.out.mono ?_
      rintro y we ⟨pv, lv, rfl, hpe, hoe, hve, hle⟩
      have HBE := Lib.hid (HZW.out _ hoe)
      have HZE := Lib.hid (HZR.out.only' hoe (fun h => by
        have h1 := HSB.out
        have h2 := HSC.out
        rcases h with h | h
        · have := HSA.out.2.2 _ h; omega
        · omega) (fun j hj h => by
        have h1 := HSB.out
        have h2 := HSC.out.2.2.1 j hj
        rcases h with h | h
        · have := HSA.out.2.2 _ h; omega
        · omega))
      have HFE := Lib.hid (HZO.out.only hoe (fun h => by
        have h1 := HSB.out
        have h2 := HSC.out
        have h3 := HSD.out
        rcases h with h | h
        · have := HSA.out.2.2 _ h; omega
        · omega) (fun h => by
        have h1 := HSB.out
        have h2 := HSC.out
        have h3 := HSD.out
        rcases h with h | h
        · have := HSA.out.2.2 _ h; omega
        · omega))
      have HNZ := Lib.hid (znew_ok n o zmb zfb zfg zmv 1 we HZE.out HFE.out ⟨fun j hj => ⟨fun e => by have := HSC.out.2.2.1 j hj; have := HSD.out; omega, fun e => by have := HSC.out.2.2.1 j hj; have := HSD.out; omega⟩, fun e => by have := HSC.out; have := HSD.out; omega⟩ (by unfold frOwns; omega) hn hn2)
      have HSX : Hid (wr.heap.size ≤ we.heap.size) := Lib.hid hoe.size
      obtain ⟨p, hp⟩ : ∃ p : Pl, p = ⟨wr.heap.size + 1, mb, fb, fg, wr.heap.size, mv, pv, lv⟩ := ⟨_, rfl⟩
      have HPE : Hid (PtAt we p (tNew n o 1)) := Lib.hid (by rw [hp]; exact hpe)
      have htb : p.tb = wr.heap.size + 1 := by rw [hp]
      have hmb : p.mb = mb := by rw [hp]
      have hfb : p.fb = fb := by rw [hp]
      have HPW : Hid (∀ k, (p.z0 k ∨ p.zw k) → (w.heap.size ≤ k ∧ k < wb.heap.size) ∨ (wr.heap.size ≤ k ∧ k < we.heap.size)) := Lib.hid fun k hk => by
        have hlt := HPE.out.lt k (zw_all hk)
        have h0 := HSS.out
        have h1 := HSB.out
        have ha := HSA.out
        rw [hp] at hk
        rcases hk with (hk | hk | hk | hk) | hk | hk | hk | hk
        · exact .inr ⟨by rw [show k = wr.heap.size + 1 from hk]; omega, hlt⟩
        · exact .inl (by rw [show k = mb from hk]; omega)
        · exact .inl (by rw [show k = fb from hk]; omega)
        · exact .inr ⟨hle k hk, hlt⟩
        · have := HSA.out.2.2 k hk; exact .inl (by omega)
        · exact .inl (by rw [show k = fg from hk]; omega)
        · exact .inr ⟨by rw [show k = wr.heap.size from hk]; omega, hlt⟩
        · exact .inr ⟨hve k hk, hlt⟩
      clear hpe hoe hve hle hp HNW
      go_wp2_with fail
      refine HNZ.out.mono ?_
      rintro y wf ⟨gv, rfl, hzf, hof, hgf⟩
      obtain ⟨z, hz⟩ : ∃ z : Zl, z = ⟨we.heap.size, zmb, zfb, zfg, zmv, gv⟩ := ⟨_, rfl⟩
      have hzb : z.zb = we.heap.size := by rw [hz]
      have HZF : Hid (ZtAt wf z (tNew n o 1)) := Lib.hid (by rw [hz]; exact hzf)
      have HZX : Hid (∀ k, (z.z0 k ∨ z.zw k) → (wb.heap.size ≤ k ∧ k < wd.heap.size) ∨ we.heap.size ≤ k) := Lib.hid fun k hk => by
        have h2 := HSC.out
        have h3 := HSD.out
        rw [hz] at hk
        rcases hk with (hk | hk) | hk | hk | hk | hk
        · exact .inl (by rw [show k = zmb from hk]; omega)
        · exact .inl (by rw [show k = zfb from hk]; omega)
        · have := HSC.out.2.2.1 k hk; exact .inl (by omega)
        · exact .inl (by rw [show k = zfg from hk]; omega)
        · exact .inr (by rw [show k = we.heap.size from hk]; omega)
        · exact .inr (hgf k hk)
      have HNX : Hid (∀ k, nz zmv zfg k → wb.heap.size ≤ k ∧ k < wd.heap.size) := Lib.hid fun k hk => by
        have h2 := HSC.out
        have h3 := HSD.out
        rcases hk with hk | hk
        · have := HSC.out.2.2.1 k hk; omega
        · rw [hk]; omega
      have HTW : Hid (Tw w wf p z (tNew n o 1) (tNew n o 1)) := Lib.hid (by
        have hr := HSR.out
        have hx := HSX.out
        have hs := HSS.out
        have hap : ∀ k, (p.z0 k ∨ p.zw k) → ¬ nz zmv zfg k := fun k hk hn => by
          have h0 := HPW.out k hk
          have h1 := HNX.out k hn
          omega
        refine ⟨HPE.out.keep hof (fun k hk => hap k (.inl hk)) (fun k hk => hap k (.inr (zw_z1 hk))) (fun k hk => hap k (.inr (zw_z2 hk))) (fun k hk => hap k (.inr (zw_z3 hk))), HZF.out, fun k h1 h2 => ?_, fun k hk => ?_, fun k hk => ?_, HBE.out.trans (hof.below (B := w.heap.size) HBE.out.size fun k hk => ?_)⟩
        · have h3 := HPW.out k h1
          have h4 := HZX.out k h2
          have h5 := HSC.out.2.2.2
          have h6 := HSD.out.2.2.2.2
          omega
        · have := HPW.out k (.inr hk)
          have := HBR.out.size
          omega
        · have := HZX.out k (.inr hk)
          have := HSB.out
          have := HBE.out.size
          omega
        · have := HNX.out k hk
          have := HSB.out
          omega)
      have HIS := Lib.hid (is_any E .nilIface 0 0 (.inl ⟨rfl, rfl⟩) wf (HE16.out _ HTW.out.b))
      rw [decide_eq_true (rfl : (0 : Int) = 0)] at HIS
      have HWM : Hid (w.heap.size ≤ p.mb) := Lib.hid (by rw [hmb]; exact HSA.out.1)
      clear hzf hof hgf hz HNZ
      go_wp2_with fail
      refine HIS.out.mono ?_
      rintro y wg ⟨rfl, hbg⟩
      have HTG := Lib.hid (HTW.out.below hbg)
      clear hbg
      go_wp2
      refine bodyPost_ret (v := .tuple #[.pointer (some ⟨wr.heap.size + 1, 0, none⟩), .pointer (some ⟨we.heap.size, 0, none⟩), .pointer (some ⟨mb, 0, none⟩), .pointer (some ⟨fb, 0, none⟩)]) (by simp [results, Tryd.results33, go_sem]) rfl ⟨p, z, ?_, HTG.out, HWM.out⟩
      rw [htb, hzb, hmb, hfb]
end Go.Proofs.YtaoaachgnnengaaDoor

/-
  pt.Tables: Root, Owner.
-/
namespace Go.Proofs.YtaoaachgnnengaaDoor
open Go.RowKit

set_option maxRecDepth 100000 in
set_option maxHeartbeats 1600000 in
theorem troot_any (p : Pl) (s : Ts) (w : World) (h : PtAt w p s) (hP : 17 ≤ s.P.length) :
    Calls Tryd.prog 37 #[.pointer (some ⟨p.tb, 0, none⟩)] w fun y w' => y = .returned (.int .i64 (s.P.getD 0 0)) ∧ w = w' := by
  obtain ⟨-, -, -, -, c4⟩ := h.cells
  have ltb := blk_lt h.row
  obtain ⟨g, cap, hl, hg, hcell⟩ := h.list hP
  rw [hl] at c4
  have ct := hcell 0 (by decide)
  clear h hP hl hcell
  go_enter Tryd.func37, Tryd.ntmps37
  go_wp2
  go_ret
  exact ⟨rfl, rfl⟩

set_option maxHeartbeats 1600000 in
theorem towner_any (p : Pl) (s : Ts) (w : World) (h : PtAt w p s) :
    Calls Tryd.prog 63 #[.pointer (some ⟨p.tb, 0, none⟩)] w fun y w' => y = .returned (.int .i64 s.who) ∧ w = w' := by
  obtain ⟨-, -, c2, -, -⟩ := h.cells
  have ltb := blk_lt h.row
  clear h
  go_enter Tryd.func63, Tryd.ntmps63
  go_wp2
  go_ret
  exact ⟨rfl, rfl⟩
end Go.Proofs.YtaoaachgnnengaaDoor

/-
  The chapter's examples of tables.
-/
namespace Go.Proofs.YtaoaachgnnengaaDoor
open Go.RowKit

theorem tLive_none (s : Ts) (h : ∀ p, tEnt s p = Ent.z) : ∀ n, tLiveN s n = []
  | 0 => rfl
  | n + 1 => by
    unfold tLiveN
    rw [h, if_neg (by decide)]
    exact tLive_none s h n

set_option maxRecDepth 100000 in
set_option maxHeartbeats 6400000 in
theorem tfirst_true (E : Nat → Addr) (w : World) (hE : ErrsAt errT gOf w E all16) :
    Calls Tryd.prog 30 #[] w fun y w' => y = .returned (.bool true) ∧ Below w.heap.size w w' := by
  have HM := Lib.hid (made_any E 20 0 w hE (by decide) (by decide))
  have HTB := Lib.hid (tb_new 20 0 1 (by unfold frOwns; omega) (by decide) (by decide))
  clear hE
  go_enter Tryd.func30, Tryd.ntmps30
  go_wp2_with fail
  refine HM.out.mono ?_
  rintro y w1 ⟨p, z, rfl, htw, -⟩
  have HT := Lib.hid htw
  have HL := Lib.hid (tlive_any p _ _ w1 htw.pt HTB.out.inv)
  have hl0 : tLive (tNew 20 0 1) = [] := tLive_none _ HTB.out.ent 256
  have HP17 := Lib.hid HTB.out.inv.p17
  obtain ⟨S, hS⟩ : ∃ S, tNew 20 0 1 = S := ⟨_, rfl⟩
  have HS0 : Hid (S.P.getD 0 0 = 0 ∧ S.who = 1) := Lib.hid (by rw [← hS]; exact ⟨rfl, rfl⟩)
  rw [hS] at HT HL hl0 HP17
  rw [hl0] at HL
  clear htw hS hl0
  go_wp2_with fail
  refine HL.out.mono ?_
  rintro y w2 ⟨v, rfl, ho, -, hb2⟩
  obtain ⟨ao, cap, rfl⟩ := own_slice ho
  have HT2 := Lib.hid (HT.out.below hb2)
  have HR := Lib.hid (troot_any p S w2 HT2.out.pt HP17.out)
  have HO := Lib.hid (towner_any p S w2 HT2.out.pt)
  rw [HS0.out.1] at HR
  rw [HS0.out.2] at HO
  clear ho hb2
  go_wp2_with fail
  refine HR.out.mono ?_
  rintro y w3 ⟨rfl, rfl⟩
  go_wp2_with fail
  refine HO.out.mono ?_
  rintro y w3 ⟨rfl, rfl⟩
  go_wp2
  go_ret
  exact ⟨rfl, HT2.out.b⟩
end Go.Proofs.YtaoaachgnnengaaDoor

/-
  facadeworld.Number: any number as one from 0 to below a bound.
-/
namespace Go.Proofs.YtaoaachgnnengaaDoor
open Go.RowKit

set_option maxHeartbeats 400000 in
theorem number_any (n m : Int) (w : World) (h1 : -9223372036854775808 ≤ n) (h2 : n ≤ 9223372036854775807) (hm : 0 < m) (hm2 : m ≤ 1000000000) :
    Calls Tryd.prog 12 #[.int .i64 n, .int .i64 m] w fun e w' => e = .returned (.int .i64 (n % m)) ∧ w = w' := by
  by_cases hn : 0 ≤ n
  · have h3 := Int.emod_nonneg n (show m ≠ 0 by omega)
    have h4 : ¬ n % m < 0 := by omega
    go_enter Tryd.func12, Tryd.ntmps12
    go_wp2
    go_ret
    exact ⟨rfl, rfl⟩
  · obtain ⟨h3, h4, h5, h6⟩ := emod_of_tmod (show n < 0 by omega) hm
    obtain ⟨t, ht⟩ : ∃ t, n.tmod m = t := ⟨_, rfl⟩
    rw [ht] at h3 h4 h5 h6
    have H3 := Lib.hid h3
    have H4 := Lib.hid h4
    have hw := IntWalk.i64_in (t + m) (by omega)
    clear h3 h4
    by_cases hlt : t < 0
    · go_enter Tryd.func12, Tryd.ntmps12
      go_wp2
      go_ret
      exact ⟨by rw [← H3.out hlt]; rfl, rfl⟩
    · go_enter Tryd.func12, Tryd.ntmps12
      go_wp2
      go_ret
      exact ⟨by rw [← H4.out hlt]; rfl, rfl⟩
end Go.Proofs.YtaoaachgnnengaaDoor

/-
  Relaxing, as plain Lean: where items begin, which branches are long, and what follows. No program in sight.
-/
namespace Go.Proofs.YtaoaachgnnengaaDoor
namespace Rx

structure It where
  size : Int
  to_ : Int
  br : Bool
deriving Inhabited

def one (b : Bool) : Int := if b then 1 else 0
theorem one_mono {a b : Bool} (h : a = true → b = true) : one a ≤ one b := by
  cases a <;> cases b <;> simp_all [one]
theorem one_nonneg (b : Bool) : 0 ≤ one b := by cases b <;> simp [one]
theorem one_le (b : Bool) : one b ≤ 1 := by cases b <;> simp [one]

/-- where each begins, from a on, and where all ends -/
def pl : Int → List It → List Bool → List Int
  | a, x :: l, b :: bs => a :: pl (a + x.size + one b) l bs
  | a, _, _ => [a]

theorem pl_length : ∀ (a : Int) (l : List It) (bs : List Bool), bs.length = l.length → (pl a l bs).length = l.length + 1
  | a, [], [], _ => rfl
  | a, x :: l, b :: bs, h => by simp only [pl, List.length_cons, pl_length _ l bs (by simpa using h)]
  | a, [], b :: bs, h => by simp at h
  | a, x :: l, [], h => by simp at h

theorem pl_zero (a : Int) (l : List It) (bs : List Bool) : (pl a l bs).getD 0 0 = a := by
  cases l <;> cases bs <;> simp [pl]

theorem pl_succ : ∀ (a : Int) (l : List It) (bs : List Bool) (j : Nat), bs.length = l.length → j < l.length →
    (pl a l bs).getD (j + 1) 0 = (pl a l bs).getD j 0 + (l.getD j default).size + one (bs.getD j false)
  | a, x :: l, b :: bs, 0, h, hj => by
    simp only [pl, List.getD_cons_succ, List.getD_cons_zero, pl_zero]
  | a, x :: l, b :: bs, j + 1, h, hj => by
    simp only [pl, List.getD_cons_succ]
    exact pl_succ _ l bs j (by simpa using h) (by simpa using hj)
  | a, [], bs, j, h, hj => by simp at hj
  | a, x :: l, [], j, h, hj => by simp at h

def bad (n : Int) : Bool := decide (n < -128) || decide (127 < n)
theorem bad_iff (n : Int) : bad n = true ↔ n < -128 ∨ 127 < n := by simp [bad]
theorem bad_no {n : Int} (h1 : -128 ≤ n) (h2 : n ≤ 127) : (!bad n) = true := by simp [bad]; omega
theorem bad_low {n : Int} (h1 : ¬ -128 ≤ n) : (!bad n) = false := by simp [bad]; omega
theorem bad_high {n : Int} (h2 : ¬ n ≤ 127) : (!bad n) = false := by simp [bad]; omega
def gap (p : List Int) (x : It) (i : Nat) : Int := p.getD x.to_.toNat 0 - p.getD i 0

/-- the branches that are long behind a round -/
def marks (p : List Int) : Nat → List It → List Bool → List Bool
  | i, x :: l, b :: bs => (b || (x.br && bad (gap p x i))) :: marks p (i + 1) l bs
  | _, _, _ => []
theorem marks_length (p : List Int) : ∀ (i : Nat) (l : List It) (bs : List Bool), bs.length = l.length → (marks p i l bs).length = l.length
  | i, [], [], _ => rfl
  | i, x :: l, b :: bs, h => by simp only [marks, List.length_cons, marks_length p _ l bs (by simpa using h)]
  | i, [], b :: bs, h => by simp at h
  | i, x :: l, [], h => by simp at h
theorem marks_get (p : List Int) : ∀ (i : Nat) (l : List It) (bs : List Bool) (j : Nat), bs.length = l.length → j < l.length →
    (marks p i l bs).getD j false = (bs.getD j false || ((l.getD j default).br && bad (gap p (l.getD j default) (i + j))))
  | i, x :: l, b :: bs, 0, h, hj => by simp [marks]
  | i, x :: l, b :: bs, j + 1, h, hj => by
    simp only [marks, List.getD_cons_succ]
    rw [marks_get p (i + 1) l bs j (by simpa using h) (by simpa using hj), show i + 1 + j = i + (j + 1) by omega]
  | i, [], bs, j, h, hj => by simp at hj
  | i, x :: l, [], j, h, hj => by simp at h

def step (l : List It) (bs : List Bool) : List Bool := marks (pl 0 l bs) 0 l bs
theorem step_length (l : List It) (bs : List Bool) (h : bs.length = l.length) : (step l bs).length = l.length := marks_length _ _ _ _ h
theorem step_get (l : List It) (bs : List Bool) (j : Nat) (h : bs.length = l.length) (hj : j < l.length) :
    (step l bs).getD j false = (bs.getD j false || ((l.getD j default).br && bad (gap (pl 0 l bs) (l.getD j default) j))) := by
  have := marks_get (pl 0 l bs) 0 l bs j h hj
  rwa [Nat.zero_add] at this

/-- k rounds -/
def it (l : List It) : Nat → List Bool
  | 0 => List.replicate l.length false
  | k + 1 => step l (it l k)
theorem it_length (l : List It) : ∀ k, (it l k).length = l.length
  | 0 => by simp [it]
  | k + 1 => step_length l _ (it_length l k)

/-- what Do answers -/
structure IsDo (l : List It) (a : List Bool) (k : Nat) : Prop where
  eq : a = it l k
  fix : step l a = a
  least : ∀ j, j < k → step l (it l j) ≠ it l j
theorem IsDo.unique {l : List It} {a b : List Bool} {k m : Nat} (h : IsDo l a k) (h' : IsDo l b m) : a = b ∧ k = m := by
  have : k = m := by
    rcases Nat.lt_trichotomy k m with hlt | he | hlt
    · have := h.fix
      rw [h.eq] at this
      exact absurd this (h'.least k hlt)
    · exact he
    · have := h'.fix
      rw [h'.eq] at this
      exact absurd this (h.least m hlt)
  subst this
  exact ⟨h.eq.trans h'.eq.symm, rfl⟩
theorem IsDo.length {l : List It} {a : List Bool} {k : Nat} (h : IsDo l a k) : a.length = l.length := by rw [h.eq]; exact it_length l k

/-- lists of bools, place by place -/
theorem bools_ext {a b : List Bool} (hl : a.length = b.length) (h : ∀ j, j < a.length → a.getD j false = b.getD j false) : a = b := by
  apply List.ext_getElem hl
  intro i h1 h2
  have := h i h1
  simpa [List.getD_eq_getElem?_getD, h1, h2] using this

/-- how many are true -/
def cnt (l : List Bool) : Nat := (l.filter id).length
theorem cnt_le (l : List Bool) : cnt l ≤ l.length := List.length_filter_le _ _
theorem cnt_mono : ∀ {a b : List Bool}, a.length = b.length → (∀ j, a.getD j false = true → b.getD j false = true) → cnt a ≤ cnt b
  | [], [], _, _ => Nat.le_refl _
  | x :: a, y :: b, hl, h => by
    have h0 := h 0
    simp only [List.getD_cons_zero] at h0
    have ht := cnt_mono (a := a) (b := b) (by simpa using hl) (fun j hj => by have := h (j + 1); simp only [List.getD_cons_succ] at this; exact this hj)
    simp only [cnt] at ht ⊢
    cases x <;> cases y <;> simp_all [List.filter_cons] <;> omega
  | [], _ :: _, hl, _ => by simp at hl
  | _ :: _, [], hl, _ => by simp at hl
theorem cnt_lt : ∀ {a b : List Bool}, a.length = b.length → (∀ j, a.getD j false = true → b.getD j false = true) → a ≠ b → cnt a < cnt b
  | [], [], _, _, hne => (hne rfl).elim
  | x :: a, y :: b, hl, h, hne => by
    have h0 := h 0
    simp only [List.getD_cons_zero] at h0
    have hrest : ∀ j, a.getD j false = true → b.getD j false = true := fun j hj => by have := h (j + 1); simp only [List.getD_cons_succ] at this; exact this hj
    have hl' : a.length = b.length := by simpa using hl
    have hm := cnt_mono hl' hrest
    by_cases hab : a = b
    · subst hab
      cases x <;> cases y <;> simp_all [cnt, List.filter_cons]
    · have ht := cnt_lt hl' hrest hab
      simp only [cnt] at ht ⊢
      cases x <;> cases y <;> simp_all [List.filter_cons] <;> omega
  | [], _ :: _, hl, _, _ => by simp at hl
  | _ :: _, [], hl, _, _ => by simp at hl

theorem step_ge (l : List It) (bs : List Bool) (h : bs.length = l.length) (j : Nat) (hj : bs.getD j false = true) : (step l bs).getD j false = true := by
  by_cases hlt : j < l.length
  · rw [step_get l bs j h hlt, hj]; rfl
  · rw [List.getD_eq_getElem?_getD, List.getElem?_eq_none (by omega)] at hj
    cases hj
theorem step_cnt (l : List It) (bs : List Bool) (h : bs.length = l.length) (hne : step l bs ≠ bs) : cnt bs < cnt (step l bs) :=
  cnt_lt (by rw [step_length l bs h, h]) (step_ge l bs h) (fun e => hne e.symm)

/-- sizes are fair -/
def Fair (l : List It) : Prop := ∀ j, j < l.length → 0 ≤ (l.getD j default).size ∧ (l.getD j default).size ≤ 2048 ∧ ((l.getD j default).br = true → 0 ≤ (l.getD j default).to_ ∧ (l.getD j default).to_ ≤ l.length)

theorem pl_diff (l l' : List It) (bs bs' : List Bool) (hb : bs.length = l.length) (hb' : bs'.length = l'.length) (hl : l'.length = l.length)
    (hs : ∀ j, j < l.length → (l.getD j default).size ≤ (l'.getD j default).size) (hm : ∀ j, bs.getD j false = true → bs'.getD j false = true) (i : Nat) :
    ∀ d, i + d ≤ l.length → (pl 0 l bs).getD (i + d) 0 - (pl 0 l bs).getD i 0 ≤ (pl 0 l' bs').getD (i + d) 0 - (pl 0 l' bs').getD i 0
  | 0, _ => by simp
  | d + 1, h => by
    have ih := pl_diff l l' bs bs' hb hb' hl hs hm i d (by omega)
    have e1 := pl_succ 0 l bs (i + d) hb (by omega)
    have e2 := pl_succ 0 l' bs' (i + d) hb' (by omega)
    have e3 := hs (i + d) (by omega)
    have e4 := one_mono (hm (i + d))
    rw [show i + (d + 1) = i + d + 1 by omega, e1, e2]
    omega
theorem pl_rise (l : List It) (bs : List Bool) (hb : bs.length = l.length) (hf : Fair l) (i : Nat) :
    ∀ d, i + d ≤ l.length → (pl 0 l bs).getD i 0 ≤ (pl 0 l bs).getD (i + d) 0
  | 0, _ => by simp
  | d + 1, h => by
    have ih := pl_rise l bs hb hf i d (by omega)
    have e1 := pl_succ 0 l bs (i + d) hb (by omega)
    have e3 := (hf (i + d) (by omega)).1
    have e4 := one_nonneg (bs.getD (i + d) false)
    rw [show i + (d + 1) = i + d + 1 by omega, e1]
    omega
theorem pl_bound (l : List It) (bs : List Bool) (hb : bs.length = l.length) (hf : Fair l) : ∀ j, j ≤ l.length → 0 ≤ (pl 0 l bs).getD j 0 ∧ (pl 0 l bs).getD j 0 ≤ 2049 * j
  | 0, _ => by rw [pl_zero]; omega
  | j + 1, h => by
    have ih := pl_bound l bs hb hf j (by omega)
    have e1 := pl_succ 0 l bs j hb (by omega)
    have e3 := hf j (by omega)
    have e4 := one_nonneg (bs.getD j false)
    have e5 := one_le (bs.getD j false)
    rw [e1]
    omega

/-- what is too far stays too far where all is at least as great -/
theorem bad_mono (l l' : List It) (bs bs' : List Bool) (hb : bs.length = l.length) (hb' : bs'.length = l'.length) (hl : l'.length = l.length) (hf : Fair l) (hf' : Fair l')
    (hs : ∀ j, j < l.length → (l.getD j default).size ≤ (l'.getD j default).size) (hm : ∀ j, bs.getD j false = true → bs'.getD j false = true)
    (x : It) (hx : 0 ≤ x.to_ ∧ x.to_ ≤ l.length) (i : Nat) (hi : i ≤ l.length) (h : bad (gap (pl 0 l bs) x i) = true) : bad (gap (pl 0 l' bs') x i) = true := by
  rw [bad_iff] at h ⊢
  unfold gap at h ⊢
  rcases Nat.le_total i x.to_.toNat with hle | hle
  · obtain ⟨d, hd⟩ : ∃ d, x.to_.toNat = i + d := ⟨x.to_.toNat - i, by omega⟩
    rw [hd] at h ⊢
    have h1 := pl_diff l l' bs bs' hb hb' hl hs hm i d (by omega)
    have h2 := pl_rise l bs hb hf i d (by omega)
    omega
  · obtain ⟨d, hd⟩ : ∃ d, i = x.to_.toNat + d := ⟨i - x.to_.toNat, by omega⟩
    rw [hd] at h ⊢
    have h1 := pl_diff l l' bs bs' hb hb' hl hs hm x.to_.toNat d (by omega)
    have h2 := pl_rise l bs hb hf x.to_.toNat d (by omega)
    omega

/-- whatever else fits is long wherever Do's is -/
theorem it_least (l l' : List It) (hl : l'.length = l.length) (hf : Fair l) (hf' : Fair l') (hs : ∀ j, j < l.length → (l.getD j default).size ≤ (l'.getD j default).size)
    (hx : ∀ j, j < l.length → (l.getD j default).br = true → (l'.getD j default).br = true ∧ (l'.getD j default).to_ = (l.getD j default).to_)
    (bs : List Bool) (hb : bs.length = l'.length) (hfix : ∀ j, j < l'.length → (l'.getD j default).br = true → bs.getD j false = false → bad (gap (pl 0 l' bs) (l'.getD j default) j) = false) :
    ∀ k j, (it l k).getD j false = true → bs.getD j false = true
  | 0, j, h => by
    simp only [it, List.getD_eq_getElem?_getD, List.getElem?_replicate] at h
    by_cases hj : j < l.length
    · rw [if_pos hj] at h; cases h
    · rw [if_neg hj] at h; cases h
  | k + 1, j, h => by
    have ih := it_least l l' hl hf hf' hs hx bs hb hfix k
    have hlen := it_length l k
    by_cases hj : j < l.length
    · simp only [it] at h
      rw [step_get l _ j hlen hj] at h
      simp only [Bool.or_eq_true, Bool.and_eq_true] at h
      rcases h with h | ⟨hbr, hbad⟩
      · exact ih j h
      · obtain ⟨hbr', hto⟩ := hx j hj hbr
        cases hbj : bs.getD j false with
        | true => rfl
        | false =>
          have h1 := hfix j (by omega) hbr' hbj
          have h2 := bad_mono l l' (it l k) bs hlen hb hl hf hf' hs ih (l.getD j default) ((hf j hj).2.2 hbr) j (by omega) hbad
          have h3 : gap (pl 0 l' bs) (l'.getD j default) j = gap (pl 0 l' bs) (l.getD j default) j := by simp only [gap, hto]
          rw [h3, h2] at h1
          cases h1
    · rw [List.getD_eq_getElem?_getD, List.getElem?_eq_none (by rw [it_length]; omega)] at h
      cases h

theorem it_br (l : List It) : ∀ k j, (it l k).getD j false = true → (l.getD j default).br = true
  | 0, j, h => by
    simp only [it, List.getD_eq_getElem?_getD, List.getElem?_replicate] at h
    by_cases hj : j < l.length
    · rw [if_pos hj] at h; cases h
    · rw [if_neg hj] at h; cases h
  | k + 1, j, h => by
    by_cases hj : j < l.length
    · simp only [it] at h
      rw [step_get l _ j (it_length l k) hj] at h
      simp only [Bool.or_eq_true, Bool.and_eq_true] at h
      rcases h with h | ⟨hbr, _⟩
      · exact it_br l k j h
      · exact hbr
    · rw [List.getD_eq_getElem?_getD, List.getElem?_eq_none (by rw [it_length]; omega)] at h
      cases h

/-- there are no more rounds than branches -/
theorem it_cnt (l : List It) : ∀ k, (∀ j, j < k → step l (it l j) ≠ it l j) → k ≤ cnt (it l k)
  | 0, _ => Nat.zero_le _
  | k + 1, h => by
    have ih := it_cnt l k (fun j hj => h j (by omega))
    have := step_cnt l (it l k) (it_length l k) (h k (by omega))
    simp only [it]
    omega
theorem rounds_le {l : List It} {a : List Bool} {k : Nat} (h : IsDo l a k) : k ≤ cnt (l.map (·.br)) := by
  have h1 := it_cnt l k h.least
  have h2 : cnt (it l k) ≤ cnt (l.map (·.br)) := cnt_mono (by rw [it_length]; simp) (fun j hj => by
    have := it_br l k j hj
    have hj' : j < l.length := by
      rcases Nat.lt_or_ge j l.length with h | h
      · exact h
      · rw [List.getD_eq_getElem?_getD, List.getElem?_eq_none (by rw [it_length]; omega)] at hj; cases hj
    simp only [List.getD_eq_getElem?_getD, List.getElem?_map, List.getElem?_eq_getElem hj', Option.map_some, Option.getD_some] at this ⊢
    exact this)
  omega

/-- the branches that are not long fit -/
theorem fix_fits {l : List It} {a : List Bool} (hl : a.length = l.length) (h : step l a = a) : ∀ j, j < l.length → (l.getD j default).br = true → a.getD j false = false → bad (gap (pl 0 l a) (l.getD j default) j) = false := by
  intro j hj hbr ha
  have := step_get l a j hl hj
  rw [h, ha, hbr] at this
  simpa using this.symm
end Rx
end Go.Proofs.YtaoaachgnnengaaDoor

/-
  Items of relaxing in memory.
-/
namespace Go.Proofs.YtaoaachgnnengaaDoor
open Go.RowKit

def itCells (l : List Rx.It) : List Value := l.flatMap fun x => [.int .i64 x.size, .int .i64 x.to_, .bool x.br]
theorem itCells_cons (x : Rx.It) (l : List Rx.It) : itCells (x :: l) = [.int .i64 x.size, .int .i64 x.to_, .bool x.br] ++ itCells l := rfl
theorem itCells_append (l m : List Rx.It) : itCells (l ++ m) = itCells l ++ itCells m := by simp [itCells]
theorem itCells_len (l : List Rx.It) : (itCells l).length = l.length * 3 := by
  induction l with
  | nil => rfl
  | cons x l ih => rw [itCells_cons, List.length_append, ih, List.length_cons]; simp; omega
theorem itCells_at (l : List Rx.It) (k : Nat) (h : k < l.length) : (itCells l)[k * 3]? = some (.int .i64 (l.getD k default).size) ∧ (itCells l)[k * 3 + 1]? = some (.int .i64 (l.getD k default).to_) ∧ (itCells l)[k * 3 + 2]? = some (.bool (l.getD k default).br) := by
  induction l generalizing k with
  | nil => simp at h
  | cons x l ih =>
    cases k with
    | zero => simp [itCells_cons]
    | succ k =>
      have := ih k (by simpa using h)
      rw [itCells_cons, List.getD_cons_succ]
      have e3 : (k + 1) * 3 = 3 + k * 3 := by omega
      rw [e3]
      simp only [List.getElem?_append, List.length_cons, List.length_nil]
      rw [if_neg (by omega), if_neg (by omega), if_neg (by omega), show 3 + k * 3 - (0 + 1 + 1 + 1) = k * 3 from by omega, show 3 + k * 3 + 1 - (0 + 1 + 1 + 1) = k * 3 + 1 from by omega, show 3 + k * 3 + 2 - (0 + 1 + 1 + 1) = k * 3 + 2 from by omega]
      exact this
theorem itCells_one (l : List Rx.It) : ∀ u ∈ itCells l, u.oneCell' = true := by
  intro u hu
  simp only [itCells, List.mem_flatMap] at hu
  obtain ⟨x, -, hu⟩ := hu
  simp only [List.mem_cons, List.not_mem_nil, or_false] at hu
  rcases hu with rfl | rfl | rfl <;> rfl

/-- items at an address that may be none -/
def AtIt (w : World) (ao : Option Addr) (l : List Rx.It) : Prop := ∀ k, k < l.length → ∃ b off, ao = some ⟨b, off, none⟩ ∧ b < w.heap.size ∧
  w.cell? ⟨b, off + k * 3, none⟩ = some (.int .i64 (l.getD k default).size) ∧ w.cell? ⟨b, off + k * 3 + 1, none⟩ = some (.int .i64 (l.getD k default).to_) ∧ w.cell? ⟨b, off + k * 3 + 2, none⟩ = some (.bool (l.getD k default).br)
theorem AtIt.of {w : World} {ao : Option Addr} {l : List Rx.It} (h : AtL w ao (itCells l)) : AtIt w ao l := fun k hk => by
  obtain ⟨h0, h1, h2⟩ := itCells_at l k hk
  obtain ⟨b, off, e, c0, hl⟩ := h _ _ h0
  obtain ⟨b1, off1, e1, c1, -⟩ := h _ _ h1
  obtain ⟨b2, off2, e2, c2, -⟩ := h _ _ h2
  subst e
  cases e1
  cases e2
  exact ⟨b, off, rfl, hl, c0, by rw [Nat.add_assoc]; exact c1, by rw [Nat.add_assoc]; exact c2⟩
theorem AtIt.mono {W w : World} {ao : Option Addr} {l : List Rx.It} (h : AtIt W ao l) (hb : Below W.heap.size W w) : AtIt w ao l := fun k hk => by
  obtain ⟨b, off, e, hl, c0, c1, c2⟩ := h k hk
  exact ⟨b, off, e, Nat.lt_of_lt_of_le hl hb.size, (hb.cell (p := ⟨b, off + k * 3, none⟩) hl).trans c0, (hb.cell (p := ⟨b, off + k * 3 + 1, none⟩) hl).trans c1, (hb.cell (p := ⟨b, off + k * 3 + 2, none⟩) hl).trans c2⟩

theorem getD_mem_it (l : List Rx.It) (k : Nat) (h : k < l.length) : l.getD k default ∈ l := by
  rw [List.getD_eq_getElem?_getD, List.getElem?_eq_getElem h]
  exact List.getElem_mem _
end Go.Proofs.YtaoaachgnnengaaDoor

/-
  relax.fits: does a branch fit as items stand?
-/
namespace Go.Proofs.YtaoaachgnnengaaDoor
open Go.RowKit
end Go.Proofs.YtaoaachgnnengaaDoor

/-
  relax.Places: where items begin.
-/
namespace Go.Proofs.YtaoaachgnnengaaDoor
open Go.RowKit

theorem infoInt : (Tryd.prog.info? 3).map (fun i => (i.zero, i.size, i.bytes)) = some (some (.int .i64 0), 1, 8) := by kernel_rfl

theorem pl_small (l : List Rx.It) (bs : List Bool) (h : bs.length = l.length) (hf : Rx.Fair l) (hn : l.length ≤ 5000) : ∀ j, j < (Rx.pl 0 l bs).length → 0 ≤ (Rx.pl 0 l bs).getD j 0 ∧ (Rx.pl 0 l bs).getD j 0 ≤ 1000000000 := by
  intro j hj
  rw [Rx.pl_length 0 l bs h] at hj
  have := Rx.pl_bound l bs h hf j (by omega)
  omega

/-- the first k are told -/
def PlTo (l : List Rx.It) (bs : List Bool) (w : World) (a out i : Value) (wr : World) : Prop :=
  ∃ k : Nat, k ≤ l.length ∧ i = .int .i64 k ∧ a = .int .i64 ((Rx.pl 0 l bs).getD k 0) ∧ wr.ownsRow 0 3 1 out k (ints ((Rx.pl 0 l bs).take k)) ∧ (∀ j, inRow out j → w.heap.size ≤ j) ∧ Below w.heap.size w wr ∧ ∃ ao cap, out = .slice ao k cap
end Go.Proofs.YtaoaachgnnengaaDoor

/-
  The closures of relaxing; slices.ContainsFunc with each; may.
-/
namespace Go.Proofs.YtaoaachgnnengaaDoor
open Go.RowKit

/-- a size that may not be; a branch to nowhere -/
def badSize (x : Rx.It) : Bool := decide (x.size < 0) || decide (2048 < x.size)
def badTo (n : Nat) (x : Rx.It) : Bool := x.br && (decide (x.to_ < 0) || decide ((n : Int) < x.to_))

/-- none of the first k -/
def NoneTo (p : Rx.It → Bool) (l : List Rx.It) (w : World) (i : Value) (wr : World) : Prop := ∃ k : Nat, k ≤ l.length ∧ i = .int .i64 k ∧ (l.take k).any p = false ∧ Below w.heap.size w wr
/-- a place, or -1 -/
def PlaceOr (b : Bool) (w : World) (e : Ending) (w' : World) : Prop := ∃ r : Int, e = .returned (.int .i64 r) ∧ -1 ≤ r ∧ r ≤ 1000000 ∧ decide (0 ≤ r) = b ∧ Below w.heap.size w w'
theorem any_take_succ (p : Rx.It → Bool) (l : List Rx.It) (k : Nat) (h : k < l.length) : (l.take (k + 1)).any p = ((l.take k).any p || p (l.getD k default)) := by
  rw [List.take_succ_eq_append_getElem h, List.any_append, List.getD_eq_getElem?_getD, List.getElem?_eq_getElem h]
  simp
theorem any_of_getD (p : Rx.It → Bool) (l : List Rx.It) (k : Nat) (h : k < l.length) (hp : p (l.getD k default) = true) : l.any p = true := by
  rw [List.any_eq_true]
  exact ⟨_, getD_mem_it l k h, hp⟩
end Go.Proofs.YtaoaachgnnengaaDoor

/-
  relax.Fits: does each branch that is not long fit?
-/
namespace Go.Proofs.YtaoaachgnnengaaDoor
open Go.RowKit

/-- branch i fits, is long, or is none -/
def okAt (l : List Rx.It) (bs : List Bool) (i : Nat) : Bool := !(l.getD i default).br || (bs.getD i false || !Rx.bad (Rx.gap (Rx.pl 0 l bs) (l.getD i default) i))
def allOk (l : List Rx.It) (bs : List Bool) : Bool := decide (∀ i, i < l.length → okAt l bs i = true)
theorem may_of_fair {l : List Rx.It} (hf : Rx.Fair l) : (!l.any (badTo l.length)) = true := by
  simp only [Bool.not_eq_true', List.any_eq_false]
  intro x hx
  obtain ⟨k, hk, rfl⟩ := List.getElem_of_mem hx
  have h := hf k hk
  have e : l.getD k default = l[k] := by simp [List.getD_eq_getElem?_getD, hk]
  rw [e] at h
  cases hb : l[k].br
  · simp [badTo, hb]
  · have := h.2.2 hb
    simp [badTo, hb]
    omega

def OkTo (l : List Rx.It) (bs : List Bool) (w : World) (i : Value) (wr : World) : Prop := ∃ k : Nat, k ≤ l.length ∧ i = .int .i64 k ∧ (∀ j, j < k → okAt l bs j = true) ∧ Below w.heap.size w wr
end Go.Proofs.YtaoaachgnnengaaDoor

/-
  relax.Do: the branches that are long, and how many rounds changed something.
-/
namespace Go.Proofs.YtaoaachgnnengaaDoor
open Go.RowKit

theorem infoBool : (Tryd.prog.info? 4).map (fun i => (i.zero, i.size, i.bytes)) = some (some (.bool false), 1, 1) := by kernel_rfl

/-- fair: as a test -/
def fairB (l : List Rx.It) : Bool := !l.any (badTo l.length) && !l.any badSize
theorem fair_iff (l : List Rx.It) : fairB l = true ↔ Rx.Fair l := by
  have hg : ∀ k (h : k < l.length), l.getD k default = l[k] := fun k h => by simp [List.getD_eq_getElem?_getD, h]
  constructor
  · intro h k hk
    simp only [fairB, Bool.and_eq_true, Bool.not_eq_true', List.any_eq_false] at h
    have h1 := h.1 l[k] (List.getElem_mem hk)
    have h2 := h.2 l[k] (List.getElem_mem hk)
    rw [hg k hk]
    simp [badTo, badSize] at h1 h2
    refine ⟨h2.1, h2.2, fun hb => ?_⟩
    exact h1 hb
  · intro h
    simp only [fairB, Bool.and_eq_true]
    refine ⟨may_of_fair h, ?_⟩
    simp only [Bool.not_eq_true', List.any_eq_false]
    intro x hx
    obtain ⟨k, hk, rfl⟩ := List.getElem_of_mem hx
    have := h k hk
    rw [hg k hk] at this
    simp [badSize]
    omega

/-- what Do answers -/
def DoAns (l : List Rx.It) (w : World) (e : Ending) (w' : World) : Prop :=
  (fairB l = false → e = .returned (.tuple #[.slice none 0 0, .int .i64 0, .bool false]) ∧ Below w.heap.size w w') ∧
  (fairB l = true → ∃ v a k, e = .returned (.tuple #[v, .int .i64 (k : Nat), .bool true]) ∧ Rx.IsDo l a k ∧ w'.ownsRow 0 4 1 v l.length (bls a) ∧ (∀ j, inRow v j → w.heap.size ≤ j) ∧ Below w.heap.size w w')

/-- rounds so far: the list that is long, in a row of its own -/
def Round (l : List Rx.It) (w : World) (g : Nat) (rv : Value) (wr : World) : Prop :=
  ∃ k : Nat, rv = .int .i64 k ∧ k ≤ l.length ∧ (∀ j, j < k → Rx.step l (Rx.it l j) ≠ Rx.it l j) ∧ wr.ownsRow 0 4 1 (.slice (some ⟨g, 0, none⟩) l.length l.length) l.length (bls (Rx.it l k)) ∧ Below w.heap.size w wr
/-- places so far within a round -/
def Marked (l : List Rx.It) (old : List Bool) (g : Nat) (w : World) (more i : Value) (wr : World) : Prop :=
  ∃ k : Nat, ∃ m : Bool, k ≤ l.length ∧ i = .int .i64 k ∧ more = .bool m ∧ (m = false → (Rx.step l old).take k = old.take k) ∧ (m = true → Rx.step l old ≠ old) ∧
    wr.ownsRow 0 4 1 (.slice (some ⟨g, 0, none⟩) l.length l.length) l.length (bls ((Rx.step l old).take k ++ old.drop k)) ∧ Only (fun b => b = g) w wr

theorem mark_same (l : List Rx.It) (old : List Bool) (h : old.length = l.length) (k : Nat) (hk : k < l.length) (e : (Rx.step l old).getD k false = old.getD k false) : (Rx.step l old).take (k + 1) ++ old.drop (k + 1) = (Rx.step l old).take k ++ old.drop k := by
  have hs := Rx.step_length l old h
  rw [List.take_succ_eq_append_getElem (by omega), List.append_assoc]
  congr 1
  rw [List.drop_eq_getElem_cons (show k < old.length by omega)]
  rw [List.getD_eq_getElem?_getD, List.getElem?_eq_getElem (by omega), List.getD_eq_getElem?_getD, List.getElem?_eq_getElem (by omega)] at e
  simp only [Option.getD_some] at e
  rw [List.cons_append, List.nil_append, e]
theorem mark_set (l : List Rx.It) (old : List Bool) (h : old.length = l.length) (k : Nat) (hk : k < l.length) (e : (Rx.step l old).getD k false = true) : ((Rx.step l old).take k ++ old.drop k).set k true = (Rx.step l old).take (k + 1) ++ old.drop (k + 1) := by
  have hs := Rx.step_length l old h
  rw [List.set_append_right _ _ (by simp; omega)]
  rw [List.take_succ_eq_append_getElem (by omega), List.append_assoc]
  congr 1
  rw [List.drop_eq_getElem_cons (show k < old.length by omega)]
  rw [List.getD_eq_getElem?_getD, List.getElem?_eq_getElem (by omega)] at e
  simp at e
  rw [show k - (List.take k (Rx.step l old)).length = 0 by simp; omega, e]
  rfl
theorem mark_get (l : List Rx.It) (old : List Bool) (h : old.length = l.length) (k : Nat) (hk : k < l.length) : ((Rx.step l old).take k ++ old.drop k).getD k false = old.getD k false := by
  have hs := Rx.step_length l old h
  rw [List.getD_eq_getElem?_getD, List.getElem?_append_right (by simp; omega), List.getElem?_drop, List.getD_eq_getElem?_getD]
  congr 2
  simp
  omega
theorem mark_len (l : List Rx.It) (old : List Bool) (h : old.length = l.length) (k : Nat) (hk : k ≤ l.length) : ((Rx.step l old).take k ++ old.drop k).length = l.length := by
  have hs := Rx.step_length l old h
  simp
  omega
theorem atL_only {F : Nat → Prop} {W w : World} {ao : Option Addr} {vs : List Value} (h : AtL W ao vs) (ho : Only F W w) (hF : ∀ b off, ao = some ⟨b, off, none⟩ → ¬ F b) : AtL w ao vs := fun k u hk => by
  obtain ⟨b, off, e, hc, hl⟩ := h k u hk
  refine ⟨b, off, e, ?_, Nat.lt_of_lt_of_le hl ho.size⟩
  rw [← hc]
  exact World.cell?_of_block (ho.block b hl (hF b off e))
theorem own_below {w w' : World} {e : TypeId} {size : Nat} {v : Value} {n : Nat} {xs : List Value} (h : w.ownsRow 0 e size v n xs) (hb : Below w.heap.size w w') : w'.ownsRow 0 e size v n xs :=
  own_frame h fun k hk => hb.block k (own_lt h hk)
theorem bls_set (l : List Bool) (k : Nat) (b : Bool) : (bls l).set k (.bool b) = bls (l.set k b) := by simp [bls, List.map_set]
end Go.Proofs.YtaoaachgnnengaaDoor

/-
  The first check of chapter 12; items made by append; Do at a slice of n items.
-/
namespace Go.Proofs.YtaoaachgnnengaaDoor
open Go.RowKit

/-- a block that holds items -/
theorem atL_blk {w : World} {b : Nat} {vs : List Value} {cs : Array Value} {t : TypeId} {fr : Nat × Nat} (h : w.heap[b]? = some (.cells cs t fr)) (e : cs.toList = vs) : AtL w (some ⟨b, 0, none⟩) vs := fun k u hk => by
  refine ⟨b, 0, rfl, ?_, blk_lt h⟩
  rw [Nat.zero_add, blk_cell h k, ← Array.getElem?_toList, e]
  exact hk

/-- what Do answers of a list is reckoned -/
def doIs (l : List Rx.It) (r : Nat) : Bool := decide (Rx.step l (Rx.it l r) = Rx.it l r) && (List.range r).all fun j => decide (Rx.step l (Rx.it l j) ≠ Rx.it l j)
theorem isDo_of {l : List Rx.It} {r : Nat} (h : doIs l r = true) : Rx.IsDo l (Rx.it l r) r := by
  simp only [doIs, Bool.and_eq_true, decide_eq_true_eq, List.all_eq_true, List.mem_range] at h
  exact ⟨rfl, h.1, fun j hj => h.2 j hj⟩
theorem do_known {l : List Rx.It} {r : Nat} (h : doIs l r = true) {a : List Bool} {k : Nat} (hd : Rx.IsDo l a k) : a = Rx.it l r ∧ k = r := hd.unique (isDo_of h)
end Go.Proofs.YtaoaachgnnengaaDoor

/-
  facaderef.Bools: a copy, in new memory.
-/
namespace Go.Proofs.YtaoaachgnnengaaDoor
open Go.RowKit

theorem infoBools : (Tryd.prog.info? 4).map (fun i => (i.zero, i.size, i.bytes)) = some (some (.bool false), 1, 1) := by kernel_rfl

/-- the first k are copied -/
def CopyBoolsTo (xs : List Bool) (w : World) (v i : Value) (wr : World) : Prop :=
  ∃ k : Nat, k ≤ xs.length ∧ i = .int .i64 k ∧ wr.ownsRow 0 4 1 v k (bls (xs.take k)) ∧ (∀ j, inRow v j → w.heap.size ≤ j) ∧ Below w.heap.size w wr ∧ ∃ ao cap, v = .slice ao k cap
end Go.Proofs.YtaoaachgnnengaaDoor

/-
  facaderef.SameBools: are two lists the same?
-/
namespace Go.Proofs.YtaoaachgnnengaaDoor
open Go.RowKit

/-- the first k are the same -/
def SameBoolsTo (xs ys : List Bool) (w : World) (i : Value) (wr : World) : Prop := ∃ k : Nat, k ≤ xs.length ∧ i = .int .i64 k ∧ xs.take k = ys.take k ∧ ∃ n, wr = w.drewN n
end Go.Proofs.YtaoaachgnnengaaDoor

/-
  facaderef9: fits, Places, ValidItems.
-/
namespace Go.Proofs.YtaoaachgnnengaaDoor
open Go.RowKit

theorem made_n (w : World) (n : Nat) (h : n ≤ 1000000) : (Instr.makeSlice 155 (.int .i64 (n : Int)) (.int .i64 (n : Int))).run Tryd.prog w = .ok (.slice (some ⟨w.heap.size, 0, none⟩) n n) (w.alloc (.cells (madeCells #[.bool false] n) 4)) := by
  obtain ⟨i, hi, hz0, hz1, hz2⟩ := info_parts infoBool
  have e := run_make (P := Tryd.prog) w 155 4 i (.bool false) Tryd.underlying155 hi hz0 .i64 .i64 n n (by omega) (by omega) (by rw [hz2]; omega) (by omega)
  rw [e, hz1, Int.toNat_natCast, Nat.mul_one]
  rfl

/-- the first k are told -/
def PlTo9 (l : List Rx.It) (bs : List Bool) (w : World) (out a i : Value) (wr : World) : Prop :=
  ∃ k : Nat, k ≤ l.length ∧ i = .int .i64 k ∧ a = .int .i64 ((Rx.pl 0 l bs).getD k 0) ∧ wr.ownsRow 0 3 1 out k (ints ((Rx.pl 0 l bs).take k)) ∧ (∀ j, inRow out j → w.heap.size ≤ j) ∧ Below w.heap.size w wr ∧ ∃ ao cap, out = .slice ao k cap

theorem any_or' (p q : Rx.It → Bool) (l : List Rx.It) : l.any (fun x => p x || q x) = (l.any p || l.any q) := by
  induction l with
  | nil => rfl
  | cons x l ih => simp only [List.any_cons, ih]; cases p x <;> cases q x <;> cases l.any p <;> cases l.any q <;> rfl
def badIt (n : Nat) (x : Rx.It) : Bool := badSize x || badTo n x
theorem fair_bad (l : List Rx.It) : fairB l = !l.any (badIt l.length) := by
  rw [show badIt l.length = fun x => badSize x || badTo l.length x from rfl, any_or', fairB]
  cases l.any badSize <;> cases l.any (badTo l.length) <;> rfl
end Go.Proofs.YtaoaachgnnengaaDoor

