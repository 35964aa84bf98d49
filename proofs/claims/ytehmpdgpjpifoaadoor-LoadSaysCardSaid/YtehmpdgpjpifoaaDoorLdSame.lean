/-
  facadelaw14.same: a machine and the document's are the same.
-/
import Derived.Test.YtehmpdgpjpifoaaDoorLdNewR
import Derived.Test.YtehmpdgpjpifoaaDoorLdLies
import Derived.Test.YtehmpdgpjpifoaaDoorMr2
import Derived.Test.YtehmpdgpjpifoaaDoorSameWords
namespace Go.Proofs.YtehmpdgpjpifoaaDoor
open Go.RowKit

def SmTo (n : Nat) (w0 : World) (i : Value) (wr : World) : Prop := ∃ f : Nat, f ≤ n ∧ i = .int .i64 (f : Int) ∧ Below w0.heap.size w0 wr

theorem sm_next {w wx w3 : World} (h : Below w.heap.size w wx) (hb : Below wx.heap.size wx w3) : Below w.heap.size w w3 := h.trans (hb.mono h.size)
set_option maxRecDepth 100000 in
set_option maxHeartbeats 16000000 in
theorem msame_any (w : World) (bb mb xb yb n : Nat) (c : Cpu) (q : Int) (mv yv : Value) (l : List Int) (hb : MachAt w bb mb c q 0 false) (hm : MAt w mb mv n l) (hx : MachR w xb yb c q) (hy : MAr w yb yv n l) (hn : n ≤ 1024) :
    Calls Tryd.prog 30 #[.pointer (some ⟨bb, 0, none⟩), .pointer (some ⟨xb, 0, none⟩)] w fun y w' => y = .returned (.bool true) ∧ Below w.heap.size w w' := by
  have HMEM := Lib.hid (bmem_any w bb mb n c q 0 false mv l hb hm hn)
  have HB : Hid (∀ wx, Below w.heap.size w wx → MachAt wx bb mb c q 0 false) := Lib.hid fun wx h => by
    obtain ⟨db, hb⟩ := hb
    exact ⟨db, blk_below hb h (blk_lt hb)⟩
  have HY : Hid (∀ wx, Below w.heap.size w wx → MAr wx yb yv n l) := Lib.hid fun wx h => hy.below h
  obtain ⟨dx, hxb⟩ := hx
  have HX : Hid (∀ wx, Below w.heap.size w wx → wx.cell? ⟨xb, 0, none⟩ = some (.pointer (some ⟨yb, 0, none⟩)) ∧ row? wx xb = some (machCellsR yb c dx q)) := Lib.hid fun wx h => by
    have := blk_below hxb h (blk_lt hxb)
    exact ⟨(blk_cell this 0).trans rfl, row?_of this⟩
  clear hb hm hy hxb
  go_enter Tryd.func30, Tryd.ntmps30
  go_wp2_with fail
  refine HMEM.out.mono ?_
  rintro y w1 ⟨cb, cv, rfl, hm1, hs1, hv1, hb1⟩
  have HM1 := Lib.hid hm1
  have HB1 := Lib.hid hb1
  have HK : Hid (∀ wx, Below w1.heap.size w1 wx → Below w.heap.size w wx ∧ MAt wx cb cv n l) := Lib.hid fun wx h => ⟨HB1.out.trans (h.mono HB1.out.size), HM1.out.below h⟩
  have HC : Hid (∀ wx, Below w1.heap.size w1 wx → Below w1.heap.size w1 wx ∧ wx.cell? ⟨xb, 0, none⟩ = some (.pointer (some ⟨yb, 0, none⟩)) ∧ row? wx xb = some (machCellsR yb c dx q)) := Lib.hid fun wx h => ⟨h, HX.out _ (HK.out _ h).1⟩
  have HST1 := Lib.hid (HC.out _ (Below.refl _ _).drew)
  have hP0 := HST1.out
  clear hm1 hs1 hv1 hb1
  go_wp2_with fail
  go_region_held3 (fun wx => Below w1.heap.size w1 wx ∧ wx.cell? ⟨xb, 0, none⟩ = some (.pointer (some ⟨yb, 0, none⟩)) ∧ row? wx xb = some (machCellsR yb c dx q)) (first | exact HST1.out | exact HC.out _ (And.left (by assumption)) | exact HC.out _ (sm_next (And.left (by assumption)) (by assumption)) | assumption)
    (first | (go_at_call 44; refine (bcpu_any _ bb mb c q 0 false (HB.out _ (HK.out _ (And.left (by assumption))).1)).mono ?_; rintro e w3 ⟨rfl, hb3⟩) | (go_at_call 26; refine (cpu_self c _).mono ?_; rintro e w3 ⟨rfl, hb3⟩) | (go_at_call 14; refine (mm_frames l cb n cv _ (HK.out _ (And.left (by assumption))).2 hn).mono ?_; rintro e w3 ⟨rfl, rfl⟩) | (go_at_call 39; refine (mr_frames l yb n yv _ (HY.out _ (HK.out _ (And.left (by assumption))).1) hn).mono ?_; rintro e w3 ⟨rfl, rfl⟩) | (go_at_call 45; refine (bnow_any _ bb mb c q 0 false (HB.out _ (HK.out _ (And.left (by assumption))).1)).mono ?_; rintro e w3 ⟨rfl, rfl⟩) | (go_at_call 46; refine (bover_any _ bb mb c q 0 false (HB.out _ (HK.out _ (And.left (by assumption))).1)).mono ?_; rintro e w3 ⟨rfl, rfl⟩))
  all_goals
    have HW3 : Hid (Below w1.heap.size w1 w3) := Lib.hid (And.left (by assumption))
    clear hP0 HST1
    go_wp2_with fail
    go_loopw [6] (fun i wr => SmTo n w3 i wr) (fun i _ => n - (intOf i).toNat)
    case atStart => exact ⟨0, Nat.zero_le _, rfl, Below.refl _ _⟩
    case round =>
      obtain ⟨f, hf, rfl, hbr⟩ := hrel
      have HBR := Lib.hid hbr
      have HBW := Lib.hid (HW3.out.trans (hbr.mono HW3.out.size))
      have HMR := Lib.hid (HK.out _ HBW.out)
      have c0 := (HX.out _ HMR.out.1).1
      clear hbr
      by_cases hlt : f < n
      · have hfi : (f : Int) < (n : Int) := by omega
        go_wp2_with fail
        refine (mr_frames l yb n yv _ (HY.out _ HMR.out.1) hn).mono ?_
        rintro y w4 ⟨rfl, rfl⟩
        go_wp2_with fail
        refine (mm_frame l cb n f cv _ HMR.out.2 hn hlt).mono ?_
        rintro y w5 ⟨v1, rfl, ho1, hf1, hb5⟩
        obtain ⟨ao1, cap1, rfl, hat1⟩ := atL_of_own ho1
        have HAT1 := Lib.hid hat1
        have HB5 := Lib.hid (HBW.out.trans (hb5.mono HBW.out.size))
        have HM5 := Lib.hid (HK.out _ HB5.out)
        have HBR5 := Lib.hid (HBR.out.trans (hb5.mono HBR.out.size))
        have d0 := (HX.out _ HM5.out.1).1
        clear ho1 hf1 hb5 hat1 c0
        go_wp2_with fail
        refine (mr_frame l yb n f yv _ (HY.out _ HM5.out.1) hn hlt).mono ?_
        rintro y w6 ⟨v2, rfl, ho2, hf2, hb6⟩
        obtain ⟨ao2, cap2, rfl, hat2⟩ := atL_of_own ho2
        have HAT2 := Lib.hid hat2
        have HAT1b := Lib.hid (HAT1.out.mono hb6)
        have HBR6 := Lib.hid (HBR5.out.trans (hb6.mono HBR5.out.size))
        have HLF : Hid ((frameW l f).length = 16) := Lib.hid (frameW_len l n f HMR.out.2.2.2 hlt)
        have hsw := sameWords_any (frameW l f) (frameW l f) ao1 ao2 cap1 cap2 _ HAT1b.out HAT2.out (by rw [HLF.out]; decide) (by rw [HLF.out]; decide)
        rw [HLF.out] at hsw
        have HSW := Lib.hid hsw
        clear ho2 hf2 hb6 hat2 d0 hsw
        go_wp2_with fail
        refine HSW.out.mono ?_
        rintro y w7 ⟨rfl, n7, rfl⟩
        have HBR7 := Lib.hid (below_drewN HBR6.out n7)
        go_wp2_with fail
        go_roundw
        case rel => exact ⟨f + 1, by omega, by go_num, HBR7.out⟩
        case measure => simp [intOf]; omega
      · obtain rfl : f = n := by omega
        go_wp2_with fail
        refine (mr_frames l yb _ yv _ (HY.out _ HMR.out.1) hn).mono ?_
        rintro y w4 ⟨rfl, rfl⟩
        go_wp2
        go_ret
        exact ⟨rfl, HMR.out.1⟩
end Go.Proofs.YtehmpdgpjpifoaaDoor
