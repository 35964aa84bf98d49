/-
  The chapter's examples of a queue.
-/
import Derived.Test.YtnhocmmgdkiepaaDoorQuFlush
import Derived.Test.YtnhocmmgdkiepaaDoorPtNew
import Derived.Test.YtnhocmmgdkiepaaDoorFrNew
import Derived.Test.YtnhocmmgdkiepaaDoorMm
namespace Go.Proofs.YtnhocmmgdkiepaaDoor
open Go.RowKit

theorem frU_new (n : Nat) (who : Int) : frU n 0 0 who = List.replicate n frNo := by
  apply fr_ext
  · rw [frU_len, List.length_replicate]
  · intro i hi
    rw [frU_len] at hi
    rw [frU_get n 0 0 i who hi, if_neg (by omega), if_neg (by omega), List.getD_eq_getElem?_getD, List.getElem?_replicate, if_pos hi]
    rfl
/-- a page asked to be nothing -/
theorem qC_zero (s : Ts) (page : Int) (hp : isPage page = true) : qC s [⟨page, 0⟩] 0 = 0 := by
  have h0 : ofA 0 = (Ent.z, true) := by
    have := ofA_ent'' (f := 0) (t := false) (wr := false) (u := false) ⟨by decide, by decide, fun _ => ⟨rfl, rfl, rfl⟩⟩
    exact this
  unfold qC
  show (if (ofA 0).2 = true then (tPut (qS s [⟨page, 0⟩] 0) page (ofA 0).1).2 else 102) = 0
  rw [h0, if_pos rfl]
  unfold tPut
  rw [if_pos hp, if_neg (by decide), if_pos ⟨rfl, rfl, rfl⟩]
  unfold tDrop
  rw [if_pos hp]
  split <;> rfl
theorem fl_one {s : Ts} {u : Up} {k : Nat} {c : Int} (h : FlIs s [u] k c) (h0 : qC s [u] 0 = 0) : k = 1 ∧ c = 0 := by
  rcases h.2 with h1 | ⟨h1, h2, h3⟩
  · exact h1
  · have : k = 0 := by simp at h1; exact h1
    subst this
    exact absurd (h2.trans h0) h3

theorem PtAt.lt {w : World} {p : Pl} {s : Ts} (h : PtAt w p s) : ∀ k, (p.z0 k ∨ p.z1 k ∨ p.z2 k ∨ p.z3 k) → k < w.heap.size := fun k hk => by
  rcases hk with (rfl | rfl | rfl | hk) | hk | hk | (rfl | hk)
  · exact blk_lt h.row
  · exact blk_lt h.mem.1
  · exact h.fr.lt.1
  · exact own_lt h.tl hk
  · exact own_lt h.mem.2.1 hk
  · rw [show k = p.fg from hk]; exact h.fr.lt.2
  · exact blk_lt h.pm.1
  · exact own_lt h.pm.2 hk

set_option maxRecDepth 100000 in
set_option maxHeartbeats 6400000 in
theorem qfirst_true (E : Nat → Addr) (w : World) (hE : ErrsAt errT gOf w E nine) :
    Calls Tryd.prog 24 #[] w fun e w' => e = .returned (.bool true) ∧ Below w.heap.size w w' := by
  have HEK : Hid (∀ wx, Below w.heap.size w wx → ErrsAt errT gOf wx E nine) := Lib.hid fun wx h => hE.mono h
  have HB0 : Hid (Below w.heap.size w w) := Lib.hid (Below.refl _ _)
  clear hE
  go_enter Tryd.func24, Tryd.ntmps24
  go_wp2_with fail
  refine (mm_new 20 _ (by decide) (by decide)).mono ?_
  rintro y wa ⟨mb, mv, rfl, hma, hsa, hva, hba⟩
  have HMA := Lib.hid hma
  have HSA := Lib.hid hsa
  have HVA := Lib.hid hva
  have HBA := Lib.hid (HB0.out.trans (hba.mono HB0.out.size))
  clear hma hsa hva hba
  go_wp2_with fail
  refine (fnew_ok 20 _ (by decide) (by decide)).mono ?_
  rintro y wb ⟨fb, fg, rfl, hfb, hsb, hsg, hbb⟩
  have HMB := Lib.hid (HMA.out.below hbb)
  have HFB : Hid (FrAt 128 126 wb fb fg 20 (frU 20 0 0 (0))) := Lib.hid (by rw [frU_new]; exact hfb)
  have HBB := Lib.hid (HBA.out.trans (hbb.mono HBA.out.size))
  have HZ0 : Hid (w.heap.size ≤ mb ∧ (∀ k, inRow mv k → w.heap.size ≤ k ∧ k < wa.heap.size) ∧ wa.heap.size ≤ fb ∧ wa.heap.size ≤ fg ∧ mb < wa.heap.size) := Lib.hid ⟨Nat.le_trans HB0.out.size HSA.out, fun k hk => ⟨Nat.le_trans HB0.out.size (HVA.out k hk), own_lt HMA.out.2.1 hk⟩, hsb, hsg, blk_lt HMA.out.1⟩
  clear hfb hsb hsg hbb
  have HZW : Hid (∀ wx, Only (nz mv fg) wb wx → Below w.heap.size w wx) := Lib.hid fun wx ho => HBB.out.trans (ho.below (B := w.heap.size) HBB.out.size fun k hk => by
    rcases hk with hk | hk
    · exact (HZ0.out.2.1 k hk).1
    · rw [hk]; exact Nat.le_trans HBA.out.size HZ0.out.2.2.2.1)
  have HNW := Lib.hid (tnew_ok E 20 0 mb fb fg mv (List.replicate (16 * 20) 0) (0) wb (fun wx ho => HEK.out wx (HZW.out wx ho)) HMB.out HFB.out ⟨fun k hk => ⟨fun e => by have := HZ0.out.2.1 k hk; have := HZ0.out.2.2.1; omega, fun e => by have := HZ0.out.2.1 k hk; have := HZ0.out.2.2.2.1; omega⟩, fun e => by have := HZ0.out.2.2.2; omega⟩ (by unfold frOwns; omega) (by decide) (by decide))
  go_wp2_with fail
  refine HNW.out.mono ?_
  rintro y wc ⟨pv, lv, rfl, hpc, hoc, hvc⟩
  have HBC := Lib.hid (HZW.out _ hoc)
  obtain ⟨p, hp⟩ : ∃ p : Pl, p = ⟨wb.heap.size + 1, mb, fb, fg, wb.heap.size, mv, pv, lv⟩ := ⟨_, rfl⟩
  have htb : p.tb = wb.heap.size + 1 := by rw [hp]
  have HPC : Hid (PtAt wc p (tNew 20 0 (0))) := Lib.hid (by rw [hp]; exact hpc)
  have HPZ : Hid (∀ k, p.zw k → w.heap.size ≤ k) := Lib.hid fun k hk => by
    rw [hp] at hk
    rcases hk with hk | hk | hk | hk
    · exact (HZ0.out.2.1 k hk).1
    · rw [show k = fg from hk]; exact Nat.le_trans HBA.out.size HZ0.out.2.2.2.1
    · rw [show k = wb.heap.size from hk]; exact HBB.out.size
    · exact Nat.le_trans HBB.out.size (hvc k hk)
  have HTI := Lib.hid (tNew_inv 20 0 (0) (by unfold frOwns; omega) (by decide) (by decide))
  have hs1 : w.heap.size ≤ wb.heap.size := HBB.out.size
  clear hpc hoc hvc HNW hp
  have HQ0 : Hid (QuAt (wc.alloc (.cells #[.slice none 0 0] 53)) wc.heap.size (.slice none 0 0) []) := Lib.hid (QuAt.new wc)
  have HB1 := Lib.hid (HBC.out.alloc HBC.out.size (.cells #[.slice none 0 0] 53))
  have HP1 := Lib.hid (HPC.out.below ((Below.refl _ _).alloc (Nat.le_refl _) (.cells #[.slice none 0 0] 53)))
  go_wp2_with fail
  refine (qput_ok [] wc.heap.size _ 1 0 _ HQ0.out (by decide)).mono ?_
  rintro y wd ⟨rfl, qv, hqd, hod, hvd⟩
  have HQD := Lib.hid hqd
  have HLTC : Hid (∀ k, (p.z0 k ∨ p.z1 k ∨ p.z2 k ∨ p.z3 k) → k < wc.heap.size) := Lib.hid fun k hk => HPC.out.lt k hk
  have HPD : Hid (PtAt wd p (tNew 20 0 0)) := Lib.hid (HP1.out.keep hod (fun k h0 e => by have := HLTC.out k (.inl h0); rcases e with e | e; omega; cases e) (fun k h0 e => by have := HLTC.out k (.inr (.inl h0)); rcases e with e | e; omega; cases e) (fun k h0 e => by have := HLTC.out k (.inr (.inr (.inl h0))); rcases e with e | e; omega; cases e) (fun k h0 e => by have := HLTC.out k (.inr (.inr (.inr h0))); rcases e with e | e; omega; cases e))
  have HBD : Hid (Below w.heap.size w wd) := Lib.hid (HB1.out.trans (hod.below (B := w.heap.size) HB1.out.size fun k hk => by
    rcases hk with hk | hk
    · rw [hk]; exact HBC.out.size
    · cases hk))
  have HZQ : Hid (∀ k, p.zq wc.heap.size k → w.heap.size ≤ k) := Lib.hid fun k hk => by
    rcases hk with hk | hk
    · exact HPZ.out k hk
    · rw [hk]; exact HBC.out.size
  have HZL : Hid (∀ k, p.zw k → k < wc.heap.size) := Lib.hid fun k hk => by
    rcases hk with hk | hk | hk | hk
    · exact HLTC.out k (.inr (.inl hk))
    · exact HLTC.out k (.inr (.inr (.inl hk)))
    · exact HLTC.out k (.inr (.inr (.inr (.inl hk))))
    · exact HLTC.out k (.inr (.inr (.inr (.inr hk))))
  have HFLU : Hid (Calls Tryd.prog 36 #[.pointer (some ⟨wc.heap.size, 0, none⟩), .pointer (some ⟨wb.heap.size + 1, 0, none⟩)] wd (FlQ E (tNew 20 0 0) [⟨1, 0⟩] p wc.heap.size wd)) := Lib.hid (htb ▸ qflush_any E p (tNew 20 0 0) 1 [⟨1, 0⟩] wc.heap.size qv wd (fun wx ho => HEK.out wx (HBD.out.trans (ho.below (B := w.heap.size) HBD.out.size HZQ.out))) HPD.out HTI.out (by decide) (by decide) HQD.out (fun u hu => by simp only [List.mem_singleton] at hu; subst hu; exact w32_zero) ⟨fun k hk hz => by
      have h1 := HZL.out k hz
      rcases hvd k hk with h2 | h2
      · cases h2
      · simp only [World.size_alloc] at h2
        omega, fun hz => by have := HZL.out _ hz; omega, fun hz => by have := HLTC.out _ (.inl hz); omega⟩)
  clear hqd hod hvd htb hs1
  go_wp2_with fail
  refine (qlen_any _ _ _ _ HQD.out).mono ?_
  rintro y we ⟨rfl, rfl⟩
  go_wp2_with fail
  refine HFLU.out.mono ?_
  rintro y wf ⟨k, c, hfl, rfl, hpf, hof, hqf⟩
  obtain ⟨rfl, rfl⟩ := fl_one hfl (qC_zero _ 1 (by decide))
  have HQF := Lib.hid hqf
  have HBF : Hid (Below w.heap.size w wf) := Lib.hid (HBD.out.trans (hof.below (B := w.heap.size) HBD.out.size HZQ.out))
  clear hfl hpf hof hqf
  unfold errC
  rw [if_pos rfl]
  go_wp2_with fail
  refine (qlen_any _ _ _ _ HQF.out).mono ?_
  rintro y wg ⟨rfl, rfl⟩
  go_wp2
  go_ret
  exact ⟨rfl, HBF.out⟩
end Go.Proofs.YtnhocmmgdkiepaaDoor
