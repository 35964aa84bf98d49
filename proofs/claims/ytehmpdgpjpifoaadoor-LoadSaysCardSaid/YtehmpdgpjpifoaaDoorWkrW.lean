/-
  The document's walk: where an address is.
-/
import Derived.Test.YtehmpdgpjpifoaaDoorWkr
namespace Go.Proofs.YtehmpdgpjpifoaaDoor
open Go.RowKit

set_option maxRecDepth 100000 in
set_option maxHeartbeats 4000000 in
theorem rwalk_any (l : List Int) (b n : Nat) (v : Value) (root addr : Int) (wr us : Bool) (w : World) (h : MAr w b v n l) (hn : n ≤ 1024) (hl : ∀ j, W32 (l.getD j 0)) (ha : W32 addr) :
    Calls Tryd.prog 18 #[.pointer (some ⟨b, 0, none⟩), .int .i64 root, .int .u32 addr, .bool wr, .bool us] w fun e w' => e = .returned (pairV (walkA l n root addr wr us)) ∧ Below w.heap.size w w' := by
  have HM := Lib.hid h
  by_cases h0 : 4096 ≤ addr
  · have HE : Hid (walkA l n root addr wr us = (0, false)) := Lib.hid (by unfold walkA; rw [if_neg (by omega)])
    rw [HE.out]
    clear h ha
    go_enter Tryd.func18, Tryd.ntmps18
    go_wp2
    go_ret2
    exact ⟨rfl, Below.refl _ _⟩
  · obtain ⟨a, rfl⟩ : ∃ a : Nat, addr = (a : Int) := ⟨addr.toNat, by have := ha.1; omega⟩
    have H1 : Hid (∀ wx, MAr wx b v n l → Calls Tryd.prog 38 #[.pointer (some ⟨b, 0, none⟩), .int .i64 root, .int .i64 ((a : Int) / 16)] wx fun e w' => e = .returned (.tuple #[(pageA l n root ((a : Int) / 16)).1.v, .bool (pageA l n root ((a : Int) / 16)).2]) ∧ Below wx.heap.size wx w') := Lib.hid fun wx hm => rpage_any l b n v root _ wx hm hn hl
    have HF := pageA_f l n root ((a : Int) / 16) hl
    have HE := Lib.hid (walkA_of l n root (a : Int) wr us)
    obtain ⟨⟨⟨og, ot, ow, ou⟩, ok⟩, ho⟩ : ∃ q, pageA l n root ((a : Int) / 16) = q := ⟨_, rfl⟩
    rw [HE.out _ _ (by omega) ho]
    rw [ho] at H1 HF
    have hog : 0 ≤ og ∧ og < 1024 := HF
    clear ho HE HF ha
    have hw1 := IntWalk.i64_in ((a : Int) / 16) (by omega)
    have hw2 := IntWalk.i64_in ((a : Int) % 16) (by omega)
    have hw3 := IntWalk.i64_in (og * 16) (by omega)
    have hw4 := IntWalk.i64_in (og * 16 + (a : Int) % 16) (by omega)
    have hu1 : IntKind.u32.wrap ((a : Int) / 16) = (a : Int) / 16 := IntWalk.u32_in _ (by omega)
    have hu2 : IntKind.u32.wrap ((a : Int) % 16) = (a : Int) % 16 := IntWalk.u32_in _ (by omega)
    have ht1 : (a : Int).tdiv 16 = (a : Int) / 16 := Int.tdiv_eq_ediv_of_nonneg (by omega)
    have ht2 : (a : Int).tmod 16 = (a : Int) % 16 := Int.tmod_eq_emod_of_nonneg (by omega)
    have hw5 := IntWalk.i64_in (a : Int) (by omega)
    have hcase : (ok = false) ∨ (ok = true ∧ wr = true ∧ ow = false) ∨ (ok = true ∧ wr = false ∧ us = true ∧ ou = false) ∨ (ok = true ∧ wr = false ∧ us = false ∧ (n : Int) ≤ og) ∨ (ok = true ∧ wr = false ∧ us = true ∧ ou = true ∧ (n : Int) ≤ og) ∨ (ok = true ∧ wr = true ∧ ow = true ∧ us = true ∧ ou = false) ∨ (ok = true ∧ wr = true ∧ ow = true ∧ us = false ∧ (n : Int) ≤ og) ∨ (ok = true ∧ wr = true ∧ ow = true ∧ us = true ∧ ou = true ∧ (n : Int) ≤ og) ∨ (ok = true ∧ wr = false ∧ us = false ∧ og < (n : Int)) ∨ (ok = true ∧ wr = false ∧ us = true ∧ ou = true ∧ og < (n : Int)) ∨ (ok = true ∧ wr = true ∧ ow = true ∧ us = false ∧ og < (n : Int)) ∨ (ok = true ∧ wr = true ∧ ow = true ∧ us = true ∧ ou = true ∧ og < (n : Int)) := by
      rcases Int.lt_or_le og (n : Int) with hh | hh <;> cases ok <;> cases wr <;> cases us <;> cases ow <;> cases ou <;> simp [hh, Int.not_le.2, Int.not_lt.2]
    rcases hcase with rfl | ⟨rfl, rfl, rfl⟩ | ⟨rfl, rfl, rfl, rfl⟩ | ⟨rfl, rfl, rfl, hno⟩ | ⟨rfl, rfl, rfl, rfl, hno⟩ | ⟨rfl, rfl, rfl, rfl, rfl⟩ | ⟨rfl, rfl, rfl, rfl, hno⟩ | ⟨rfl, rfl, rfl, rfl, rfl, hno⟩ | ⟨rfl, rfl, rfl, hno⟩ | ⟨rfl, rfl, rfl, rfl, hno⟩ | ⟨rfl, rfl, rfl, rfl, hno⟩ | ⟨rfl, rfl, rfl, rfl, rfl, hno⟩
    iterate 8
      · rw [if_neg (by first | (simp; done) | (simp; omega))]
        go_enter Tryd.func18, Tryd.ntmps18
        go_wp2_with fail
        refine (H1.out _ HM.out).mono ?_
        rintro e w1 ⟨rfl, hb⟩
        have HB := Lib.hid hb
        have HMA : Hid (∀ X m, MAr ((w1.alloc X).drewN m) b v n l) := Lib.hid fun X m => (HM.out.below HB.out).below (below_drewN ((Below.refl _ _).alloc (Nat.le_refl _) _) m)
        clear hb
        unfold Ent.v
        go_wp2_with fail
        go_quiet ((go_at_call 39; refine Calls.quiet_of_same ((mr_frames l b n v _ (HMA.out _ _) hn).mono fun _ _ h => ⟨h.1, h.2.symm⟩)))
        go_wp2
        go_ret2
        exact ⟨rfl, below_drewN (HB.out.alloc HB.out.size _) _⟩
    all_goals
      rw [if_pos ⟨rfl, by simp, by simp, hno⟩]
      go_enter Tryd.func18, Tryd.ntmps18
      go_wp2_with fail
      refine (H1.out _ HM.out).mono ?_
      rintro e w1 ⟨rfl, hb⟩
      have HB := Lib.hid hb
      have HMA : Hid (∀ X m, MAr ((w1.alloc X).drewN m) b v n l) := Lib.hid fun X m => (HM.out.below HB.out).below (below_drewN ((Below.refl _ _).alloc (Nat.le_refl _) _) m)
      clear hb
      unfold Ent.v
      go_wp2_with fail
      go_quiet ((go_at_call 39; refine Calls.quiet_of_same ((mr_frames l b n v _ (HMA.out _ _) hn).mono fun _ _ h => ⟨h.1, h.2.symm⟩)))
      go_wp2
      go_ret2
      exact ⟨rfl, below_drewN (HB.out.alloc HB.out.size _) _⟩
end Go.Proofs.YtehmpdgpjpifoaaDoor
