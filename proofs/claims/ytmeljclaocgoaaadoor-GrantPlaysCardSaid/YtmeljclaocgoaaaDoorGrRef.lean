/-
  facaderef16.Grants: what its functions answer; grant.Table: Clone, Get.
-/
import Derived.Test.YtmeljclaocgoaaaDoorGrAll
import Derived.Test.YtmeljclaocgoaaaDoorGrFirst
namespace Go.Proofs.YtmeljclaocgoaaaDoor
open Go.RowKit

def gIn (g : Int) : Bool := decide (0 ≤ g) && decide (g < 8)
theorem gguest_any (g : Int) (w : World) : Calls Tryd.prog 80 #[.int .i64 g] w fun e w' => e = .returned (.bool (gIn g)) ∧ w = w' := by
  have HG : Hid (∀ r : Bool, r = gIn g ↔ (r = true ↔ 0 ≤ g ∧ g < 8)) := Lib.hid fun r => by
    unfold gIn
    rw [Bool.eq_iff_iff]
    simp only [Bool.and_eq_true, decide_eq_true_eq]
  by_cases h0 : g < 0
  · go_enter Tryd.func80, Tryd.ntmps80
    go_wp2
    go_ret
    exact ⟨ret_bool ((HG.out _).2 (by simp; omega)), rfl⟩
  · go_enter Tryd.func80, Tryd.ntmps80
    go_wp2
    go_ret
    exact ⟨ret_bool ((HG.out _).2 (by simp; omega)), rfl⟩
set_option maxHeartbeats 800000 in
theorem glive_any (l : List Gr) (b : Nat) (p : Int) (w : World) (h : RGr w b l) :
    Calls Tryd.prog 81 #[.pointer (some ⟨b, 0, none⟩), .int .i64 p] w fun e w' => e = .returned (.bool (liveAt l p).isSome) ∧ w = w' := by
  by_cases h0 : p < 0
  · have hN : Hid (liveAt l p = none) := Lib.hid (by unfold liveAt; rw [if_neg (by omega)])
    have hp : decide (0 ≤ p) = false := by simp; omega
    clear h
    go_enter Tryd.func81, Tryd.ntmps81
    go_wp2
    go_ret
    exact ⟨by rw [hN.out]; rfl, rfl⟩
  · by_cases h1 : 16 ≤ p
    · have hN : Hid (liveAt l p = none) := Lib.hid (by unfold liveAt; rw [if_neg (by omega)])
      have hp : decide (p < 16) = false := by simp; omega
      clear h
      go_enter Tryd.func81, Tryd.ntmps81
      go_wp2
      go_ret
      exact ⟨by rw [hN.out]; rfl, rfl⟩
    · obtain ⟨r, rfl⟩ := Int.eq_ofNat_of_zero_le (show 0 ≤ p by omega)
      have hr : r < 16 := by omega
      obtain ⟨c0, -, -, -, -⟩ := h.cells r hr
      have hlt := blk_lt h.1
      have HL : Hid ((liveAt l (r : Int)).isSome = (l.getD r default).live) := Lib.hid (by
        unfold liveAt
        by_cases e : (l.getD r default).live = true
        · rw [if_pos ⟨by omega, by omega, by simpa using e⟩, e]; rfl
        · rw [if_neg (fun h => e (by simpa using h.2.2))]
          revert e
          cases (l.getD r default).live <;> simp)
      obtain ⟨v, hv⟩ : ∃ v, (l.getD r default).live = v := ⟨_, rfl⟩
      rw [hv] at c0 HL
      have hri : (r : Int) < 16 := by omega
      clear h hv
      go_enter Tryd.func81, Tryd.ntmps81
      go_wp2
      go_ret
      exact ⟨by rw [HL.out]; rfl, rfl⟩
theorem liveAt_is {l : List Gr} {ref : Int} {r : Nat} (h : liveAt l ref = some r) : ref = (r : Int) := by
  unfold liveAt at h
  split at h
  · rename_i hc
    obtain rfl := Option.some.inj h
    omega
  · cases h

set_option maxRecDepth 100000 in
set_option maxHeartbeats 1600000 in
theorem gset_all (l : List Gr) (b : Nat) (ref frame to_ : Int) (wr : Bool) (w : World) (h : RGr w b l) :
    Calls Tryd.prog 60 #[.pointer (some ⟨b, 0, none⟩), .int .i64 ref, .int .i64 frame, .int .i64 to_, .bool wr] w (ROpPost b (setE l ref frame to_ wr) w) := by
  by_cases hb : setBad ref frame to_ = true
  · have HR : Hid (setE l ref frame to_ wr = (l, some 2)) := Lib.hid (by unfold setE; rw [if_pos hb])
    have HG := Lib.hid (gguest_any to_)
    have HN := Lib.hid h
    have hb2 := hb
    simp only [setBad, Bool.or_eq_true, decide_eq_true_eq] at hb2
    have hc : ref < 0 ∨ (¬ ref < 0 ∧ 16 ≤ ref) ∨ (¬ ref < 0 ∧ ¬ 16 ≤ ref ∧ frame < 0) ∨ (¬ ref < 0 ∧ ¬ 16 ≤ ref ∧ ¬ frame < 0 ∧ 1024 ≤ frame) ∨ (¬ ref < 0 ∧ ¬ 16 ≤ ref ∧ ¬ frame < 0 ∧ ¬ 1024 ≤ frame ∧ gIn to_ = false) := by
      by_cases a1 : ref < 0
      · exact .inl a1
      · by_cases a2 : 16 ≤ ref
        · exact .inr (.inl ⟨a1, a2⟩)
        · by_cases a3 : frame < 0
          · exact .inr (.inr (.inl ⟨a1, a2, a3⟩))
          · by_cases a4 : 1024 ≤ frame
            · exact .inr (.inr (.inr (.inl ⟨a1, a2, a3, a4⟩)))
            · refine .inr (.inr (.inr (.inr ⟨a1, a2, a3, a4, ?_⟩)))
              unfold gIn
              rw [Bool.eq_false_iff]
              simp
              omega
    clear h hb hb2
    rcases hc with a1 | ⟨a1, a2⟩ | ⟨a1, a2, a3⟩ | ⟨a1, a2, a3, a4⟩ | ⟨a1, a2, a3, a4, a5⟩
    all_goals
      try rw [a5] at HG
      try clear a5
      go_enter Tryd.func60, Tryd.ntmps60
      go_wp2_with (go_at_call 80; refine (HG.out _).mono ?_; rintro e w1 ⟨rfl, rfl⟩)
      go_ret
      exact ⟨by rw [HR.out]; rfl, by rw [HR.out]; exact HN.out, Only.refl _ _⟩
  · have hb2 := hb
    simp only [setBad, Bool.or_eq_true, decide_eq_true_eq, not_or] at hb2
    obtain ⟨⟨⟨⟨⟨a0, a1⟩, a2⟩, a3⟩, a4⟩, a5⟩ := hb2
    obtain ⟨r, rfl⟩ := Int.eq_ofNat_of_zero_le (show 0 ≤ ref by omega)
    have hr : r < 16 := by omega
    have HG := Lib.hid (gguest_any to_)
    rw [show gIn to_ = true by unfold gIn; simp; omega] at HG
    obtain ⟨c0, c1, c2, c3, c4⟩ := h.cells r hr
    have f0 := h.free (r * 5)
    have f1 := h.free (r * 5 + 1)
    have f2 := h.free (r * 5 + 2)
    have f3 := h.free (r * 5 + 3)
    have f4 := h.free (r * 5 + 4)
    have hri : (r : Int) < 16 := by omega
    have HP := Lib.hid (h.put r hr ⟨true, wr, false, frame, to_⟩)
    have HO : Hid (Only (fun k => k = b) w (((((w.setCell ⟨b, r * 5, none⟩ (.bool true)).setCell ⟨b, r * 5 + 1, none⟩ (.bool wr)).setCell ⟨b, r * 5 + 2, none⟩ (.bool false)).setCell ⟨b, r * 5 + 3, none⟩ (.int .i64 frame)).setCell ⟨b, r * 5 + 4, none⟩ (.int .i64 to_))) := Lib.hid (only5 _ _ _ _ _ _ _ _ _ _ _ _)
    have HN := Lib.hid h
    have HR : Hid (setE l (r : Int) frame to_ wr = if (l.getD r default).live = true then (l, some 5) else (l.set r ⟨true, wr, false, frame, to_⟩, none)) := Lib.hid (by
      unfold setE
      rw [if_neg hb, Int.toNat_natCast])
    obtain ⟨v, hv⟩ : ∃ v, (l.getD r default).live = v := ⟨_, rfl⟩
    rw [hv] at c0 HR
    clear h hb hv
    cases v
    · go_enter Tryd.func60, Tryd.ntmps60
      go_wp2_with (go_at_call 80; refine (HG.out _).mono ?_; rintro e w1 ⟨rfl, rfl⟩)
      go_ret
      exact ⟨by rw [HR.out]; rfl, by rw [HR.out]; exact HP.out, HO.out⟩
    · go_enter Tryd.func60, Tryd.ntmps60
      go_wp2_with (go_at_call 80; refine (HG.out _).mono ?_; rintro e w1 ⟨rfl, rfl⟩)
      go_ret
      exact ⟨by rw [HR.out]; rfl, by rw [HR.out]; exact HN.out, Only.refl _ _⟩
set_option maxRecDepth 100000 in
set_option maxHeartbeats 1600000 in
theorem grev_all (l : List Gr) (b : Nat) (ref : Int) (w : World) (h : RGr w b l) :
    Calls Tryd.prog 61 #[.pointer (some ⟨b, 0, none⟩), .int .i64 ref] w (ROpPost b (revE l ref) w) := by
  have HL := Lib.hid (glive_any l b ref w h)
  have HN := Lib.hid h
  obtain ⟨R, hR⟩ : ∃ R, revE l ref = R := ⟨_, rfl⟩
  rw [hR]
  unfold revE at hR
  cases hn : liveAt l ref with
  | none =>
    rw [hn] at HL hR
    have HR := Lib.hid hR
    clear h hn hR
    go_enter Tryd.func61, Tryd.ntmps61
    go_wp2_with fail
    refine HL.out.mono ?_
    rintro e w1 ⟨rfl, rfl⟩
    rw [Option.isSome_none]
    go_wp2
    go_ret
    rw [← HR.out]
    exact ⟨rfl, HN.out, Only.refl _ _⟩
  | some r =>
    obtain rfl := liveAt_is hn
    have hr := (liveAt_lt hn).1
    rw [hn] at HL hR
    dsimp only at hR
    obtain ⟨c0, c1, c2, c3, c4⟩ := h.cells r hr
    have f0 := h.free (r * 5)
    have f1 := h.free (r * 5 + 1)
    have f2 := h.free (r * 5 + 2)
    have f3 := h.free (r * 5 + 3)
    have f4 := h.free (r * 5 + 4)
    have hri : (r : Int) < 16 := by omega
    have HP := Lib.hid (h.put r hr {})
    have HO : Hid (Only (fun k => k = b) w (((((w.setCell ⟨b, r * 5, none⟩ (.bool false)).setCell ⟨b, r * 5 + 1, none⟩ (.bool false)).setCell ⟨b, r * 5 + 2, none⟩ (.bool false)).setCell ⟨b, r * 5 + 3, none⟩ (.int .i64 0)).setCell ⟨b, r * 5 + 4, none⟩ (.int .i64 0))) := Lib.hid (only5 _ _ _ _ _ _ _ _ _ _ _ _)
    obtain ⟨us, hus⟩ : ∃ v, (l.getD r default).used = v := ⟨_, rfl⟩
    rw [hus] at c2
    rw [hus] at hR
    cases us
    · rw [if_neg (by decide)] at hR
      have HR := Lib.hid hR
      clear h hn hus hR
      go_enter Tryd.func61, Tryd.ntmps61
      go_wp2_with fail
      refine HL.out.mono ?_
      rintro e w1 ⟨rfl, rfl⟩
      rw [Option.isSome_some]
      go_wp2
      go_ret
      rw [← HR.out]
      exact ⟨rfl, HP.out, HO.out⟩
    · rw [if_pos rfl] at hR
      have HR := Lib.hid hR
      clear h hn hus hR
      go_enter Tryd.func61, Tryd.ntmps61
      go_wp2_with fail
      refine HL.out.mono ?_
      rintro e w1 ⟨rfl, rfl⟩
      rw [Option.isSome_some]
      go_wp2
      go_ret
      rw [← HR.out]
      exact ⟨rfl, HN.out, Only.refl _ _⟩
set_option maxRecDepth 100000 in
set_option maxHeartbeats 1600000 in
theorem gmap_all (l : List Gr) (b : Nat) (ref by_ : Int) (w : World) (h : RGr w b l) :
    Calls Tryd.prog 62 #[.pointer (some ⟨b, 0, none⟩), .int .i64 ref, .int .i64 by_] w (RMPost b (mapE l ref by_) w) := by
  have HL := Lib.hid (glive_any l b ref w h)
  have HN := Lib.hid h
  obtain ⟨R, hR⟩ : ∃ R, mapE l ref by_ = R := ⟨_, rfl⟩
  rw [hR]
  unfold mapE at hR
  cases hn : liveAt l ref with
  | none =>
    rw [hn] at HL hR
    have HR := Lib.hid hR
    clear h hn hR
    go_enter Tryd.func62, Tryd.ntmps62
    go_wp2_with fail
    refine HL.out.mono ?_
    rintro e w1 ⟨rfl, rfl⟩
    rw [Option.isSome_none]
    go_wp2
    go_ret3
    rw [← HR.out]
    exact ⟨rfl, HN.out, Only.refl _ _⟩
  | some r =>
    obtain rfl := liveAt_is hn
    have hr := (liveAt_lt hn).1
    rw [hn] at HL hR
    dsimp only at hR
    obtain ⟨c0, c1, c2, c3, c4⟩ := h.cells r hr
    have f2 := h.free (r * 5 + 2)
    have hri : (r : Int) < 16 := by omega
    have HP := Lib.hid (h.use r hr true)
    have HO := Lib.hid (only1 w b (r * 5 + 2) (.bool true))
    obtain ⟨us, hus⟩ : ∃ v, (l.getD r default).used = v := ⟨_, rfl⟩
    rw [hus] at c2
    obtain ⟨t, ht⟩ : ∃ v, (l.getD r default).to_ = v := ⟨_, rfl⟩
    rw [ht] at c4
    obtain ⟨fr, hfr⟩ : ∃ v, (l.getD r default).frame = v := ⟨_, rfl⟩
    rw [hfr] at c3
    obtain ⟨wr, hwr⟩ : ∃ v, (l.getD r default).w = v := ⟨_, rfl⟩
    rw [hwr] at c1
    by_cases ho : t = by_
    · subst ho
      rw [if_neg (fun e => e ht)] at hR
      cases us
      · rw [if_neg (by rw [hus]; decide)] at hR
        dsimp only at HP hR
        rw [hfr, hwr] at hR HP
        have HR := Lib.hid hR
        clear h hn hus ht hfr hwr hR
        go_enter Tryd.func62, Tryd.ntmps62
        go_wp2_with fail
        refine HL.out.mono ?_
        rintro e w1 ⟨rfl, rfl⟩
        rw [Option.isSome_some]
        go_wp2
        go_quiet (fail)
        go_wp2
        go_ret3
        rw [← HR.out]
        exact ⟨rfl, ⟨HP.out.1, HP.out.2⟩, ⟨HO.out.os, HO.out.tape, HO.out.output, HO.out.size, HO.out.block⟩⟩
      · rw [if_pos hus] at hR
        have HR := Lib.hid hR
        clear h hn hus ht hfr hwr hR
        go_enter Tryd.func62, Tryd.ntmps62
        go_wp2_with fail
        refine HL.out.mono ?_
        rintro e w1 ⟨rfl, rfl⟩
        rw [Option.isSome_some]
        go_wp2
        go_ret3
        rw [← HR.out]
        exact ⟨rfl, HN.out, Only.refl _ _⟩
    · have hne : (t != by_) = true := by simp [ho]
      rw [if_pos (fun e => ho (ht.symm.trans e))] at hR
      have HR := Lib.hid hR
      clear h hn hus ht hfr hwr ho hR
      go_enter Tryd.func62, Tryd.ntmps62
      go_wp2_with fail
      refine HL.out.mono ?_
      rintro e w1 ⟨rfl, rfl⟩
      rw [Option.isSome_some]
      go_wp2
      go_ret3
      rw [← HR.out]
      exact ⟨rfl, HN.out, Only.refl _ _⟩
set_option maxRecDepth 100000 in
set_option maxHeartbeats 1600000 in
theorem gunm_all (l : List Gr) (b : Nat) (ref by_ : Int) (w : World) (h : RGr w b l) :
    Calls Tryd.prog 63 #[.pointer (some ⟨b, 0, none⟩), .int .i64 ref, .int .i64 by_] w (ROpPost b (unmE l ref by_) w) := by
  have HL := Lib.hid (glive_any l b ref w h)
  have HN := Lib.hid h
  obtain ⟨R, hR⟩ : ∃ R, unmE l ref by_ = R := ⟨_, rfl⟩
  rw [hR]
  unfold unmE at hR
  cases hn : liveAt l ref with
  | none =>
    rw [hn] at HL hR
    have HR := Lib.hid hR
    clear h hn hR
    go_enter Tryd.func63, Tryd.ntmps63
    go_wp2_with fail
    refine HL.out.mono ?_
    rintro e w1 ⟨rfl, rfl⟩
    rw [Option.isSome_none]
    go_wp2
    go_ret
    rw [← HR.out]
    exact ⟨rfl, HN.out, Only.refl _ _⟩
  | some r =>
    obtain rfl := liveAt_is hn
    have hr := (liveAt_lt hn).1
    rw [hn] at HL hR
    dsimp only at hR
    obtain ⟨c0, c1, c2, c3, c4⟩ := h.cells r hr
    have f2 := h.free (r * 5 + 2)
    have hri : (r : Int) < 16 := by omega
    have HP := Lib.hid (h.use r hr false)
    have HO := Lib.hid (only1 w b (r * 5 + 2) (.bool false))
    obtain ⟨us, hus⟩ : ∃ v, (l.getD r default).used = v := ⟨_, rfl⟩
    rw [hus] at c2
    obtain ⟨t, ht⟩ : ∃ v, (l.getD r default).to_ = v := ⟨_, rfl⟩
    rw [ht] at c4
    by_cases ho : t = by_
    · subst ho
      rw [if_neg (fun e => e ht)] at hR
      cases us
      · rw [if_neg (by rw [hus]; decide)] at hR
        have HR := Lib.hid hR
        clear h hn hus ht hR
        go_enter Tryd.func63, Tryd.ntmps63
        go_wp2_with fail
        refine HL.out.mono ?_
        rintro e w1 ⟨rfl, rfl⟩
        rw [Option.isSome_some]
        go_wp2
        go_ret
        rw [← HR.out]
        exact ⟨rfl, HN.out, Only.refl _ _⟩
      · rw [if_pos hus] at hR
        have HR := Lib.hid hR
        clear h hn hus ht hR
        go_enter Tryd.func63, Tryd.ntmps63
        go_wp2_with fail
        refine HL.out.mono ?_
        rintro e w1 ⟨rfl, rfl⟩
        rw [Option.isSome_some]
        go_wp2
        go_ret
        rw [← HR.out]
        exact ⟨rfl, HP.out, HO.out⟩
    · have hne : (t != by_) = true := by simp [ho]
      rw [if_pos (fun e => ho (ht.symm.trans e))] at hR
      have HR := Lib.hid hR
      clear h hn hus ht ho hR
      go_enter Tryd.func63, Tryd.ntmps63
      go_wp2_with fail
      refine HL.out.mono ?_
      rintro e w1 ⟨rfl, rfl⟩
      rw [Option.isSome_some]
      go_wp2
      go_ret
      rw [← HR.out]
      exact ⟨rfl, HN.out, Only.refl _ _⟩

theorem ggr_zero : Tryd.zeroCells106 = (grCells none16).toArray := by kernel_rfl
end Go.Proofs.YtmeljclaocgoaaaDoor
