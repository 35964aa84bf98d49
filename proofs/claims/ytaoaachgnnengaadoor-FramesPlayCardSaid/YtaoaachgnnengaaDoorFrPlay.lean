/-
  FramesPlay: for every number, list of things told and owner asked the call returns true; nothing that was there is turned. Given where the sentinels lie.
-/
import Derived.Test.YtaoaachgnnengaaDoorFrSafe
namespace Go.Proofs.YtaoaachgnnengaaDoor
open Go.RowKit Go.Deep

theorem lexStart16 (l : List Oper) (hn : Region.noSelect l.toArray = true) (h : Region.lexFrom .any l.toArray l.toArray.size 0 (Array.replicate l.toArray.size false) = true) : Region.lexB .any l.toArray = true := by
  unfold Region.lexB
  rw [hn, h]
  rfl
theorem lexStep16 {md : Region.Mode} {ops : Array Oper} {m k : Nat} {listed : Array Bool} (h1 : ((Region.ready md ops listed).contains k && Region.free md ops listed k) = true) (h2 : Region.lexFrom md ops m (k + 1) (listed.setIfInBounds k true) = true) : Region.lexFrom md ops (m + 1) k listed = true := by
  rw [Region.lexFrom, h1, h2]
  rfl
def PlTo (n : Nat) (l : List Fr) (w : World) (b g x y : Nat) (i : Value) (wr : World) : Prop := ∃ k : Nat, k ≤ n + 2 ∧ i = .int .i64 ((k : Int) - 1) ∧ FrS w b g x y n l wr

set_option maxRecDepth 100000 in
set_option maxHeartbeats 1600000 in
theorem framesPlay_bad (E : Nat → Addr) (x0 : Int) (ao : Option Addr) (q c1 : Nat) (who : Int) (w : World) (hE : ErrsAt errT gOf w E all16) (h : x0 < 1 ∨ 1024 < x0) :
    Calls Tryd.prog 6 #[.int .i64 x0, .slice ao q c1, .int .i64 who] w fun e w' => e = .returned (.bool true) ∧ Below w.heap.size w w' := by
  have HEK : Hid (∀ wx, Below w.heap.size w wx → ErrsAt errT gOf wx E all16) := Lib.hid fun wx hx => hE.mono hx
  have HH := Lib.hid h
  have hc : x0 < 1 ∨ (¬ x0 < 1 ∧ 1024 < x0) := by omega
  clear hE h
  rcases hc with hc | ⟨hc, hd⟩
  all_goals
    go_enter Tryd.func6, Tryd.ntmps6
    go_wp2_with fail
    refine (fr_first E _ (HEK.out _ (Below.refl _ _))).mono ?_
    rintro e w1 ⟨rfl, hb1⟩
    have HB1 := Lib.hid hb1
    clear hb1
    go_wp2_with fail
    refine (fnew_bad E _ _ (HEK.out _ HB1.out) HH.out).mono ?_
    rintro e w2 ⟨rfl, hb2⟩
    have HB2 := Lib.hid (HB1.out.trans (hb2.mono HB1.out.size))
    clear hb2
    go_wp2_with fail
    refine (is_any E (errV (E 2)) 103 103 (.inr ⟨2, by decide, rfl, rfl⟩) _ (HEK.out _ HB2.out)).mono ?_
    rintro e w3 ⟨rfl, hb3⟩
    have HB3 := Lib.hid (HB2.out.trans (hb3.mono HB2.out.size))
    clear hb3
    go_wp2
    go_ret
    exact ⟨by simp, HB3.out⟩
set_option maxRecDepth 100000 in
set_option maxHeartbeats 1600000 in
theorem framesPlay_many (E : Nat → Addr) (n : Nat) (ao : Option Addr) (q c1 : Nat) (who : Int) (w : World) (hE : ErrsAt errT gOf w E all16) (hn1 : 1 ≤ n) (hn2 : n ≤ 1024) (h : 20 < n ∨ 80 < q) :
    Calls Tryd.prog 6 #[.int .i64 (n : Int), .slice ao q c1, .int .i64 who] w fun e w' => e = .returned (.bool true) ∧ Below w.heap.size w w' := by
  have HEK : Hid (∀ wx, Below w.heap.size w wx → ErrsAt errT gOf wx E all16) := Lib.hid fun wx hx => hE.mono hx
  have h1 : ¬ (n : Int) < 1 := by omega
  have h2 : ¬ (1024 : Int) < (n : Int) := by omega
  have hc : (20 : Int) < (n : Int) ∨ (¬ (20 : Int) < (n : Int) ∧ (80 : Int) < (q : Int)) := by omega
  clear hE h
  rcases hc with hc | ⟨hc, hd⟩
  all_goals
    go_enter Tryd.func6, Tryd.ntmps6
    go_wp2_with fail
    refine (fr_first E _ (HEK.out _ (Below.refl _ _))).mono ?_
    rintro e w1 ⟨rfl, hb1⟩
    have HB1 := Lib.hid hb1
    clear hb1
    go_wp2_with fail
    refine (fnew_ok n _ hn1 hn2).mono ?_
    rintro e w2 ⟨b, g, rfl, -, -, -, hb2⟩
    have HB2 := Lib.hid (HB1.out.trans (hb2.mono HB1.out.size))
    clear hb2
    go_wp2
    go_ret
    exact ⟨rfl, HB2.out⟩

set_option maxRecDepth 100000 in
set_option maxHeartbeats 8000000 in
theorem framesPlay_some (E : Nat → Addr) (n : Nat) (l : List FDo16) (ao : Option Addr) (c1 : Nat) (who : Int) (w : World) (hE : ErrsAt errT gOf w E all16) (hn1 : 1 ≤ n) (hn20 : n ≤ 20) (hlen : l.length ≤ 80) (hl : AtL w ao (l.flatMap frdoCells)) :
    Calls Tryd.prog 6 #[.int .i64 (n : Int), .slice ao l.length c1, .int .i64 who] w fun e w' => e = .returned (.bool true) ∧ Below w.heap.size w w' := by
  have HEK : Hid (∀ wx, Below w.heap.size w wx → ErrsAt errT gOf wx E all16) := Lib.hid fun wx hx => hE.mono hx
  have HL := Lib.hid hl
  have h1 : ¬ (n : Int) < 1 := by omega
  have h2 : ¬ (1024 : Int) < (n : Int) := by omega
  have h3 : ¬ (20 : Int) < (n : Int) := by omega
  have hbi : ¬ (80 : Int) < (l.length : Int) := by omega
  have HNN := Lib.hid (And.intro hn1 (And.intro hn20 hlen))
  clear hE hl
  go_enter Tryd.func6, Tryd.ntmps6
  go_wp2_with fail
  refine (fr_first E _ (HEK.out _ (Below.refl _ _))).mono ?_
  rintro e w1 ⟨rfl, hb1⟩
  have HB1 := Lib.hid hb1
  clear hb1
  go_wp2_with fail
  refine (fnew_ok n _ hn1 (by omega)).mono ?_
  rintro e w2 ⟨b, g, rfl, hf, hbb, hgg, hb2⟩
  have HF2 := Lib.hid hf
  have HBG : Hid (w.heap.size ≤ g) := Lib.hid (Nat.le_trans HB1.out.size hgg)
  have HB2 := Lib.hid (HB1.out.trans (hb2.mono HB1.out.size))
  clear hf hbb hgg hb2
  go_wp2_with fail
  refine (rnew_ok n _ (by omega)).mono ?_
  rintro e w3 ⟨x, y, rfl, hr, hxx, hyy, hb3⟩
  have HS0 : Hid (SaTo l.length n w b g x y (.int .i64 0) w3) := Lib.hid ⟨0, List.replicate n frNo, Nat.zero_le _, rfl, List.length_replicate, frOk_new n,
    ⟨HF2.out.below hb3, hr, by have := HF2.out.lt.1; omega, by have := HF2.out.lt.2; omega, by have := HF2.out.lt.2; omega, HBG.out, Nat.le_trans HB2.out.size hyy, HB2.out.trans (hb3.mono HB2.out.size)⟩⟩
  clear hr hxx hyy hb3
  go_wp2_with fail
  go_loopw [11] (fun i wr => SaTo l.length n w b g x y i wr) (fun i _ => l.length - (intOf i).toNat)
  case atStart => exact HS0.out
  case round =>
    obtain ⟨j, m, hj, rfl, hml, hok, hs⟩ := hrel
    have HS := Lib.hid hs
    have HOK := Lib.hid hok
    have HML := Lib.hid hml
    clear hs hok hml HS0
    by_cases hlt : j < l.length
    · have hji : (j : Int) < (l.length : Int) := by omega
      have g0 := rec_get frdoCells 4 frdo_len l j 0 hlt (by decide)
      have g1 := rec_get frdoCells 4 frdo_len l j 1 hlt (by decide)
      have g2 := rec_get frdoCells 4 frdo_len l j 2 hlt (by decide)
      have g3 := rec_get frdoCells 4 frdo_len l j 3 hlt (by decide)
      obtain ⟨⟨kd, xa, xb, xc⟩, hx⟩ : ∃ x, l.getD j default = x := ⟨_, rfl⟩
      rw [hx] at g0 g1 g2 g3
      obtain ⟨sb, so, rfl, d0, hbl⟩ := HL.out _ _ g0
      obtain ⟨_, _, e1, d1, -⟩ := HL.out _ _ g1
      cases e1
      obtain ⟨_, _, e2, d2, -⟩ := HL.out _ _ g2
      cases e2
      obtain ⟨_, _, e3, d3, -⟩ := HL.out _ _ g3
      cases e3
      have HD : Hid (∀ wx, Below w.heap.size w wx → wx.cell? ⟨sb, so + j * 4, none⟩ = some (.int .i64 kd) ∧ wx.cell? ⟨sb, so + j * 4 + 1, none⟩ = some (.int .i64 xa) ∧ wx.cell? ⟨sb, so + j * 4 + 2, none⟩ = some (.int .i64 xb) ∧ wx.cell? ⟨sb, so + j * 4 + 3, none⟩ = some (.int .i64 xc)) := Lib.hid fun wx h =>
        ⟨(h.cell (p := ⟨sb, so + (j * 4 + 0), none⟩) hbl).trans d0, by rw [Nat.add_assoc]; exact (h.cell (p := ⟨sb, so + (j * 4 + 1), none⟩) hbl).trans d1, by rw [Nat.add_assoc]; exact (h.cell (p := ⟨sb, so + (j * 4 + 2), none⟩) hbl).trans d2, by rw [Nat.add_assoc]; exact (h.cell (p := ⟨sb, so + (j * 4 + 3), none⟩) hbl).trans d3⟩
      have HDO : Hid (∀ wx, FrS w b g x y n m wx → Calls Tryd.prog 20 #[.pointer (some ⟨b, 0, none⟩), .pointer (some ⟨x, 0, none⟩), .agg #[.int .i64 kd, .int .i64 xa, .int .i64 xb, .int .i64 xc]] wx (DoesPost b g x y n (frDo m ⟨kd, xa, xb, xc⟩).l wx)) := Lib.hid fun wx h => does_all E m b g x y n (j : Int) kd xa xb xc wx (h.errs HEK.out) h.n1 h.r1 h.by_ h.gy h.xg HOK.out (by omega)
      have HOK' := Lib.hid (frDo_in HOK.out ⟨kd, xa, xb, xc⟩)
      have HML' : Hid ((frDo m ⟨kd, xa, xb, xc⟩).l.length = n) := Lib.hid (by rw [frDo_len]; exact HML.out)
      obtain ⟨m', hm'⟩ : ∃ m', (frDo m ⟨kd, xa, xb, xc⟩).l = m' := ⟨_, rfl⟩
      rw [hm'] at HDO HOK' HML'
      unfold DoesPost at HDO
      clear d0 d1 d2 d3 g0 g1 g2 g3 hx hbl hm'
      go_wp2_with fail
      refine (fclone_any m b g n wr (by rw [HML.out]; omega) (by rw [HML.out]; omega) HS.out.n1).mono ?_
      rintro e w4 ⟨cb, rfl, hcl, hb4⟩
      have HCL := Lib.hid hcl
      have HS4 := Lib.hid (HS.out.below hb4)
      have HGL : Hid (g < wr.heap.size ∧ y < wr.heap.size) := Lib.hid ⟨HS.out.n1.lt.2, HS.out.r1.lt.2⟩
      obtain ⟨co, cc, hrd⟩ := hcl.rd
      have HOF := Lib.hid (fof_any m cb cc co (-1) w4 (by rw [HML.out]; omega) hrd)
      unfold OfPost at HOF
      rw [HML.out] at HOF
      obtain ⟨lw, hlw⟩ : ∃ z, (frOf m (-1) n).length = z := ⟨_, rfl⟩
      have HLW := Lib.hid hlw
      rw [hlw] at HOF
      clear hcl hb4 hrd hlw
      go_wp2_with fail
      refine HOF.out.mono ?_
      rintro e w5 ⟨v5, rfl, -, -, hb5, ao5, cap5, rfl⟩
      have HS5 := Lib.hid (HS4.out.below hb5)
      have HCL5 := Lib.hid (HCL.out.below hb5)
      obtain ⟨c0, c1, c2, c3⟩ := HD.out _ HS5.out.wb
      clear hb5
      go_wp2_with fail
      refine (HDO.out _ HS5.out).mono ?_
      rintro e w6 ⟨rfl, hn6, hr6, ho6⟩
      have HS6 := Lib.hid (HS5.out.does hn6 hr6 ho6)
      have HCL6 := Lib.hid (HCL5.out.only ho6 (fun k hk => by rcases hk with rfl | rfl; exact HGL.out.1; exact HGL.out.2))
      obtain ⟨co6, cc6, hrd6⟩ := HCL6.out.rd
      have HOF6 := Lib.hid (fof_any m cb cc6 co6 (-1) w6 (by rw [HML.out]; omega) hrd6)
      unfold OfPost at HOF6
      rw [HML.out, HLW.out] at HOF6
      clear hn6 hr6 ho6 hrd6 c0 c1 c2 c3
      go_wp2_with fail
      refine HOF6.out.mono ?_
      rintro e w7 ⟨v7, rfl, -, -, hb7, ao7, cap7, rfl⟩
      have HS7 := Lib.hid (HS6.out.below hb7)
      have HT0 : Hid (PlTo n m' w b g x y (.int .i64 (-1)) w7) := Lib.hid ⟨0, Nat.zero_le _, rfl, HS7.out⟩
      clear hb7
      go_wp2_with fail
      go_loopw [14] (fun i wr => PlTo n m' w b g x y i wr) (fun i _ => ((n : Int) + 1 - intOf i).toNat)
      case atStart => exact HT0.out
      case round =>
        obtain ⟨k, hk, rfl, hs8⟩ := hrel
        have HS8 := Lib.hid hs8
        clear hs8 HT0
        by_cases hend : k = n + 2
        · subst hend
          have hv : ((n + 2 : Nat) : Int) - 1 = (n : Int) + 1 := by omega
          rw [hv]
          have hgt : ¬ (n : Int) + 1 ≤ (n : Int) := by omega
          go_wp2
          go_roundw
          case rel => exact ⟨j + 1, m', by omega, by go_num, HML'.out, by have := HOK'.out; push_cast; exact this, HS8.out⟩
          case measure => simp [intOf]; omega
        · by_cases hin : 1 ≤ k ∧ k ≤ n
          · obtain ⟨r, hr⟩ : ∃ r, k = r + 1 := ⟨k - 1, by omega⟩
            subst hr
            have hv : ((r + 1 : Nat) : Int) - 1 = (r : Int) := by omega
            rw [hv]
            have hrn : r < n := by omega
            have hri : (r : Int) < (n : Int) := by omega
            have hrl : (r : Int) ≤ (n : Int) := by omega
            have hr0 : (0 : Int) ≤ (r : Int) := by omega
            have HG := Lib.hid (fget_some m' b g n r _ HS8.out.n1 (by rw [HML'.out]; exact hrn))
            unfold frV at HG
            obtain ⟨⟨z0, z1, z2, z3⟩, hz⟩ : ∃ z, m'.getD r default = z := ⟨_, rfl⟩
            rw [hz] at HG
            have HZ := Lib.hid hz
            dsimp only at HG
            clear hz hend hin
            go_wp2_with fail
            refine HG.out.mono ?_
            rintro e w9 ⟨rfl, hb9⟩
            obtain ⟨wA, hwA⟩ : ∃ wA, wA = w9.alloc (.cells #[.int .i64 z0, .int .i64 z1, .int .i64 z2, .int .i64 z3] 33) := ⟨_, rfl⟩
            have HSA : Hid (FrS w b g x y n m' wA) := Lib.hid ((HS8.out.below hb9).below (hwA ▸ (Below.refl _ _).alloc (Nat.le_refl _) _))
            have HXA : Hid (wA.heap[w9.heap.size]? = some (.cells #[.int .i64 z0, .int .i64 z1, .int .i64 z2, .int .i64 z3] 33 (0, 0))) := Lib.hid (hwA ▸ blk_new w9 _)
            have HWA := Lib.hid hwA
            clear hb9 hwA
            go_wp2_with fail
            rw [← HWA.out]
            have a0 : wA.cell? ⟨w9.heap.size, 0, none⟩ = some (.int .i64 z0) := blk_cell HXA.out 0
            have a1 : wA.cell? ⟨w9.heap.size, 1, none⟩ = some (.int .i64 z1) := blk_cell HXA.out 1
            have a2 : wA.cell? ⟨w9.heap.size, 2, none⟩ = some (.int .i64 z2) := blk_cell HXA.out 2
            have a3 : wA.cell? ⟨w9.heap.size, 3, none⟩ = some (.int .i64 z3) := blk_cell HXA.out 3
            have bh := HSA.out.r1.hdr
            obtain ⟨b0, b1, b2, b3⟩ := HSA.out.r1.cells r (by rw [HML'.out]; exact hrn)
            rw [HML'.out] at bh
            rw [HZ.out] at b0 b1 b2 b3
            dsimp only at b0 b1 b2 b3
            (try simp only [List.append])
            go_quiet (fail)
            go_wp2
            go_roundw
            case rel => exact ⟨r + 2, by omega, by go_num, HSA.out.below (below_drewN (Below.refl _ _) _)⟩
            case measure => simp [intOf]; omega
          · have hv : ((k : Int) - 1 = -1 ∨ (k : Int) - 1 = (n : Int)) := by omega
            have HG := Lib.hid (fget_none m' b g n ((k : Int) - 1) _ HS8.out.n1 (by rw [HML'.out]; omega))
            have HK := Lib.hid (And.intro hk hend)
            obtain ⟨t, ht⟩ : ∃ t, (k : Int) - 1 = t := ⟨_, rfl⟩
            rw [ht] at HG hv ⊢
            have HT := Lib.hid ht
            have htl : t ≤ (n : Int) := by omega
            have wt := IntWalk.i64_in (t + 1) (by omega)
            have HTI : Hid (t = -1 ∨ t = (n : Int)) := Lib.hid hv
            clear ht hend hin hv hk
            have hc : (¬ 0 ≤ t) ∨ (0 ≤ t ∧ ¬ t < (n : Int)) := by have := HTI.out; omega
            have hcb : (decide (0 ≤ t) = false) ∨ (decide (0 ≤ t) = true ∧ decide (t < (n : Int)) = false) := by
              rcases hc with hc | ⟨hc, hd⟩
              · exact .inl (decide_eq_false hc)
              · exact .inr ⟨decide_eq_true hc, decide_eq_false hd⟩
            clear hc
            rcases hcb with hc | ⟨hc, hd⟩
            all_goals
              go_wp2_with fail
              refine HG.out.mono ?_
              rintro e w9 ⟨rfl, hb9⟩
              have HS9 := Lib.hid ((HS8.out.below hb9).below ((Below.refl _ _).alloc (Nat.le_refl _) (.cells #[.int .i64 0, .int .i64 0, .int .i64 0, .int .i64 0] 33)))
              clear hb9
              go_wp2_with fail
              (try simp only [List.append])
              go_quiet (fail)
              go_wp2
              go_roundw
              case rel => exact ⟨k + 1, by have := HK.out; omega, by have := HT.out; go_num, HS9.out.below (below_drewN (Below.refl _ _) _)⟩
              case measure => simp [intOf]; omega
    · obtain rfl : j = l.length := by omega
      have HO1 := Lib.hid (fof_any m b n _ who wr (by rw [HML.out]; omega) HS.out.n1.rd)
      unfold OfPost at HO1
      rw [HML.out] at HO1
      have HFL := Lib.hid (frOf_len m who n)
      obtain ⟨L, hL⟩ : ∃ L, frOf m who n = L := ⟨_, rfl⟩
      rw [hL] at HO1 HFL
      have HLL := Lib.hid hL
      clear hL hlt
      go_wp2_with fail
      refine HO1.out.mono ?_
      rintro e w4 ⟨v4, rfl, ho4, hf4, hb4, ao4, cap4, rfl⟩
      have HS4 := Lib.hid (HS.out.below hb4)
      have HR4 := Lib.hid (atL_of_own ho4)
      have HO2 := Lib.hid (rof_any m x n _ who w4 (by rw [HML.out]; omega) (FrAt.rd HS4.out.r1))
      unfold OfPost at HO2
      rw [HML.out, HLL.out] at HO2
      clear ho4 hf4 hb4
      go_wp2_with fail
      refine HO2.out.mono ?_
      rintro e w5 ⟨v5, rfl, ho5, hf5, hb5, ao5, cap5, rfl⟩
      have HS5 := Lib.hid (HS4.out.below hb5)
      have HAT4 : Hid (AtL w5 ao4 (ints L)) := Lib.hid (by
        obtain ⟨ao', cap', he, hat⟩ := HR4.out
        cases he
        exact hat.mono hb5)
      have HAT5 : Hid (AtL w5 ao5 (ints L)) := Lib.hid (by
        obtain ⟨ao', cap', he, hat⟩ := atL_of_own ho5
        cases he
        exact hat)
      clear ho5 hf5 hb5
      go_wp2_with fail
      refine (sameInts_any L L ao4 ao5 cap4 cap5 w5 HAT4.out HAT5.out (by have := HFL.out; omega) (by have := HFL.out; omega)).mono ?_
      rintro e w6 ⟨rfl, nq, rfl⟩
      have HB6 : Hid (Below w.heap.size w (w5.drewN nq)) := Lib.hid (below_drewN HS5.out.wb _)
      go_wp2
      go_ret
      exact ⟨by simp, HB6.out⟩
theorem framesPlay_walk (E : Nat → Addr) (x0 : Int) (l : List FDo16) (ao : Option Addr) (c1 : Nat) (who : Int) (w : World) (hE : ErrsAt errT gOf w E all16) (hl : AtL w ao (l.flatMap frdoCells)) :
    Calls Tryd.prog 6 #[.int .i64 x0, .slice ao l.length c1, .int .i64 who] w fun e w' => e = .returned (.bool true) ∧ Below w.heap.size w w' := by
  by_cases h : x0 < 1 ∨ 1024 < x0
  · exact framesPlay_bad E x0 ao l.length c1 who w hE h
  · obtain ⟨n, rfl⟩ := Int.eq_ofNat_of_zero_le (show 0 ≤ x0 by omega)
    by_cases h2 : 20 < n ∨ 80 < l.length
    · exact framesPlay_many E n ao l.length c1 who w hE (by omega) (by omega) h2
    · exact framesPlay_some E n l ao c1 who w hE (by omega) (by omega) (by omega) hl
end Go.Proofs.YtaoaachgnnengaaDoor
