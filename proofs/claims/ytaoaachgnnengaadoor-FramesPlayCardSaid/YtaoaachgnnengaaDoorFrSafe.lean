/-
  FramesSafe: for every number and list of things told the call returns true; nothing that was there is turned. Given where the sentinels lie.
-/
import Derived.Test.YtaoaachgnnengaaDoorFrDoesAll
import Derived.Test.YtaoaachgnnengaaDoorFrFirst
import Derived.Test.YtaoaachgnnengaaDoorNumber
namespace Go.Proofs.YtaoaachgnnengaaDoor
open Go.RowKit Go.Deep

def SaTo (q n : Nat) (w : World) (b g x y : Nat) (i : Value) (wr : World) : Prop := ∃ (k : Nat) (l : List Fr), k ≤ q ∧ i = .int .i64 (k : Int) ∧ l.length = n ∧ FrOk (k : Int) l ∧ FrS w b g x y n l wr
def SbTo (n : Nat) (l : List Fr) (w : World) (b g x y : Nat) (i : Value) (wr : World) : Prop := ∃ k : Nat, k ≤ n ∧ i = .int .i64 (k : Int) ∧ FrS w b g x y n l wr

set_option maxRecDepth 100000 in
set_option maxHeartbeats 8000000 in
theorem framesSafe_walk (E : Nat → Addr) (x0 : Int) (l : List FDo16) (ao : Option Addr) (c1 : Nat) (w : World) (hE : ErrsAt errT gOf w E all16) (h0 : -9223372036854775808 ≤ x0 ∧ x0 ≤ 9223372036854775807) (hl : AtL w ao (l.flatMap frdoCells)) :
    Calls Tryd.prog 4 #[.int .i64 x0, .slice ao l.length c1] w fun e w' => e = .returned (.bool true) ∧ Below w.heap.size w w' := by
  have HEK : Hid (∀ wx, Below w.heap.size w wx → ErrsAt errT gOf wx E all16) := Lib.hid fun wx hx => hE.mono hx
  have HL := Lib.hid hl
  have HN0 := Lib.hid (fun wx => number_any x0 20 wx h0.1 h0.2 (by decide) (by decide))
  obtain ⟨a, ha⟩ : ∃ g : Nat, x0 % 20 = (g : Int) := ⟨(x0 % 20).toNat, by omega⟩
  have ha20 : a < 20 := by omega
  rw [ha] at HN0
  obtain ⟨n, hn⟩ : ∃ n : Nat, n = a + 1 := ⟨_, rfl⟩
  have HNI : Hid ((a : Int) + 1 = (n : Int)) := Lib.hid (by omega)
  have wa := IntWalk.i64_in ((a : Int) + 1) (by omega)
  have hn1 : 1 ≤ n := by omega
  have hn20 : n ≤ 20 := by omega
  clear hE ha hn h0 ha20 hl
  by_cases hbig : 80 < l.length
  · have hbi : (80 : Int) < (l.length : Int) := by omega
    go_enter Tryd.func4, Tryd.ntmps4
    go_wp2_with fail
    refine (fr_first E _ (HEK.out _ (Below.refl _ _))).mono ?_
    rintro e w1 ⟨rfl, hb1⟩
    have HB1 := Lib.hid hb1
    clear hb1
    go_wp2_with fail
    refine (HN0.out _).mono ?_
    rintro e w2 ⟨rfl, rfl⟩
    go_wp2_with fail
    rw [HNI.out]
    refine (fnew_ok n _ hn1 (by omega)).mono ?_
    rintro e w2 ⟨b, g, rfl, -, -, -, hb2⟩
    have HB2 := Lib.hid (HB1.out.trans (hb2.mono HB1.out.size))
    clear hb2
    go_wp2
    go_ret
    exact ⟨rfl, HB2.out⟩
  · have hbi : ¬ (80 : Int) < (l.length : Int) := by omega
    have hlen : l.length ≤ 80 := by omega
    clear hbig
    go_enter Tryd.func4, Tryd.ntmps4
    go_wp2_with fail
    refine (fr_first E _ (HEK.out _ (Below.refl _ _))).mono ?_
    rintro e w1 ⟨rfl, hb1⟩
    have HB1 := Lib.hid hb1
    clear hb1
    go_wp2_with fail
    refine (HN0.out _).mono ?_
    rintro e w2 ⟨rfl, rfl⟩
    go_wp2_with fail
    rw [HNI.out]
    refine (fnew_ok n _ hn1 (by omega)).mono ?_
    rintro e w2 ⟨b, g, rfl, hf, hbb, hgg, hb2⟩
    have HF2 := Lib.hid hf
    have HBG : Hid (w.heap.size ≤ g) := Lib.hid (Nat.le_trans HB1.out.size hgg)
    have HB2 := Lib.hid (HB1.out.trans (hb2.mono HB1.out.size))
    clear hf hbb hgg hb2
    go_wp2_with fail
    refine (rnew_ok n _ (by omega)).mono ?_
    rintro e w3 ⟨x, y, rfl, hr, hxx, hyy, hb3⟩
    have HS0 : Hid (SaTo l.length n w b g x y (.int .i64 0) w3) := Lib.hid ⟨0, List.replicate n frNo, Nat.zero_le _, rfl, List.length_replicate, frOk_new n,
      ⟨HF2.out.below hb3, hr, by have := HF2.out.lt.1; omega, by have := HF2.out.lt.2; omega, by have := HF2.out.lt.2; omega, HBG.out, Nat.le_trans HB2.out.size hyy, HB2.out.trans (hb3.mono HB2.out.size)⟩⟩
    clear hr hxx hyy hb3
    go_wp2_with fail
    go_loopw [9] (fun i wr => SaTo l.length n w b g x y i wr) (fun i _ => l.length - (intOf i).toNat)
    case atStart => exact HS0.out
    case round =>
      obtain ⟨j, m, hj, rfl, hml, hok, hs⟩ := hrel
      have HS := Lib.hid hs
      have HOK := Lib.hid hok
      have HML := Lib.hid hml
      clear hs hok hml HS0
      by_cases hlt : j < l.length
      · have hji : (j : Int) < (l.length : Int) := by omega
        have g0 := rec_get frdoCells 4 frdo_len l j 0 hlt (by decide)
        have g1 := rec_get frdoCells 4 frdo_len l j 1 hlt (by decide)
        have g2 := rec_get frdoCells 4 frdo_len l j 2 hlt (by decide)
        have g3 := rec_get frdoCells 4 frdo_len l j 3 hlt (by decide)
        obtain ⟨⟨kd, xa, xb, xc⟩, hx⟩ : ∃ x, l.getD j default = x := ⟨_, rfl⟩
        rw [hx] at g0 g1 g2 g3
        obtain ⟨sb, so, rfl, d0, hbl⟩ := HL.out _ _ g0
        obtain ⟨_, _, e1, d1, -⟩ := HL.out _ _ g1
        cases e1
        obtain ⟨_, _, e2, d2, -⟩ := HL.out _ _ g2
        cases e2
        obtain ⟨_, _, e3, d3, -⟩ := HL.out _ _ g3
        cases e3
        have c0 := (HS.out.wb.cell (p := ⟨sb, so + (j * 4 + 0), none⟩) hbl).trans d0
        have c1 := (HS.out.wb.cell (p := ⟨sb, so + (j * 4 + 1), none⟩) hbl).trans d1
        have c2 := (HS.out.wb.cell (p := ⟨sb, so + (j * 4 + 2), none⟩) hbl).trans d2
        have c3 := (HS.out.wb.cell (p := ⟨sb, so + (j * 4 + 3), none⟩) hbl).trans d3
        rw [Nat.add_zero] at c0
        rw [← Nat.add_assoc] at c1 c2 c3
        have HD := Lib.hid (does_all E m b g x y n (j : Int) kd xa xb xc wr (HS.out.errs HEK.out) HS.out.n1 HS.out.r1 HS.out.by_ HS.out.gy HS.out.xg HOK.out (by omega))
        have HOK' := Lib.hid (frDo_in HOK.out ⟨kd, xa, xb, xc⟩)
        have HML' : Hid ((frDo m ⟨kd, xa, xb, xc⟩).l.length = n) := Lib.hid (by rw [frDo_len]; exact HML.out)
        obtain ⟨m', hm'⟩ : ∃ m', (frDo m ⟨kd, xa, xb, xc⟩).l = m' := ⟨_, rfl⟩
        rw [hm'] at HD HOK' HML'
        unfold DoesPost at HD
        clear d0 d1 d2 d3 g0 g1 g2 g3 hx hbl hm'
        go_wp2_with fail
        refine HD.out.mono ?_
        rintro e w4 ⟨rfl, hn4, hr4, ho4⟩
        have HS4 := Lib.hid (HS.out.does hn4 hr4 ho4)
        have HT0 : Hid (SbTo n m' w b g x y (.int .i64 0) w4) := Lib.hid ⟨0, Nat.zero_le _, rfl, HS4.out⟩
        clear hn4 hr4 ho4 c0 c1 c2 c3
        go_wp2_with fail
        go_loopw [10] (fun i wr => SbTo n m' w b g x y i wr) (fun i _ => n - (intOf i).toNat)
        case atStart => exact HT0.out
        case round =>
          obtain ⟨k, hk, rfl, hs5⟩ := hrel
          have HS5 := Lib.hid hs5
          clear hs5 HT0
          by_cases hkl : k < n
          · have hki : (k : Int) < (n : Int) := by omega
            have HG := Lib.hid (fget_some m' b g n k _ HS5.out.n1 (by rw [HML'.out]; exact hkl))
            have hin := frOk_get HOK'.out k (by rw [HML'.out]; exact hkl)
            unfold frV at HG
            obtain ⟨⟨z0, z1, z2, z3⟩, hz⟩ : ∃ z, m'.getD k default = z := ⟨_, rfl⟩
            rw [hz] at HG hin
            dsimp only at HG
            obtain ⟨i1, i2, i3, i4, i5, i6⟩ := hin
            dsimp only at i1 i2 i3 i4 i5 i6
            have HC : Hid ((z1 ≠ 0 → z2 = 0) ∧ (z0 = -1 → z1 = 0 ∧ z2 = 0 ∧ z3 = 0)) := Lib.hid ⟨i6, fun e => by
              have := i1 e
              simp only [frNo, Fr.mk.injEq] at this
              exact this.2⟩
            have n2 : ¬ z2 < 0 := by omega
            have n3 : ¬ z3 < 0 := by omega
            clear hz i1 i2 i3 i4 i5 i6
            go_wp2_with fail
            refine HG.out.mono ?_
            rintro e w6 ⟨rfl, hb6⟩
            have HS6 := Lib.hid ((HS5.out.below hb6).below ((Below.refl _ _).alloc (Nat.le_refl _) (.cells #[.int .i64 z0, .int .i64 z1, .int .i64 z2, .int .i64 z3] 33)))
            clear hb6
            have hcase : (z0 = -1 ∧ z1 = 0 ∧ z2 = 0 ∧ z3 = 0) ∨ ((z0 == -1) = false ∧ z1 = 0) ∨ ((z0 == -1) = false ∧ (z1 != 0) = true ∧ z2 = 0) := by
              have hc := HC.out
              simp only [beq_eq_false_iff_ne, bne_iff_ne]
              by_cases e0 : z0 = -1
              · exact .inl ⟨e0, hc.2 e0⟩
              · by_cases e1 : z1 = 0
                · exact .inr (.inl ⟨e0, e1⟩)
                · exact .inr (.inr ⟨e0, e1, hc.1 e1⟩)
            clear HC
            rcases hcase with ⟨rfl, rfl, rfl, rfl⟩ | ⟨q0, rfl⟩ | ⟨q0, q1, rfl⟩
            all_goals
              go_wp2
              go_roundw
              case rel => exact ⟨k + 1, by omega, by go_num, HS6.out⟩
              case measure => simp [intOf]; omega
          · obtain rfl : k = n := by omega
            go_wp2
            go_roundw
            case rel => exact ⟨j + 1, m', by omega, by go_num, HML'.out, by have := HOK'.out; push_cast; exact this, HS5.out⟩
            case measure => simp [intOf]; omega
      · obtain rfl : j = l.length := by omega
        go_wp2
        go_ret
        exact ⟨rfl, HS.out.wb⟩
end Go.Proofs.YtaoaachgnnengaaDoor
