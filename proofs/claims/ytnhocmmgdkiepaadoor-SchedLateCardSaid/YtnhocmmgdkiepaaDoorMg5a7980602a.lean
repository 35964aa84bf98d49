/-
  Parts of one proof, one behind the other.
-/
import Derived.Test.YtnhocmmgdkiepaaDoorMgeb868af338
/-
  SchedLate: the walk. Given where the sentinels lie.
-/
namespace Go.Proofs.YtnhocmmgdkiepaaDoor
open Go.RowKit

def ltG (u : Int) : Option Gu := some ⟨100, u, false, 0⟩
def lt1 : Int → Option Gu := upd noOne 0 (ltG 0)
def lt2 : Int → Option Gu := upd lt1 1 (ltG 0)
def lt3 (a : Int) : Int → Option Gu := upd lt2 0 (ltG a)
def lt4 (a b : Int) : Int → Option Gu := upd (lt3 a) 1 (ltG b)
theorem minU_lt1 {u : Int} (h : MinU lt1 u) : u = 0 := by
  rcases h with ⟨-, h⟩ | ⟨⟨x, g, -, h, e⟩, -⟩
  · exact h
  · unfold lt1 upd at h
    split at h
    · rw [← e, ← Option.some.inj h]
    · cases h
theorem minU_lt4 {a b u : Int} (h : MinU (lt4 a b) u) : u = if b < a then b else a := by
  rcases h with ⟨h, -⟩ | ⟨⟨x, g, -, h, e⟩, h2⟩
  · have := h 1 (kw_lit 1 (by omega))
    rw [lt4, upd_same] at this
    cases this
  · have ha := h2 0 ⟨100, a, false, 0⟩ (kw_lit 0 (by omega)) rfl
    have hb := h2 1 ⟨100, b, false, 0⟩ (kw_lit 1 (by omega)) rfl
    dsimp only at ha hb
    have hc : u = a ∨ u = b := by
      unfold lt4 lt3 lt2 lt1 upd at h
      split at h
      · exact .inr (by rw [← e, ← Option.some.inj h])
      · split at h
        · exact .inl (by rw [← e, ← Option.some.inj h])
        · cases h
    split <;> omega
theorem ranU_hundred (a : Int) (h : 0 ≤ a ∧ a < 1000) : ranU 0 a 100 = a := by
  unfold ranU
  have : 100 * a / 100 = a := by omega
  rw [this, Int.zero_add, if_pos (by omega)]
theorem ranU_seven (u wt : Int) (h : 0 ≤ u ∧ u < 1000) (hw : 1 ≤ wt ∧ wt ≤ 100) : ranU u 7 wt = u + 700 / wt := by
  unfold ranU
  have h1 : (100 : Int) * 7 = 700 := rfl
  rw [h1]
  have h2 : (700 : Int) / wt ≤ 700 := Int.ediv_le_self _ (by omega)
  rw [if_pos (by omega)]
set_option maxRecDepth 100000 in
set_option maxHeartbeats 12800000 in
theorem schedLate_walk (E : Nat → Addr) (x0 x1 x2 : Int) (w : World) (hE : ErrsAt errT gOf w E all16) (h0 : -9223372036854775808 ≤ x0 ∧ x0 ≤ 9223372036854775807) (h1 : -9223372036854775808 ≤ x1 ∧ x1 ≤ 9223372036854775807) (h2 : -9223372036854775808 ≤ x2 ∧ x2 ≤ 9223372036854775807) :
    Calls Tryd.prog 3 #[.int .i64 x0, .int .i64 x1, .int .i64 x2] w fun e w' => e = .returned (.bool true) ∧ Below w.heap.size w w' := by
  have HE16 : Hid (∀ wx, Below w.heap.size w wx → ErrsAt errT gOf wx E all16) := Lib.hid fun wx h => hE.mono h
  have HE : Hid (ErrL E w) := Lib.hid fun wx h => scErr_of (hE.mono h) (by decide) (by decide) (by decide)
  have HF := Lib.hid (scfirst_true E w HE.out)
  have HN0 := Lib.hid (fun wx => number_any x0 1000 wx h0.1 h0.2 (by decide) (by decide))
  have HN1 := Lib.hid (fun wx => number_any x1 1000 wx h1.1 h1.2 (by decide) (by decide))
  have HN2 := Lib.hid (fun wx => number_any x2 100 wx h2.1 h2.2 (by decide) (by decide))
  obtain ⟨a, ha⟩ : ∃ a, x0 % 1000 = a := ⟨_, rfl⟩
  obtain ⟨b, hb⟩ : ∃ b, x1 % 1000 = b := ⟨_, rfl⟩
  obtain ⟨q, hq⟩ : ∃ q, x2 % 100 = q := ⟨_, rfl⟩
  have ra : 0 ≤ a ∧ a < 1000 := by omega
  have rb : 0 ≤ b ∧ b < 1000 := by omega
  have rq : 0 ≤ q ∧ q < 100 := by omega
  rw [ha] at HN0
  rw [hb] at HN1
  rw [hq] at HN2
  obtain ⟨wt, hwt⟩ : ∃ wt, q + 1 = wt := ⟨_, rfl⟩
  have hw : IntKind.i64.wrap (q + 1) = wt := (IntWalk.i64_in (q + 1) (by omega)).trans hwt
  have rw' : 1 ≤ wt ∧ wt ≤ 100 := by omega
  have HRA := Lib.hid ra
  have HRB := Lib.hid rb
  have HRW := Lib.hid rw'
  have HIS : Hid (∀ c : Int, (c = 0 ∨ (101 ≤ c ∧ c ≤ 116)) → ∀ wx, Below w.heap.size w wx → Calls Tryd.prog 19 #[errD E c, .int .i64 c] wx fun e w' => e = .returned (.bool true) ∧ Below wx.heap.size wx w') := Lib.hid fun c hc wx hx => by
    have := is_any E (errD E c) c c (errD_num E c hc) wx (HE16.out wx hx)
    rwa [decide_eq_true rfl] at this
  clear hE h0 h1 h2 ha hb hq ra rb rq hwt rw'
  go_enter Tryd.func3, Tryd.ntmps3
  go_wp2_with fail
  refine HF.out.mono ?_
  rintro y w0 ⟨rfl, hb0⟩
  have HN := Lib.hid (slNew w w0 hb0)
  clear hb0
  go_wp2_with fail
  refine (HN0.out _).mono ?_
  rintro y wq ⟨rfl, rfl⟩
  go_wp2_with fail
  refine (HN1.out _).mono ?_
  rintro y wq ⟨rfl, rfl⟩
  go_wp2_with fail
  refine (HN2.out _).mono ?_
  rintro y wq ⟨rfl, rfl⟩
  go_wp2_with fail
  refine HN.out.mono ?_
  rintro y w1 ⟨sb, rfl, s1⟩
  have HA1 := Lib.hid (slAdd HE.out s1 (by decide) 0 100 (by unfold addBad; omega) rfl)
  clear s1
  go_wp2_with fail
  refine HA1.out.mono ?_
  rintro y w2 ⟨rfl, u, hu, s2⟩
  obtain rfl := minU_no hu
  have HA2 := Lib.hid (slAdd (st := lt1) HE.out s2 (by decide) 1 100 (by unfold addBad; omega) rfl)
  clear s2 hu
  go_wp2_with fail
  refine HA2.out.mono ?_
  rintro y w3 ⟨rfl, u, hu, s3⟩
  obtain rfl := minU_lt1 hu
  have hr1 := slRan (st := lt2) HE.out s3 0 a (kw_lit 0 (by omega)) ⟨100, 0, false, 0⟩ rfl (by have := HRA.out; omega)
  dsimp only at hr1
  rw [ranU_hundred a HRA.out] at hr1
  have HR1 := Lib.hid hr1
  clear s3 hu hr1
  go_wp2_with fail
  refine HR1.out.mono ?_
  rintro y w4 ⟨rfl, s4⟩
  have hr2 := slRan (st := lt3 a) HE.out s4 1 b (kw_lit 1 (by omega)) ⟨100, 0, false, 0⟩ rfl (by have := HRB.out; omega)
  dsimp only at hr2
  rw [ranU_hundred b HRB.out] at hr2
  have HR2 := Lib.hid hr2
  clear s4 hr2
  go_wp2_with fail
  refine HR2.out.mono ?_
  rintro y w5 ⟨rfl, s5⟩
  have HA3 := Lib.hid (slAdd (st := lt4 a b) HE.out s5 (by decide) 2 wt (by unfold addBad; have := HRW.out; omega) rfl)
  clear s5
  go_wp2_with fail
  refine HA3.out.mono ?_
  rintro y w6 ⟨rfl, u, hu, s6⟩
  have hum := minU_lt4 hu
  have HUM := Lib.hid hum
  have HUR : Hid (0 ≤ u ∧ u < 1000) := Lib.hid (by have := HRA.out; have := HRB.out; rw [hum]; split <;> omega)
  have hs2 : upd (lt4 a b) 2 (some ⟨wt, u, false, 0⟩) 2 = some ⟨wt, u, false, 0⟩ := upd_same _ _ _
  have hu1 := sused_any w6 _ sb _ _ s6.sc 2 (kw_lit 2 (by omega))
  rw [hs2] at hu1
  dsimp only [usO, Option.isSome] at hu1
  have HU1 := Lib.hid hu1
  have S6 := Lib.hid s6
  have hr3 := slRan HE.out s6 2 7 (kw_lit 2 (by omega)) ⟨wt, u, false, 0⟩ hs2 (by omega)
  dsimp only at hr3
  rw [ranU_seven u wt HUR.out HRW.out] at hr3
  have HR3 := Lib.hid hr3
  clear hu hum hs2 hu1 s6 hr3
  go_wp2_with fail
  refine HU1.out.mono ?_
  rintro y wx ⟨rfl, rfl⟩
  go_wp2_with fail
  refine HR3.out.mono ?_
  rintro y w7 ⟨rfl, s7⟩
  obtain ⟨st7, hst7⟩ : ∃ st, upd (upd (lt4 a b) 2 (some ⟨wt, u, false, 0⟩)) 2 (some ⟨wt, u + 700 / wt, false, 0⟩) = st := ⟨_, rfl⟩
  have hs7 : st7 2 = some ⟨wt, u + 700 / wt, false, 0⟩ := by rw [← hst7]; exact upd_same _ _ _
  have h71 : st7 1 = ltG b := by rw [← hst7]; rfl
  have h73 : st7 3 = none := by rw [← hst7]; rfl
  rw [hst7] at s7
  have hu2 := sused_any w7 _ sb _ _ s7.sc 2 (kw_lit 2 (by omega))
  rw [hs7] at hu2
  dsimp only [usO, Option.isSome] at hu2
  have HU2 := Lib.hid hu2
  have HD := Lib.hid (slDel HE.out s7 2 (kw_lit 2 (by omega)) _ hs7)
  have h81 : upd st7 2 none 1 = ltG b := by rw [upd_else _ _ _ _ (by decide)]; exact h71
  have h83 : upd st7 2 none 3 = none := by rw [upd_else _ _ _ _ (by decide)]; exact h73
  have h82 : upd st7 2 none 2 = none := upd_same _ _ _
  have H81 := Lib.hid h81
  have H82 := Lib.hid h82
  have H83 := Lib.hid h83
  clear hst7 hs7 h71 h73 s7 hu2 h81 h82 h83
  go_wp2_with fail
  refine HU2.out.mono ?_
  rintro y wx ⟨rfl, rfl⟩
  go_wp2_with fail
  refine HD.out.mono ?_
  rintro y w8 ⟨rfl, s8⟩
  obtain ⟨st8, hst8⟩ : ∃ st, upd st7 2 none = st := ⟨_, rfl⟩
  rw [hst8] at s8 H81 H82 H83
  have hu3 := sused_any w8 _ sb _ _ s8.sc 2 (kw_lit 2 (by omega))
  rw [H82.out] at hu3
  dsimp only [usO, Option.isSome] at hu3
  have HU3 := Lib.hid hu3
  have HA4 := Lib.hid (slAddErr HE.out s8 (by decide) 1 5 106 (.inr ⟨by unfold addBad; omega, by rw [H81.out]; rfl, rfl⟩))
  have HR81 : Hid (scRan st8 1 (-1) = (st8, 103)) := Lib.hid (by unfold scRan; rw [H81.out]; unfold ltG; dsimp only; rw [if_pos (by omega)])
  have HR83 : Hid (scRan st8 3 0 = (st8, 107)) := Lib.hid (by unfold scRan; rw [H83.out])
  clear hst8 s8 hu3
  have hcs : (b < a ∧ (u == b) = true) ∨ (¬ b < a ∧ (u == a) = true) := by
    have := HUM.out
    by_cases h : b < a
    · rw [if_pos h] at this; exact .inl ⟨h, by rw [this]; simp⟩
    · rw [if_neg h] at this; exact .inr ⟨h, by rw [this]; simp⟩
  have k0 : (wt == 0) = false := by have := HRW.out; rw [beq_eq_false_iff_ne]; omega
  have k1 : ¬ wt = 0 := by have := HRW.out; omega
  have wb : wrap64 ((700 : Int).tdiv wt) = 700 / wt := by
    have := HRW.out
    rw [Int.tdiv_eq_ediv_of_nonneg (by omega)]
    exact IntWalk.wrap64_in _ (by
      have h2 : (700 : Int) / wt ≤ 700 := Int.ediv_le_self _ (by omega)
      have h3 : 0 ≤ (700 : Int) / wt := Int.ediv_nonneg (by omega) (by omega)
      omega)
  have hq2 : (700 : Int) / wt ≤ 700 := Int.ediv_le_self _ (by omega)
  have hq3 : 0 ≤ (700 : Int) / wt := Int.ediv_nonneg (by omega) (by have := HRW.out; omega)
  have wb2 := IntWalk.i64_in ((700 : Int) / wt) (by omega)
  have wc := IntWalk.i64_in (u + 700 / wt) (by have := HUR.out; omega)
  have wc2 := IntWalk.wrap64_in (u + 700 / wt) (by have := HUR.out; omega)
  have hv : ((u + 700 / wt) == (u + 700 / wt)) = true := by simp
  clear hq2 hq3
  rcases hcs with ⟨hba, hub⟩ | ⟨hba, hub⟩
  all_goals
    go_wp2_with fail
    refine HU3.out.mono ?_
    rintro y wx ⟨rfl, rfl⟩
    go_wp2_with fail
    refine HA4.out.mono ?_
    rintro y w9 ⟨rfl, s9⟩
    have HI1 := Lib.hid (HIS.out 106 (by omega) w9 s9.b)
    have S9 := Lib.hid s9
    clear s9
    go_wp2_with fail
    refine HI1.out.mono ?_
    rintro y wA ⟨rfl, hbA⟩
    have HA5 := Lib.hid (slAddErr HE.out (S9.out.below hbA) (by decide) 3 101 103 (.inl ⟨by unfold addBad; omega, rfl⟩))
    clear hbA
    go_wp2_with fail
    refine HA5.out.mono ?_
    rintro y wB ⟨rfl, sB⟩
    have HI2 := Lib.hid (HIS.out 103 (by omega) wB sB.b)
    have SB := Lib.hid sB
    clear sB
    go_wp2_with fail
    refine HI2.out.mono ?_
    rintro y wC ⟨rfl, hbC⟩
    have HR4 := Lib.hid (slRanErr HE.out (SB.out.below hbC) 1 (-1) (kw_lit 1 (by omega)) 103 HR81.out)
    clear hbC
    go_wp2_with fail
    refine HR4.out.mono ?_
    rintro y wD ⟨rfl, sD⟩
    have HI3 := Lib.hid (HIS.out 103 (by omega) wD sD.b)
    have SD := Lib.hid sD
    clear sD
    go_wp2_with fail
    refine HI3.out.mono ?_
    rintro y wE ⟨rfl, hbE⟩
    have HR5 := Lib.hid (slRanErr HE.out (SD.out.below hbE) 3 0 (kw_lit 3 (by omega)) 107 HR83.out)
    clear hbE
    go_wp2_with fail
    refine HR5.out.mono ?_
    rintro y wF ⟨rfl, sF⟩
    have HI4 := Lib.hid (HIS.out 107 (by omega) wF sF.b)
    have SF := Lib.hid sF
    clear sF
    go_wp2_with fail
    refine HI4.out.mono ?_
    rintro y wG ⟨rfl, hbG⟩
    have HG := Lib.hid (SF.out.below hbG)
    clear hbG
    go_wp2
    go_ret
    exact ⟨rfl, HG.out.b⟩
end Go.Proofs.YtnhocmmgdkiepaaDoor

