/-
  hcall.Batch: the calls of words.
-/
import Derived.Test.YtpmbbbgmaipmbaaDoorHcOf
import Derived.Test.YtpmbbbgmaipmbaaDoorRec
import Derived.RegionTactic
import Derived.Deep.RegionHeldLaw
import Derived.Deep.AppendLies
namespace Go.Proofs.YtpmbbbgmaipmbaaDoor
open Go.RowKit

def hcCells (x : Hc) : List Value := [.int .i64 x.num, .int .u32 x.a, .int .u32 x.b, .int .u32 x.c, .int .u32 x.d]
theorem hc_len (x : Hc) : (hcCells x).length = 5 := rfl
def goodW (z : Int) : Bool := decide (1 ≤ z) && decide (z ≤ 15) && decide (z ≠ 3)
/-- call i of words -/
def hcAt (ws : List Int) (i : Nat) : Hc := cutL (ws.getD (5 * i) 0) (argN (ws.getD (5 * i) 0)) [ws.getD (5 * i + 1) 0, ws.getD (5 * i + 2) 0, ws.getD (5 * i + 3) 0, ws.getD (5 * i + 4) 0]
def hcAll (ws : List Int) (n : Nat) : List Hc := (List.range n).map (hcAt ws)
def hcBad (ws : List Int) (n : Nat) : Option Nat := (List.range n).find? fun i => !goodW (ws.getD (5 * i) 0)
theorem hcAll_len (ws : List Int) (n : Nat) : (hcAll ws n).length = n := by simp [hcAll]
theorem hcAll_next (ws : List Int) (n : Nat) : (hcAll ws (n + 1)).flatMap hcCells = (hcAll ws n).flatMap hcCells ++ hcCells (hcAt ws n) := by
  unfold hcAll
  rw [List.range_succ, List.map_append, List.flatMap_append]
  simp
theorem hcBad_some (ws : List Int) (n j : Nat) (h : ∀ i, i < j → goodW (ws.getD (5 * i) 0) = true) (hj : j < n) (hb : goodW (ws.getD (5 * j) 0) = false) : hcBad ws n = some j := by
  unfold hcBad
  rw [List.find?_range_eq_some]
  exact ⟨by rw [hb]; rfl, by simpa using hj, fun i hi => by rw [h i hi]; rfl⟩
theorem hcBad_none (ws : List Int) (n : Nat) (h : ∀ i, i < n → goodW (ws.getD (5 * i) 0) = true) : hcBad ws n = none := by
  unfold hcBad
  rw [List.find?_eq_none]
  intro i hi
  simp only [List.mem_range] at hi
  rw [h i hi]
  decide
theorem infoCall : (Tryd.prog.info? 55).map (fun i => (i.zero, i.size, i.bytes)) = some (some (.agg #[.int .i64 0, .int .u32 0, .int .u32 0, .int .u32 0, .int .u32 0]), 5, 24) := by kernel_rfl

/-- what Batch answers, where the words are just as many -/
def BatchPost (E : Nat → Addr) (ws : List Int) (n : Nat) (w : World) (e : Ending) (w' : World) : Prop :=
  Below w.heap.size w w' ∧
  (∀ i, hcBad ws n = some i → ∃ p, w.heap.size ≤ p ∧ e = .returned (.tuple #[.slice none 0 0, .iface 32 (.pointer (some ⟨p, 0, none⟩))]) ∧ w'.heap[p]? = some (.cells #[.int .i64 (i : Int), errV (E 6)] 34 (0, 0))) ∧
  (hcBad ws n = none → ∃ v, e = .returned (.tuple #[v, .nilIface]) ∧ w'.ownsRow 0 55 5 v n ((hcAll ws n).flatMap hcCells) ∧ ∀ k, inRow v k → w.heap.size ≤ k)
def BatchTo (ws : List Int) (n : Nat) (w : World) (v i : Value) (wr : World) : Prop :=
  ∃ j : Nat, j ≤ n ∧ i = .int .i64 (j : Int) ∧ (∀ i, i < j → goodW (ws.getD (5 * i) 0) = true) ∧ wr.ownsRow 0 55 5 v j ((hcAll ws j).flatMap hcCells) ∧ (∀ k, inRow v k → w.heap.size ≤ k) ∧ Below w.heap.size w wr ∧ ∃ ao cap, v = .slice ao j cap

set_option maxHeartbeats 800000 in
theorem batch_many (E : Nat → Addr) (ao : Option Addr) (q c : Nat) (n : Int) (w : World) (hE : ErrsAt errT gOf w E all16) (h : n < 0 ∨ 16 < n) :
    Calls Tryd.prog 32 #[.slice ao q c, .int .i64 n] w fun e w' => e = .returned (.tuple #[.slice none 0 0, errV (E 3)]) ∧ Below w.heap.size w w' := by
  have c3 : w.cell? ⟨2, 0, none⟩ = some (errV (E 3)) := (hE.1 3 (by decide)).1
  have hc : n < 0 ∨ (¬ n < 0 ∧ 16 < n) := by omega
  clear hE h
  rcases hc with h | ⟨h, h'⟩
  all_goals
    go_enter Tryd.func32, Tryd.ntmps32
    go_wp2_with fail
    go_quiet (fail)
    go_wp2
    go_ret2
    exact ⟨rfl, below_drewN (Below.refl _ _) _⟩
set_option maxHeartbeats 800000 in
theorem batch_range (E : Nat → Addr) (ao : Option Addr) (q c n : Nat) (w : World) (hE : ErrsAt errT gOf w E all16) (hn : n ≤ 16) (h : q ≠ 5 * n) (hq : q ≤ 9223372036854775807) :
    Calls Tryd.prog 32 #[.slice ao q c, .int .i64 n] w fun e w' => e = .returned (.tuple #[.slice none 0 0, errV (E 2)]) ∧ Below w.heap.size w w' := by
  have c2 : w.cell? ⟨1, 0, none⟩ = some (errV (E 2)) := (hE.1 2 (by decide)).1
  have h1 : ¬ (16 : Int) < (n : Int) := by omega
  have h2 : ((q : Int) != 5 * (n : Int)) = true := by simp; omega
  clear hE h
  go_enter Tryd.func32, Tryd.ntmps32
  go_wp2_with fail
  go_quiet (fail)
  go_wp2
  go_ret2
  exact ⟨rfl, below_drewN (Below.refl _ _) _⟩
set_option maxRecDepth 100000 in
set_option maxHeartbeats 8000000 in
theorem batch_any (E : Nat → Addr) (ws : List Int) (ao : Option Addr) (c n : Nat) (w : World) (hE : ErrsAt errT gOf w E all16) (hn : n ≤ 16) (hw : ws.length = 5 * n) (hc : ws.length ≤ c) (hcm : c ≤ 9223372036854775807) (hl : AtL w ao (u32s ws)) (hz : ∀ z ∈ ws, 0 ≤ z ∧ z ≤ 4294967295) :
    Calls Tryd.prog 32 #[.slice ao ws.length c, .int .i64 n] w (BatchPost E ws n w) := by
  obtain ⟨i0, hi, hz0, hz1, hz2⟩ := info_parts infoCall
  have HL := Lib.hid hl
  have HZ := Lib.hid hz
  have HW := Lib.hid hw
  have HEK : Hid (∀ wx, Below w.heap.size w wx → wx.cell? ⟨3, 0, none⟩ = some (errV (E 6))) := Lib.hid fun wx h => ((hE.mono h).1 6 (by decide)).1
  have h1 : ¬ (16 : Int) < (n : Int) := by omega
  have h2 : ((ws.length : Int) != 5 * (n : Int)) = false := by simp; omega
  have HST : Hid (BatchTo ws n w (.slice none 0 0) (.int .i64 0) w) := Lib.hid ⟨0, Nat.zero_le _, rfl, fun i hi => absurd hi (by omega), own_nil _ _ _, fun k hk => by simp [inRow, Value.ownBlock] at hk, Below.refl _ _, none, 0, rfl⟩
  clear hE hl hz hw
  go_enter Tryd.func32, Tryd.ntmps32
  go_wp2_with fail
  go_loopw [6, 27] (fun v i wr => BatchTo ws n w v i wr) (fun _ i _ => n - (intOf i).toNat)
  case atStart => exact HST.out
  case round =>
    obtain ⟨j, hj, rfl, hgood, hown, hfr, hb, ao', cap', rfl⟩ := hrel
    have HGOOD := Lib.hid hgood
    have HOWN := Lib.hid hown
    have HFR := Lib.hid hfr
    have HB := Lib.hid hb
    clear hgood hown hfr hb HST
    by_cases hlt : j < n
    · have hji : (j : Int) < (n : Int) := by omega
      have get : ∀ i, i < 5 → ∃ b off, ao = some ⟨b, off, none⟩ ∧ wr.cell? ⟨b, off + (5 * j + i), none⟩ = some (.int .u32 (ws.getD (5 * j + i) 0)) ∧ b < w.heap.size := fun i hi => by
        obtain ⟨b, off, e, hcc, hbb⟩ := HL.out (5 * j + i) _ (u32s_get ws (5 * j + i) (by have := HW.out; omega))
        exact ⟨b, off, e, (HB.out.cell (p := ⟨b, off + (5 * j + i), none⟩) hbb).trans hcc, hbb⟩
      obtain ⟨lb, lo, rfl, d0, hlb⟩ := get 0 (by decide)
      obtain ⟨_, _, e1, d1, -⟩ := get 1 (by decide)
      cases e1
      obtain ⟨_, _, e2, d2, -⟩ := get 2 (by decide)
      cases e2
      obtain ⟨_, _, e3, d3, -⟩ := get 3 (by decide)
      cases e3
      obtain ⟨_, _, e4, d4, -⟩ := get 4 (by decide)
      cases e4
      rw [Nat.add_zero] at d0
      have HNX := Lib.hid (hcAll_next ws j)
      have HAT : Hid (hcAt ws j = cutL (ws.getD (5 * j) 0) (argN (ws.getD (5 * j) 0)) [ws.getD (5 * j + 1) 0, ws.getD (5 * j + 2) 0, ws.getD (5 * j + 3) 0, ws.getD (5 * j + 4) 0]) := Lib.hid rfl
      have HGW : Hid (goodW (ws.getD (5 * j) 0) = false → hcBad ws n = some j) := Lib.hid fun h => hcBad_some ws n j HGOOD.out hlt h
      have HGT : Hid (goodW (ws.getD (5 * j) 0) = true → ∀ i, i < j + 1 → goodW (ws.getD (5 * i) 0) = true) := Lib.hid fun h i hi => by
        by_cases e : i = j
        · subst e; exact h
        · exact HGOOD.out i (by omega)
      have hz0' : 0 ≤ ws.getD (5 * j) 0 ∧ ws.getD (5 * j) 0 ≤ 4294967295 := HZ.out _ (by
        rw [List.getD_eq_getElem?_getD, List.getElem?_eq_getElem (by have := HW.out; omega)]
        exact List.getElem_mem _)
      obtain ⟨x0, hx0⟩ : ∃ x, ws.getD (5 * j) 0 = x := ⟨_, rfl⟩
      obtain ⟨x1, hx1⟩ : ∃ x, ws.getD (5 * j + 1) 0 = x := ⟨_, rfl⟩
      obtain ⟨x2, hx2⟩ : ∃ x, ws.getD (5 * j + 2) 0 = x := ⟨_, rfl⟩
      obtain ⟨x3, hx3⟩ : ∃ x, ws.getD (5 * j + 3) 0 = x := ⟨_, rfl⟩
      obtain ⟨x4, hx4⟩ : ∃ x, ws.getD (5 * j + 4) 0 = x := ⟨_, rfl⟩
      rw [hx0] at d0 HAT HGW HGT hz0'
      rw [hx1] at d1 HAT
      rw [hx2] at d2 HAT
      rw [hx3] at d3 HAT
      rw [hx4] at d4 HAT
      have en := HEK.out _ HB.out
      have hlw : lb < wr.heap.size := Nat.lt_of_lt_of_le hlb HB.out.size
      have hb1 : 5 * (j : Int) ≤ 5 * ((j : Int) + 1) := by omega
      have hb2 : 5 * ((j : Int) + 1) ≤ (c : Int) := by have := HW.out; omega
      clear hx0 hx1 hx2 hx3 hx4 get
      have hcase : x0 = 0 ∨ 15 < x0 ∨ x0 = 3 ∨ (1 ≤ x0 ∧ x0 ≤ 15 ∧ x0 ≠ 3) := by omega
      rcases hcase with rfl | hbig | rfl | ⟨g1, g2, g3⟩
      · have HGB := Lib.hid (HGW.out (by decide))
        go_wp2_with fail
        refine (args_bad _ _ (by omega)).mono ?_
        rintro e w1 ⟨rfl, rfl⟩
        go_wp2
        go_region
        all_goals
          go_wp2
          go_ret2
          refine ⟨?_, fun i hi => ?_, fun h => ?_⟩
          · repeat (first | exact HB.out | refine Below.drew ?_ | refine Below.alloc ?_ (by first | (simp; done) | (have := HB.out.size; simp; omega)) _)
          · rw [HGB.out] at hi
            cases hi
            exact ⟨_, HB.out.size, rfl, blk_new _ _⟩
          · rw [HGB.out] at h
            cases h
      · have HGB := Lib.hid (HGW.out (by unfold goodW; simp; omega))
        have nb : ¬ x0 ≤ 15 := by omega
        go_wp2
        go_region
        all_goals
          go_wp2
          go_ret2
          refine ⟨?_, fun i hi => ?_, fun h => ?_⟩
          · repeat (first | exact HB.out | refine Below.drew ?_ | refine Below.alloc ?_ (by first | (simp; done) | (have := HB.out.size; simp; omega)) _)
          · rw [HGB.out] at hi
            cases hi
            exact ⟨_, HB.out.size, rfl, blk_new _ _⟩
          · rw [HGB.out] at h
            cases h
      · have HGB := Lib.hid (HGW.out (by decide))
        go_wp2_with fail
        refine (args_ok 3 _ (by decide) (by decide)).mono ?_
        rintro e w1 ⟨rfl, hb1⟩
        have HB1 := Lib.hid (HB.out.trans (hb1.mono HB.out.size))
        have d0' := (hb1.cell (p := ⟨lb, lo + 5 * j, none⟩) hlw).trans d0
        have en' := HEK.out _ HB1.out
        clear hb1
        go_wp2
        go_region
        all_goals
          go_wp2
          go_ret2
          refine ⟨?_, fun i hi => ?_, fun h => ?_⟩
          · repeat (first | exact HB1.out | refine Below.drew ?_ | refine Below.alloc ?_ (by first | (simp; done) | (have := HB1.out.size; simp; omega)) _)
          · rw [HGB.out] at hi
            cases hi
            exact ⟨_, HB1.out.size, rfl, blk_new _ _⟩
          · rw [HGB.out] at h
            cases h
      · obtain ⟨m, rfl⟩ := Int.eq_ofNat_of_zero_le (show 0 ≤ x0 by omega)
        have hA : argN (m : Int) = argT.getD m 0 := by unfold argN; rw [if_pos ⟨g1, g2⟩, Int.toNat_natCast]
        rw [hA] at HAT
        have ha4 := argT_le m
        obtain ⟨A, hAA⟩ : ∃ A, argT.getD m 0 = A := ⟨_, rfl⟩
        have HARGS : Hid (∀ W, Calls Tryd.prog 26 #[.int .i64 (m : Int)] W fun e w' => e = .returned (.tuple #[.int .i64 A, .bool true]) ∧ Below W.heap.size W w') := Lib.hid fun W => by rw [← hAA]; exact args_ok m W (by omega) (by omega)
        rw [hAA] at HAT ha4
        obtain ⟨n4, rfl⟩ := Int.eq_ofNat_of_zero_le ha4.1
        obtain ⟨X, hX⟩ : ∃ X, cutL (m : Int) (n4 : Int) [x1, x2, x3, x4] = X := ⟨_, rfl⟩
        obtain ⟨y0, y1, y2, y3, y4⟩ := X
        rw [hX] at HAT
        rw [HAT.out] at HNX
        have HNX' : Hid ((hcAll ws (j + 1)).flatMap hcCells = (hcAll ws j).flatMap hcCells ++ [.int .i64 y0, .int .u32 y1, .int .u32 y2, .int .u32 y3, .int .u32 y4]) := Lib.hid HNX.out
        clear HNX
        have HGT' := Lib.hid (HGT.out (by unfold goodW; simp; omega))
        have HLT : Hid (∀ W, Below wr.heap.size wr W → AtL W (some ⟨lb, lo + 5 * j + 1, none⟩) (u32s [x1, x2, x3, x4])) := Lib.hid fun W hW i v hi => by
          have put : ∀ k u, k < 4 → wr.cell? ⟨lb, lo + (5 * j + (k + 1)), none⟩ = some u → ∃ b off, (some ⟨lb, lo + 5 * j + 1, none⟩ : Option Addr) = some ⟨b, off, none⟩ ∧ W.cell? ⟨b, off + k, none⟩ = some u ∧ b < W.heap.size := fun k u hk hc => by
            refine ⟨lb, lo + 5 * j + 1, rfl, ?_, Nat.lt_of_lt_of_le hlw hW.size⟩
            rw [show lo + 5 * j + 1 + k = lo + (5 * j + (k + 1)) by omega]
            exact (hW.cell (p := ⟨lb, lo + (5 * j + (k + 1)), none⟩) hlw).trans hc
          match i, hi with
          | 0, hi => cases hi; exact put 0 _ (by decide) d1
          | 1, hi => cases hi; exact put 1 _ (by decide) d2
          | 2, hi => cases hi; exact put 2 _ (by decide) d3
          | 3, hi => cases hi; exact put 3 _ (by decide) d4
          | _ + 4, hi => cases hi
        have HMADE : Hid (∀ W, Below wr.heap.size wr W → ∀ (z a : Int) (off q cp : Nat), z = (m : Int) → a = (n4 : Int) → off = lo + 5 * j + 1 → q = 4 → Calls Tryd.prog 54 #[.int .i64 z, .int .i64 a, .slice (some ⟨lb, off, none⟩) q cp] W fun e w' => e = .returned (.agg #[.int .i64 y0, .int .u32 y1, .int .u32 y2, .int .u32 y3, .int .u32 y4]) ∧ Below W.heap.size W w') := Lib.hid fun W hW z a off q cp ez ea eo hq => by
          subst ez ea eo hq
          have := made_any (m : Int) n4 [x1, x2, x3, x4] (some ⟨lb, lo + 5 * j + 1, none⟩) cp W (by omega) (by simp; omega) (by simp) (HLT.out W hW)
          rw [hX] at this
          exact this
        have HD : Hid (∀ W, Below wr.heap.size wr W → W.cell? ⟨lb, lo + 5 * j, none⟩ = some (.int .u32 (m : Int))) := Lib.hid fun W hW => (hW.cell (p := ⟨lb, lo + 5 * j, none⟩) hlw).trans d0
        clear hA hAA hX HGT HGW HAT
        go_wp2_with fail
        refine (HARGS.out _).mono ?_
        rintro e w1 ⟨rfl, hb1⟩
        have HB1 := Lib.hid hb1
        have d0' := HD.out _ HB1.out
        clear hb1
        have HNEW : Hid (∀ (W : World) (T : TypeId) (k : Nat) (u : Value), ([.int .i64 y0, .int .u32 y1, .int .u32 y2, .int .u32 y3, .int .u32 y4] : List Value)[k]? = some u → (W.alloc (.cells #[.int .i64 y0, .int .u32 y1, .int .u32 y2, .int .u32 y3, .int .u32 y4] T)).cell? ((⟨W.heap.size, 0, none⟩ : Addr).add k) = some u) := Lib.hid fun W T k u hk => by
          rw [Addr.add_lit]
          refine (blk_cell (blk_new W (.cells #[.int .i64 y0, .int .u32 y1, .int .u32 y2, .int .u32 y3, .int .u32 y4] T)) (0 + k)).trans ?_
          rw [Nat.zero_add, List.getElem?_toArray]
          exact hk
        have HONE : Hid (∀ u ∈ ([.int .i64 y0, .int .u32 y1, .int .u32 y2, .int .u32 y3, .int .u32 y4] : List Value), u.oneCell' = true) := Lib.hid fun u hu => by
          simp only [List.mem_cons, List.not_mem_nil, or_false] at hu
          rcases hu with rfl | rfl | rfl | rfl | rfl <;> rfl
        have HOA : Hid (∀ W, Below wr.heap.size wr W → ∀ X, (W.alloc X).ownsRow 0 55 5 (.slice ao' j cap') j ((hcAll ws j).flatMap hcCells)) := Lib.hid fun W hW X => (own_only HOWN.out (F := fun _ => False) (Only.of_below hW) (fun _ _ h => h)).alloc X
        have HBA : Hid (∀ W, Below wr.heap.size wr W → ∀ X, Below w.heap.size w (W.alloc X)) := Lib.hid fun W hW X => (HB.out.trans (hW.mono HB.out.size)).alloc (Nat.le_trans HB.out.size hW.size) X
        have HDR : Hid (Below wr.heap.size wr w1.drew) := Lib.hid HB1.out.drew
        have HNE : Hid (some lb ≠ (Value.slice ao' j cap').ownBlock) := Lib.hid fun e => by
          have := HFR.out lb e.symm
          omega
        have HWM := Lib.hid (IntWalk.i64_in (m : Int) (by omega))
        have HJM : Hid (j ≤ 16) := Lib.hid (by omega)
        go_wp2
        go_region_held_law (fun w' => w'.cell? ⟨lb, lo + 5 * j, none⟩ = some (.int .u32 (m : Int)))
          (first
            | with_reducible exact HD.out _ HDR.out
            | with_reducible exact HD.out _ HB4.out
            | with_reducible assumption
            | (dsimp only; with_reducible first | exact HD.out _ HDR.out | exact HD.out _ HB4.out | exact HD.out _ (HB4.out.alloc HB4.out.size _))
            | with_reducible exact HD.out _ (HB4.out.alloc HB4.out.size _)
            | (rw [hgrow.cell_far _ (by have := HB4.out.size; simp; omega) HNE.out]; with_reducible exact HD.out _ (HB4.out.alloc HB4.out.size _)))
          (first
            | (refine step_append_lies _ (by rfl) _ _ _ (by rfl) 0 55 i0 (.agg #[.int .i64 0, .int .u32 0, .int .u32 0, .int .u32 0, .int .u32 0]) 5 24 Tryd.underlying74 hi hz0 hz1 hz2 rfl (by decide) (.slice ao' j cap') j ((hcAll ws j).flatMap hcCells) (by rfl) (HOA.out w4 HB4.out _) ⟨w4.heap.size, 0, none⟩ 1 1 [.int .i64 y0, .int .u32 y1, .int .u32 y2, .int .u32 y3, .int .u32 y4] (by rfl) rfl (HNEW.out w4 _) HONE.out (by decide) (by have := HJM.out; unfold maxLen; omega) (by omega) (Nat.zero_le _) _ rfl ?_; intro g cap w2 hown1 hgrow hat hlt1)
            | (go_at_call 54; refine (HMADE.out _ HDR.out _ _ _ _ _ (by first | rfl | exact HWM.out) (by first | rfl | omega) (by omega) (by omega)).mono ?_; rintro e w4 ⟨rfl, hb4⟩; have HB4 := Lib.hid (HDR.out.trans (hb4.mono HDR.out.size)); clear hb4))
        all_goals
          rw [← HNX'.out] at hown1
          have HO1 := Lib.hid hown1
          have HW1 := Lib.hid ((HBA.out w4 HB4.out _).grown hgrow (HBA.out w4 HB4.out _).size (fun k hk => HFR.out k hk))
          have HF1 : Hid (∀ k, inRow (.slice (some ⟨g, 0, none⟩) (j + 1) cap) k → w.heap.size ≤ k) := Lib.hid fun k hk => by
            have hk' : g = k := by simpa [inRow, Value.ownBlock] using hk
            subst hk'
            rcases hat with h | h
            · exact HFR.out g h
            · have := HB.out.size
              have := HB4.out.size
              have h' := h
              simp at h'
              omega
          clear hown1 hgrow hat hlt1
          go_wp2
          go_roundw
          case rel => exact ⟨j + 1, by omega, by go_num, HGT'.out, HO1.out, HF1.out, HW1.out, _, _, rfl⟩
          case measure => simp [intOf]; omega
    · obtain rfl : j = n := by omega
      have HBN := Lib.hid (hcBad_none ws j HGOOD.out)
      go_wp2
      go_ret2
      exact ⟨HB.out, (fun i hi => by rw [HBN.out] at hi; cases hi), fun _ => ⟨_, rfl, HOWN.out, HFR.out⟩⟩
end Go.Proofs.YtpmbbbgmaipmbaaDoor
