/-
  facaderef16.Batch: the calls of words, or why not, as the document has it.
-/
import Derived.Test.YtpmbbbgmaipmbaaDoorHcRef
namespace Go.Proofs.YtpmbbbgmaipmbaaDoor
open Go.RowKit

theorem infoRCall : (Tryd.prog.info? 61).map (fun i => (i.zero, i.size, i.bytes)) = some (some (.agg #[.int .i64 0, .int .u32 0, .int .u32 0, .int .u32 0, .int .u32 0]), 5, 24) := by kernel_rfl
def fltZ : Obj := .cells #[.int .i64 0, .bool false, .int .i64 0] 80 (0, 0)
/-- what the document's Batch answers -/
def RBatchPost (ws : List Int) (n : Nat) (w : World) (e : Ending) (w' : World) : Prop :=
  Below w.heap.size w w' ∧
  (∀ i, hcBad ws n = some i → e = .returned (.tuple #[.slice none 0 0, .agg #[.int .i64 107, .bool true, .int .i64 (i : Int)]])) ∧
  (hcBad ws n = none → ∃ v, e = .returned (.tuple #[v, .agg #[.int .i64 0, .bool false, .int .i64 0]]) ∧ w'.ownsRow 0 61 5 v n ((hcAll ws n).flatMap hcCells) ∧ ∀ k, inRow v k → w.heap.size ≤ k)
def RBatchTo (ws : List Int) (n : Nat) (s : Nat) (w : World) (v i : Value) (wr : World) : Prop :=
  ∃ j : Nat, j ≤ n ∧ i = .int .i64 (j : Int) ∧ (∀ i, i < j → goodW (ws.getD (5 * i) 0) = true) ∧ wr.ownsRow 0 61 5 v j ((hcAll ws j).flatMap hcCells) ∧ (∀ k, inRow v k → s ≤ k) ∧ Below s w wr ∧ ∃ ao cap, v = .slice ao j cap
/-- the cells of the result that lies there -/
theorem flt_at {w w1 : World} {s : Nat} (h : w.heap[s]? = some fltZ) (hb : Below (s + 1) w w1) : w1.heap[s]? = some (.cells #[.int .i64 0, .bool false, .int .i64 0] 80 (0, 0)) := by
  rw [hb.block _ (by omega)]
  exact h

set_option maxRecDepth 100000 in
set_option maxHeartbeats 800000 in
theorem rbatch_many (ao : Option Addr) (q c : Nat) (n : Int) (w : World) (h : n < 0 ∨ 16 < n) :
    Calls Tryd.prog 38 #[.slice ao q c, .int .i64 n] w fun e w' => e = .returned (.tuple #[.slice none 0 0, .agg #[.int .i64 104, .bool false, .int .i64 0]]) ∧ Below w.heap.size w w' := by
  have hc : n < 0 ∨ (¬ n < 0 ∧ 16 < n) := by omega
  clear h
  rcases hc with h | ⟨h, h'⟩
  all_goals
    go_enter Tryd.func38, Tryd.ntmps38
    go_wp2_with fail
    refine (bare_any _ _).mono ?_
    rintro e w1 ⟨rfl, hb1⟩
    have hblk := flt_at (blk_new w (.cells #[.int .i64 0, .bool false, .int .i64 0] 80)) (hb1.mono (by simp))
    have c0 := blk_cell hblk 0
    have c1 := blk_cell hblk 1
    have c2 := blk_cell hblk 2
    have f0 := blk_free hblk 0
    have f1 := blk_free hblk 1
    have f2 := blk_free hblk 2
    have hlt := blk_lt hblk
    have HB := Lib.hid (show Below w.heap.size w w1 from ((Below.refl _ _).alloc (Nat.le_refl _) _).trans (hb1.mono (by simp)))
    clear hb1 hblk
    go_wp2
    exact bodyPost_ret (v := .tuple #[.slice none 0 0, .agg #[.int .i64 104, .bool false, .int .i64 0]]) (by simp [results, Tryd.results38, go_sem, c0, c1, c2, f0, f1, f2, hlt]) rfl ⟨rfl, ((HB.out.setCell (Nat.le_refl _) _).setCell (Nat.le_refl _) _).setCell (Nat.le_refl _) _⟩
set_option maxRecDepth 100000 in
set_option maxHeartbeats 800000 in
theorem rbatch_range (ao : Option Addr) (q c n : Nat) (w : World) (hn : n ≤ 16) (h : q ≠ 5 * n) (hq : q ≤ 9223372036854775807) :
    Calls Tryd.prog 38 #[.slice ao q c, .int .i64 n] w fun e w' => e = .returned (.tuple #[.slice none 0 0, .agg #[.int .i64 103, .bool false, .int .i64 0]]) ∧ Below w.heap.size w w' := by
  have h1 : ¬ (16 : Int) < (n : Int) := by omega
  have h2 : ((q : Int) != 5 * (n : Int)) = true := by simp; omega
  clear h
  go_enter Tryd.func38, Tryd.ntmps38
  go_wp2_with fail
  refine (bare_any _ _).mono ?_
  rintro e w1 ⟨rfl, hb1⟩
  have hblk := flt_at (blk_new w (.cells #[.int .i64 0, .bool false, .int .i64 0] 80)) (hb1.mono (by simp))
  have c0 := blk_cell hblk 0
  have c1 := blk_cell hblk 1
  have c2 := blk_cell hblk 2
  have f0 := blk_free hblk 0
  have f1 := blk_free hblk 1
  have f2 := blk_free hblk 2
  have hlt := blk_lt hblk
  have HB := Lib.hid (show Below w.heap.size w w1 from ((Below.refl _ _).alloc (Nat.le_refl _) _).trans (hb1.mono (by simp)))
  clear hb1 hblk
  go_wp2
  exact bodyPost_ret (v := .tuple #[.slice none 0 0, .agg #[.int .i64 103, .bool false, .int .i64 0]]) (by simp [results, Tryd.results38, go_sem, c0, c1, c2, f0, f1, f2, hlt]) rfl ⟨rfl, ((HB.out.setCell (Nat.le_refl _) _).setCell (Nat.le_refl _) _).setCell (Nat.le_refl _) _⟩

set_option maxRecDepth 100000 in
set_option maxHeartbeats 8000000 in
theorem rbatch_any (ws : List Int) (ao : Option Addr) (c n : Nat) (w : World) (hn : n ≤ 16) (hw : ws.length = 5 * n) (hc : ws.length ≤ c) (hcm : c ≤ 9223372036854775807) (hl : AtL w ao (u32s ws)) (hz : ∀ z ∈ ws, 0 ≤ z ∧ z ≤ 4294967295) :
    Calls Tryd.prog 38 #[.slice ao ws.length c, .int .i64 n] w (RBatchPost ws n w) := by
  obtain ⟨i0, hi, hz0, hz1, hz2⟩ := info_parts infoRCall
  have HL : Hid (AtL (w.alloc (.cells #[.int .i64 0, .bool false, .int .i64 0] 80)) ao (u32s ws)) := Lib.hid (hl.mono ((Below.refl _ _).alloc (Nat.le_refl _) _))
  have HZ := Lib.hid hz
  have HW := Lib.hid hw
  have HF : Hid ((w.alloc (.cells #[.int .i64 0, .bool false, .int .i64 0] 80)).heap[w.heap.size]? = some fltZ) := Lib.hid (blk_new _ _)
  have HBW : Hid (Below w.heap.size w (w.alloc (.cells #[.int .i64 0, .bool false, .int .i64 0] 80))) := Lib.hid ((Below.refl _ _).alloc (Nat.le_refl _) _)
  have h1 : ¬ (16 : Int) < (n : Int) := by omega
  have h2 : ((ws.length : Int) != 5 * (n : Int)) = false := by simp; omega
  have HST : Hid (RBatchTo ws n (w.heap.size + 1) (w.alloc (.cells #[.int .i64 0, .bool false, .int .i64 0] 80)) (.slice none 0 0) (.int .i64 0) (w.alloc (.cells #[.int .i64 0, .bool false, .int .i64 0] 80))) := Lib.hid ⟨0, Nat.zero_le _, rfl, fun i hi => absurd hi (by omega), own_nil _ _ _, fun k hk => by simp [inRow, Value.ownBlock] at hk, Below.refl _ _, none, 0, rfl⟩
  have HS : Hid ((w.alloc (.cells #[.int .i64 0, .bool false, .int .i64 0] 80)).heap.size = w.heap.size + 1) := Lib.hid (by simp)
  clear hl hz hw
  go_enter Tryd.func38, Tryd.ntmps38
  go_wp2_with fail
  generalize (w.alloc (.cells #[.int .i64 0, .bool false, .int .i64 0] 80)) = W0 at HL HF HBW HST HS ⊢
  go_loopw [6, 7] (fun v i wr => RBatchTo ws n (w.heap.size + 1) W0 v i wr) (fun _ i _ => n - (intOf i).toNat)
  case atStart => exact HST.out
  case round =>
    obtain ⟨j, hj, rfl, hgood, hown, hfr, hb, ao', cap', rfl⟩ := hrel
    have HGOOD := Lib.hid hgood
    have HOWN := Lib.hid hown
    have HFR := Lib.hid hfr
    have HB := Lib.hid hb
    have HFL : Hid (∀ wx, Below wr.heap.size wr wx → wx.heap[w.heap.size]? = some (.cells #[.int .i64 0, .bool false, .int .i64 0] 80 (0, 0))) := Lib.hid fun wx h => flt_at HF.out (HB.out.trans (h.mono (by have := HB.out.size; have := HS.out; omega)))
    have HBW1 : Hid (∀ wx, Below wr.heap.size wr wx → Below w.heap.size w wx) := Lib.hid fun wx h => HBW.out.trans ((HB.out.trans (h.mono (by have := HB.out.size; have := HS.out; omega))).mono (by omega))
    clear hgood hown hfr hb HST
    by_cases hlt : j < n
    · have hji : (j : Int) < (n : Int) := by omega
      have get : ∀ i, i < 5 → ∃ b off, ao = some ⟨b, off, none⟩ ∧ wr.cell? ⟨b, off + (5 * j + i), none⟩ = some (.int .u32 (ws.getD (5 * j + i) 0)) ∧ b < W0.heap.size ∧ b < W0.heap.size := fun i hi => by
        obtain ⟨b, off, e, hcc, hbb⟩ := HL.out (5 * j + i) _ (u32s_get ws (5 * j + i) (by have := HW.out; omega))
        exact ⟨b, off, e, (HB.out.cell (p := ⟨b, off + (5 * j + i), none⟩) (by show b < _; have := HS.out; omega)).trans hcc, hbb, hbb⟩
      obtain ⟨lb, lo, rfl, d0, hlb, -⟩ := get 0 (by decide)
      obtain ⟨_, _, e1, d1, -⟩ := get 1 (by decide)
      cases e1
      obtain ⟨_, _, e2, d2, -⟩ := get 2 (by decide)
      cases e2
      obtain ⟨_, _, e3, d3, -⟩ := get 3 (by decide)
      cases e3
      obtain ⟨_, _, e4, d4, -⟩ := get 4 (by decide)
      cases e4
      rw [Nat.add_zero] at d0
      have HNX := Lib.hid (hcAll_next ws j)
      have HAT : Hid (hcAt ws j = cutL (ws.getD (5 * j) 0) (argN (ws.getD (5 * j) 0)) [ws.getD (5 * j + 1) 0, ws.getD (5 * j + 2) 0, ws.getD (5 * j + 3) 0, ws.getD (5 * j + 4) 0]) := Lib.hid rfl
      have HGW : Hid (goodW (ws.getD (5 * j) 0) = false → hcBad ws n = some j) := Lib.hid fun h => hcBad_some ws n j HGOOD.out hlt h
      have HGT : Hid (goodW (ws.getD (5 * j) 0) = true → ∀ i, i < j + 1 → goodW (ws.getD (5 * i) 0) = true) := Lib.hid fun h i hi => by
        by_cases e : i = j
        · subst e; exact h
        · exact HGOOD.out i (by omega)
      have hz0' : 0 ≤ ws.getD (5 * j) 0 ∧ ws.getD (5 * j) 0 ≤ 4294967295 := HZ.out _ (by
        rw [List.getD_eq_getElem?_getD, List.getElem?_eq_getElem (by have := HW.out; omega)]
        exact List.getElem_mem _)
      obtain ⟨x0, hx0⟩ : ∃ x, ws.getD (5 * j) 0 = x := ⟨_, rfl⟩
      obtain ⟨x1, hx1⟩ : ∃ x, ws.getD (5 * j + 1) 0 = x := ⟨_, rfl⟩
      obtain ⟨x2, hx2⟩ : ∃ x, ws.getD (5 * j + 2) 0 = x := ⟨_, rfl⟩
      obtain ⟨x3, hx3⟩ : ∃ x, ws.getD (5 * j + 3) 0 = x := ⟨_, rfl⟩
      obtain ⟨x4, hx4⟩ : ∃ x, ws.getD (5 * j + 4) 0 = x := ⟨_, rfl⟩
      rw [hx0] at d0 HAT HGW HGT hz0'
      rw [hx1] at d1 HAT
      rw [hx2] at d2 HAT
      rw [hx3] at d3 HAT
      rw [hx4] at d4 HAT
      have hlw : lb < wr.heap.size := Nat.lt_of_lt_of_le hlb HB.out.size
      have hb1 : 5 * (j : Int) ≤ (ws.length : Int) := by have := HW.out; omega
      have hb2 : (ws.length : Int) ≤ (c : Int) := by omega
      have hq5 : 5 ≤ ws.length - 5 * j := by have := HW.out; omega
      have k0 : (0 : Int) < ((ws.length - 5 * j : Nat) : Int) := by omega
      have k1 : (1 : Int) < ((ws.length - 5 * j : Nat) : Int) := by omega
      have k2 : (2 : Int) < ((ws.length - 5 * j : Nat) : Int) := by omega
      have k3 : (3 : Int) < ((ws.length - 5 * j : Nat) : Int) := by omega
      have k4 : (4 : Int) < ((ws.length - 5 * j : Nat) : Int) := by omega
      rw [← Nat.add_assoc] at d1 d2 d3 d4
      clear hx0 hx1 hx2 hx3 hx4 get
      have hcase : x0 = 0 ∨ (¬ x0 < 1 ∧ 15 < x0) ∨ x0 = 3 ∨ (¬ x0 < 1 ∧ ¬ 15 < x0 ∧ x0 ≠ 3) := by omega
      rcases hcase with rfl | ⟨g0, hbig⟩ | rfl | ⟨g1, g2, g3⟩
      · have HGB := Lib.hid (HGW.out (by decide))
        go_wp2_with fail
        refine (placed_any _ _ _ (by decide)).mono ?_
        rintro e w1 ⟨rfl, hb1⟩
        have hblk := HFL.out _ hb1
        have HBR := Lib.hid (HBW1.out _ hb1)
        have c0 := blk_cell hblk 0
        have c1 := blk_cell hblk 1
        have c2 := blk_cell hblk 2
        have f0 := blk_free hblk 0
        have f1 := blk_free hblk 1
        have f2 := blk_free hblk 2
        have hlt1 := blk_lt hblk
        clear hb1 hblk
        go_wp2
        refine bodyPost_ret (v := .tuple #[.slice none 0 0, .agg #[.int .i64 107, .bool true, .int .i64 (j : Int)]]) (by simp [results, Tryd.results38, go_sem, c0, c1, c2, f0, f1, f2, hlt1]) rfl ⟨((HBR.out.setCell (Nat.le_refl _) _).setCell (Nat.le_refl _) _).setCell (Nat.le_refl _) _, fun i hi => ?_, fun h => ?_⟩
        · rw [HGB.out] at hi
          cases hi
          rfl
        · rw [HGB.out] at h
          cases h
      · have HGB := Lib.hid (HGW.out (by unfold goodW; simp; omega))
        go_wp2_with fail
        refine (placed_any _ _ _ (by decide)).mono ?_
        rintro e w1 ⟨rfl, hb1⟩
        have hblk := HFL.out _ hb1
        have HBR := Lib.hid (HBW1.out _ hb1)
        have c0 := blk_cell hblk 0
        have c1 := blk_cell hblk 1
        have c2 := blk_cell hblk 2
        have f0 := blk_free hblk 0
        have f1 := blk_free hblk 1
        have f2 := blk_free hblk 2
        have hlt1 := blk_lt hblk
        clear hb1 hblk
        go_wp2
        refine bodyPost_ret (v := .tuple #[.slice none 0 0, .agg #[.int .i64 107, .bool true, .int .i64 (j : Int)]]) (by simp [results, Tryd.results38, go_sem, c0, c1, c2, f0, f1, f2, hlt1]) rfl ⟨((HBR.out.setCell (Nat.le_refl _) _).setCell (Nat.le_refl _) _).setCell (Nat.le_refl _) _, fun i hi => ?_, fun h => ?_⟩
        · rw [HGB.out] at hi
          cases hi
          rfl
        · rw [HGB.out] at h
          cases h
      · have HGB := Lib.hid (HGW.out (by decide))
        go_wp2_with fail
        refine (placed_any _ _ _ (by decide)).mono ?_
        rintro e w1 ⟨rfl, hb1⟩
        have hblk := HFL.out _ hb1
        have HBR := Lib.hid (HBW1.out _ hb1)
        have c0 := blk_cell hblk 0
        have c1 := blk_cell hblk 1
        have c2 := blk_cell hblk 2
        have f0 := blk_free hblk 0
        have f1 := blk_free hblk 1
        have f2 := blk_free hblk 2
        have hlt1 := blk_lt hblk
        clear hb1 hblk
        go_wp2
        refine bodyPost_ret (v := .tuple #[.slice none 0 0, .agg #[.int .i64 107, .bool true, .int .i64 (j : Int)]]) (by simp [results, Tryd.results38, go_sem, c0, c1, c2, f0, f1, f2, hlt1]) rfl ⟨((HBR.out.setCell (Nat.le_refl _) _).setCell (Nat.le_refl _) _).setCell (Nat.le_refl _) _, fun i hi => ?_, fun h => ?_⟩
        · rw [HGB.out] at hi
          cases hi
          rfl
        · rw [HGB.out] at h
          cases h
      · obtain ⟨m, rfl⟩ := Int.eq_ofNat_of_zero_le (show 0 ≤ x0 by omega)
        have g3' : ((m : Int) == 3) = false := by simp; omega
        obtain ⟨X, hX⟩ : ∃ X, cutL (m : Int) (argN (m : Int)) [x1, x2, x3, x4] = X := ⟨_, rfl⟩
        have HCUT : Hid (∀ W, ∀ (z : Int), z = (m : Int) → Calls Tryd.prog 58 #[.agg #[.int .i64 z, .int .u32 x1, .int .u32 x2, .int .u32 x3, .int .u32 x4]] W fun e w' => e = .returned X.v ∧ Below W.heap.size W w') := Lib.hid fun W z e => by rw [e, ← hX]; exact cut_any (m : Int) x1 x2 x3 x4 W
        obtain ⟨y0, y1, y2, y3, y4⟩ := X
        rw [hX] at HAT
        rw [HAT.out] at HNX
        have HNX' : Hid ((hcAll ws (j + 1)).flatMap hcCells = (hcAll ws j).flatMap hcCells ++ [.int .i64 y0, .int .u32 y1, .int .u32 y2, .int .u32 y3, .int .u32 y4]) := Lib.hid HNX.out
        unfold Hc.v at HCUT
        dsimp only at HCUT
        clear HNX
        have HGT' := Lib.hid (HGT.out (by unfold goodW; simp; omega))
        have HD : Hid (∀ W, Below wr.heap.size wr W → W.cell? ⟨lb, lo + 5 * j, none⟩ = some (.int .u32 (m : Int)) ∧ W.cell? ⟨lb, lo + 5 * j + 1, none⟩ = some (.int .u32 x1) ∧ W.cell? ⟨lb, lo + 5 * j + 2, none⟩ = some (.int .u32 x2) ∧ W.cell? ⟨lb, lo + 5 * j + 3, none⟩ = some (.int .u32 x3) ∧ W.cell? ⟨lb, lo + 5 * j + 4, none⟩ = some (.int .u32 x4)) := Lib.hid fun W hW => ⟨(hW.cell (p := ⟨lb, lo + 5 * j, none⟩) hlw).trans d0, (hW.cell (p := ⟨lb, lo + 5 * j + 1, none⟩) hlw).trans d1, (hW.cell (p := ⟨lb, lo + 5 * j + 2, none⟩) hlw).trans d2, (hW.cell (p := ⟨lb, lo + 5 * j + 3, none⟩) hlw).trans d3, (hW.cell (p := ⟨lb, lo + 5 * j + 4, none⟩) hlw).trans d4⟩
        have HNEW : Hid (∀ (W : World) (T : TypeId) (k : Nat) (u : Value), ([.int .i64 y0, .int .u32 y1, .int .u32 y2, .int .u32 y3, .int .u32 y4] : List Value)[k]? = some u → (W.alloc (.cells #[.int .i64 y0, .int .u32 y1, .int .u32 y2, .int .u32 y3, .int .u32 y4] T)).cell? ((⟨W.heap.size, 0, none⟩ : Addr).add k) = some u) := Lib.hid fun W T k u hk => by
          rw [Addr.add_lit]
          refine (blk_cell (blk_new W (.cells #[.int .i64 y0, .int .u32 y1, .int .u32 y2, .int .u32 y3, .int .u32 y4] T)) (0 + k)).trans ?_
          rw [Nat.zero_add, List.getElem?_toArray]
          exact hk
        have HONE : Hid (∀ u ∈ ([.int .i64 y0, .int .u32 y1, .int .u32 y2, .int .u32 y3, .int .u32 y4] : List Value), u.oneCell' = true) := Lib.hid fun u hu => by
          simp only [List.mem_cons, List.not_mem_nil, or_false] at hu
          rcases hu with rfl | rfl | rfl | rfl | rfl <;> rfl
        have HOA : Hid (∀ W, Below wr.heap.size wr W → ∀ X, (W.alloc X).ownsRow 0 61 5 (.slice ao' j cap') j ((hcAll ws j).flatMap hcCells)) := Lib.hid fun W hW X => (own_only HOWN.out (F := fun _ => False) (Only.of_below hW) (fun _ _ h => h)).alloc X
        have HBA : Hid (∀ W, Below wr.heap.size wr W → ∀ X, Below (w.heap.size + 1) W0 (W.alloc X)) := Lib.hid fun W hW X => (HB.out.trans (hW.mono (Nat.le_trans (by have := HS.out; omega) HB.out.size))).alloc (Nat.le_trans (by have := HS.out; omega) (Nat.le_trans HB.out.size hW.size)) X
        have HDR : Hid (Below wr.heap.size wr wr.drew) := Lib.hid (Below.refl _ _).drew
        have HNE : Hid (some lb ≠ (Value.slice ao' j cap').ownBlock) := Lib.hid fun e => by
          have := HFR.out lb e.symm
          have := HS.out
          omega
        have HWM := Lib.hid (IntWalk.i64_in (m : Int) (by omega))
        have HJM : Hid (j ≤ 16) := Lib.hid (by omega)
        have HWS : Hid (w.heap.size + 1 ≤ wr.heap.size) := Lib.hid (Nat.le_trans (by have := HS.out; omega) HB.out.size)
        clear hX HGT HGW HAT d0 d1 d2 d3 d4
        obtain ⟨d0, d1, d2, d3, d4⟩ := HD.out _ (Below.refl _ wr)
        go_wp2_with fail
        go_region_held_law (fun w' => w'.cell? ⟨lb, lo + 5 * j, none⟩ = some (.int .u32 (m : Int)) ∧ w'.cell? ⟨lb, lo + 5 * j + 1, none⟩ = some (.int .u32 x1) ∧ w'.cell? ⟨lb, lo + 5 * j + 2, none⟩ = some (.int .u32 x2) ∧ w'.cell? ⟨lb, lo + 5 * j + 3, none⟩ = some (.int .u32 x3) ∧ w'.cell? ⟨lb, lo + 5 * j + 4, none⟩ = some (.int .u32 x4))
          (first
            | with_reducible exact HD.out _ HDR.out
            | with_reducible exact HD.out _ HB4.out
            | with_reducible assumption
            | (dsimp only; with_reducible first | exact HD.out _ HDR.out | exact HD.out _ HB4.out | exact HD.out _ (HB4.out.alloc HB4.out.size _))
            | with_reducible exact HD.out _ (HB4.out.alloc HB4.out.size _)
            | (have hdd := HD.out _ (HB4.out.alloc HB4.out.size (.cells #[.int .i64 y0, .int .u32 y1, .int .u32 y2, .int .u32 y3, .int .u32 y4] 61)); refine ⟨?_, ?_, ?_, ?_, ?_⟩ <;> (rw [hgrow.cell_far _ (by have := HB4.out.size; simp; omega) HNE.out]; first | exact hdd.1 | exact hdd.2.1 | exact hdd.2.2.1 | exact hdd.2.2.2.1 | exact hdd.2.2.2.2)))
          (first
            | (refine step_append_lies _ (by rfl) _ _ _ (by rfl) 0 61 i0 (.agg #[.int .i64 0, .int .u32 0, .int .u32 0, .int .u32 0, .int .u32 0]) 5 24 Tryd.underlying86 hi hz0 hz1 hz2 rfl (by decide) (.slice ao' j cap') j ((hcAll ws j).flatMap hcCells) (by rfl) (HOA.out w4 HB4.out _) ⟨w4.heap.size, 0, none⟩ 1 1 [.int .i64 y0, .int .u32 y1, .int .u32 y2, .int .u32 y3, .int .u32 y4] (by rfl) rfl (HNEW.out w4 _) HONE.out (by decide) (by have := HJM.out; unfold maxLen; omega) (by omega) (Nat.zero_le _) _ rfl ?_; intro g cap w2 hown1 hgrow hat hlt1)
            | (go_at_call 58; refine (HCUT.out _ _ (by first | rfl | exact HWM.out)).mono ?_; rintro e w4 ⟨rfl, hb4⟩; have HB4 := Lib.hid (HDR.out.trans (hb4.mono HDR.out.size)); clear hb4))
        all_goals
          rw [← HNX'.out] at hown1
          have HO1 := Lib.hid hown1
          have HW1 := Lib.hid ((HBA.out w4 HB4.out _).grown hgrow (Nat.le_trans HWS.out (Nat.le_trans HB4.out.size (by simp))) (fun k hk => HFR.out k hk))
          have HF1 : Hid (∀ k, inRow (.slice (some ⟨g, 0, none⟩) (j + 1) cap) k → w.heap.size + 1 ≤ k) := Lib.hid fun k hk => by
            have hk' : g = k := by simpa [inRow, Value.ownBlock] using hk
            subst hk'
            rcases hat with h | h
            · exact HFR.out g h
            · have := HWS.out
              have := HB4.out.size
              have h' := h
              simp at h'
              omega
          clear hown1 hgrow hat hlt1
          go_wp2
          go_roundw
          case rel => exact ⟨j + 1, by omega, by go_num, HGT'.out, HO1.out, HF1.out, HW1.out, _, _, rfl⟩
          case measure => simp [intOf]; omega
    · obtain rfl : j = n := by omega
      have HBN := Lib.hid (hcBad_none ws j HGOOD.out)
      go_wp2_with fail
      refine (none_any _).mono ?_
      rintro e w1 ⟨rfl, hb1⟩
      have hblk := HFL.out _ hb1
      have HBR := Lib.hid (HBW1.out _ hb1)
      have c0 := blk_cell hblk 0
      have c1 := blk_cell hblk 1
      have c2 := blk_cell hblk 2
      have f0 := blk_free hblk 0
      have f1 := blk_free hblk 1
      have f2 := blk_free hblk 2
      have hlt1 := blk_lt hblk
      have HO1 : Hid (w1.ownsRow 0 61 5 (.slice ao' j cap') j ((hcAll ws j).flatMap hcCells)) := Lib.hid (own_only HOWN.out (F := fun _ => False) (Only.of_below hb1) (fun _ _ h => h))
      clear hb1 hblk
      go_wp2
      refine bodyPost_ret (v := .tuple #[.slice ao' j cap', .agg #[.int .i64 0, .bool false, .int .i64 0]]) (by simp [results, Tryd.results38, go_sem, c0, c1, c2, f0, f1, f2, hlt1]) rfl ⟨((HBR.out.setCell (Nat.le_refl _) _).setCell (Nat.le_refl _) _).setCell (Nat.le_refl _) _, fun i hi => ?_, fun _ => ⟨_, rfl, ?_, fun k hk => by have := HFR.out k hk; omega⟩⟩
      · rw [HBN.out] at hi
        cases hi
      · refine own_only HO1.out (F := fun k => k = w.heap.size) ((((Only.refl (fun k => k = w.heap.size) w1).setCell (p := ⟨w.heap.size, 0, none⟩) (.inl rfl) _).setCell (p := ⟨w.heap.size, 1, none⟩) (.inl rfl) _).setCell (p := ⟨w.heap.size, 2, none⟩) (.inl rfl) _) (fun k hk e => ?_)
        have := HFR.out k hk
        omega
end Go.Proofs.YtpmbbbgmaipmbaaDoor
