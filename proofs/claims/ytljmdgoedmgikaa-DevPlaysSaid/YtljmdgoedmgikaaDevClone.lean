/-
  Devices: a copy of their own.
-/
import Derived.Test.YtljmdgoedmgikaaRows
import Derived.Test.YtljmdgoedmgikaaDev3
import Derived.Test.YtljmdgoedmgikaaRow
import Derived.Deep.RegionHeld3
namespace Go.Proofs.Ytljmdgoedmgikaa
open Go.RowKit

theorem devCells_size (kv sv : Value) (sec : List Int) (st : Bool) (due : Int) (h : sec.length = 16) : (devCells kv sec st due sv).size = 20 := by simp [devCells, u32s, h]
theorem devCells_one (ao a1 : Option Addr) (n c n1 c1 : Nat) (sec : List Int) (st : Bool) (due : Int) : allOne (devCells (.slice ao n c) sec st due (.slice a1 n1 c1)) = true := by
  unfold allOne
  rw [Array.all_eq_true']
  intro u hu
  simp only [devCells, List.mem_toArray, List.mem_cons, List.mem_append] at hu
  rcases hu with rfl | hu | rfl | rfl | rfl | hu
  · rfl
  · exact u32s_one _ u hu
  · rfl
  · rfl
  · rfl
  · simp at hu
theorem infoDev : (Try.prog.info? 28).map (·.size) = some 20 := by kernel_rfl
@[go_sem ↓] theorem load_dev (a : Addr) : loadVar 28 a = loadT 28 a := rfl
@[go_sem] theorem run_load_dev (a : Addr) (w : World) : (loadT 28 a).run Try.prog w = loadBy 20 a w (origLoad Try.prog 28 a w) := run_load_by _ 20 _ Try.underlying28 rfl infoDev a w
@[go_sem ↓] theorem store_dev (a : Addr) (v : Value) : storeVar 28 a v = storeT 28 a v := rfl
@[go_sem] theorem run_store_dev (a : Addr) (v : Value) (w : World) : (storeT 28 a v).run Try.prog w = storeBy 20 a v w (origStore Try.prog 28 a v w) := run_store_by _ 20 infoDev a v w

theorem reads_below {w w' : World} {v : Value} {n : Nat} {xs : List Value} (h : Reads w v n xs) (hb : Below w.heap.size w w') : Reads w' v n xs := by
  rcases h with h | ⟨a, cap, rfl, hc⟩
  · exact .inl h
  · refine .inr ⟨a, cap, rfl, fun j u hj => ?_⟩
    have := hc j u hj
    exact (hb.cell (p := a.add j) (World.block_lt_of_cell? w _ this)).trans this

theorem blk_next {w w' : World} {n : Nat} {x : Obj} (h : w.heap[n]? = some x) (hb : Below w.heap.size w w') : w'.heap[n]? = some x := blk_below h hb (blk_lt h)
theorem clone_keep {w w1 w2 : World} {a0 a1 : Addr} {v0 v1 : Value} (h : Below w.heap.size w w1 ∧ w1.cell? a0 = some v0 ∧ w1.cell? a1 = some v1) (hb : Below w1.heap.size w1 w2) : Below w.heap.size w w2 ∧ w2.cell? a0 = some v0 ∧ w2.cell? a1 = some v1 :=
  ⟨h.1.trans (hb.mono h.1.size), (hb.cell (World.block_lt_of_cell? _ _ h.2.1)).trans h.2.1, (hb.cell (World.block_lt_of_cell? _ _ h.2.2)).trans h.2.2⟩
theorem clone_set {w w1 : World} {b0 b1 o0 o1 o : Nat} {v0 v1 v : Value} (h : Below w.heap.size w w1 ∧ w1.cell? ⟨b0, o0, none⟩ = some v0 ∧ w1.cell? ⟨b1, o1, none⟩ = some v1) (h0 : b0 < w.heap.size) (h1 : b1 < w.heap.size) :
    Below w.heap.size w (w1.setCell ⟨w.heap.size, o, none⟩ v) ∧ (w1.setCell ⟨w.heap.size, o, none⟩ v).cell? ⟨b0, o0, none⟩ = some v0 ∧ (w1.setCell ⟨w.heap.size, o, none⟩ v).cell? ⟨b1, o1, none⟩ = some v1 :=
  ⟨h.1.setCell (Nat.le_refl _) _, ((h.1.setCell (p := ⟨w.heap.size, o, none⟩) (Nat.le_refl _) v).cell (p := ⟨b0, o0, none⟩) h0).trans ((h.1.cell (p := ⟨b0, o0, none⟩) h0).symm.trans h.2.1), ((h.1.setCell (p := ⟨w.heap.size, o, none⟩) (Nat.le_refl _) v).cell (p := ⟨b1, o1, none⟩) h1).trans ((h.1.cell (p := ⟨b1, o1, none⟩) h1).symm.trans h.2.2)⟩

set_option maxHeartbeats 1000000 in
theorem clone_any (D : DevS) (w : World) (b : Nat) (F : Nat → Prop) (h : DevAt w b D F) (hk : D.keys.length ≤ 64) (hn : D.seen.length < 100000) :
    Calls Try.prog 20 #[.pointer (some ⟨b, 0, none⟩)] w fun e w' => ∃ b', e = .returned (.pointer (some ⟨b', 0, none⟩)) ∧ DevAt w' b' D (fun k => w.heap.size ≤ k) ∧ Below w.heap.size w w' := by
  obtain ⟨kv, sv, ⟨h1, h2, h3, h4⟩, -⟩ := h
  obtain ⟨ao, cap, rfl⟩ := own_slice h3
  obtain ⟨a1, cap1, rfl⟩ := own_slice h4
  have r0 := row?_of h1
  have c0 : w.cell? ⟨b, 0, none⟩ = some (.slice ao D.keys.length cap) := (blk_cell h1 0).trans rfl
  have c19 : w.cell? ⟨b, 19, none⟩ = some (.slice a1 D.seen.length cap1) := (blk_cell h1 19).trans (devCells_19 _ _ _ _ _ h2)
  have hsz := devCells_size (.slice ao D.keys.length cap) (.slice a1 D.seen.length cap1) D.sec D.set D.due h2
  have h1c := devCells_one ao a1 D.keys.length cap D.seen.length cap1 D.sec D.set D.due
  have zb := blk_lt h1
  have HK := Lib.hid (own_reads h3)
  have HS := Lib.hid (own_reads h4)
  have H2 := Lib.hid h2
  have g0 := devCells_0 (.slice ao D.keys.length cap) (.slice a1 D.seen.length cap1) D.sec D.set D.due
  have g19 := devCells_19 (.slice ao D.keys.length cap) (.slice a1 D.seen.length cap1) D.sec D.set D.due h2
  clear h1 h2 h3 h4
  go_enter Try.func20, Try.ntmps20
  go_wp2_with fail
  have bN := blk_new w (.cells (devCells (.slice ao D.keys.length cap) D.sec D.set D.due (.slice a1 D.seen.length cap1)) 28)
  have hB0 : Below w.heap.size w (w.alloc (.cells (devCells (.slice ao D.keys.length cap) D.sec D.set D.due (.slice a1 D.seen.length cap1)) 28)).drew := ((Below.refl _ _).alloc (Nat.le_refl _) _).drew
  have HS0 : Hid (Below w.heap.size w (w.alloc (.cells (devCells (.slice ao D.keys.length cap) D.sec D.set D.due (.slice a1 D.seen.length cap1)) 28)).drew ∧ (w.alloc (.cells (devCells (.slice ao D.keys.length cap) D.sec D.set D.due (.slice a1 D.seen.length cap1)) 28)).drew.cell? ⟨b, 0, none⟩ = some (.slice ao D.keys.length cap) ∧ (w.alloc (.cells (devCells (.slice ao D.keys.length cap) D.sec D.set D.due (.slice a1 D.seen.length cap1)) 28)).drew.cell? ⟨b, 19, none⟩ = some (.slice a1 D.seen.length cap1)) :=
    Lib.hid ⟨hB0, (hB0.cell (p := ⟨b, 0, none⟩) zb).trans c0, (hB0.cell (p := ⟨b, 19, none⟩) zb).trans c19⟩
  have BN : (w.alloc (.cells (devCells (.slice ao D.keys.length cap) D.sec D.set D.due (.slice a1 D.seen.length cap1)) 28)).drew.heap[w.heap.size]? = some (.cells (devCells (.slice ao D.keys.length cap) D.sec D.set D.due (.slice a1 D.seen.length cap1)) 28 (0, 0)) := bN
  have G0 := Lib.hid g0
  have G19 := Lib.hid g19
  have LK := Lib.hid (show D.keys.length * 4 ≤ 140737488355328 by omega)
  have LS := Lib.hid (show D.seen.length * 16 ≤ 140737488355328 by omega)
  clear bN hB0 r0 c0 c19 hsz h1c g0 g19
  go_region_held3 (fun w' => Below w.heap.size w w' ∧ w'.cell? ⟨b, 0, none⟩ = some (.slice ao D.keys.length cap) ∧ w'.cell? ⟨b, 19, none⟩ = some (.slice a1 D.seen.length cap1)) (first | exact HS0.out | exact clone_keep (by assumption) (by assumption) | exact clone_set (by assumption) zb zb)
    (first | (go_at_call 30; refine (cloneU32 _ _ _ _ (reads_below HK.out (And.left (by assumption))) LK.out (u32s_len _) (u32s_one _)).mono ?_; rintro e w3 ⟨v1, rfl, ho1, hs1, hb1⟩; obtain ⟨q1, k1, rfl⟩ := own_slice ho1; have bN1 := blk_next BN hb1; have cN0 := (blk_cell bN1 0).trans G0.out; have cN9 := (blk_cell bN1 19).trans G19.out; have fN0 := blk_free bN1 0; have fN9 := blk_free bN1 19) | (go_at_call 31; refine (cloneSeen _ _ _ _ (reads_below HS.out (And.left (by assumption))) LS.out (seenCells_len _) (seenCells_one _)).mono ?_; rintro e w4 ⟨v2, rfl, ho2, hs2, hb2⟩; obtain ⟨q2, k2, rfl⟩ := own_slice ho2; have bN2 := blk_next bN1 hb2; have cM0 := (blk_cell bN2 0).trans G0.out; have cM9 := (blk_cell bN2 19).trans G19.out; have fM0 := blk_free bN2 0; have fM9 := blk_free bN2 19))
  have o1 := own_frame ho1 (fun k hk => hb2.block k (own_lt ho1 hk))
  have w5 := blk_put bN2 0 (.slice q1 D.keys.length k1)
  rw [devCells_set0] at w5
  have w6 := blk_put w5 19 (.slice q2 D.seen.length k2)
  rw [devCells_set19 _ _ _ _ _ _ H2.out] at w6
  have o1' := own_set (own_set o1 bN2 (by decide) 0 (.slice q1 D.keys.length k1)) w5 (by decide) 19 (.slice q2 D.seen.length k2)
  have o2' := own_set (own_set ho2 bN2 (by decide) 0 (.slice q1 D.keys.length k1)) w5 (by decide) 19 (.slice q2 D.seen.length k2)
  have z3 : w.heap.size ≤ w3.heap.size := Nat.le_trans HS0.out.1.size hb1.size
  have hBF := (((HS0.out.1.trans (hb1.mono HS0.out.1.size)).trans (hb2.mono z3)).setCell (p := ⟨w.heap.size, 0, none⟩) (Nat.le_refl _) (.slice q1 D.keys.length k1)).setCell (p := ⟨w.heap.size, 19, none⟩) (Nat.le_refl _) (.slice q2 D.seen.length k2)
  have W6 := Lib.hid w6
  have O1 := Lib.hid o1'
  have O2 := Lib.hid o2'
  have HF := Lib.hid hBF
  have S1 := Lib.hid hs1
  have S2 := Lib.hid hs2
  have Z1 := Lib.hid HS0.out.1.size
  clear w5 w6 o1' o2' hBF hs1 hs2 o1 ho1 ho2
  go_wp2
  go_ret
  refine ⟨_, rfl, ⟨_, _, ⟨W6.out, H2.out, O1.out, O2.out⟩, ?_⟩, HF.out⟩
  rintro k (rfl | h | h)
  · exact Nat.le_refl _
  · exact Nat.le_trans Z1.out (S1.out k h)
  · exact Nat.le_trans z3 (S2.out k h)
end Go.Proofs.Ytljmdgoedmgikaa
