/-
  Chapter 4: does an instruction jump?
-/
import Derived.Test.YtikioeddilgbpaaAlu7
namespace Go.Proofs.Ytikioeddilgbpaa
open Go.RowKit

set_option linter.unusedSimpArgs false
def takR (i : Ins) (r : List Int) : Bool × Bool := if (wok i && jmp i.op) = true then (if i.op = 17 ∨ i.op = 20 then (r.getD i.a.toNat 0 == 0, true) else if i.op = 18 ∨ i.op = 21 then (r.getD i.a.toNat 0 != 0, true) else (true, true)) else (false, false)
def takV (i : Ins) (r : List Int) : Value := .tuple #[.bool (takR i r).1, .bool (takR i r).2]
theorem takR_no {i : Ins} {r : List Int} (h : (wok i && jmp i.op) = false) : takR i r = (false, false) := by
  unfold takR
  rw [if_neg (by rw [h]; decide)]
theorem two_0 {w w1 : World} {o1 o2 : Obj} (h : Below ((w.alloc o1).alloc o2).heap.size ((w.alloc o1).alloc o2) w1) : w1.heap[w.heap.size]? = some o1 ∧ w1.heap[w.heap.size + 1]? = some o2 ∧ w.heap.size + 2 ≤ w1.heap.size := by
  have hs : ((w.alloc o1).alloc o2).heap.size = w.heap.size + 2 := by simp
  refine ⟨?_, ?_, by have := h.size; omega⟩
  · rw [h.block _ (by omega), Below.heap_alloc _ _ _ (by simp)]
    exact blk_new _ _
  · rw [h.block _ (by omega)]
    simpa using blk_new (w.alloc o1) o2
theorem two_belowI (w : World) (o1 o2 : Obj) : Below w.heap.size w ((w.alloc o1).alloc o2) := ((Below.refl w.heap.size w).alloc (Nat.le_refl _) _).alloc (by simp) _
set_option maxRecDepth 100000 in
set_option maxHeartbeats 4000000 in
theorem taken_any (i : Ins) (r : List Int) (hl : r.length = 16) (w : World) : Calls Try.prog 14 #[insV i, .agg (regCells r)] w fun e w' => e = .returned (takV i r) ∧ Below w.heap.size w w' := by
  unfold takV
  obtain ⟨op, a, b, c, imm⟩ := i
  have HT : Hid (∀ wx, Below ((w.alloc (.cells #[.int .i64 op, .int .i64 a, .int .i64 b, .int .i64 c, .int .u32 imm] 29)).alloc (.cells (regCells r) 24)).heap.size ((w.alloc (.cells #[.int .i64 op, .int .i64 a, .int .i64 b, .int .i64 c, .int .u32 imm] 29)).alloc (.cells (regCells r) 24)) wx → Below w.heap.size w wx) := Lib.hid fun wx h => (two_belowI w _ _).trans (h.mono (two_belowI w _ _).size)
  have hsz := regs_size r hl
  cases hok : wok ⟨op, a, b, c, imm⟩
  · rw [takR_no (by rw [hok]; rfl)]
    have HOK := Lib.hid hok
    clear hok hl
    go_enter Try.func14, Try.ntmps14
    go_wp2_with fail
    refine (tables_any _).mono ?_
    rintro e wt ⟨rfl, hbt⟩
    have hbt2 := HT.out _ hbt
    obtain ⟨k0, k1, hs1⟩ := two_0 hbt
    have c0 := blk_cell k0 0
    have c1 := blk_cell k0 1
    have c2 := blk_cell k0 2
    have c3 := blk_cell k0 3
    have c4 := blk_cell k0 4
    clear k0 k1
    go_wp2_with fail
    refine (word_any ⟨op, a, b, c, imm⟩ _).mono ?_
    rintro e w1 ⟨u, rfl, hb1⟩
    rw [HOK.out]
    replace hb1 := hbt.trans (hb1.mono hbt.size)
    clear c0 c1 c2 c3 c4 hbt hbt2 hs1
    obtain ⟨k0, k1, hs1⟩ := two_0 hb1
    have c0 := blk_cell k0 0
    have c1 := blk_cell k0 1
    have HB1 := Lib.hid (HT.out _ hb1)
    clear k0 k1 hb1
    go_wp2
    go_ret2
    exact ⟨rfl, HB1.out⟩
  · cases hj : jmp op
    · rw [takR_no (by rw [hok, hj]; rfl)]
      have HOK := Lib.hid hok
      have HJ := Lib.hid hj
      clear hok hl hj
      go_enter Try.func14, Try.ntmps14
      go_wp2_with fail
      refine (tables_any _).mono ?_
      rintro e wt ⟨rfl, hbt⟩
      have hbt2 := HT.out _ hbt
      obtain ⟨k0, k1, hs1⟩ := two_0 hbt
      have c0 := blk_cell k0 0
      have c1 := blk_cell k0 1
      have c2 := blk_cell k0 2
      have c3 := blk_cell k0 3
      have c4 := blk_cell k0 4
      clear k0 k1
      go_wp2_with fail
      refine (word_any ⟨op, a, b, c, imm⟩ _).mono ?_
      rintro e w1 ⟨u, rfl, hb1⟩
      rw [HOK.out]
      replace hb1 := hbt.trans (hb1.mono hbt.size)
      clear c0 c1 c2 c3 c4 hbt hbt2 hs1
      obtain ⟨k0, k1, hs1⟩ := two_0 hb1
      have c0 := blk_cell k0 0
      have c1 := blk_cell k0 1
      have HB1 := Lib.hid (HT.out _ hb1)
      go_wp2_with fail
      refine (jmp_any op _).mono ?_
      rintro e w3 ⟨rfl, hb3⟩
      rw [HJ.out]
      have HB3 := Lib.hid (HB1.out.trans (hb3.mono HB1.out.size))
      replace k0 := (hb3.block _ (by omega)).trans k0
      replace k1 := (hb3.block _ (by omega)).trans k1
      replace c0 := blk_cell k0 0
      replace c1 := blk_cell k0 1
      clear k0 k1 hb1
      go_wp2
      go_ret2
      exact ⟨rfl, HB3.out⟩
    · obtain ⟨ha, -, -⟩ := wok_in hok
      dsimp only at ha
      obtain ⟨ia, rfl⟩ := Int.eq_ofNat_of_zero_le ha.1
      have hia : ia < 16 := by omega
      have hia0 : (0 : Int) ≤ (ia : Int) := by omega
      have hia1 : (ia : Int) < 16 := by omega
      have hop : op ∈ lkJ := of_decide_eq_true hj
      have HR := Lib.hid (regs_at r hl ia _ hia rfl)
      obtain ⟨xa, hxa⟩ : ∃ x, r.getD ia 0 = x := ⟨_, rfl⟩
      rw [hxa] at HR
      have HX : Hid (r.getD (ia : Int).toNat 0 = xa) := Lib.hid (by rw [Int.toNat_natCast, hxa])
      have HOK := Lib.hid hok
      have HJ := Lib.hid hj
      clear ha hl
      simp only [lkJ, List.mem_cons, List.not_mem_nil, or_false] at hop
      rcases hop with rfl | rfl | rfl | rfl | rfl | rfl | rfl | rfl
      · have hv : takR ⟨16, ia, b, c, imm⟩ r = (true, true) := by
          unfold takR
          rw [if_pos (by rw [hok]; rfl)]
          dsimp only
          try rw [HX.out]
          rfl
        rw [hv]
        clear hv hok hj hxa
        go_enter Try.func14, Try.ntmps14
        go_wp2_with fail
        refine (tables_any _).mono ?_
        rintro e wt ⟨rfl, hbt⟩
        have hbt2 := HT.out _ hbt
        obtain ⟨k0, k1, hs1⟩ := two_0 hbt
        have c0 := blk_cell k0 0
        have c1 := blk_cell k0 1
        have c2 := blk_cell k0 2
        have c3 := blk_cell k0 3
        have c4 := blk_cell k0 4
        clear k0 k1
        go_wp2_with fail
        refine (word_any ⟨16, ia, b, c, imm⟩ _).mono ?_
        rintro e w1 ⟨u, rfl, hb1⟩
        rw [HOK.out]
        replace hb1 := hbt.trans (hb1.mono hbt.size)
        clear c0 c1 c2 c3 c4 hbt hbt2 hs1
        obtain ⟨k0, k1, hs1⟩ := two_0 hb1
        have c0 := blk_cell k0 0
        have c1 := blk_cell k0 1
        have HB1 := Lib.hid (HT.out _ hb1)
        go_wp2_with fail
        refine (jmp_any 16 _).mono ?_
        rintro e w3 ⟨rfl, hb3⟩
        rw [HJ.out]
        have HB3 := Lib.hid (HB1.out.trans (hb3.mono HB1.out.size))
        replace k0 := (hb3.block _ (by omega)).trans k0
        replace k1 := (hb3.block _ (by omega)).trans k1
        replace c0 := blk_cell k0 0
        replace c1 := blk_cell k0 1
        clear k0 k1 hb1
        go_wp2
        go_ret2
        exact ⟨rfl, HB3.out⟩
      · have hv : takR ⟨17, ia, b, c, imm⟩ r = (xa == 0, true) := by
          unfold takR
          rw [if_pos (by rw [hok]; rfl)]
          dsimp only
          try rw [HX.out]
          rfl
        rw [hv]
        clear hv hok hj hxa
        go_enter Try.func14, Try.ntmps14
        go_wp2_with fail
        refine (tables_any _).mono ?_
        rintro e wt ⟨rfl, hbt⟩
        have hbt2 := HT.out _ hbt
        obtain ⟨k0, k1, hs1⟩ := two_0 hbt
        have c0 := blk_cell k0 0
        have c1 := blk_cell k0 1
        have c2 := blk_cell k0 2
        have c3 := blk_cell k0 3
        have c4 := blk_cell k0 4
        clear k0 k1
        go_wp2_with fail
        refine (word_any ⟨17, ia, b, c, imm⟩ _).mono ?_
        rintro e w1 ⟨u, rfl, hb1⟩
        rw [HOK.out]
        replace hb1 := hbt.trans (hb1.mono hbt.size)
        clear c0 c1 c2 c3 c4 hbt hbt2 hs1
        obtain ⟨k0, k1, hs1⟩ := two_0 hb1
        have c0 := blk_cell k0 0
        have c1 := blk_cell k0 1
        have HB1 := Lib.hid (HT.out _ hb1)
        go_wp2_with fail
        refine (jmp_any 17 _).mono ?_
        rintro e w3 ⟨rfl, hb3⟩
        rw [HJ.out]
        have HB3 := Lib.hid (HB1.out.trans (hb3.mono HB1.out.size))
        replace k0 := (hb3.block _ (by omega)).trans k0
        replace k1 := (hb3.block _ (by omega)).trans k1
        replace c0 := blk_cell k0 0
        replace c1 := blk_cell k0 1
        have cA := (blk_cell k1 ia).trans HR.out
        clear k0 k1 hb1
        go_wp2
        go_ret2
        exact ⟨rfl, HB3.out⟩
      · have hv : takR ⟨18, ia, b, c, imm⟩ r = (xa != 0, true) := by
          unfold takR
          rw [if_pos (by rw [hok]; rfl)]
          dsimp only
          try rw [HX.out]
          rfl
        rw [hv]
        clear hv hok hj hxa
        go_enter Try.func14, Try.ntmps14
        go_wp2_with fail
        refine (tables_any _).mono ?_
        rintro e wt ⟨rfl, hbt⟩
        have hbt2 := HT.out _ hbt
        obtain ⟨k0, k1, hs1⟩ := two_0 hbt
        have c0 := blk_cell k0 0
        have c1 := blk_cell k0 1
        have c2 := blk_cell k0 2
        have c3 := blk_cell k0 3
        have c4 := blk_cell k0 4
        clear k0 k1
        go_wp2_with fail
        refine (word_any ⟨18, ia, b, c, imm⟩ _).mono ?_
        rintro e w1 ⟨u, rfl, hb1⟩
        rw [HOK.out]
        replace hb1 := hbt.trans (hb1.mono hbt.size)
        clear c0 c1 c2 c3 c4 hbt hbt2 hs1
        obtain ⟨k0, k1, hs1⟩ := two_0 hb1
        have c0 := blk_cell k0 0
        have c1 := blk_cell k0 1
        have HB1 := Lib.hid (HT.out _ hb1)
        go_wp2_with fail
        refine (jmp_any 18 _).mono ?_
        rintro e w3 ⟨rfl, hb3⟩
        rw [HJ.out]
        have HB3 := Lib.hid (HB1.out.trans (hb3.mono HB1.out.size))
        replace k0 := (hb3.block _ (by omega)).trans k0
        replace k1 := (hb3.block _ (by omega)).trans k1
        replace c0 := blk_cell k0 0
        replace c1 := blk_cell k0 1
        have cA := (blk_cell k1 ia).trans HR.out
        clear k0 k1 hb1
        go_wp2
        go_ret2
        exact ⟨rfl, HB3.out⟩
      · have hv : takR ⟨19, ia, b, c, imm⟩ r = (true, true) := by
          unfold takR
          rw [if_pos (by rw [hok]; rfl)]
          dsimp only
          try rw [HX.out]
          rfl
        rw [hv]
        clear hv hok hj hxa
        go_enter Try.func14, Try.ntmps14
        go_wp2_with fail
        refine (tables_any _).mono ?_
        rintro e wt ⟨rfl, hbt⟩
        have hbt2 := HT.out _ hbt
        obtain ⟨k0, k1, hs1⟩ := two_0 hbt
        have c0 := blk_cell k0 0
        have c1 := blk_cell k0 1
        have c2 := blk_cell k0 2
        have c3 := blk_cell k0 3
        have c4 := blk_cell k0 4
        clear k0 k1
        go_wp2_with fail
        refine (word_any ⟨19, ia, b, c, imm⟩ _).mono ?_
        rintro e w1 ⟨u, rfl, hb1⟩
        rw [HOK.out]
        replace hb1 := hbt.trans (hb1.mono hbt.size)
        clear c0 c1 c2 c3 c4 hbt hbt2 hs1
        obtain ⟨k0, k1, hs1⟩ := two_0 hb1
        have c0 := blk_cell k0 0
        have c1 := blk_cell k0 1
        have HB1 := Lib.hid (HT.out _ hb1)
        go_wp2_with fail
        refine (jmp_any 19 _).mono ?_
        rintro e w3 ⟨rfl, hb3⟩
        rw [HJ.out]
        have HB3 := Lib.hid (HB1.out.trans (hb3.mono HB1.out.size))
        replace k0 := (hb3.block _ (by omega)).trans k0
        replace k1 := (hb3.block _ (by omega)).trans k1
        replace c0 := blk_cell k0 0
        replace c1 := blk_cell k0 1
        clear k0 k1 hb1
        go_wp2
        go_ret2
        exact ⟨rfl, HB3.out⟩
      · have hv : takR ⟨20, ia, b, c, imm⟩ r = (xa == 0, true) := by
          unfold takR
          rw [if_pos (by rw [hok]; rfl)]
          dsimp only
          try rw [HX.out]
          rfl
        rw [hv]
        clear hv hok hj hxa
        go_enter Try.func14, Try.ntmps14
        go_wp2_with fail
        refine (tables_any _).mono ?_
        rintro e wt ⟨rfl, hbt⟩
        have hbt2 := HT.out _ hbt
        obtain ⟨k0, k1, hs1⟩ := two_0 hbt
        have c0 := blk_cell k0 0
        have c1 := blk_cell k0 1
        have c2 := blk_cell k0 2
        have c3 := blk_cell k0 3
        have c4 := blk_cell k0 4
        clear k0 k1
        go_wp2_with fail
        refine (word_any ⟨20, ia, b, c, imm⟩ _).mono ?_
        rintro e w1 ⟨u, rfl, hb1⟩
        rw [HOK.out]
        replace hb1 := hbt.trans (hb1.mono hbt.size)
        clear c0 c1 c2 c3 c4 hbt hbt2 hs1
        obtain ⟨k0, k1, hs1⟩ := two_0 hb1
        have c0 := blk_cell k0 0
        have c1 := blk_cell k0 1
        have HB1 := Lib.hid (HT.out _ hb1)
        go_wp2_with fail
        refine (jmp_any 20 _).mono ?_
        rintro e w3 ⟨rfl, hb3⟩
        rw [HJ.out]
        have HB3 := Lib.hid (HB1.out.trans (hb3.mono HB1.out.size))
        replace k0 := (hb3.block _ (by omega)).trans k0
        replace k1 := (hb3.block _ (by omega)).trans k1
        replace c0 := blk_cell k0 0
        replace c1 := blk_cell k0 1
        have cA := (blk_cell k1 ia).trans HR.out
        clear k0 k1 hb1
        go_wp2
        go_ret2
        exact ⟨rfl, HB3.out⟩
      · have hv : takR ⟨21, ia, b, c, imm⟩ r = (xa != 0, true) := by
          unfold takR
          rw [if_pos (by rw [hok]; rfl)]
          dsimp only
          try rw [HX.out]
          rfl
        rw [hv]
        clear hv hok hj hxa
        go_enter Try.func14, Try.ntmps14
        go_wp2_with fail
        refine (tables_any _).mono ?_
        rintro e wt ⟨rfl, hbt⟩
        have hbt2 := HT.out _ hbt
        obtain ⟨k0, k1, hs1⟩ := two_0 hbt
        have c0 := blk_cell k0 0
        have c1 := blk_cell k0 1
        have c2 := blk_cell k0 2
        have c3 := blk_cell k0 3
        have c4 := blk_cell k0 4
        clear k0 k1
        go_wp2_with fail
        refine (word_any ⟨21, ia, b, c, imm⟩ _).mono ?_
        rintro e w1 ⟨u, rfl, hb1⟩
        rw [HOK.out]
        replace hb1 := hbt.trans (hb1.mono hbt.size)
        clear c0 c1 c2 c3 c4 hbt hbt2 hs1
        obtain ⟨k0, k1, hs1⟩ := two_0 hb1
        have c0 := blk_cell k0 0
        have c1 := blk_cell k0 1
        have HB1 := Lib.hid (HT.out _ hb1)
        go_wp2_with fail
        refine (jmp_any 21 _).mono ?_
        rintro e w3 ⟨rfl, hb3⟩
        rw [HJ.out]
        have HB3 := Lib.hid (HB1.out.trans (hb3.mono HB1.out.size))
        replace k0 := (hb3.block _ (by omega)).trans k0
        replace k1 := (hb3.block _ (by omega)).trans k1
        replace c0 := blk_cell k0 0
        replace c1 := blk_cell k0 1
        have cA := (blk_cell k1 ia).trans HR.out
        clear k0 k1 hb1
        go_wp2
        go_ret2
        exact ⟨rfl, HB3.out⟩
      · have hv : takR ⟨22, ia, b, c, imm⟩ r = (true, true) := by
          unfold takR
          rw [if_pos (by rw [hok]; rfl)]
          dsimp only
          try rw [HX.out]
          rfl
        rw [hv]
        clear hv hok hj hxa
        go_enter Try.func14, Try.ntmps14
        go_wp2_with fail
        refine (tables_any _).mono ?_
        rintro e wt ⟨rfl, hbt⟩
        have hbt2 := HT.out _ hbt
        obtain ⟨k0, k1, hs1⟩ := two_0 hbt
        have c0 := blk_cell k0 0
        have c1 := blk_cell k0 1
        have c2 := blk_cell k0 2
        have c3 := blk_cell k0 3
        have c4 := blk_cell k0 4
        clear k0 k1
        go_wp2_with fail
        refine (word_any ⟨22, ia, b, c, imm⟩ _).mono ?_
        rintro e w1 ⟨u, rfl, hb1⟩
        rw [HOK.out]
        replace hb1 := hbt.trans (hb1.mono hbt.size)
        clear c0 c1 c2 c3 c4 hbt hbt2 hs1
        obtain ⟨k0, k1, hs1⟩ := two_0 hb1
        have c0 := blk_cell k0 0
        have c1 := blk_cell k0 1
        have HB1 := Lib.hid (HT.out _ hb1)
        go_wp2_with fail
        refine (jmp_any 22 _).mono ?_
        rintro e w3 ⟨rfl, hb3⟩
        rw [HJ.out]
        have HB3 := Lib.hid (HB1.out.trans (hb3.mono HB1.out.size))
        replace k0 := (hb3.block _ (by omega)).trans k0
        replace k1 := (hb3.block _ (by omega)).trans k1
        replace c0 := blk_cell k0 0
        replace c1 := blk_cell k0 1
        clear k0 k1 hb1
        go_wp2
        go_ret2
        exact ⟨rfl, HB3.out⟩
      · have hv : takR ⟨23, ia, b, c, imm⟩ r = (true, true) := by
          unfold takR
          rw [if_pos (by rw [hok]; rfl)]
          dsimp only
          try rw [HX.out]
          rfl
        rw [hv]
        clear hv hok hj hxa
        go_enter Try.func14, Try.ntmps14
        go_wp2_with fail
        refine (tables_any _).mono ?_
        rintro e wt ⟨rfl, hbt⟩
        have hbt2 := HT.out _ hbt
        obtain ⟨k0, k1, hs1⟩ := two_0 hbt
        have c0 := blk_cell k0 0
        have c1 := blk_cell k0 1
        have c2 := blk_cell k0 2
        have c3 := blk_cell k0 3
        have c4 := blk_cell k0 4
        clear k0 k1
        go_wp2_with fail
        refine (word_any ⟨23, ia, b, c, imm⟩ _).mono ?_
        rintro e w1 ⟨u, rfl, hb1⟩
        rw [HOK.out]
        replace hb1 := hbt.trans (hb1.mono hbt.size)
        clear c0 c1 c2 c3 c4 hbt hbt2 hs1
        obtain ⟨k0, k1, hs1⟩ := two_0 hb1
        have c0 := blk_cell k0 0
        have c1 := blk_cell k0 1
        have HB1 := Lib.hid (HT.out _ hb1)
        go_wp2_with fail
        refine (jmp_any 23 _).mono ?_
        rintro e w3 ⟨rfl, hb3⟩
        rw [HJ.out]
        have HB3 := Lib.hid (HB1.out.trans (hb3.mono HB1.out.size))
        replace k0 := (hb3.block _ (by omega)).trans k0
        replace k1 := (hb3.block _ (by omega)).trans k1
        replace c0 := blk_cell k0 0
        replace c1 := blk_cell k0 1
        clear k0 k1 hb1
        go_wp2
        go_ret2
        exact ⟨rfl, HB3.out⟩
set_option maxRecDepth 100000 in
set_option maxHeartbeats 4000000 in
theorem rtaken_any (i : Ins) (r : List Int) (hl : r.length = 16) (w : World) : Calls Try.prog 15 #[insV i, .agg (regCells r)] w fun e w' => e = .returned (takV i r) ∧ Below w.heap.size w w' := by
  unfold takV
  obtain ⟨op, a, b, c, imm⟩ := i
  have HT : Hid (∀ wx, Below ((w.alloc (.cells #[.int .i64 op, .int .i64 a, .int .i64 b, .int .i64 c, .int .u32 imm] 29)).alloc (.cells (regCells r) 24)).heap.size ((w.alloc (.cells #[.int .i64 op, .int .i64 a, .int .i64 b, .int .i64 c, .int .u32 imm] 29)).alloc (.cells (regCells r) 24)) wx → Below w.heap.size w wx) := Lib.hid fun wx h => (two_belowI w _ _).trans (h.mono (two_belowI w _ _).size)
  have hsz := regs_size r hl
  cases hok : wok ⟨op, a, b, c, imm⟩
  · rw [takR_no (by rw [hok]; rfl)]
    have HOK := Lib.hid hok
    clear hok hl
    go_enter Try.func15, Try.ntmps15
    go_wp2_with fail
    refine (rword_any ⟨op, a, b, c, imm⟩ _).mono ?_
    rintro e w1 ⟨u, rfl, hb1⟩
    rw [HOK.out]
    obtain ⟨k0, k1, hs1⟩ := two_0 hb1
    have c0 := blk_cell k0 0
    have c1 := blk_cell k0 1
    have HB1 := Lib.hid (HT.out _ hb1)
    clear k0 k1 hb1
    go_wp2
    go_ret2
    exact ⟨rfl, HB1.out⟩
  · cases hj : jmp op
    · rw [takR_no (by rw [hok, hj]; rfl)]
      have HOK := Lib.hid hok
      have HJ := Lib.hid hj
      clear hok hl hj
      go_enter Try.func15, Try.ntmps15
      go_wp2_with fail
      refine (rword_any ⟨op, a, b, c, imm⟩ _).mono ?_
      rintro e w1 ⟨u, rfl, hb1⟩
      rw [HOK.out]
      obtain ⟨k0, k1, hs1⟩ := two_0 hb1
      have c0 := blk_cell k0 0
      have c1 := blk_cell k0 1
      have HB1 := Lib.hid (HT.out _ hb1)
      go_wp2_with fail
      refine (rjmp_any op _).mono ?_
      rintro e w3 ⟨rfl, rfl⟩
      rw [HJ.out]
      have HB3 := HB1
      clear k0 k1 hb1
      go_wp2
      go_ret2
      exact ⟨rfl, HB3.out⟩
    · obtain ⟨ha, -, -⟩ := wok_in hok
      dsimp only at ha
      obtain ⟨ia, rfl⟩ := Int.eq_ofNat_of_zero_le ha.1
      have hia : ia < 16 := by omega
      have hia0 : (0 : Int) ≤ (ia : Int) := by omega
      have hia1 : (ia : Int) < 16 := by omega
      have hop : op ∈ lkJ := of_decide_eq_true hj
      have HR := Lib.hid (regs_at r hl ia _ hia rfl)
      obtain ⟨xa, hxa⟩ : ∃ x, r.getD ia 0 = x := ⟨_, rfl⟩
      rw [hxa] at HR
      have HX : Hid (r.getD (ia : Int).toNat 0 = xa) := Lib.hid (by rw [Int.toNat_natCast, hxa])
      have HOK := Lib.hid hok
      have HJ := Lib.hid hj
      clear ha hl
      simp only [lkJ, List.mem_cons, List.not_mem_nil, or_false] at hop
      rcases hop with rfl | rfl | rfl | rfl | rfl | rfl | rfl | rfl
      · have hv : takR ⟨16, ia, b, c, imm⟩ r = (true, true) := by
          unfold takR
          rw [if_pos (by rw [hok]; rfl)]
          dsimp only
          try rw [HX.out]
          rfl
        rw [hv]
        clear hv hok hj hxa
        go_enter Try.func15, Try.ntmps15
        go_wp2_with fail
        refine (rword_any ⟨16, ia, b, c, imm⟩ _).mono ?_
        rintro e w1 ⟨u, rfl, hb1⟩
        rw [HOK.out]
        obtain ⟨k0, k1, hs1⟩ := two_0 hb1
        have c0 := blk_cell k0 0
        have c1 := blk_cell k0 1
        have HB1 := Lib.hid (HT.out _ hb1)
        go_wp2_with fail
        refine (rjmp_any 16 _).mono ?_
        rintro e w3 ⟨rfl, rfl⟩
        rw [HJ.out]
        have HB3 := HB1
        clear k0 k1 hb1
        go_wp2
        go_ret2
        exact ⟨rfl, HB3.out⟩
      · have hv : takR ⟨17, ia, b, c, imm⟩ r = (xa == 0, true) := by
          unfold takR
          rw [if_pos (by rw [hok]; rfl)]
          dsimp only
          try rw [HX.out]
          rfl
        rw [hv]
        clear hv hok hj hxa
        go_enter Try.func15, Try.ntmps15
        go_wp2_with fail
        refine (rword_any ⟨17, ia, b, c, imm⟩ _).mono ?_
        rintro e w1 ⟨u, rfl, hb1⟩
        rw [HOK.out]
        obtain ⟨k0, k1, hs1⟩ := two_0 hb1
        have c0 := blk_cell k0 0
        have c1 := blk_cell k0 1
        have HB1 := Lib.hid (HT.out _ hb1)
        go_wp2_with fail
        refine (rjmp_any 17 _).mono ?_
        rintro e w3 ⟨rfl, rfl⟩
        rw [HJ.out]
        have HB3 := HB1
        have cA := (blk_cell k1 ia).trans HR.out
        clear k0 k1 hb1
        go_wp2
        go_ret2
        exact ⟨rfl, HB3.out⟩
      · have hv : takR ⟨18, ia, b, c, imm⟩ r = (xa != 0, true) := by
          unfold takR
          rw [if_pos (by rw [hok]; rfl)]
          dsimp only
          try rw [HX.out]
          rfl
        rw [hv]
        clear hv hok hj hxa
        go_enter Try.func15, Try.ntmps15
        go_wp2_with fail
        refine (rword_any ⟨18, ia, b, c, imm⟩ _).mono ?_
        rintro e w1 ⟨u, rfl, hb1⟩
        rw [HOK.out]
        obtain ⟨k0, k1, hs1⟩ := two_0 hb1
        have c0 := blk_cell k0 0
        have c1 := blk_cell k0 1
        have HB1 := Lib.hid (HT.out _ hb1)
        go_wp2_with fail
        refine (rjmp_any 18 _).mono ?_
        rintro e w3 ⟨rfl, rfl⟩
        rw [HJ.out]
        have HB3 := HB1
        have cA := (blk_cell k1 ia).trans HR.out
        clear k0 k1 hb1
        go_wp2
        go_ret2
        exact ⟨rfl, HB3.out⟩
      · have hv : takR ⟨19, ia, b, c, imm⟩ r = (true, true) := by
          unfold takR
          rw [if_pos (by rw [hok]; rfl)]
          dsimp only
          try rw [HX.out]
          rfl
        rw [hv]
        clear hv hok hj hxa
        go_enter Try.func15, Try.ntmps15
        go_wp2_with fail
        refine (rword_any ⟨19, ia, b, c, imm⟩ _).mono ?_
        rintro e w1 ⟨u, rfl, hb1⟩
        rw [HOK.out]
        obtain ⟨k0, k1, hs1⟩ := two_0 hb1
        have c0 := blk_cell k0 0
        have c1 := blk_cell k0 1
        have HB1 := Lib.hid (HT.out _ hb1)
        go_wp2_with fail
        refine (rjmp_any 19 _).mono ?_
        rintro e w3 ⟨rfl, rfl⟩
        rw [HJ.out]
        have HB3 := HB1
        clear k0 k1 hb1
        go_wp2
        go_ret2
        exact ⟨rfl, HB3.out⟩
      · have hv : takR ⟨20, ia, b, c, imm⟩ r = (xa == 0, true) := by
          unfold takR
          rw [if_pos (by rw [hok]; rfl)]
          dsimp only
          try rw [HX.out]
          rfl
        rw [hv]
        clear hv hok hj hxa
        go_enter Try.func15, Try.ntmps15
        go_wp2_with fail
        refine (rword_any ⟨20, ia, b, c, imm⟩ _).mono ?_
        rintro e w1 ⟨u, rfl, hb1⟩
        rw [HOK.out]
        obtain ⟨k0, k1, hs1⟩ := two_0 hb1
        have c0 := blk_cell k0 0
        have c1 := blk_cell k0 1
        have HB1 := Lib.hid (HT.out _ hb1)
        go_wp2_with fail
        refine (rjmp_any 20 _).mono ?_
        rintro e w3 ⟨rfl, rfl⟩
        rw [HJ.out]
        have HB3 := HB1
        have cA := (blk_cell k1 ia).trans HR.out
        clear k0 k1 hb1
        go_wp2
        go_ret2
        exact ⟨rfl, HB3.out⟩
      · have hv : takR ⟨21, ia, b, c, imm⟩ r = (xa != 0, true) := by
          unfold takR
          rw [if_pos (by rw [hok]; rfl)]
          dsimp only
          try rw [HX.out]
          rfl
        rw [hv]
        clear hv hok hj hxa
        go_enter Try.func15, Try.ntmps15
        go_wp2_with fail
        refine (rword_any ⟨21, ia, b, c, imm⟩ _).mono ?_
        rintro e w1 ⟨u, rfl, hb1⟩
        rw [HOK.out]
        obtain ⟨k0, k1, hs1⟩ := two_0 hb1
        have c0 := blk_cell k0 0
        have c1 := blk_cell k0 1
        have HB1 := Lib.hid (HT.out _ hb1)
        go_wp2_with fail
        refine (rjmp_any 21 _).mono ?_
        rintro e w3 ⟨rfl, rfl⟩
        rw [HJ.out]
        have HB3 := HB1
        have cA := (blk_cell k1 ia).trans HR.out
        clear k0 k1 hb1
        go_wp2
        go_ret2
        exact ⟨rfl, HB3.out⟩
      · have hv : takR ⟨22, ia, b, c, imm⟩ r = (true, true) := by
          unfold takR
          rw [if_pos (by rw [hok]; rfl)]
          dsimp only
          try rw [HX.out]
          rfl
        rw [hv]
        clear hv hok hj hxa
        go_enter Try.func15, Try.ntmps15
        go_wp2_with fail
        refine (rword_any ⟨22, ia, b, c, imm⟩ _).mono ?_
        rintro e w1 ⟨u, rfl, hb1⟩
        rw [HOK.out]
        obtain ⟨k0, k1, hs1⟩ := two_0 hb1
        have c0 := blk_cell k0 0
        have c1 := blk_cell k0 1
        have HB1 := Lib.hid (HT.out _ hb1)
        go_wp2_with fail
        refine (rjmp_any 22 _).mono ?_
        rintro e w3 ⟨rfl, rfl⟩
        rw [HJ.out]
        have HB3 := HB1
        clear k0 k1 hb1
        go_wp2
        go_ret2
        exact ⟨rfl, HB3.out⟩
      · have hv : takR ⟨23, ia, b, c, imm⟩ r = (true, true) := by
          unfold takR
          rw [if_pos (by rw [hok]; rfl)]
          dsimp only
          try rw [HX.out]
          rfl
        rw [hv]
        clear hv hok hj hxa
        go_enter Try.func15, Try.ntmps15
        go_wp2_with fail
        refine (rword_any ⟨23, ia, b, c, imm⟩ _).mono ?_
        rintro e w1 ⟨u, rfl, hb1⟩
        rw [HOK.out]
        obtain ⟨k0, k1, hs1⟩ := two_0 hb1
        have c0 := blk_cell k0 0
        have c1 := blk_cell k0 1
        have HB1 := Lib.hid (HT.out _ hb1)
        go_wp2_with fail
        refine (rjmp_any 23 _).mono ?_
        rintro e w3 ⟨rfl, rfl⟩
        rw [HJ.out]
        have HB3 := HB1
        clear k0 k1 hb1
        go_wp2
        go_ret2
        exact ⟨rfl, HB3.out⟩
end Go.Proofs.Ytikioeddilgbpaa
