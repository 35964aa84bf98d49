/-
  hcall.Of, facaderef16.OfCall, facaderef16.Args, facaderef16.SameCall, facadelaw25.other.
-/
import Derived.Test.YtpmbbbgmaipmbaaDoorHcMade
import Derived.Test.YtpmbbbgmaipmbaaDoorFields
namespace Go.Proofs.YtpmbbbgmaipmbaaDoor
set_option linter.unusedSimpArgs false
open Go.ChangeShapes Go.WideShapes Go.ChangeAt Go.RowKit Go.Joins

def rgc (r : List Int) : Array Value := (u32s r).toArray
set_option maxRecDepth 100000 in
theorem open_rg16 {H : Type} {enc : TypeId × Value → H} {W : World} {base : Nat} {spare : Nat → Bool} {held : Bool} {r : Reach} {b0 : Nat} {v : Value} {d : DataW H} {p : List MemPlace}
    (hv : Value.okWide Tryd.prog W r b0 53 v) (h : DataW.Trod enc Tryd.prog W base spare held 53 v d p) : ∃ x : List Int, v = .agg (rgc x) ∧ x.length = 16 ∧ ∀ z ∈ x, 0 ≤ z ∧ z ≤ 4294967295 := by
  simp only [Value.okWide, Tryd.underlying53] at hv
  obtain ⟨cs, rfl, hsz, -⟩ := hv
  have h16 : cs.size = 16 := hsz.trans (by kernel_rfl)
  obtain ⟨fuel, hf⟩ := h
  have hcells : (Value.agg cs).cells.toList = cs.toList := rfl
  rw [hcells] at hf
  have hcl : cs.toList.length = 16 := by rw [Array.length_toList]; exact h16
  have hf' : DataW.trod enc Tryd.prog W base spare held fuel 53 ((cs.toList.drop 0).take (Tryd.prog.cellsOf 53)) = some (d, p) := by
    rw [List.drop_zero, List.take_of_length_le (by rw [hcl]; exact (show 16 ≤ Tryd.prog.cellsOf 53 by rw [show Tryd.prog.cellsOf 53 = 16 by kernel_rfl]; exact Nat.le_refl _))]
    exact hf
  obtain ⟨zs, hz1, hz2, hz3⟩ := fld_ints (m := 16) (o := 0) Tryd.underlying53 Tryd.underlying22 (by kernel_rfl) (by kernel_rfl) hf'
  rw [List.drop_zero, List.take_of_length_le (by omega)] at hz2
  refine ⟨zs, ?_, hz1, fun z hz => ?_⟩
  · congr 1
    apply Array.toList_inj.1
    rw [hz2]
    rfl
  · have := hz3 z hz
    simpa [Lit.wf, IntKind.min, IntKind.max, IntKind.signed, IntKind.bits] using this
theorem rgc_get (r : List Int) (h : r.length = 16) (i : Nat) (hi : i < 16) : (rgc r)[i]? = some (.int .u32 (r.getD i 0)) := by
  unfold rgc
  rw [List.getElem?_toArray]
  exact u32s_get r i (by omega)
theorem rgc_size (r : List Int) (h : r.length = 16) : (rgc r).size = 16 := by
  unfold rgc u32s
  rw [List.size_toArray, List.length_map, h]

theorem rargs_any (n : Int) (w : World) : Calls Tryd.prog 36 #[.int .i64 n] w fun e w' => e = .returned (.int .i64 (argN n)) ∧ Below w.heap.size w w' := by
  by_cases h : 1 ≤ n ∧ n ≤ 15
  · obtain ⟨m, rfl⟩ : ∃ m : Nat, n = (m : Int) + 1 := ⟨(n - 1).toNat, by omega⟩
    have e : argN ((m : Int) + 1) = argT.getD (m + 1) 0 := by
      unfold argN
      rw [if_pos h, show ((m : Int) + 1).toNat = m + 1 by omega]
    rw [e]
    have hc : (w.alloc (.cells #[.int .i64 2, .int .i64 0, .int .i64 2, .int .i64 4, .int .i64 1, .int .i64 3, .int .i64 0, .int .i64 3, .int .i64 1, .int .i64 2, .int .i64 0, .int .i64 1, .int .i64 0, .int .i64 1, .int .i64 0] 3)).cell? ⟨w.heap.size, m, none⟩ = some (.int .i64 (argT.getD (m + 1) 0)) := (blk_cell (blk_new w _) m).trans (argB_get m (by omega))
    obtain ⟨A, hA⟩ : ∃ A, argT.getD (m + 1) 0 = A := ⟨_, rfl⟩
    rw [hA] at hc ⊢
    have i1 : ¬ (m : Int) + 1 < 1 := by omega
    have i2 : ¬ (15 : Int) < (m : Int) + 1 := by omega
    have i3 : (m : Int) < 15 := by omega
    have hw := IntWalk.i64_in (m : Int) (by omega)
    clear hA h
    go_enter Tryd.func36, Tryd.ntmps36
    go_wp2
    go_ret
    exact ⟨rfl, (Below.refl _ _).alloc (Nat.le_refl _) _⟩
  · have e : argN n = -1 := by unfold argN; rw [if_neg h]
    rw [e]
    by_cases h1 : n < 1
    · clear h
      go_enter Tryd.func36, Tryd.ntmps36
      go_wp2
      go_ret
      exact ⟨rfl, Below.refl _ _⟩
    · have h2 : 15 < n := by omega
      clear h
      go_enter Tryd.func36, Tryd.ntmps36
      go_wp2
      go_ret
      exact ⟨rfl, Below.refl _ _⟩
theorem argN_in (n : Int) : argN n = -1 ∨ argN n = 0 ∨ argN n = 1 ∨ argN n = 2 ∨ argN n = 3 ∨ argN n = 4 := by
  unfold argN
  split
  · have := argT_le n.toNat; omega
  · exact .inl rfl
set_option maxRecDepth 100000 in
set_option maxHeartbeats 4000000 in
theorem cut_any (num a b c d : Int) (w : World) : Calls Tryd.prog 58 #[.agg #[.int .i64 num, .int .u32 a, .int .u32 b, .int .u32 c, .int .u32 d]] w fun e w' => e = .returned (cutL num (argN num) [a, b, c, d]).v ∧ Below w.heap.size w w' := by
  have HA := Lib.hid (fun wx => rargs_any num wx)
  have hin := argN_in num
  obtain ⟨A, hA⟩ : ∃ A, argN num = A := ⟨_, rfl⟩
  rw [hA] at HA hin ⊢
  clear hA
  rcases hin with rfl | rfl | rfl | rfl | rfl | rfl
  · have HV : Hid ((cutL num (-1) [a, b, c, d]).v = .agg #[.int .i64 num, .int .u32 0, .int .u32 0, .int .u32 0, .int .u32 0]) := Lib.hid rfl
    rw [HV.out]
    go_enter Tryd.func58, Tryd.ntmps58
    go_wp2_with fail
    refine (HA.out _).mono ?_
    rintro e w1 ⟨rfl, hb1⟩
    have HB : Hid (Below (w.heap.size + 1 + 1) ((w.alloc (.cells #[.int .i64 num, .int .u32 a, .int .u32 b, .int .u32 c, .int .u32 d] 61)).alloc (.cells #[.int .i64 0, .int .u32 0, .int .u32 0, .int .u32 0, .int .u32 0] 61)) w1) := Lib.hid (by simpa using hb1)
    have hk1 : w1.heap[w.heap.size]? = some (.cells #[.int .i64 num, .int .u32 a, .int .u32 b, .int .u32 c, .int .u32 d] 61 (0, 0)) := by
      rw [HB.out.block _ (by omega)]
      exact blk_old (blk_new w _) _
    have hk2 : w1.heap[w.heap.size + 1]? = some (.cells #[.int .i64 0, .int .u32 0, .int .u32 0, .int .u32 0, .int .u32 0] 61 (0, 0)) := by
      rw [HB.out.block _ (by omega)]
      have := blk_new (w.alloc (.cells #[.int .i64 num, .int .u32 a, .int .u32 b, .int .u32 c, .int .u32 d] 61)) (.cells #[.int .i64 0, .int .u32 0, .int .u32 0, .int .u32 0, .int .u32 0] 61)
      simpa using this
    have hlt1 := blk_lt hk1
    have hlt2 := blk_lt hk2
    have a0 := blk_cell hk1 0
    have a1 := blk_cell hk1 1
    have a2 := blk_cell hk1 2
    have a3 := blk_cell hk1 3
    have a4 := blk_cell hk1 4
    have z0 := blk_cell hk2 0
    have z1 := blk_cell hk2 1
    have z2 := blk_cell hk2 2
    have z3 := blk_cell hk2 3
    have z4 := blk_cell hk2 4
    have f0 := blk_free hk1 0
    have f1 := blk_free hk1 1
    have f2 := blk_free hk1 2
    have f3 := blk_free hk1 3
    have f4 := blk_free hk1 4
    have g0 := blk_free hk2 0
    have g1 := blk_free hk2 1
    have g2 := blk_free hk2 2
    have g3 := blk_free hk2 3
    have g4 := blk_free hk2 4
    have HBB : Hid (Below w.heap.size w w1) := Lib.hid ((((Below.refl _ _).alloc (Nat.le_refl _) _).alloc (by simp) _).trans (HB.out.mono (by omega)))
    clear hb1 hk1 hk2
    go_wp2
    refine bodyPost_ret (v := .agg #[.int .i64 num, .int .u32 0, .int .u32 0, .int .u32 0, .int .u32 0]) (by simp [results, Tryd.results58, go_sem, hlt1, hlt2, a0, a1, a2, a3, a4, z0, z1, z2, z3, z4, f0, f1, f2, f3, f4, g0, g1, g2, g3, g4]) rfl ⟨rfl, ?_⟩
    exact (((((((((HBB.out.setCell (by simp) _).setCell (by simp) _).setCell (by simp) _).setCell (by simp) _).setCell (by simp) _).setCell (by simp) _).setCell (by simp) _).setCell (by simp) _).setCell (by simp) _)
  · have HV : Hid ((cutL num (0) [a, b, c, d]).v = .agg #[.int .i64 num, .int .u32 0, .int .u32 0, .int .u32 0, .int .u32 0]) := Lib.hid rfl
    rw [HV.out]
    go_enter Tryd.func58, Tryd.ntmps58
    go_wp2_with fail
    refine (HA.out _).mono ?_
    rintro e w1 ⟨rfl, hb1⟩
    have HB : Hid (Below (w.heap.size + 1 + 1) ((w.alloc (.cells #[.int .i64 num, .int .u32 a, .int .u32 b, .int .u32 c, .int .u32 d] 61)).alloc (.cells #[.int .i64 0, .int .u32 0, .int .u32 0, .int .u32 0, .int .u32 0] 61)) w1) := Lib.hid (by simpa using hb1)
    have hk1 : w1.heap[w.heap.size]? = some (.cells #[.int .i64 num, .int .u32 a, .int .u32 b, .int .u32 c, .int .u32 d] 61 (0, 0)) := by
      rw [HB.out.block _ (by omega)]
      exact blk_old (blk_new w _) _
    have hk2 : w1.heap[w.heap.size + 1]? = some (.cells #[.int .i64 0, .int .u32 0, .int .u32 0, .int .u32 0, .int .u32 0] 61 (0, 0)) := by
      rw [HB.out.block _ (by omega)]
      have := blk_new (w.alloc (.cells #[.int .i64 num, .int .u32 a, .int .u32 b, .int .u32 c, .int .u32 d] 61)) (.cells #[.int .i64 0, .int .u32 0, .int .u32 0, .int .u32 0, .int .u32 0] 61)
      simpa using this
    have hlt1 := blk_lt hk1
    have hlt2 := blk_lt hk2
    have a0 := blk_cell hk1 0
    have a1 := blk_cell hk1 1
    have a2 := blk_cell hk1 2
    have a3 := blk_cell hk1 3
    have a4 := blk_cell hk1 4
    have z0 := blk_cell hk2 0
    have z1 := blk_cell hk2 1
    have z2 := blk_cell hk2 2
    have z3 := blk_cell hk2 3
    have z4 := blk_cell hk2 4
    have f0 := blk_free hk1 0
    have f1 := blk_free hk1 1
    have f2 := blk_free hk1 2
    have f3 := blk_free hk1 3
    have f4 := blk_free hk1 4
    have g0 := blk_free hk2 0
    have g1 := blk_free hk2 1
    have g2 := blk_free hk2 2
    have g3 := blk_free hk2 3
    have g4 := blk_free hk2 4
    have HBB : Hid (Below w.heap.size w w1) := Lib.hid ((((Below.refl _ _).alloc (Nat.le_refl _) _).alloc (by simp) _).trans (HB.out.mono (by omega)))
    clear hb1 hk1 hk2
    go_wp2
    refine bodyPost_ret (v := .agg #[.int .i64 num, .int .u32 0, .int .u32 0, .int .u32 0, .int .u32 0]) (by simp [results, Tryd.results58, go_sem, hlt1, hlt2, a0, a1, a2, a3, a4, z0, z1, z2, z3, z4, f0, f1, f2, f3, f4, g0, g1, g2, g3, g4]) rfl ⟨rfl, ?_⟩
    exact (((((((((HBB.out.setCell (by simp) _).setCell (by simp) _).setCell (by simp) _).setCell (by simp) _).setCell (by simp) _).setCell (by simp) _).setCell (by simp) _).setCell (by simp) _).setCell (by simp) _)
  · have HV : Hid ((cutL num (1) [a, b, c, d]).v = .agg #[.int .i64 num, .int .u32 a, .int .u32 0, .int .u32 0, .int .u32 0]) := Lib.hid rfl
    rw [HV.out]
    go_enter Tryd.func58, Tryd.ntmps58
    go_wp2_with fail
    refine (HA.out _).mono ?_
    rintro e w1 ⟨rfl, hb1⟩
    have HB : Hid (Below (w.heap.size + 1 + 1) ((w.alloc (.cells #[.int .i64 num, .int .u32 a, .int .u32 b, .int .u32 c, .int .u32 d] 61)).alloc (.cells #[.int .i64 0, .int .u32 0, .int .u32 0, .int .u32 0, .int .u32 0] 61)) w1) := Lib.hid (by simpa using hb1)
    have hk1 : w1.heap[w.heap.size]? = some (.cells #[.int .i64 num, .int .u32 a, .int .u32 b, .int .u32 c, .int .u32 d] 61 (0, 0)) := by
      rw [HB.out.block _ (by omega)]
      exact blk_old (blk_new w _) _
    have hk2 : w1.heap[w.heap.size + 1]? = some (.cells #[.int .i64 0, .int .u32 0, .int .u32 0, .int .u32 0, .int .u32 0] 61 (0, 0)) := by
      rw [HB.out.block _ (by omega)]
      have := blk_new (w.alloc (.cells #[.int .i64 num, .int .u32 a, .int .u32 b, .int .u32 c, .int .u32 d] 61)) (.cells #[.int .i64 0, .int .u32 0, .int .u32 0, .int .u32 0, .int .u32 0] 61)
      simpa using this
    have hlt1 := blk_lt hk1
    have hlt2 := blk_lt hk2
    have a0 := blk_cell hk1 0
    have a1 := blk_cell hk1 1
    have a2 := blk_cell hk1 2
    have a3 := blk_cell hk1 3
    have a4 := blk_cell hk1 4
    have z0 := blk_cell hk2 0
    have z1 := blk_cell hk2 1
    have z2 := blk_cell hk2 2
    have z3 := blk_cell hk2 3
    have z4 := blk_cell hk2 4
    have f0 := blk_free hk1 0
    have f1 := blk_free hk1 1
    have f2 := blk_free hk1 2
    have f3 := blk_free hk1 3
    have f4 := blk_free hk1 4
    have g0 := blk_free hk2 0
    have g1 := blk_free hk2 1
    have g2 := blk_free hk2 2
    have g3 := blk_free hk2 3
    have g4 := blk_free hk2 4
    have HBB : Hid (Below w.heap.size w w1) := Lib.hid ((((Below.refl _ _).alloc (Nat.le_refl _) _).alloc (by simp) _).trans (HB.out.mono (by omega)))
    clear hb1 hk1 hk2
    go_wp2
    refine bodyPost_ret (v := .agg #[.int .i64 num, .int .u32 a, .int .u32 0, .int .u32 0, .int .u32 0]) (by simp [results, Tryd.results58, go_sem, hlt1, hlt2, a0, a1, a2, a3, a4, z0, z1, z2, z3, z4, f0, f1, f2, f3, f4, g0, g1, g2, g3, g4]) rfl ⟨rfl, ?_⟩
    exact ((((((((HBB.out.setCell (by simp) _).setCell (by simp) _).setCell (by simp) _).setCell (by simp) _).setCell (by simp) _).setCell (by simp) _).setCell (by simp) _).setCell (by simp) _)
  · have HV : Hid ((cutL num (2) [a, b, c, d]).v = .agg #[.int .i64 num, .int .u32 a, .int .u32 b, .int .u32 0, .int .u32 0]) := Lib.hid rfl
    rw [HV.out]
    go_enter Tryd.func58, Tryd.ntmps58
    go_wp2_with fail
    refine (HA.out _).mono ?_
    rintro e w1 ⟨rfl, hb1⟩
    have HB : Hid (Below (w.heap.size + 1 + 1) ((w.alloc (.cells #[.int .i64 num, .int .u32 a, .int .u32 b, .int .u32 c, .int .u32 d] 61)).alloc (.cells #[.int .i64 0, .int .u32 0, .int .u32 0, .int .u32 0, .int .u32 0] 61)) w1) := Lib.hid (by simpa using hb1)
    have hk1 : w1.heap[w.heap.size]? = some (.cells #[.int .i64 num, .int .u32 a, .int .u32 b, .int .u32 c, .int .u32 d] 61 (0, 0)) := by
      rw [HB.out.block _ (by omega)]
      exact blk_old (blk_new w _) _
    have hk2 : w1.heap[w.heap.size + 1]? = some (.cells #[.int .i64 0, .int .u32 0, .int .u32 0, .int .u32 0, .int .u32 0] 61 (0, 0)) := by
      rw [HB.out.block _ (by omega)]
      have := blk_new (w.alloc (.cells #[.int .i64 num, .int .u32 a, .int .u32 b, .int .u32 c, .int .u32 d] 61)) (.cells #[.int .i64 0, .int .u32 0, .int .u32 0, .int .u32 0, .int .u32 0] 61)
      simpa using this
    have hlt1 := blk_lt hk1
    have hlt2 := blk_lt hk2
    have a0 := blk_cell hk1 0
    have a1 := blk_cell hk1 1
    have a2 := blk_cell hk1 2
    have a3 := blk_cell hk1 3
    have a4 := blk_cell hk1 4
    have z0 := blk_cell hk2 0
    have z1 := blk_cell hk2 1
    have z2 := blk_cell hk2 2
    have z3 := blk_cell hk2 3
    have z4 := blk_cell hk2 4
    have f0 := blk_free hk1 0
    have f1 := blk_free hk1 1
    have f2 := blk_free hk1 2
    have f3 := blk_free hk1 3
    have f4 := blk_free hk1 4
    have g0 := blk_free hk2 0
    have g1 := blk_free hk2 1
    have g2 := blk_free hk2 2
    have g3 := blk_free hk2 3
    have g4 := blk_free hk2 4
    have HBB : Hid (Below w.heap.size w w1) := Lib.hid ((((Below.refl _ _).alloc (Nat.le_refl _) _).alloc (by simp) _).trans (HB.out.mono (by omega)))
    clear hb1 hk1 hk2
    go_wp2
    refine bodyPost_ret (v := .agg #[.int .i64 num, .int .u32 a, .int .u32 b, .int .u32 0, .int .u32 0]) (by simp [results, Tryd.results58, go_sem, hlt1, hlt2, a0, a1, a2, a3, a4, z0, z1, z2, z3, z4, f0, f1, f2, f3, f4, g0, g1, g2, g3, g4]) rfl ⟨rfl, ?_⟩
    exact (((((((HBB.out.setCell (by simp) _).setCell (by simp) _).setCell (by simp) _).setCell (by simp) _).setCell (by simp) _).setCell (by simp) _).setCell (by simp) _)
  · have HV : Hid ((cutL num (3) [a, b, c, d]).v = .agg #[.int .i64 num, .int .u32 a, .int .u32 b, .int .u32 c, .int .u32 0]) := Lib.hid rfl
    rw [HV.out]
    go_enter Tryd.func58, Tryd.ntmps58
    go_wp2_with fail
    refine (HA.out _).mono ?_
    rintro e w1 ⟨rfl, hb1⟩
    have HB : Hid (Below (w.heap.size + 1 + 1) ((w.alloc (.cells #[.int .i64 num, .int .u32 a, .int .u32 b, .int .u32 c, .int .u32 d] 61)).alloc (.cells #[.int .i64 0, .int .u32 0, .int .u32 0, .int .u32 0, .int .u32 0] 61)) w1) := Lib.hid (by simpa using hb1)
    have hk1 : w1.heap[w.heap.size]? = some (.cells #[.int .i64 num, .int .u32 a, .int .u32 b, .int .u32 c, .int .u32 d] 61 (0, 0)) := by
      rw [HB.out.block _ (by omega)]
      exact blk_old (blk_new w _) _
    have hk2 : w1.heap[w.heap.size + 1]? = some (.cells #[.int .i64 0, .int .u32 0, .int .u32 0, .int .u32 0, .int .u32 0] 61 (0, 0)) := by
      rw [HB.out.block _ (by omega)]
      have := blk_new (w.alloc (.cells #[.int .i64 num, .int .u32 a, .int .u32 b, .int .u32 c, .int .u32 d] 61)) (.cells #[.int .i64 0, .int .u32 0, .int .u32 0, .int .u32 0, .int .u32 0] 61)
      simpa using this
    have hlt1 := blk_lt hk1
    have hlt2 := blk_lt hk2
    have a0 := blk_cell hk1 0
    have a1 := blk_cell hk1 1
    have a2 := blk_cell hk1 2
    have a3 := blk_cell hk1 3
    have a4 := blk_cell hk1 4
    have z0 := blk_cell hk2 0
    have z1 := blk_cell hk2 1
    have z2 := blk_cell hk2 2
    have z3 := blk_cell hk2 3
    have z4 := blk_cell hk2 4
    have f0 := blk_free hk1 0
    have f1 := blk_free hk1 1
    have f2 := blk_free hk1 2
    have f3 := blk_free hk1 3
    have f4 := blk_free hk1 4
    have g0 := blk_free hk2 0
    have g1 := blk_free hk2 1
    have g2 := blk_free hk2 2
    have g3 := blk_free hk2 3
    have g4 := blk_free hk2 4
    have HBB : Hid (Below w.heap.size w w1) := Lib.hid ((((Below.refl _ _).alloc (Nat.le_refl _) _).alloc (by simp) _).trans (HB.out.mono (by omega)))
    clear hb1 hk1 hk2
    go_wp2
    refine bodyPost_ret (v := .agg #[.int .i64 num, .int .u32 a, .int .u32 b, .int .u32 c, .int .u32 0]) (by simp [results, Tryd.results58, go_sem, hlt1, hlt2, a0, a1, a2, a3, a4, z0, z1, z2, z3, z4, f0, f1, f2, f3, f4, g0, g1, g2, g3, g4]) rfl ⟨rfl, ?_⟩
    exact ((((((HBB.out.setCell (by simp) _).setCell (by simp) _).setCell (by simp) _).setCell (by simp) _).setCell (by simp) _).setCell (by simp) _)
  · have HV : Hid ((cutL num (4) [a, b, c, d]).v = .agg #[.int .i64 num, .int .u32 a, .int .u32 b, .int .u32 c, .int .u32 d]) := Lib.hid rfl
    rw [HV.out]
    go_enter Tryd.func58, Tryd.ntmps58
    go_wp2_with fail
    refine (HA.out _).mono ?_
    rintro e w1 ⟨rfl, hb1⟩
    have HB : Hid (Below (w.heap.size + 1 + 1) ((w.alloc (.cells #[.int .i64 num, .int .u32 a, .int .u32 b, .int .u32 c, .int .u32 d] 61)).alloc (.cells #[.int .i64 0, .int .u32 0, .int .u32 0, .int .u32 0, .int .u32 0] 61)) w1) := Lib.hid (by simpa using hb1)
    have hk1 : w1.heap[w.heap.size]? = some (.cells #[.int .i64 num, .int .u32 a, .int .u32 b, .int .u32 c, .int .u32 d] 61 (0, 0)) := by
      rw [HB.out.block _ (by omega)]
      exact blk_old (blk_new w _) _
    have hk2 : w1.heap[w.heap.size + 1]? = some (.cells #[.int .i64 0, .int .u32 0, .int .u32 0, .int .u32 0, .int .u32 0] 61 (0, 0)) := by
      rw [HB.out.block _ (by omega)]
      have := blk_new (w.alloc (.cells #[.int .i64 num, .int .u32 a, .int .u32 b, .int .u32 c, .int .u32 d] 61)) (.cells #[.int .i64 0, .int .u32 0, .int .u32 0, .int .u32 0, .int .u32 0] 61)
      simpa using this
    have hlt1 := blk_lt hk1
    have hlt2 := blk_lt hk2
    have a0 := blk_cell hk1 0
    have a1 := blk_cell hk1 1
    have a2 := blk_cell hk1 2
    have a3 := blk_cell hk1 3
    have a4 := blk_cell hk1 4
    have z0 := blk_cell hk2 0
    have z1 := blk_cell hk2 1
    have z2 := blk_cell hk2 2
    have z3 := blk_cell hk2 3
    have z4 := blk_cell hk2 4
    have f0 := blk_free hk1 0
    have f1 := blk_free hk1 1
    have f2 := blk_free hk1 2
    have f3 := blk_free hk1 3
    have f4 := blk_free hk1 4
    have g0 := blk_free hk2 0
    have g1 := blk_free hk2 1
    have g2 := blk_free hk2 2
    have g3 := blk_free hk2 3
    have g4 := blk_free hk2 4
    have HBB : Hid (Below w.heap.size w w1) := Lib.hid ((((Below.refl _ _).alloc (Nat.le_refl _) _).alloc (by simp) _).trans (HB.out.mono (by omega)))
    clear hb1 hk1 hk2
    go_wp2
    refine bodyPost_ret (v := .agg #[.int .i64 num, .int .u32 a, .int .u32 b, .int .u32 c, .int .u32 d]) (by simp [results, Tryd.results58, go_sem, hlt1, hlt2, a0, a1, a2, a3, a4, z0, z1, z2, z3, z4, f0, f1, f2, f3, f4, g0, g1, g2, g3, g4]) rfl ⟨rfl, ?_⟩
    exact (((((HBB.out.setCell (by simp) _).setCell (by simp) _).setCell (by simp) _).setCell (by simp) _).setCell (by simp) _)

/-- the call of a number, and of registers -/
def ofL (num : Int) (r : List Int) : Hc × Bool := if 1 ≤ num ∧ num ≤ 15 then (cutL num (argN num) [r.getD 1 0, r.getD 2 0, r.getD 3 0, r.getD 4 0], true) else (⟨0, 0, 0, 0, 0⟩, false)
set_option maxRecDepth 100000 in
set_option maxHeartbeats 4000000 in
theorem of_any (num : Int) (r : List Int) (w : World) (h0 : 0 ≤ num) (hr : r.length = 16) : Calls Tryd.prog 25 #[.int .u32 num, .agg (rgc r)] w fun e w' => e = .returned (.tuple #[(ofL num r).1.v, .bool (ofL num r).2]) ∧ Below w.heap.size w w' := by
  obtain ⟨R, hR⟩ : ∃ R, ofL num r = R := ⟨_, rfl⟩
  have HAT : Hid (∀ wy, Below (w.heap.size + 1) (w.alloc (.cells (rgc r) 53)) wy → AtL wy (some ⟨w.heap.size, 1, none⟩) (u32s [r.getD 1 0, r.getD 2 0, r.getD 3 0, r.getD 4 0])) := Lib.hid fun wy hb k u hk => by
    have hblk : wy.heap[w.heap.size]? = some (.cells (rgc r) 53 (0, 0)) := by
      rw [hb.block _ (by omega)]
      exact blk_new _ _
    have hk4 : k < 4 := by
      have := (List.getElem?_eq_some_iff.1 hk).1
      simpa [u32s] using this
    refine ⟨w.heap.size, 1, rfl, ?_, blk_lt hblk⟩
    rw [blk_cell hblk, rgc_get r hr (1 + k) (by omega)]
    match k, hk4 with
    | 0, _ => simpa [u32s] using hk
    | 1, _ => simpa [u32s] using hk
    | 2, _ => simpa [u32s] using hk
    | 3, _ => simpa [u32s] using hk
  obtain ⟨cs, hcs⟩ : ∃ cs, rgc r = cs := ⟨_, rfl⟩
  have hsz : cs.size = 16 := by rw [← hcs]; exact rgc_size r hr
  rw [hcs] at HAT
  rw [hR, hcs]
  clear hcs
  have Z : Hid (∀ n, (.agg #[.int .i64 0, .int .u32 0, .int .u32 0, .int .u32 0, .int .u32 0] : Value) = (⟨0, 0, 0, 0, 0⟩ : Hc).v ∧ n = n) := Lib.hid fun (n : Nat) => ⟨rfl, rfl⟩
  by_cases hbig : 15 < num
  · have HR : Hid (R = (⟨0, 0, 0, 0, 0⟩, false)) := Lib.hid (by rw [← hR]; unfold ofL; rw [if_neg (by omega)])
    clear hR HAT
    go_enter Tryd.func25, Tryd.ntmps25
    go_wp2
    rw [HR.out]
    refine bodyPost_ret (v := .tuple #[.agg #[.int .i64 0, .int .u32 0, .int .u32 0, .int .u32 0, .int .u32 0], .bool false]) (by simp [results, Tryd.results25, go_sem]) rfl ⟨rfl, ?_⟩
    repeat (first | exact Below.refl _ _ | refine Below.alloc ?_ (by first | (simp; done) | (simp; omega)) _ | refine Below.setCell ?_ (by first | (simp; done) | (simp; omega)) _)
  · obtain ⟨n, rfl⟩ := Int.eq_ofNat_of_zero_le h0
    by_cases hz : n = 0
    · subst hz
      have HR : Hid (R = (⟨0, 0, 0, 0, 0⟩, false)) := Lib.hid (by rw [← hR]; unfold ofL; rw [if_neg (by decide)])
      have HA := Lib.hid (fun wx => args_bad 0 wx (.inl (by decide)))
      clear hR HAT hbig h0
      go_enter Tryd.func25, Tryd.ntmps25
      go_wp2_with fail
      refine (HA.out _).mono ?_
      rintro e w1 ⟨rfl, rfl⟩
      go_wp2
      rw [HR.out]
      refine bodyPost_ret (v := .tuple #[.agg #[.int .i64 0, .int .u32 0, .int .u32 0, .int .u32 0, .int .u32 0], .bool false]) (by simp [results, Tryd.results25, go_sem]) rfl ⟨rfl, ?_⟩
      repeat (first | exact Below.refl _ _ | refine Below.alloc ?_ (by first | (simp; done) | (simp; omega)) _ | refine Below.setCell ?_ (by first | (simp; done) | (simp; omega)) _)
    · have HR : Hid (R = (cutL n (argT.getD n 0) [r.getD 1 0, r.getD 2 0, r.getD 3 0, r.getD 4 0], true)) := Lib.hid (by
        rw [← hR]
        unfold ofL argN
        rw [if_pos ⟨by omega, by omega⟩, if_pos ⟨by omega, by omega⟩, Int.toNat_natCast])
      have HA := Lib.hid (fun wx => args_ok n wx (by omega) (by omega))
      obtain ⟨hq1, hq2⟩ := argT_le n
      obtain ⟨q, hq⟩ : ∃ q : Nat, argT.getD n 0 = (q : Int) := ⟨(argT.getD n 0).toNat, by omega⟩
      rw [hq] at HA HR
      have HQ : Hid (q ≤ 4) := Lib.hid (by omega)
      clear hR h0 hq hq1 hq2 hz
      have hw := IntWalk.i64_in (n : Int) (by omega)
      go_enter Tryd.func25, Tryd.ntmps25
      go_wp2_with fail
      refine (HA.out _).mono ?_
      rintro e w1 ⟨rfl, hb1⟩
      have HB : Hid (Below (w.heap.size + 1 + 1) ((w.alloc (.cells cs 53)).alloc (.cells #[.int .i64 0, .int .u32 0, .int .u32 0, .int .u32 0, .int .u32 0] 55)) w1) := Lib.hid (by simpa using hb1)
      have HAT1 := Lib.hid (HAT.out w1 (((Below.refl _ _).alloc (by simp) _).trans (HB.out.mono (by omega))))
      clear hb1
      go_wp2_with fail
      refine (made_any n q [r.getD 1 0, r.getD 2 0, r.getD 3 0, r.getD 4 0] (some ⟨w.heap.size, 1, none⟩) 15 _ HQ.out (by show q ≤ 4; exact HQ.out) (by show (4 : Nat) ≤ 9223372036854775807; decide) HAT1.out).mono ?_
      rintro e w2 ⟨rfl, hb2⟩
      have HB2 : Hid (Below (w.heap.size + 1 + 1) ((w.alloc (.cells cs 53)).alloc (.cells #[.int .i64 0, .int .u32 0, .int .u32 0, .int .u32 0, .int .u32 0] 55)) w2) := Lib.hid (HB.out.trans (hb2.mono (by have := HB.out.size; simp at this; omega)))
      have hk2 : w2.heap[w.heap.size + 1]? = some (.cells #[.int .i64 0, .int .u32 0, .int .u32 0, .int .u32 0, .int .u32 0] 55 (0, 0)) := by
        rw [HB2.out.block _ (by omega)]
        have := blk_new (w.alloc (.cells cs 53)) (.cells #[.int .i64 0, .int .u32 0, .int .u32 0, .int .u32 0, .int .u32 0] 55)
        simpa using this
      have hlt2 := blk_lt hk2
      have z0 := blk_cell hk2 0
      have z1 := blk_cell hk2 1
      have z2 := blk_cell hk2 2
      have z3 := blk_cell hk2 3
      have z4 := blk_cell hk2 4
      have g0 := blk_free hk2 0
      have g1 := blk_free hk2 1
      have g2 := blk_free hk2 2
      have g3 := blk_free hk2 3
      have g4 := blk_free hk2 4
      have HBB : Hid (Below w.heap.size w w2) := Lib.hid ((((Below.refl _ _).alloc (Nat.le_refl _) _).alloc (by simp) _).trans (HB2.out.mono (by omega)))
      obtain ⟨⟨y0, y1, y2, y3, y4⟩, hy⟩ : ∃ y, cutL (n : Int) (q : Int) [r.getD 1 0, r.getD 2 0, r.getD 3 0, r.getD 4 0] = y := ⟨_, rfl⟩
      rw [hy] at HR ⊢
      unfold Hc.v
      dsimp only
      clear hb2 hk2 hy
      go_wp2
      rw [HR.out]
      refine bodyPost_ret (v := .tuple #[.agg #[.int .i64 y0, .int .u32 y1, .int .u32 y2, .int .u32 y3, .int .u32 y4], .bool true]) (by simp [results, Tryd.results25, go_sem, hlt2, z0, z1, z2, z3, z4, g0, g1, g2, g3, g4]) rfl ⟨rfl, ?_⟩
      exact (((((HBB.out.setCell (by simp) _).setCell (by simp) _).setCell (by simp) _).setCell (by simp) _).setCell (by simp) _)
end Go.Proofs.YtpmbbbgmaipmbaaDoor
