/-
  facaderef1.Mem: New, Read, Write, Frames, over the list of its words.
-/
import Derived.Test.YtnhocmmgdkiepaaDoorMmB
namespace Go.Proofs.YtnhocmmgdkiepaaDoor
open Go.RowKit

def MAr (w : World) (b : Nat) (v : Value) (n : Nat) (l : List Int) : Prop := w.heap[b]? = some (.cells #[v] 149 (0, 0)) ∧ w.ownsRow 0 43 1 v (16 * n) (u32s l) ∧ l.length = 16 * n
theorem MAr.not {w : World} {b : Nat} {v : Value} {n : Nat} {l : List Int} (h : MAr w b v n l) : ¬ inRow v b := own_not h.2.1 h.1 (by decide)
theorem MAr.cell {w : World} {b : Nat} {v : Value} {n : Nat} {l : List Int} (h : MAr w b v n l) : w.cell? ⟨b, 0, none⟩ = some v := blk_cell h.1 0
theorem MAr.below {w w' : World} {b : Nat} {v : Value} {n : Nat} {l : List Int} (h : MAr w b v n l) (hb : Below w.heap.size w w') : MAr w' b v n l :=
  ⟨by rw [hb.block b (blk_lt h.1)]; exact h.1, own_frame h.2.1 fun k hk => hb.block k (own_lt h.2.1 hk), h.2.2⟩
theorem MAr.only {F : Nat → Prop} {w w' : World} {b : Nat} {v : Value} {n : Nat} {l : List Int} (h : MAr w b v n l) (ho : Only F w w') (h1 : ¬ F b) (h2 : ∀ k, inRow v k → ¬ F k) : MAr w' b v n l :=
  ⟨ho.blk h.1 h1, own_only h.2.1 ho h2, h.2.2⟩
theorem MAr.slice {w : World} {b : Nat} {v : Value} {n : Nat} {l : List Int} (h : MAr w b v n l) : ∃ ao cap, v = .slice ao (16 * n) cap ∧ AtL w ao (u32s l) := atL_of_own h.2.1
theorem MAr.own {w : World} {b : Nat} {v : Value} {n : Nat} {l : List Int} (h : MAr w b v n l) (hn : 0 < n) : ∃ g cap, v = .slice (some ⟨g, 0, none⟩) (16 * n) cap ∧ 16 * n ≤ cap := by
  rcases own_shape h.2.1 with ⟨-, hz, -⟩ | h
  · omega
  · obtain ⟨g, cap, e1, e2, -⟩ := h
    exact ⟨g, cap, e1, e2⟩

set_option maxRecDepth 100000 in
set_option maxHeartbeats 800000 in
theorem mr_new (n : Nat) (w : World) (h1 : 1 ≤ n) (h2 : n ≤ 1024) :
    Calls Tryd.prog 40 #[.int .i64 n] w fun e w' => ∃ b v, e = .returned (.pointer (some ⟨b, 0, none⟩)) ∧ MAr w' b v n (List.replicate (16 * n) 0) ∧ w.heap.size ≤ b ∧ (∀ k, inRow v k → w.heap.size ≤ k) ∧ Below w.heap.size w w' := by
  obtain ⟨i, hi, hz0, hz1, hz2⟩ := info_parts infoU32
  have hw := IntWalk.i64_in (16 * (n : Int)) (by omega)
  obtain ⟨v, w1, hmk, ho, hg, rfl⟩ : ∃ v w1, (Instr.makeSlice 69 (.int .i64 (16 * (n : Int))) (.int .i64 (16 * (n : Int)))).run Tryd.prog w = .ok v w1 ∧ w1.ownsRow 0 43 1 v (16 * n) (u32s (List.replicate (16 * n) 0)) ∧ w.grownBy w1 none ∧ v = .slice (some ⟨w.heap.size, 0, none⟩) (16 * n) (16 * n) := by
    obtain ⟨w1, e, ho, hg⟩ := run_makeSlice_full (P := Tryd.prog) w 0 69 43 i (.int .u32 0) 1 Tryd.underlying69 hi hz0 hz1 .i64 .i64 (16 * n) (by omega) (by rw [hz2]; omega) (by unfold maxLen; omega) (Nat.zero_le _)
    rw [show ((16 * n : Nat) : Int) = 16 * (n : Int) by omega] at e
    refine ⟨_, w1, e, ?_, hg, rfl⟩
    rw [Nat.mul_one, show (Value.int IntKind.u32 0).cells = #[Value.int IntKind.u32 0] from rfl, toList_madeCells_one] at ho
    simpa [u32s] using ho
  have hb : Below w.heap.size w w1 := (Below.refl _ _).grown hg (Nat.le_refl _) (fun k hk => by cases hk)
  have HM : Hid (MAr (w1.alloc (.cells #[.slice (some ⟨w.heap.size, 0, none⟩) (16 * n) (16 * n)] 149)) w1.heap.size (.slice (some ⟨w.heap.size, 0, none⟩) (16 * n) (16 * n)) n (List.replicate (16 * n) 0)) := Lib.hid ⟨blk_new _ _, ho.alloc _, by simp⟩
  have HB := Lib.hid (hb.alloc hb.size (.cells #[.slice (some ⟨w.heap.size, 0, none⟩) (16 * n) (16 * n)] 149))
  have HS := Lib.hid hb.size
  have HV : Hid (∀ k, inRow (.slice (some ⟨w.heap.size, 0, none⟩) (16 * n) (16 * n)) k → w.heap.size ≤ k) := Lib.hid fun k hk => by simp [inRow, Value.ownBlock] at hk; omega
  clear ho hg hb
  go_enter Tryd.func40, Tryd.ntmps40
  go_wp2
  go_ret
  first | exact ⟨w1.heap.size, _, rfl, HM.out, HS.out, HV.out, HB.out⟩ | exact ⟨w1.heap.size, rfl, _, HM.out, HS.out, HV.out, HB.out⟩ | exact ⟨_, rfl, _, HM.out, HS.out, HV.out, HB.out⟩

set_option maxHeartbeats 800000 in
theorem mr_read (l : List Int) (b n : Nat) (v : Value) (i : Int) (w : World) (h : MAr w b v n l) :
    Calls Tryd.prog 118 #[.pointer (some ⟨b, 0, none⟩), .int .i64 i] w fun e w' => e = .returned (readAns l i) ∧ w = w' := by
  have c := h.cell
  have hlen := h.2.2
  obtain ⟨ao, cap, rfl, hat⟩ := h.slice
  have HAT := Lib.hid hat
  have HLEN := Lib.hid hlen
  clear h hat hlen
  by_cases h0 : i < 0
  · have HC : Hid (readAns l i = .tuple #[.int .u32 0, .bool false]) := Lib.hid (by unfold readAns; rw [if_neg (by omega)])
    go_enter Tryd.func118, Tryd.ntmps118
    go_wp2
    go_ret2
    exact ⟨by rw [HC.out]; rfl, rfl⟩
  · obtain ⟨j, rfl⟩ : ∃ j : Nat, i = (j : Int) := ⟨i.toNat, by omega⟩
    by_cases h1 : j < 16 * n
    · have HC : Hid (readAns l (j : Int) = .tuple #[.int .u32 (l.getD j 0), .bool true]) := Lib.hid (by unfold readAns; rw [if_pos (by have := HLEN.out; omega), Int.toNat_natCast])
      obtain ⟨d, off, rfl, c0, -⟩ := HAT.out j _ (u32s_get l j (by rw [HLEN.out]; exact h1))
      obtain ⟨z, hz⟩ : ∃ z, l.getD j 0 = z := ⟨_, rfl⟩
      rw [hz] at c0 HC
      clear hz
      have hji : (j : Int) < ((16 * n : Nat) : Int) := by omega
      obtain ⟨N, hN⟩ : ∃ N, 16 * n = N := ⟨_, rfl⟩
      rw [hN] at hji c
      clear h1
      go_enter Tryd.func118, Tryd.ntmps118
      clear hN
      go_wp2
      go_ret2
      exact ⟨by rw [HC.out]; rfl, rfl⟩
    · have HC : Hid (readAns l (j : Int) = .tuple #[.int .u32 0, .bool false]) := Lib.hid (by unfold readAns; rw [if_neg (by have := HLEN.out; omega)])
      have hji : ((16 * n : Nat) : Int) ≤ (j : Int) := by omega
      obtain ⟨N, hN⟩ : ∃ N, 16 * n = N := ⟨_, rfl⟩
      rw [hN] at hji c
      clear h1
      go_enter Tryd.func118, Tryd.ntmps118
      clear hN
      go_wp2
      go_ret2
      exact ⟨by rw [HC.out]; rfl, rfl⟩

set_option maxHeartbeats 800000 in
theorem mr_frames (l : List Int) (b n : Nat) (v : Value) (w : World) (h : MAr w b v n l) (hn : n ≤ 1024) :
    Calls Tryd.prog 114 #[.pointer (some ⟨b, 0, none⟩)] w fun e w' => e = .returned (.int .i64 n) ∧ w = w' := by
  have c := h.cell
  obtain ⟨ao, cap, rfl, -⟩ := h.slice
  clear h
  obtain ⟨N, hN⟩ : ∃ N, 16 * n = N := ⟨_, rfl⟩
  have H3 : Hid ((N : Int) / 16 = n) := Lib.hid (by omega)
  have hw := IntWalk.i64_in ((N : Int) / 16) (by omega)
  rw [hN] at c
  clear hN
  go_enter Tryd.func114, Tryd.ntmps114
  go_wp2
  go_ret
  refine ⟨?_, rfl⟩
  show Ending.returned (Value.int .i64 ((N : Int) / 16)) = _
  rw [H3.out]

set_option maxHeartbeats 800000 in
theorem mr_write (l : List Int) (b n : Nat) (v : Value) (i x : Int) (w : World) (h : MAr w b v n l) :
    Calls Tryd.prog 82 #[.pointer (some ⟨b, 0, none⟩), .int .i64 i, .int .u32 x] w fun e w' => e = .returned (.bool (decide (0 ≤ i) && decide (i < l.length))) ∧ MAr w' b v n (writeL l i x) ∧ Only (fun k => inRow v k) w w' := by
  have c := h.cell
  have HM := Lib.hid h
  by_cases h0 : i < 0
  · have HC : Hid (writeL l i x = l) := Lib.hid (by unfold writeL; rw [if_neg (by omega)])
    have HD : Hid ((decide (0 ≤ i) && decide (i < (l.length : Int))) = false) := Lib.hid (by simp; omega)
    rw [HC.out, HD.out]
    clear h
    go_enter Tryd.func82, Tryd.ntmps82
    go_wp2
    go_ret
    exact ⟨rfl, HM.out, Only.refl _ _⟩
  · obtain ⟨j, rfl⟩ : ∃ j : Nat, i = (j : Int) := ⟨i.toNat, by omega⟩
    have hlen := h.2.2
    by_cases h1 : j < 16 * n
    · have HC : Hid (writeL l j x = l.set j x) := Lib.hid (by unfold writeL; rw [if_pos (by omega), Int.toNat_natCast])
      have HD : Hid ((decide (0 ≤ (j : Int)) && decide ((j : Int) < (l.length : Int))) = true) := Lib.hid (by simp; omega)
      rw [HC.out, HD.out]
      obtain ⟨g, cap, rfl, -⟩ := h.own (by omega)
      have g0 := (own_cell h.2.1 j (by omega)).trans (u32s_get l j (by omega))
      have g1 := own_free h.2.1 j
      have hgb : ¬ b = g := fun e => h.not (by subst e; rfl)
      have HS : Hid (MAr (w.setCell ⟨g, j, none⟩ (.int .u32 x)) b (.slice (some ⟨g, 0, none⟩) (16 * n) cap) n (l.set j x)) := Lib.hid ⟨blk_set h.1 (by exact hgb) _, by
        rw [← u32s_set]
        exact (h.2.1.stored j _).1, by rw [List.length_set]; exact hlen⟩
      have HON : Hid (Only (fun k => inRow (.slice (some ⟨g, 0, none⟩) (16 * n) cap) k) w (w.setCell ⟨g, j, none⟩ (.int .u32 x))) := Lib.hid
        (Only.setCell (F := fun k => inRow (.slice (some ⟨g, 0, none⟩) (16 * n) cap) k) (Only.refl _ _) (p := ⟨g, j, none⟩) (.inl rfl) _)
      have hji : (j : Int) < ((16 * n : Nat) : Int) := by omega
      obtain ⟨N, hN⟩ : ∃ N, 16 * n = N := ⟨_, rfl⟩
      rw [hN] at hji c HON HS ⊢
      clear h h1 hgb hlen HM HC
      go_enter Tryd.func82, Tryd.ntmps82
      clear hN
      go_wp2
      go_ret
      exact ⟨rfl, HS.out, HON.out⟩
    · have HC : Hid (writeL l j x = l) := Lib.hid (by unfold writeL; rw [if_neg (by omega)])
      have HD : Hid ((decide (0 ≤ (j : Int)) && decide ((j : Int) < (l.length : Int))) = false) := Lib.hid (by simp; omega)
      rw [HC.out, HD.out]
      obtain ⟨ao, cap, rfl, -⟩ := h.slice
      have hji : ((16 * n : Nat) : Int) ≤ (j : Int) := by omega
      obtain ⟨N, hN⟩ : ∃ N, 16 * n = N := ⟨_, rfl⟩
      rw [hN] at hji c HM ⊢
      clear h h1 hlen
      go_enter Tryd.func82, Tryd.ntmps82
      clear hN
      go_wp2
      go_ret
      exact ⟨rfl, HM.out, Only.refl _ _⟩
end Go.Proofs.YtnhocmmgdkiepaaDoor
