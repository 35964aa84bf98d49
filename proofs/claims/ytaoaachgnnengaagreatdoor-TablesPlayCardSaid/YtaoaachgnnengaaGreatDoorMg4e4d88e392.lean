/-
  Parts of one proof, one behind the other.
-/
import Derived.Test.YtaoaachgnnengaaGreatDoorMg46ad1761f3
import Derived.Test.YtaoaachgnnengaaGreatDoorRows
/-
  mem.Mem: what its functions answer, over the list of its words.
-/
namespace Go.Proofs.YtaoaachgnnengaaGreatDoor
open Go.RowKit

def MAt (w : World) (b : Nat) (v : Value) (n : Nat) (l : List Int) : Prop := w.heap[b]? = some (.cells #[v] 95 (0, 0)) ∧ w.ownsRow 0 115 1 v (16 * n) (u32s l) ∧ l.length = 16 * n
theorem MAt.not {w : World} {b : Nat} {v : Value} {n : Nat} {l : List Int} (h : MAt w b v n l) : ¬ inRow v b := own_not h.2.1 h.1 (by decide)
theorem MAt.cell {w : World} {b : Nat} {v : Value} {n : Nat} {l : List Int} (h : MAt w b v n l) : w.cell? ⟨b, 0, none⟩ = some v := blk_cell h.1 0
theorem MAt.below {w w' : World} {b : Nat} {v : Value} {n : Nat} {l : List Int} (h : MAt w b v n l) (hb : Below w.heap.size w w') : MAt w' b v n l :=
  ⟨by rw [hb.block b (blk_lt h.1)]; exact h.1, own_frame h.2.1 fun k hk => hb.block k (own_lt h.2.1 hk), h.2.2⟩
theorem MAt.only {F : Nat → Prop} {w w' : World} {b : Nat} {v : Value} {n : Nat} {l : List Int} (h : MAt w b v n l) (ho : Only F w w') (h1 : ¬ F b) (h2 : ∀ k, inRow v k → ¬ F k) : MAt w' b v n l :=
  ⟨ho.blk h.1 h1, own_only h.2.1 ho h2, h.2.2⟩
theorem MAt.slice {w : World} {b : Nat} {v : Value} {n : Nat} {l : List Int} (h : MAt w b v n l) : ∃ ao cap, v = .slice ao (16 * n) cap ∧ AtL w ao (u32s l) := atL_of_own h.2.1
theorem MAt.own {w : World} {b : Nat} {v : Value} {n : Nat} {l : List Int} (h : MAt w b v n l) (hn : 0 < n) : ∃ g cap, v = .slice (some ⟨g, 0, none⟩) (16 * n) cap ∧ 16 * n ≤ cap := by
  rcases own_shape h.2.1 with ⟨-, hz, -⟩ | h
  · omega
  · obtain ⟨g, cap, e1, e2, -⟩ := h
    exact ⟨g, cap, e1, e2⟩
theorem u32s_set (l : List Int) (k : Nat) (x : Int) : (u32s l).set k (.int .u32 x) = u32s (l.set k x) := by simp [u32s, List.map_set]

set_option maxRecDepth 100000 in
set_option maxHeartbeats 800000 in
theorem mm_new (n : Nat) (w : World) (h1 : 1 ≤ n) (h2 : n ≤ 1024) :
    Calls Tryz.prog 15 #[.int .i64 n] w fun e w' => ∃ b v, e = .returned (.tuple #[.pointer (some ⟨b, 0, none⟩), .nilIface]) ∧ MAt w' b v n (List.replicate (16 * n) 0) ∧ w.heap.size ≤ b ∧ (∀ k, inRow v k → w.heap.size ≤ k) ∧ Below w.heap.size w w' := by
  obtain ⟨i, hi, hz0, hz1, hz2⟩ := info_parts infoU32
  have hn1 : ¬ (n : Int) < 1 := by omega
  have hn2 : ¬ (1024 : Int) < (n : Int) := by omega
  have hw := IntWalk.i64_in ((n : Int) * 16) (by omega)
  obtain ⟨v, w1, hmk, ho, hg, rfl⟩ : ∃ v w1, (Instr.makeSlice 65 (.int .i64 ((n : Int) * 16)) (.int .i64 ((n : Int) * 16))).run Tryz.prog w = .ok v w1 ∧ w1.ownsRow 0 115 1 v (16 * n) (u32s (List.replicate (16 * n) 0)) ∧ w.grownBy w1 none ∧ v = .slice (some ⟨w.heap.size, 0, none⟩) (16 * n) (16 * n) := by
    obtain ⟨w1, e, ho, hg⟩ := run_makeSlice_full (P := Tryz.prog) w 0 65 115 i (.int .u32 0) 1 Tryz.underlying65 hi hz0 hz1 .i64 .i64 (16 * n) (by omega) (by rw [hz2]; omega) (by unfold maxLen; omega) (Nat.zero_le _)
    rw [show ((16 * n : Nat) : Int) = (n : Int) * 16 by omega] at e
    refine ⟨_, w1, e, ?_, hg, rfl⟩
    rw [Nat.mul_one, show (Value.int IntKind.u32 0).cells = #[Value.int IntKind.u32 0] from rfl, toList_madeCells_one] at ho
    simpa [u32s] using ho
  have hb : Below w.heap.size w w1 := (Below.refl _ _).grown hg (Nat.le_refl _) (fun k hk => by cases hk)
  have HM : Hid (MAt (w1.alloc (.cells #[.slice (some ⟨w.heap.size, 0, none⟩) (16 * n) (16 * n)] 95)) w1.heap.size (.slice (some ⟨w.heap.size, 0, none⟩) (16 * n) (16 * n)) n (List.replicate (16 * n) 0)) := Lib.hid ⟨blk_new _ _, ho.alloc _, by simp⟩
  have HB := Lib.hid (hb.alloc hb.size (.cells #[.slice (some ⟨w.heap.size, 0, none⟩) (16 * n) (16 * n)] 95))
  have HS := Lib.hid hb.size
  have HV : Hid (∀ k, inRow (.slice (some ⟨w.heap.size, 0, none⟩) (16 * n) (16 * n)) k → w.heap.size ≤ k) := Lib.hid fun k hk => by simp [inRow, Value.ownBlock] at hk; omega
  clear ho hg hb
  go_enter Tryz.func15, Tryz.ntmps15
  go_wp2
  go_ret2
  first | exact ⟨w1.heap.size, _, rfl, HM.out, HS.out, HV.out, HB.out⟩ | exact ⟨w1.heap.size, rfl, _, HM.out, HS.out, HV.out, HB.out⟩ | exact ⟨_, rfl, _, HM.out, HS.out, HV.out, HB.out⟩

def readAns (l : List Int) (i : Int) : Value := if 0 ≤ i ∧ i < l.length then .tuple #[.int .u32 (l.getD i.toNat 0), .bool true] else .tuple #[.int .u32 0, .bool false]
set_option maxHeartbeats 800000 in
theorem mm_read (l : List Int) (b n : Nat) (v : Value) (i : Int) (w : World) (h : MAt w b v n l) :
    Calls Tryz.prog 103 #[.pointer (some ⟨b, 0, none⟩), .int .i64 i] w fun e w' => e = .returned (readAns l i) ∧ w = w' := by
  have c := h.cell
  have hlen := h.2.2
  obtain ⟨ao, cap, rfl, hat⟩ := h.slice
  have HAT := Lib.hid hat
  have HLEN := Lib.hid hlen
  clear h hat hlen
  by_cases h0 : i < 0
  · have HC : Hid (readAns l i = .tuple #[.int .u32 0, .bool false]) := Lib.hid (by unfold readAns; rw [if_neg (by omega)])
    go_enter Tryz.func103, Tryz.ntmps103
    go_wp2
    go_ret2
    exact ⟨by rw [HC.out]; rfl, rfl⟩
  · obtain ⟨j, rfl⟩ : ∃ j : Nat, i = (j : Int) := ⟨i.toNat, by omega⟩
    by_cases h1 : j < 16 * n
    · have HC : Hid (readAns l (j : Int) = .tuple #[.int .u32 (l.getD j 0), .bool true]) := Lib.hid (by unfold readAns; rw [if_pos (by have := HLEN.out; omega), Int.toNat_natCast])
      obtain ⟨d, off, rfl, c0, -⟩ := HAT.out j _ (u32s_get l j (by rw [HLEN.out]; exact h1))
      obtain ⟨z, hz⟩ : ∃ z, l.getD j 0 = z := ⟨_, rfl⟩
      rw [hz] at c0 HC
      clear hz
      have hji : (j : Int) < ((16 * n : Nat) : Int) := by omega
      obtain ⟨N, hN⟩ : ∃ N, 16 * n = N := ⟨_, rfl⟩
      rw [hN] at hji c
      clear h1
      go_enter Tryz.func103, Tryz.ntmps103
      clear hN
      go_wp2
      go_ret2
      exact ⟨by rw [HC.out]; rfl, rfl⟩
    · have HC : Hid (readAns l (j : Int) = .tuple #[.int .u32 0, .bool false]) := Lib.hid (by unfold readAns; rw [if_neg (by have := HLEN.out; omega)])
      have hji : ((16 * n : Nat) : Int) ≤ (j : Int) := by omega
      obtain ⟨N, hN⟩ : ∃ N, 16 * n = N := ⟨_, rfl⟩
      rw [hN] at hji c
      clear h1
      go_enter Tryz.func103, Tryz.ntmps103
      clear hN
      go_wp2
      go_ret2
      exact ⟨by rw [HC.out]; rfl, rfl⟩

def writeL (l : List Int) (i x : Int) : List Int := if 0 ≤ i ∧ i < l.length then l.set i.toNat x else l
set_option maxHeartbeats 800000 in
theorem mm_write (l : List Int) (b n : Nat) (v : Value) (i x : Int) (w : World) (h : MAt w b v n l) :
    Calls Tryz.prog 76 #[.pointer (some ⟨b, 0, none⟩), .int .i64 i, .int .u32 x] w fun e w' => e = .returned (.bool (decide (0 ≤ i) && decide (i < l.length))) ∧ MAt w' b v n (writeL l i x) ∧ Only (fun k => inRow v k) w w' := by
  have c := h.cell
  have HM := Lib.hid h
  by_cases h0 : i < 0
  · have HC : Hid (writeL l i x = l) := Lib.hid (by unfold writeL; rw [if_neg (by omega)])
    have HD : Hid ((decide (0 ≤ i) && decide (i < (l.length : Int))) = false) := Lib.hid (by simp; omega)
    rw [HC.out, HD.out]
    clear h
    go_enter Tryz.func76, Tryz.ntmps76
    go_wp2
    go_ret
    exact ⟨rfl, HM.out, Only.refl _ _⟩
  · obtain ⟨j, rfl⟩ : ∃ j : Nat, i = (j : Int) := ⟨i.toNat, by omega⟩
    have hlen := h.2.2
    by_cases h1 : j < 16 * n
    · have HC : Hid (writeL l j x = l.set j x) := Lib.hid (by unfold writeL; rw [if_pos (by omega), Int.toNat_natCast])
      have HD : Hid ((decide (0 ≤ (j : Int)) && decide ((j : Int) < (l.length : Int))) = true) := Lib.hid (by simp; omega)
      rw [HC.out, HD.out]
      obtain ⟨g, cap, rfl, -⟩ := h.own (by omega)
      have g0 := (own_cell h.2.1 j (by omega)).trans (u32s_get l j (by omega))
      have g1 := own_free h.2.1 j
      have hgb : ¬ b = g := fun e => h.not (by subst e; rfl)
      have HS : Hid (MAt (w.setCell ⟨g, j, none⟩ (.int .u32 x)) b (.slice (some ⟨g, 0, none⟩) (16 * n) cap) n (l.set j x)) := Lib.hid ⟨blk_set h.1 (by exact hgb) _, by
        rw [← u32s_set]
        exact (h.2.1.stored j _).1, by rw [List.length_set]; exact hlen⟩
      have HON : Hid (Only (fun k => inRow (.slice (some ⟨g, 0, none⟩) (16 * n) cap) k) w (w.setCell ⟨g, j, none⟩ (.int .u32 x))) := Lib.hid
        (Only.setCell (F := fun k => inRow (.slice (some ⟨g, 0, none⟩) (16 * n) cap) k) (Only.refl _ _) (p := ⟨g, j, none⟩) (.inl rfl) _)
      have hji : (j : Int) < ((16 * n : Nat) : Int) := by omega
      obtain ⟨N, hN⟩ : ∃ N, 16 * n = N := ⟨_, rfl⟩
      rw [hN] at hji c HON HS ⊢
      clear h h1 hgb hlen HM HC
      go_enter Tryz.func76, Tryz.ntmps76
      clear hN
      go_wp2
      go_ret
      exact ⟨rfl, HS.out, HON.out⟩
    · have HC : Hid (writeL l j x = l) := Lib.hid (by unfold writeL; rw [if_neg (by omega)])
      have HD : Hid ((decide (0 ≤ (j : Int)) && decide ((j : Int) < (l.length : Int))) = false) := Lib.hid (by simp; omega)
      rw [HC.out, HD.out]
      obtain ⟨ao, cap, rfl, -⟩ := h.slice
      have hji : ((16 * n : Nat) : Int) ≤ (j : Int) := by omega
      obtain ⟨N, hN⟩ : ∃ N, 16 * n = N := ⟨_, rfl⟩
      rw [hN] at hji c HM ⊢
      clear h h1 hlen
      go_enter Tryz.func76, Tryz.ntmps76
      clear hN
      go_wp2
      go_ret
      exact ⟨rfl, HM.out, Only.refl _ _⟩
end Go.Proofs.YtaoaachgnnengaaGreatDoor

/-
  mem.Mem: Frames, Frame, Clone.
-/
namespace Go.Proofs.YtaoaachgnnengaaGreatDoor
open Go.RowKit

set_option maxHeartbeats 800000 in
theorem mm_frames (l : List Int) (b n : Nat) (v : Value) (w : World) (h : MAt w b v n l) (hn : n ≤ 1024) :
    Calls Tryz.prog 63 #[.pointer (some ⟨b, 0, none⟩)] w fun e w' => e = .returned (.int .i64 n) ∧ w = w' := by
  have c := h.cell
  obtain ⟨ao, cap, rfl, -⟩ := h.slice
  clear h
  obtain ⟨N, hN⟩ : ∃ N, 16 * n = N := ⟨_, rfl⟩
  have H3 : Hid ((N : Int) / 16 = n) := Lib.hid (by omega)
  have hw := IntWalk.i64_in ((N : Int) / 16) (by omega)
  rw [hN] at c
  clear hN
  go_enter Tryz.func63, Tryz.ntmps63
  go_wp2
  go_ret
  refine ⟨?_, rfl⟩
  show Ending.returned (Value.int .i64 ((N : Int) / 16)) = _
  rw [H3.out]

def frameW (l : List Int) (f : Nat) : List Int := (l.drop (16 * f)).take 16
theorem frameW_len (l : List Int) (n f : Nat) (hl : l.length = 16 * n) (hf : f < n) : (frameW l f).length = 16 := by simp [frameW]; omega
theorem frameW_get (l : List Int) (n f k : Nat) (hl : l.length = 16 * n) (hf : f < n) (hk : k < 16) : (frameW l f).getD k 0 = l.getD (16 * f + k) 0 := by
  simp [frameW, List.getD_eq_getElem?_getD, List.getElem?_take, hk]

set_option maxHeartbeats 800000 in
theorem mm_frame_none (l : List Int) (b n : Nat) (v : Value) (f : Int) (w : World) (h : MAt w b v n l) (hn : n ≤ 1024) (hf : f < 0 ∨ (n : Int) ≤ f) :
    Calls Tryz.prog 25 #[.pointer (some ⟨b, 0, none⟩), .int .i64 f] w fun e w' => e = .returned (.tuple #[.slice none 0 0, .bool false]) ∧ w = w' := by
  have HM := Lib.hid h
  clear h
  by_cases h0 : f < 0
  · clear hf
    go_enter Tryz.func25, Tryz.ntmps25
    go_wp2
    go_ret2
    exact ⟨rfl, rfl⟩
  · have h1 : (n : Int) ≤ f := by omega
    clear hf
    go_enter Tryz.func25, Tryz.ntmps25
    go_wp2_with fail
    refine (mm_frames l b n v _ HM.out hn).mono ?_
    rintro e w1 ⟨rfl, rfl⟩
    go_wp2
    go_ret2
    exact ⟨rfl, rfl⟩

set_option maxHeartbeats 1600000 in
theorem mm_frame (l : List Int) (b n f : Nat) (v : Value) (w : World) (h : MAt w b v n l) (hn : n ≤ 1024) (hf : f < n) :
    Calls Tryz.prog 25 #[.pointer (some ⟨b, 0, none⟩), .int .i64 f] w fun e w' => ∃ v', e = .returned (.tuple #[v', .bool true]) ∧ w'.ownsRow 0 115 1 v' 16 (u32s (frameW l f)) ∧ (∀ k, inRow v' k → w.heap.size ≤ k) ∧ Below w.heap.size w w' := by
  have c := h.cell
  have HM := Lib.hid h
  have hlen := h.2.2
  obtain ⟨g, cap, rfl, hcap⟩ := h.own (by omega)
  have hrd : Reads w (.slice (some ⟨g, 16 * f, none⟩) 16 (cap - 16 * f)) 16 (u32s (frameW l f)) := .inr ⟨⟨g, 16 * f, none⟩, cap - 16 * f, rfl, fun j u hj => by
    have hj16 : j < 16 := by
      have := (List.getElem?_eq_some_iff.mp hj).1
      rw [u32s, List.length_map, frameW_len l n f hlen hf] at this
      exact this
    rw [u32s_get _ j (by rw [frameW_len l n f hlen hf]; exact hj16), frameW_get l n f j hlen hf hj16] at hj
    rw [Addr.add_lit]
    rw [← hj]
    exact (own_cell h.2.1 (16 * f + j) (by omega)).trans (u32s_get l (16 * f + j) (by omega))⟩
  have HRD := Lib.hid hrd
  have HLN : Hid ((u32s (frameW l f)).length = 16 * 1) := Lib.hid (by rw [u32s, List.length_map, frameW_len l n f hlen hf])
  have h1 := IntWalk.i64_in ((f : Int) * 16) (by omega)
  have h2 := IntWalk.i64_in ((f : Int) + 1) (by omega)
  have h3 := IntWalk.i64_in (((f : Int) + 1) * 16) (by omega)
  have hfi : (f : Int) < (n : Int) := by omega
  have e1 : ((f : Int) * 16).toNat = 16 * f := by omega
  have e2 : (((f : Int) + 1) * 16).toNat = 16 * f + 16 := by omega
  have g1 : (0 : Int) ≤ (f : Int) * 16 := by omega
  have g2 : (f : Int) * 16 ≤ ((f : Int) + 1) * 16 := by omega
  have g3 : ((f : Int) + 1) * 16 ≤ (cap : Int) := by omega
  clear h hrd hlen
  go_enter Tryz.func25, Tryz.ntmps25
  go_wp2_with fail
  refine (mm_frames l b n _ _ HM.out hn).mono ?_
  rintro e w1 ⟨rfl, rfl⟩
  go_wp2_with fail
  refine (cloneU32 _ 16 (u32s (frameW l f)) _ HRD.out (by decide) HLN.out (u32s_one _)).mono ?_
  rintro e w2 ⟨v', rfl, ho, hf2, hb2⟩
  have HO := Lib.hid ho
  have HF := Lib.hid hf2
  have HB := Lib.hid hb2
  obtain ⟨ao2, cap2, rfl⟩ := own_slice ho
  clear ho hf2 hb2
  go_wp2
  go_ret2
  exact ⟨_, rfl, HO.out, HF.out, HB.out⟩
end Go.Proofs.YtaoaachgnnengaaGreatDoor

/-
  mem.Mem: a word within; lists and one place of theirs.
-/
namespace Go.Proofs.YtaoaachgnnengaaGreatDoor
open Go.RowKit

theorem setD_get (l : List Int) (a k : Nat) (x : Int) (ha : a < l.length) : (l.set a x).getD k 0 = if k = a then x else l.getD k 0 := by
  by_cases h : k = a
  · subst h
    simp [List.getD_eq_getElem?_getD, ha]
  · rw [if_neg h]
    simp [List.getD_eq_getElem?_getD, List.getElem?_set_ne (fun e => h e.symm)]
theorem repD_get (n k : Nat) : (List.replicate n (0 : Int)).getD k 0 = 0 := by
  simp only [List.getD_eq_getElem?_getD, List.getElem?_replicate]
  split <;> rfl
theorem extD {xs ys : List Int} (hl : xs.length = ys.length) (h : ∀ j, j < xs.length → xs.getD j 0 = ys.getD j 0) : xs = ys := by
  apply List.ext_getElem hl
  intro j h1 h2
  have := h j h1
  simpa [List.getD_eq_getElem?_getD, h1, h2] using this
theorem mm_read_at (l : List Int) (b n j : Nat) (v : Value) (w : World) (h : MAt w b v n l) (hj : j < 16 * n) :
    Calls Tryz.prog 103 #[.pointer (some ⟨b, 0, none⟩), .int .i64 j] w fun e w' => e = .returned (.tuple #[.int .u32 (l.getD j 0), .bool true]) ∧ w = w' := by
  have hl := h.2.2
  have e1 : readAns l (j : Int) = .tuple #[.int .u32 (l.getD j 0), .bool true] := by unfold readAns; rw [if_pos (by omega), Int.toNat_natCast]
  have := mm_read l b n v (j : Int) w h
  rw [e1] at this
  exact this

theorem mm_write_at (l : List Int) (b n j : Nat) (v : Value) (x : Int) (w : World) (h : MAt w b v n l) (hj : j < 16 * n) :
    Calls Tryz.prog 76 #[.pointer (some ⟨b, 0, none⟩), .int .i64 j, .int .u32 x] w fun e w' => e = .returned (.bool true) ∧ MAt w' b v n (l.set j x) ∧ Only (fun k => inRow v k) w w' := by
  have hl := h.2.2
  have e1 : writeL l (j : Int) x = l.set j x := by unfold writeL; rw [if_pos (by omega), Int.toNat_natCast]
  have e2 : (decide (0 ≤ (j : Int)) && decide ((j : Int) < (l.length : Int))) = true := by simp; omega
  have := mm_write l b n v (j : Int) x w h
  rw [e1, e2] at this
  exact this
end Go.Proofs.YtaoaachgnnengaaGreatDoor

/-
  Contracts of walk.Bits, walk.Of and facaderef.SameEntry, and the plain law that an entry and its bits go back and forth.
-/
namespace Go.Proofs.YtaoaachgnnengaaGreatDoor
open Go.RowKit
def b2i (b : Bool) : Int := if b then 1 else 0
/-- an entry that may be -/
def entOk (f : Int) (t wr u : Bool) : Prop := 0 ≤ f ∧ f < 1024 ∧ (t = false → f = 0 ∧ wr = false ∧ u = false)
/-- its bits -/
def entW (f : Int) (t wr u : Bool) : Int := f * 256 + b2i t + 2 * b2i wr + 4 * b2i u
/-- the value of an entry -/
def ent (f : Int) (t wr u : Bool) : Value := .agg #[.int .i64 f, .bool t, .bool wr, .bool u]
/-- a flag of a word -/
def flag (x k : Int) : Bool := decide (0 < bits BinOp.and IntKind.u32 x k)
/-- a word is an entry's -/
def isEnt (x : Int) : Prop := entOk (x / 256) (flag x 1) (flag x 2) (flag x 4) ∧ entW (x / 256) (flag x 1) (flag x 2) (flag x 4) = x

theorem or_low (f m k : Nat) (h2 : f < 1024) (hm : m < 256) (hk : k < 256) (he : m ||| k = m + k) : bits BinOp.or IntKind.u32 ((f * 256 + m : Nat) : Int) k = ((f * 256 + (m + k) : Nat) : Int) := by
  rw [or_nat _ _ (by omega) (by omega)]
  congr 1
  have h8 : f * 256 = 2 ^ 8 * f := by omega
  rw [h8, Nat.two_pow_add_eq_or_of_lt (by simpa using hm), Nat.or_assoc, he, ← Nat.two_pow_add_eq_or_of_lt]
  have : m ||| k < 2 ^ 8 := Nat.or_lt_two_pow (by simpa using hm) (by simpa using hk)
  omega
theorem or_0 (f : Int) (k : Nat) (h : 0 ≤ f) (h2 : f < 1024) (hk : k < 256) : bits BinOp.or IntKind.u32 (f * 256) k = f * 256 + k := by
  obtain ⟨n, rfl⟩ := Int.eq_ofNat_of_zero_le h
  have := or_low n 0 k (by omega) (by omega) hk (by simp)
  simp at this
  omega
theorem or_1 (f : Int) (k : Nat) (h : 0 ≤ f) (h2 : f < 1024) (hk : k = 2 ∨ k = 4) : bits BinOp.or IntKind.u32 (f * 256 + 1) k = f * 256 + 1 + k := by
  obtain ⟨n, rfl⟩ := Int.eq_ofNat_of_zero_le h
  have := or_low n 1 k (by omega) (by omega) (by omega) (by rcases hk with rfl | rfl <;> decide)
  simp at this
  omega
theorem or_3 (f : Int) (h : 0 ≤ f) (h2 : f < 1024) : bits BinOp.or IntKind.u32 (f * 256 + 1 + 2) 4 = f * 256 + 7 := by
  obtain ⟨n, rfl⟩ := Int.eq_ofNat_of_zero_le h
  have := or_low n 3 4 (by omega) (by omega) (by omega) (by decide)
  simp at this
  rw [show ((n : Int) * 256 + 1 + 2) = (n : Int) * 256 + 3 from by omega]
  omega

set_option maxHeartbeats 400000 in
theorem bits_no (f : Int) (t wr u : Bool) (w : World) (h : ¬ entOk f t wr u) :
    Calls Tryz.prog 88 #[.agg #[.int .i64 f, .bool t, .bool wr, .bool u]] w fun e w' => e = .returned (.tuple #[.int .u32 0, .bool false]) ∧ Below w.heap.size w w' := by
  by_cases h1 : f < 0
  · clear h
    go_enter Tryz.func88, Tryz.ntmps88
    go_wp2
    go_ret2
    exact ⟨rfl, (Below.refl _ _).alloc (Nat.le_refl _) _⟩
  · by_cases h2 : 1024 ≤ f
    · clear h
      go_enter Tryz.func88, Tryz.ntmps88
      go_wp2
      go_ret2
      exact ⟨rfl, (Below.refl _ _).alloc (Nat.le_refl _) _⟩
    · have ht : t = false := by
        cases t
        · rfl
        · exact (h ⟨by omega, by omega, by simp⟩).elim
      subst ht
      have h0 : (f == 0 && !wr && !u) = false := by
        cases wr <;> cases u <;> simp [entOk] at h ⊢
        omega
      clear h
      by_cases hf : f = 0
      · subst hf
        cases wr <;> cases u
        · simp at h0
        all_goals
          clear h0 h1 h2
          go_enter Tryz.func88, Tryz.ntmps88
          go_wp2
          go_ret2
          exact ⟨rfl, (Below.refl _ _).alloc (Nat.le_refl _) _⟩
      · clear h0
        have hf' : (f == 0) = false := by simp [hf]
        clear hf
        go_enter Tryz.func88, Tryz.ntmps88
        go_wp2
        go_ret2
        exact ⟨rfl, (Below.refl _ _).alloc (Nat.le_refl _) _⟩

set_option maxHeartbeats 800000 in
theorem bits_there (f : Int) (wr u : Bool) (w : World) (h : 0 ≤ f) (h2 : f < 1024) :
    Calls Tryz.prog 88 #[.agg #[.int .i64 f, .bool true, .bool wr, .bool u]] w fun e w' => e = .returned (.tuple #[.int .u32 (entW f true wr u), .bool true]) ∧ Below w.heap.size w w' := by
  have e0 : bits BinOp.or IntKind.u32 (f * 256) 1 = f * 256 + 1 := or_0 f 1 h h2 (by omega)
  have e1 : bits BinOp.or IntKind.u32 (f * 256 + 1) 2 = f * 256 + 1 + 2 := or_1 f 2 h h2 (by omega)
  have e2 : bits BinOp.or IntKind.u32 (f * 256 + 1) 4 = f * 256 + 1 + 4 := or_1 f 4 h h2 (by omega)
  have e3 := or_3 f h h2
  cases wr <;> cases u
  all_goals
    go_enter Tryz.func88, Tryz.ntmps88
    go_wp2
    refine wp_loop_rounds 4 ?_
    rw [rounds_succ]
    go_wp2
    rw [rounds_succ]
    go_wp2
    rw [rounds_succ]
    go_wp2
    rw [rounds_succ]
    go_wp2
    go_ret2
    refine ⟨?_, ((Below.refl _ _).alloc (Nat.le_refl _) _).alloc (by simp) _⟩
    show Ending.returned (Value.tuple #[.int .u32 _, .bool true]) = _
    simp only [entW, b2i]
    congr 4
  all_goals simp
  all_goals omega

set_option maxHeartbeats 400000 in
theorem bits_zero (w : World) :
    Calls Tryz.prog 88 #[.agg #[.int .i64 0, .bool false, .bool false, .bool false]] w fun e w' => e = .returned (.tuple #[.int .u32 0, .bool true]) ∧ Below w.heap.size w w' := by
  go_enter Tryz.func88, Tryz.ntmps88
  go_wp2
  refine wp_loop_rounds 4 ?_
  rw [rounds_succ]
  go_wp2
  rw [rounds_succ]
  go_wp2
  rw [rounds_succ]
  go_wp2
  rw [rounds_succ]
  go_wp2
  go_ret2
  exact ⟨rfl, ((Below.refl _ _).alloc (Nat.le_refl _) _).alloc (by simp) _⟩

theorem bits_yes (f : Int) (t wr u : Bool) (w : World) (h : entOk f t wr u) :
    Calls Tryz.prog 88 #[.agg #[.int .i64 f, .bool t, .bool wr, .bool u]] w fun e w' => e = .returned (.tuple #[.int .u32 (entW f t wr u), .bool true]) ∧ Below w.heap.size w w' := by
  cases t
  · obtain ⟨rfl, rfl, rfl⟩ := h.2.2 rfl
    exact bits_zero w
  · exact bits_there f wr u w h.1 h.2.1

set_option maxHeartbeats 400000 in
theorem sameEnt_any (f g : Int) (t1 t2 w1 w2 u1 u2 : Bool) (w : World) :
    Calls Tryz.prog 11 #[.agg #[.int .i64 f, .bool t1, .bool w1, .bool u1], .agg #[.int .i64 g, .bool t2, .bool w2, .bool u2]] w fun e w' => e = .returned (.bool (f == g && t1 == t2 && w1 == w2 && u1 == u2)) ∧ Below w.heap.size w w' := by
  go_enter Tryz.func11, Tryz.ntmps11
  go_wp2
  all_goals go_ret
  all_goals refine ⟨ret_bool (by simp_all), ?_⟩
  all_goals repeat (first | exact Below.refl _ _ | refine Below.alloc ?_ (by simp) _)

set_option maxHeartbeats 400000 in
theorem of_yes (x : Int) (w : World) (h : 0 ≤ x) (h2 : x ≤ 4294967295) (hx : isEnt x) :
    Calls Tryz.prog 104 #[.int .u32 x] w fun e w' => e = .returned (.tuple #[.agg #[.int .i64 (x / 256), .bool (flag x 1), .bool (flag x 2), .bool (flag x 4)], .bool true]) ∧ Below w.heap.size w w' := by
  obtain ⟨hok, hw⟩ := hx
  have e1 : (entW (x / 256) (flag x 1) (flag x 2) (flag x 4) != x) = false := by simp [hw]
  clear hw
  go_enter Tryz.func104, Tryz.ntmps104
  go_wp2_with fail
  refine (bits_yes (x / 256) (flag x 1) (flag x 2) (flag x 4) _ hok).mono ?_
  rintro e w1 ⟨rfl, hb⟩
  obtain ⟨hc, hf⟩ := bcell hb
  go_wp2
  refine bodyPost_ret (v := .tuple #[.agg #[.int .i64 (x / 256), .bool (flag x 1), .bool (flag x 2), .bool (flag x 4)], .bool true]) (by simp [results, Tryz.results104, go_sem, flag, hc, show w.heap.size < w.heap.size + 1 + 1 from by omega]) rfl ⟨rfl, ?_⟩
  have hb' : Below w.heap.size _ w1 := hb.mono (by simp; omega)
  refine Below.setCell (Below.setCell (Below.setCell (Below.setCell ?_ (by simp) _) (by simp) _) (by simp) _) (by simp) _
  exact (((Below.refl _ _).alloc (Nat.le_refl _) _).alloc (by simp) _).trans hb'

set_option maxHeartbeats 400000 in
theorem of_no (x : Int) (w : World) (h : 0 ≤ x) (h2 : x ≤ 4294967295) (hx : ¬ isEnt x) :
    Calls Tryz.prog 104 #[.int .u32 x] w fun e w' => e = .returned (.tuple #[.agg #[.int .i64 0, .bool false, .bool false, .bool false], .bool false]) ∧ Below w.heap.size w w' := by
  by_cases hok : entOk (x / 256) (flag x 1) (flag x 2) (flag x 4)
  · have e1 : (entW (x / 256) (flag x 1) (flag x 2) (flag x 4) != x) = true := by
      simp only [bne_iff_ne]
      exact fun e => hx ⟨hok, e⟩
    clear hx
    go_enter Tryz.func104, Tryz.ntmps104
    go_wp2_with fail
    refine (bits_yes (x / 256) (flag x 1) (flag x 2) (flag x 4) _ hok).mono ?_
    rintro e w1 ⟨rfl, hb⟩
    obtain ⟨hc, hf⟩ := bcell hb
    go_wp2
    refine bodyPost_ret (v := .tuple #[.agg #[.int .i64 0, .bool false, .bool false, .bool false], .bool false]) (by simp [results, Tryz.results104, go_sem, hc, show w.heap.size < w.heap.size + 1 + 1 from by omega]) rfl ⟨rfl, ?_⟩
    have hb' : Below w.heap.size _ w1 := hb.mono (by simp; omega)
    refine Below.setCell (Below.setCell (Below.setCell (Below.setCell ?_ (by simp) _) (by simp) _) (by simp) _) (by simp) _
    exact (((Below.refl _ _).alloc (Nat.le_refl _) _).alloc (by simp) _).trans hb'
  · clear hx
    go_enter Tryz.func104, Tryz.ntmps104
    go_wp2_with fail
    refine (bits_no (x / 256) (flag x 1) (flag x 2) (flag x 4) _ hok).mono ?_
    rintro e w1 ⟨rfl, hb⟩
    obtain ⟨hc, hf⟩ := bcell hb
    go_wp2
    refine bodyPost_ret (v := .tuple #[.agg #[.int .i64 0, .bool false, .bool false, .bool false], .bool false]) (by simp [results, Tryz.results104, go_sem, hc, show w.heap.size < w.heap.size + 1 + 1 from by omega]) rfl ⟨rfl, ?_⟩
    have hb' : Below w.heap.size _ w1 := hb.mono (by simp; omega)
    refine Below.setCell (Below.setCell (Below.setCell (Below.setCell ?_ (by simp) _) (by simp) _) (by simp) _) (by simp) _
    exact (((Below.refl _ _).alloc (Nat.le_refl _) _).alloc (by simp) _).trans hb'
end Go.Proofs.YtaoaachgnnengaaGreatDoor

/-
  Plain laws: an entry and its bits go back and forth; unlike entries have unlike bits.
-/
namespace Go.Proofs.YtaoaachgnnengaaGreatDoor
open Go.RowKit

theorem and_pow (n i : Nat) : (0 < n &&& 2 ^ i) ↔ n / 2 ^ i % 2 = 1 := by
  rw [← decide_eq_true_iff (p := n / 2 ^ i % 2 = 1), ← Nat.testBit_eq_decide_div_mod_eq]
  constructor
  · intro h
    cases hb : n.testBit i
    · have : n &&& 2 ^ i = 0 := by
        apply Nat.eq_of_testBit_eq
        intro j
        rw [Nat.testBit_and, Nat.testBit_two_pow, Nat.zero_testBit]
        by_cases hj : i = j
        · subst hj; simp [hb]
        · simp [hj]
      omega
    · rfl
  · intro h
    have : (n &&& 2 ^ i).testBit i = true := by
      rw [Nat.testBit_and, Nat.testBit_two_pow]; simp [h]
    rcases Nat.eq_zero_or_pos (n &&& 2 ^ i) with h0 | h0
    · rw [h0] at this; simp at this
    · exact h0
theorem flag_pow (x : Int) (i : Nat) (hi : i < 8) (h : 0 ≤ x) (h2 : x ≤ 4294967295) : flag x ((2 ^ i : Nat) : Int) = decide (x / ((2 ^ i : Nat) : Int) % 2 = 1) := by
  obtain ⟨n, rfl⟩ := Int.eq_ofNat_of_zero_le h
  have hp : 2 ^ i < 4294967296 := Nat.lt_of_lt_of_le (Nat.pow_lt_pow_right (by omega) hi) (by decide)
  have e := and_nat n (2 ^ i) (by omega) hp
  unfold flag
  rw [e, decide_eq_decide]
  have hc : ((n : Int) / ((2 ^ i : Nat) : Int) % 2 = 1) ↔ (n / 2 ^ i % 2 = 1) := by
    rw [← Int.natCast_ediv]; omega
  rw [hc, ← and_pow]
  omega
theorem flag_1 (x : Int) (h : 0 ≤ x) (h2 : x ≤ 4294967295) : flag x 1 = decide (x % 2 = 1) := by
  have := flag_pow x 0 (by omega) h h2
  simpa using this
theorem flag_2 (x : Int) (h : 0 ≤ x) (h2 : x ≤ 4294967295) : flag x 2 = decide (x / 2 % 2 = 1) := flag_pow x 1 (by omega) h h2
theorem flag_4 (x : Int) (h : 0 ≤ x) (h2 : x ≤ 4294967295) : flag x 4 = decide (x / 4 % 2 = 1) := flag_pow x 2 (by omega) h h2

theorem entW_range {f : Int} {t wr u : Bool} (h : entOk f t wr u) : 0 ≤ entW f t wr u ∧ entW f t wr u ≤ 262143 := by
  obtain ⟨h1, h2, -⟩ := h
  cases t <;> cases wr <;> cases u <;> simp [entW, b2i] <;> omega
theorem ent_back {f : Int} {t wr u : Bool} (h : entOk f t wr u) : entW f t wr u / 256 = f ∧ flag (entW f t wr u) 1 = t ∧ flag (entW f t wr u) 2 = wr ∧ flag (entW f t wr u) 4 = u := by
  have hr := entW_range h
  rw [flag_1 _ hr.1 (by omega), flag_2 _ hr.1 (by omega), flag_4 _ hr.1 (by omega)]
  obtain ⟨h1, h2, -⟩ := h
  cases t <;> cases wr <;> cases u <;> simp [entW, b2i] <;> omega
theorem ent_is {f : Int} {t wr u : Bool} (h : entOk f t wr u) : isEnt (entW f t wr u) := by
  obtain ⟨e1, e2, e3, e4⟩ := ent_back h
  unfold isEnt
  rw [e1, e2, e3, e4]
  exact ⟨h, rfl⟩
theorem ent_inj {f g : Int} {t1 w1 u1 t2 w2 u2 : Bool} (h : entOk f t1 w1 u1) (h' : entOk g t2 w2 u2) (e : entW f t1 w1 u1 = entW g t2 w2 u2) : f = g ∧ t1 = t2 ∧ w1 = w2 ∧ u1 = u2 := by
  obtain ⟨a1, a2, a3, a4⟩ := ent_back h
  obtain ⟨b1, b2, b3, b4⟩ := ent_back h'
  rw [e] at a1 a2 a3 a4
  exact ⟨a1.symm.trans b1, a2.symm.trans b2, a3.symm.trans b3, a4.symm.trans b4⟩
end Go.Proofs.YtaoaachgnnengaaGreatDoor

/-
  WalkBack returns true for every pair of entries and every word; nothing that was there is turned. No conditions.
-/
namespace Go.Proofs.YtaoaachgnnengaaGreatDoor
open Go.ChangeShapes Go.WideShapes Go.ChangeAt Go.RowKit Go.Joins

theorem of_ent (f : Int) (t wr u : Bool) (w : World) (h : entOk f t wr u) :
    Calls Tryz.prog 104 #[.int .u32 (entW f t wr u)] w fun e w' => e = .returned (.tuple #[.agg #[.int .i64 f, .bool t, .bool wr, .bool u], .bool true]) ∧ Below w.heap.size w w' := by
  have hr := entW_range h
  obtain ⟨e1, e2, e3, e4⟩ := ent_back h
  have := of_yes (entW f t wr u) w hr.1 (by omega) (ent_is h)
  rw [e1, e2, e3, e4] at this
  exact this

theorem same_refl (f : Int) (t wr u : Bool) (w : World) :
    Calls Tryz.prog 11 #[.agg #[.int .i64 f, .bool t, .bool wr, .bool u], .agg #[.int .i64 f, .bool t, .bool wr, .bool u]] w fun e w' => e = .returned (.bool true) ∧ Below w.heap.size w w' :=
  (sameEnt_any f f t t wr wr u u w).mono fun _ _ ⟨he, hb⟩ => ⟨by simpa using he, hb⟩
theorem same_ne (f g : Int) (t1 t2 w1 w2 u1 u2 : Bool) (w : World) (h : ¬ (f = g ∧ t1 = t2 ∧ w1 = w2 ∧ u1 = u2)) :
    Calls Tryz.prog 11 #[.agg #[.int .i64 f, .bool t1, .bool w1, .bool u1], .agg #[.int .i64 g, .bool t2, .bool w2, .bool u2]] w fun e w' => e = .returned (.bool false) ∧ Below w.heap.size w w' :=
  (sameEnt_any f g t1 t2 w1 w2 u1 u2 w).mono fun _ _ ⟨he, hb⟩ => ⟨by
    have : (f == g && t1 == t2 && w1 == w2 && u1 == u2) = false := by
      rw [Bool.eq_false_iff]
      intro hh
      simp only [Bool.and_eq_true, beq_iff_eq] at hh
      exact h ⟨hh.1.1.1, hh.1.1.2, hh.1.2, hh.2⟩
    rw [he, this], hb⟩
end Go.Proofs.YtaoaachgnnengaaGreatDoor

/-
  walk: where an address is, over the list of a memory's words.
-/
namespace Go.Proofs.YtaoaachgnnengaaGreatDoor
open Go.RowKit

/-- a word of a memory -/
def W32 (x : Int) : Prop := 0 ≤ x ∧ x ≤ 4294967295
structure Ent where
  f : Int
  t : Bool
  w : Bool
  u : Bool
def Ent.v (e : Ent) : Value := .agg #[.int .i64 e.f, .bool e.t, .bool e.w, .bool e.u]
def Ent.z : Ent := ⟨0, false, false, false⟩
def entOkB (f : Int) (t wr u : Bool) : Bool := decide (0 ≤ f ∧ f < 1024) && (t || (decide (f = 0) && !wr && !u))
def isEntB (x : Int) : Bool := entOkB (x / 256) (flag x 1) (flag x 2) (flag x 4) && decide (entW (x / 256) (flag x 1) (flag x 2) (flag x 4) = x)
theorem entOkB_iff (f : Int) (t wr u : Bool) : entOkB f t wr u = true ↔ entOk f t wr u := by
  unfold entOkB entOk
  cases t <;> cases wr <;> cases u <;> simp
  all_goals omega
theorem isEntB_iff (x : Int) : isEntB x = true ↔ isEnt x := by
  unfold isEntB isEnt
  rw [Bool.and_eq_true, entOkB_iff, decide_eq_true_eq]
/-- a word as an entry -/
def ofA (x : Int) : Ent × Bool := if isEntB x then (⟨x / 256, flag x 1, flag x 2, flag x 4⟩, true) else (Ent.z, false)
/-- an entry of a frame that is there -/
def entryA (l : List Int) (n : Nat) (f : Int) (i : Nat) : Ent × Bool :=
  if 0 ≤ f ∧ f < (n : Int) ∧ (ofA (l.getD (16 * f.toNat + i) 0)).2 = true ∧ (ofA (l.getD (16 * f.toNat + i) 0)).1.t = true then ((ofA (l.getD (16 * f.toNat + i) 0)).1, true) else (Ent.z, false)
/-- a page's entry -/
def pageA (l : List Int) (n : Nat) (root page : Int) : Ent × Bool :=
  if 0 ≤ page ∧ page < 256 ∧ (entryA l n root (page.toNat / 16)).2 = true then entryA l n (entryA l n root (page.toNat / 16)).1.f (page.toNat % 16) else (Ent.z, false)
/-- where an address is -/
def walkA (l : List Int) (n : Nat) (root addr : Int) (wr us : Bool) : Int × Bool :=
  if addr < 4096 ∧ (pageA l n root (addr / 16)).2 = true ∧ (wr = true → (pageA l n root (addr / 16)).1.w = true) ∧ (us = true → (pageA l n root (addr / 16)).1.u = true) ∧ (pageA l n root (addr / 16)).1.f < (n : Int) then ((pageA l n root (addr / 16)).1.f * 16 + addr % 16, true) else (0, false)
theorem ofA_range (x : Int) (h : 0 ≤ x) : 0 ≤ (ofA x).1.f ∧ (ofA x).1.f < 1024 := by
  unfold ofA
  by_cases hx : isEntB x = true
  · rw [if_pos hx]
    have := (isEntB_iff x).1 hx
    exact ⟨this.1.1, this.1.2.1⟩
  · rw [if_neg hx]
    exact ⟨by decide, by decide⟩
theorem entryA_f (l : List Int) (n : Nat) (f : Int) (i : Nat) (hl : ∀ j, W32 (l.getD j 0)) : 0 ≤ (entryA l n f i).1.f ∧ (entryA l n f i).1.f < 1024 := by
  unfold entryA
  split
  · exact ofA_range _ (hl _).1
  · exact ⟨by decide, by decide⟩
theorem pageA_f (l : List Int) (n : Nat) (r p : Int) (hl : ∀ j, W32 (l.getD j 0)) : 0 ≤ (pageA l n r p).1.f ∧ (pageA l n r p).1.f < 1024 := by
  unfold pageA
  split
  · exact entryA_f _ _ _ _ hl
  · exact ⟨by decide, by decide⟩

theorem of_any (x : Int) (w : World) (h : W32 x) :
    Calls Tryz.prog 104 #[.int .u32 x] w fun e w' => e = .returned (.tuple #[(ofA x).1.v, .bool (ofA x).2]) ∧ Below w.heap.size w w' := by
  unfold ofA
  by_cases hx : isEntB x = true
  · rw [if_pos hx]
    exact of_yes x w h.1 h.2 ((isEntB_iff x).1 hx)
  · rw [if_neg hx]
    exact of_no x w h.1 h.2 (fun e => hx ((isEntB_iff x).2 e))

theorem set4 {B : Nat} {w w' : World} (h : Below B w w') {b : Nat} (hb : B ≤ b) (x y z u : Value) : Below B w ((((w'.setCell ⟨b, 0, none⟩ x).setCell ⟨b, 1, none⟩ y).setCell ⟨b, 2, none⟩ z).setCell ⟨b, 3, none⟩ u) :=
  (((h.setCell (p := ⟨b, 0, none⟩) hb x).setCell (p := ⟨b, 1, none⟩) hb y).setCell (p := ⟨b, 2, none⟩) hb z).setCell (p := ⟨b, 3, none⟩) hb u
theorem set4a {w w' : World} (h : Below w.heap.size w w') {b : Nat} (hb : w.heap.size ≤ b) (x y z u : Value) (o : Obj) : Below w.heap.size w (((((w'.setCell ⟨b, 0, none⟩ x).setCell ⟨b, 1, none⟩ y).setCell ⟨b, 2, none⟩ z).setCell ⟨b, 3, none⟩ u).alloc o) :=
  (set4 h hb x y z u).alloc (set4 h hb x y z u).size o

set_option maxHeartbeats 1000000 in
theorem entry_any (l : List Int) (b n : Nat) (v : Value) (f : Int) (i : Nat) (w : World) (h : MAt w b v n l) (hn : n ≤ 1024) (hi : i < 16) (hl : ∀ j, W32 (l.getD j 0)) :
    Calls Tryz.prog 97 #[.pointer (some ⟨b, 0, none⟩), .int .i64 f, .int .i64 i] w fun e w' => e = .returned (.tuple #[(entryA l n f i).1.v, .bool (entryA l n f i).2]) ∧ Below w.heap.size w w' := by
  have HM := Lib.hid h
  by_cases h0 : f < 0
  · have HE : Hid (entryA l n f i = (Ent.z, false)) := Lib.hid (by unfold entryA; rw [if_neg (by omega)])
    rw [HE.out]
    clear h
    go_enter Tryz.func97, Tryz.ntmps97
    go_wp2
    refine bodyPost_ret (v := .tuple #[Ent.z.v, .bool false]) (by simp [results, Tryz.results97, go_sem, Ent.v, Ent.z]) rfl ⟨rfl, ?_⟩
    exact (Below.refl _ _).alloc (Nat.le_refl _) _
  · obtain ⟨k, rfl⟩ : ∃ k : Nat, f = (k : Int) := ⟨f.toNat, by omega⟩
    by_cases h1 : (n : Int) ≤ (k : Int)
    · have HE : Hid (entryA l n (k : Int) i = (Ent.z, false)) := Lib.hid (by unfold entryA; rw [if_neg (by omega)])
      rw [HE.out]
      clear h
      go_enter Tryz.func97, Tryz.ntmps97
      go_wp2_with fail
      refine (mm_frames l b n v _ (HM.out.below ((Below.refl _ _).alloc (Nat.le_refl _) _)) hn).mono ?_
      rintro e w1 ⟨rfl, rfl⟩
      go_wp2
      refine bodyPost_ret (v := .tuple #[Ent.z.v, .bool false]) (by simp [results, Tryz.results97, go_sem, Ent.v, Ent.z]) rfl ⟨rfl, ?_⟩
      exact (Below.refl _ _).alloc (Nat.le_refl _) _
    · have hkn : k < n := by omega
      have hux := hl (16 * k + i)
      have HE : Hid (∀ o ok, ofA (l.getD (16 * k + i) 0) = (o, ok) → entryA l n (k : Int) i = if ok = true ∧ o.t = true then (o, true) else (Ent.z, false)) := Lib.hid fun o ok e => by
        unfold entryA
        rw [Int.toNat_natCast, e]
        by_cases hc : ok = true ∧ o.t = true
        · rw [if_pos hc, if_pos ⟨by omega, by omega, hc.1, hc.2⟩]
        · rw [if_neg hc, if_neg (fun h => hc h.2.2)]
      have HOF : Hid (∀ wx, Calls Tryz.prog 104 #[.int .u32 (l.getD (16 * k + i) 0)] wx fun e w' => e = .returned (.tuple #[(ofA (l.getD (16 * k + i) 0)).1.v, .bool (ofA (l.getD (16 * k + i) 0)).2]) ∧ Below wx.heap.size wx w') := Lib.hid fun wx => of_any _ wx hux
      have hw1 := IntWalk.i64_in ((k : Int) * 16) (by omega)
      have hw2 := IntWalk.i64_in ((k : Int) * 16 + (i : Int)) (by omega)
      have HRD : Hid (∀ wx, MAt wx b v n l → Calls Tryz.prog 103 #[.pointer (some ⟨b, 0, none⟩), .int .i64 ((k : Int) * 16 + (i : Int))] wx fun e w' => e = .returned (.tuple #[.int .u32 (l.getD (16 * k + i) 0), .bool true]) ∧ wx = w') := Lib.hid fun wx hm => by
        have := mm_read_at l b n (16 * k + i) v wx hm (by omega)
        rwa [show (((16 * k + i : Nat) : Nat) : Int) = (k : Int) * 16 + (i : Int) by omega] at this
      obtain ⟨⟨⟨og, ot, ow, ou⟩, ok⟩, ho⟩ : ∃ p, ofA (l.getD (16 * k + i) 0) = p := ⟨_, rfl⟩
      rw [HE.out _ _ ho]
      rw [ho] at HOF
      obtain ⟨x, hx⟩ : ∃ x, l.getD (16 * k + i) 0 = x := ⟨_, rfl⟩
      rw [hx] at HOF HRD
      clear h hux HE ho hx hkn
      go_enter Tryz.func97, Tryz.ntmps97
      go_wp2_with fail
      refine (mm_frames l b n v _ (HM.out.below ((Below.refl _ _).alloc (Nat.le_refl _) _)) hn).mono ?_
      rintro e w1 ⟨rfl, rfl⟩
      go_wp2_with fail
      refine (HRD.out _ (HM.out.below ((Below.refl _ _).alloc (Nat.le_refl _) _))).mono ?_
      rintro e w1 ⟨rfl, rfl⟩
      go_wp2_with fail
      refine (HOF.out _).mono ?_
      rintro e w1 ⟨rfl, hb⟩
      have k0 : w1.heap[w.heap.size]? = _ := (hb.block w.heap.size (by simp)).trans (blk_new w _)
      have hb' : Below w.heap.size w w1 := ((Below.refl _ _).alloc (Nat.le_refl _) _).trans (hb.mono (by simp))
      have HB := Lib.hid hb'
      have hlt := blk_lt k0
      have c0 := blk_cell k0 0
      have c1 := blk_cell k0 1
      have c2 := blk_cell k0 2
      have c3 := blk_cell k0 3
      have f0 := blk_free k0 0
      have f1 := blk_free k0 1
      have f2 := blk_free k0 2
      have f3 := blk_free k0 3
      clear hb hb' k0
      unfold Ent.v
      cases ok <;> cases ot
      all_goals
        go_wp2
      iterate 3
        · refine bodyPost_ret (v := .tuple #[Ent.z.v, .bool false]) (by simp [results, Tryz.results97, go_sem, Ent.v, Ent.z, hlt, c0, c1, c2, c3]) rfl ⟨rfl, ?_⟩
          exact set4a HB.out (Nat.le_refl _) _ _ _ _ _
      · refine bodyPost_ret (v := .tuple #[(⟨og, true, ow, ou⟩ : Ent).v, .bool true]) (by simp [results, Tryz.results97, go_sem, Ent.v, hlt, c0, c1, c2, c3]) rfl ⟨rfl, ?_⟩
        exact set4a HB.out (Nat.le_refl _) _ _ _ _ _

set_option maxRecDepth 100000 in
set_option maxHeartbeats 1000000 in
theorem page_any (l : List Int) (b n : Nat) (v : Value) (root page : Int) (w : World) (h : MAt w b v n l) (hn : n ≤ 1024) (hl : ∀ j, W32 (l.getD j 0)) :
    Calls Tryz.prog 80 #[.pointer (some ⟨b, 0, none⟩), .int .i64 root, .int .i64 page] w fun e w' => e = .returned (.tuple #[(pageA l n root page).1.v, .bool (pageA l n root page).2]) ∧ Below w.heap.size w w' := by
  have HM := Lib.hid h
  by_cases h0 : page < 0
  · have HE : Hid (pageA l n root page = (Ent.z, false)) := Lib.hid (by unfold pageA; rw [if_neg (by omega)])
    rw [HE.out]
    clear h
    go_enter Tryz.func80, Tryz.ntmps80
    go_wp2
    refine bodyPost_ret (v := .tuple #[Ent.z.v, .bool false]) (by simp [results, Tryz.results80, go_sem, Ent.v, Ent.z]) rfl ⟨rfl, ?_⟩
    exact (Below.refl _ _).alloc (Nat.le_refl _) _
  · by_cases h1 : 256 ≤ page
    · have HE : Hid (pageA l n root page = (Ent.z, false)) := Lib.hid (by unfold pageA; rw [if_neg (by omega)])
      rw [HE.out]
      clear h
      go_enter Tryz.func80, Tryz.ntmps80
      go_wp2
      refine bodyPost_ret (v := .tuple #[Ent.z.v, .bool false]) (by simp [results, Tryz.results80, go_sem, Ent.v, Ent.z]) rfl ⟨rfl, ?_⟩
      exact (Below.refl _ _).alloc (Nat.le_refl _) _
    · obtain ⟨p, rfl⟩ : ∃ p : Nat, page = (p : Int) := ⟨page.toNat, by omega⟩
      have hw1 := IntWalk.i64_in ((p : Int) / 16) (by omega)
      have hw2 := IntWalk.i64_in ((p : Int) % 16) (by omega)
      have hq : (p : Int).tdiv 16 = ((p / 16 : Nat) : Int) := by rw [Int.tdiv_eq_ediv_of_nonneg (by omega)]; omega
      have hr : (p : Int).tmod 16 = ((p % 16 : Nat) : Int) := by rw [Int.tmod_eq_emod_of_nonneg (by omega)]; omega
      have HE : Hid (∀ o ok, entryA l n root (p / 16) = (o, ok) → pageA l n root (p : Int) = if ok = true then entryA l n o.f (p % 16) else (Ent.z, false)) := Lib.hid fun o ok e => by
        unfold pageA
        rw [Int.toNat_natCast, e]
        by_cases hc : ok = true
        · rw [if_pos hc, if_pos ⟨by omega, by omega, hc⟩]
        · rw [if_neg hc, if_neg (fun h => hc h.2.2)]
      have H1 : Hid (∀ wx, MAt wx b v n l → Calls Tryz.prog 97 #[.pointer (some ⟨b, 0, none⟩), .int .i64 root, .int .i64 ((p / 16 : Nat) : Int)] wx fun e w' => e = .returned (.tuple #[(entryA l n root (p / 16)).1.v, .bool (entryA l n root (p / 16)).2]) ∧ Below wx.heap.size wx w') := Lib.hid fun wx hm => entry_any l b n v root (p / 16) wx hm hn (by omega) hl
      have H2 : Hid (∀ wx f, MAt wx b v n l → Calls Tryz.prog 97 #[.pointer (some ⟨b, 0, none⟩), .int .i64 f, .int .i64 ((p % 16 : Nat) : Int)] wx fun e w' => e = .returned (.tuple #[(entryA l n f (p % 16)).1.v, .bool (entryA l n f (p % 16)).2]) ∧ Below wx.heap.size wx w') := Lib.hid fun wx f hm => entry_any l b n v f (p % 16) wx hm hn (by omega) hl
      obtain ⟨⟨⟨og, ot, ow, ou⟩, ok⟩, ho⟩ : ∃ q, entryA l n root (p / 16) = q := ⟨_, rfl⟩
      rw [HE.out _ _ ho]
      rw [ho] at H1
      clear ho HE
      obtain ⟨a1, ha1⟩ : ∃ a1, ((p / 16 : Nat) : Int) = a1 := ⟨_, rfl⟩
      obtain ⟨a2, ha2⟩ : ∃ a2, ((p % 16 : Nat) : Int) = a2 := ⟨_, rfl⟩
      have hw3 := IntWalk.i64_in a1 (by omega)
      have hw4 := IntWalk.i64_in a2 (by omega)
      rw [ha1] at H1 hq
      rw [ha2] at H2 hr
      clear ha1 ha2 h
      cases ok
      · rw [if_neg (by decide)]
        go_enter Tryz.func80, Tryz.ntmps80
        go_wp2_with fail
        refine (H1.out _ (HM.out.below ((Below.refl _ _).alloc (Nat.le_refl _) _))).mono ?_
        rintro e w1 ⟨rfl, hb⟩
        have k0 : w1.heap[w.heap.size]? = _ := (hb.block w.heap.size (by simp)).trans (blk_new w _)
        have HB : Hid (Below w.heap.size w w1) := Lib.hid (((Below.refl _ _).alloc (Nat.le_refl _) _).trans (hb.mono (by simp)))
        have hlt := blk_lt k0
        have c0 := blk_cell k0 0
        have c1 := blk_cell k0 1
        have c2 := blk_cell k0 2
        have c3 := blk_cell k0 3
        have f0 := blk_free k0 0
        have f1 := blk_free k0 1
        have f2 := blk_free k0 2
        have f3 := blk_free k0 3
        unfold Ent.v
        clear hb k0
        go_wp2
        refine bodyPost_ret (v := .tuple #[Ent.z.v, .bool false]) (by simp [results, Tryz.results80, go_sem, Ent.v, Ent.z, hlt, c0, c1, c2, c3]) rfl ⟨rfl, ?_⟩
        exact set4a HB.out (Nat.le_refl _) _ _ _ _ _
      · rw [if_pos rfl]
        obtain ⟨⟨⟨pg, pt, pw, pu⟩, pk⟩, hp⟩ : ∃ q, entryA l n og (p % 16) = q := ⟨_, rfl⟩
        have H3 := Lib.hid (fun wx hm => H2.out wx og hm)
        rw [hp] at H3 ⊢
        clear hp H2
        go_enter Tryz.func80, Tryz.ntmps80
        go_wp2_with fail
        refine (H1.out _ (HM.out.below ((Below.refl _ _).alloc (Nat.le_refl _) _))).mono ?_
        rintro e w1 ⟨rfl, hb⟩
        have K0 : Hid (w1.heap[w.heap.size]? = _) := Lib.hid ((hb.block w.heap.size (by simp)).trans (blk_new w _))
        have HB : Hid (Below w.heap.size w w1) := Lib.hid (((Below.refl _ _).alloc (Nat.le_refl _) _).trans (hb.mono (by simp)))
        have hlt := blk_lt K0.out
        unfold Ent.v
        clear hb
        go_wp2_with fail
        refine (H3.out _ (HM.out.below (HB.out.alloc HB.out.size _))).mono ?_
        rintro e w2 ⟨rfl, hb⟩
        have k2 : w2.heap[w.heap.size]? = _ := (hb.block w.heap.size (by simp; omega)).trans (blk_old K0.out _)
        have HB2 : Hid (Below w.heap.size w w2) := Lib.hid ((HB.out.alloc HB.out.size _).trans (hb.mono (by simp; omega)))
        have c0 := blk_cell k2 0
        have c1 := blk_cell k2 1
        have c2 := blk_cell k2 2
        have c3 := blk_cell k2 3
        have f0 := blk_free k2 0
        have f1 := blk_free k2 1
        have f2 := blk_free k2 2
        have f3 := blk_free k2 3
        unfold Ent.v
        clear hb k2
        go_wp2
        refine bodyPost_ret (v := .tuple #[(⟨pg, pt, pw, pu⟩ : Ent).v, .bool pk]) (by simp [results, Tryz.results80, go_sem, Ent.v, c0, c1, c2, c3]) rfl ⟨rfl, ?_⟩
        exact set4 HB2.out (Nat.le_refl _) _ _ _ _

theorem walkA_of (l : List Int) (n : Nat) (root addr : Int) (wr us : Bool) (e : Ent) (ok : Bool) (h : addr < 4096) (hp : pageA l n root (addr / 16) = (e, ok)) :
    walkA l n root addr wr us = if ok = true ∧ (wr = true → e.w = true) ∧ (us = true → e.u = true) ∧ e.f < (n : Int) then (e.f * 16 + addr % 16, true) else (0, false) := by
  unfold walkA
  rw [hp]
  by_cases hc : ok = true ∧ (wr = true → e.w = true) ∧ (us = true → e.u = true) ∧ e.f < (n : Int)
  · rw [if_pos hc, if_pos ⟨h, hc.1, hc.2.1, hc.2.2.1, hc.2.2.2⟩]
  · rw [if_neg hc, if_neg (fun h => hc ⟨h.2.1, h.2.2.1, h.2.2.2.1, h.2.2.2.2⟩)]
def pairV (p : Int × Bool) : Value := .tuple #[.int .i64 p.1, .bool p.2]
end Go.Proofs.YtaoaachgnnengaaGreatDoor

/-
  facaderef1.Mem: New, Read, Write, Frames, over the list of its words.
-/
namespace Go.Proofs.YtaoaachgnnengaaGreatDoor
open Go.RowKit

def MAr (w : World) (b : Nat) (v : Value) (n : Nat) (l : List Int) : Prop := w.heap[b]? = some (.cells #[v] 101 (0, 0)) ∧ w.ownsRow 0 115 1 v (16 * n) (u32s l) ∧ l.length = 16 * n
theorem MAr.not {w : World} {b : Nat} {v : Value} {n : Nat} {l : List Int} (h : MAr w b v n l) : ¬ inRow v b := own_not h.2.1 h.1 (by decide)
theorem MAr.cell {w : World} {b : Nat} {v : Value} {n : Nat} {l : List Int} (h : MAr w b v n l) : w.cell? ⟨b, 0, none⟩ = some v := blk_cell h.1 0
theorem MAr.below {w w' : World} {b : Nat} {v : Value} {n : Nat} {l : List Int} (h : MAr w b v n l) (hb : Below w.heap.size w w') : MAr w' b v n l :=
  ⟨by rw [hb.block b (blk_lt h.1)]; exact h.1, own_frame h.2.1 fun k hk => hb.block k (own_lt h.2.1 hk), h.2.2⟩
theorem MAr.only {F : Nat → Prop} {w w' : World} {b : Nat} {v : Value} {n : Nat} {l : List Int} (h : MAr w b v n l) (ho : Only F w w') (h1 : ¬ F b) (h2 : ∀ k, inRow v k → ¬ F k) : MAr w' b v n l :=
  ⟨ho.blk h.1 h1, own_only h.2.1 ho h2, h.2.2⟩
theorem MAr.slice {w : World} {b : Nat} {v : Value} {n : Nat} {l : List Int} (h : MAr w b v n l) : ∃ ao cap, v = .slice ao (16 * n) cap ∧ AtL w ao (u32s l) := atL_of_own h.2.1
theorem MAr.own {w : World} {b : Nat} {v : Value} {n : Nat} {l : List Int} (h : MAr w b v n l) (hn : 0 < n) : ∃ g cap, v = .slice (some ⟨g, 0, none⟩) (16 * n) cap ∧ 16 * n ≤ cap := by
  rcases own_shape h.2.1 with ⟨-, hz, -⟩ | h
  · omega
  · obtain ⟨g, cap, e1, e2, -⟩ := h
    exact ⟨g, cap, e1, e2⟩

set_option maxRecDepth 100000 in
set_option maxHeartbeats 800000 in
theorem mr_new (n : Nat) (w : World) (h1 : 1 ≤ n) (h2 : n ≤ 1024) :
    Calls Tryz.prog 17 #[.int .i64 n] w fun e w' => ∃ b v, e = .returned (.pointer (some ⟨b, 0, none⟩)) ∧ MAr w' b v n (List.replicate (16 * n) 0) ∧ w.heap.size ≤ b ∧ (∀ k, inRow v k → w.heap.size ≤ k) ∧ Below w.heap.size w w' := by
  obtain ⟨i, hi, hz0, hz1, hz2⟩ := info_parts infoU32
  have hw := IntWalk.i64_in (16 * (n : Int)) (by omega)
  obtain ⟨v, w1, hmk, ho, hg, rfl⟩ : ∃ v w1, (Instr.makeSlice 65 (.int .i64 (16 * (n : Int))) (.int .i64 (16 * (n : Int)))).run Tryz.prog w = .ok v w1 ∧ w1.ownsRow 0 115 1 v (16 * n) (u32s (List.replicate (16 * n) 0)) ∧ w.grownBy w1 none ∧ v = .slice (some ⟨w.heap.size, 0, none⟩) (16 * n) (16 * n) := by
    obtain ⟨w1, e, ho, hg⟩ := run_makeSlice_full (P := Tryz.prog) w 0 65 115 i (.int .u32 0) 1 Tryz.underlying65 hi hz0 hz1 .i64 .i64 (16 * n) (by omega) (by rw [hz2]; omega) (by unfold maxLen; omega) (Nat.zero_le _)
    rw [show ((16 * n : Nat) : Int) = 16 * (n : Int) by omega] at e
    refine ⟨_, w1, e, ?_, hg, rfl⟩
    rw [Nat.mul_one, show (Value.int IntKind.u32 0).cells = #[Value.int IntKind.u32 0] from rfl, toList_madeCells_one] at ho
    simpa [u32s] using ho
  have hb : Below w.heap.size w w1 := (Below.refl _ _).grown hg (Nat.le_refl _) (fun k hk => by cases hk)
  have HM : Hid (MAr (w1.alloc (.cells #[.slice (some ⟨w.heap.size, 0, none⟩) (16 * n) (16 * n)] 101)) w1.heap.size (.slice (some ⟨w.heap.size, 0, none⟩) (16 * n) (16 * n)) n (List.replicate (16 * n) 0)) := Lib.hid ⟨blk_new _ _, ho.alloc _, by simp⟩
  have HB := Lib.hid (hb.alloc hb.size (.cells #[.slice (some ⟨w.heap.size, 0, none⟩) (16 * n) (16 * n)] 101))
  have HS := Lib.hid hb.size
  have HV : Hid (∀ k, inRow (.slice (some ⟨w.heap.size, 0, none⟩) (16 * n) (16 * n)) k → w.heap.size ≤ k) := Lib.hid fun k hk => by simp [inRow, Value.ownBlock] at hk; omega
  clear ho hg hb
  go_enter Tryz.func17, Tryz.ntmps17
  go_wp2
  go_ret
  first | exact ⟨w1.heap.size, _, rfl, HM.out, HS.out, HV.out, HB.out⟩ | exact ⟨w1.heap.size, rfl, _, HM.out, HS.out, HV.out, HB.out⟩ | exact ⟨_, rfl, _, HM.out, HS.out, HV.out, HB.out⟩

set_option maxHeartbeats 800000 in
theorem mr_read (l : List Int) (b n : Nat) (v : Value) (i : Int) (w : World) (h : MAr w b v n l) :
    Calls Tryz.prog 82 #[.pointer (some ⟨b, 0, none⟩), .int .i64 i] w fun e w' => e = .returned (readAns l i) ∧ w = w' := by
  have c := h.cell
  have hlen := h.2.2
  obtain ⟨ao, cap, rfl, hat⟩ := h.slice
  have HAT := Lib.hid hat
  have HLEN := Lib.hid hlen
  clear h hat hlen
  by_cases h0 : i < 0
  · have HC : Hid (readAns l i = .tuple #[.int .u32 0, .bool false]) := Lib.hid (by unfold readAns; rw [if_neg (by omega)])
    go_enter Tryz.func82, Tryz.ntmps82
    go_wp2
    go_ret2
    exact ⟨by rw [HC.out]; rfl, rfl⟩
  · obtain ⟨j, rfl⟩ : ∃ j : Nat, i = (j : Int) := ⟨i.toNat, by omega⟩
    by_cases h1 : j < 16 * n
    · have HC : Hid (readAns l (j : Int) = .tuple #[.int .u32 (l.getD j 0), .bool true]) := Lib.hid (by unfold readAns; rw [if_pos (by have := HLEN.out; omega), Int.toNat_natCast])
      obtain ⟨d, off, rfl, c0, -⟩ := HAT.out j _ (u32s_get l j (by rw [HLEN.out]; exact h1))
      obtain ⟨z, hz⟩ : ∃ z, l.getD j 0 = z := ⟨_, rfl⟩
      rw [hz] at c0 HC
      clear hz
      have hji : (j : Int) < ((16 * n : Nat) : Int) := by omega
      obtain ⟨N, hN⟩ : ∃ N, 16 * n = N := ⟨_, rfl⟩
      rw [hN] at hji c
      clear h1
      go_enter Tryz.func82, Tryz.ntmps82
      clear hN
      go_wp2
      go_ret2
      exact ⟨by rw [HC.out]; rfl, rfl⟩
    · have HC : Hid (readAns l (j : Int) = .tuple #[.int .u32 0, .bool false]) := Lib.hid (by unfold readAns; rw [if_neg (by have := HLEN.out; omega)])
      have hji : ((16 * n : Nat) : Int) ≤ (j : Int) := by omega
      obtain ⟨N, hN⟩ : ∃ N, 16 * n = N := ⟨_, rfl⟩
      rw [hN] at hji c
      clear h1
      go_enter Tryz.func82, Tryz.ntmps82
      clear hN
      go_wp2
      go_ret2
      exact ⟨by rw [HC.out]; rfl, rfl⟩

set_option maxHeartbeats 800000 in
theorem mr_frames (l : List Int) (b n : Nat) (v : Value) (w : World) (h : MAr w b v n l) (hn : n ≤ 1024) :
    Calls Tryz.prog 24 #[.pointer (some ⟨b, 0, none⟩)] w fun e w' => e = .returned (.int .i64 n) ∧ w = w' := by
  have c := h.cell
  obtain ⟨ao, cap, rfl, -⟩ := h.slice
  clear h
  obtain ⟨N, hN⟩ : ∃ N, 16 * n = N := ⟨_, rfl⟩
  have H3 : Hid ((N : Int) / 16 = n) := Lib.hid (by omega)
  have hw := IntWalk.i64_in ((N : Int) / 16) (by omega)
  rw [hN] at c
  clear hN
  go_enter Tryz.func24, Tryz.ntmps24
  go_wp2
  go_ret
  refine ⟨?_, rfl⟩
  show Ending.returned (Value.int .i64 ((N : Int) / 16)) = _
  rw [H3.out]

set_option maxHeartbeats 800000 in
theorem mr_write (l : List Int) (b n : Nat) (v : Value) (i x : Int) (w : World) (h : MAr w b v n l) :
    Calls Tryz.prog 59 #[.pointer (some ⟨b, 0, none⟩), .int .i64 i, .int .u32 x] w fun e w' => e = .returned (.bool (decide (0 ≤ i) && decide (i < l.length))) ∧ MAr w' b v n (writeL l i x) ∧ Only (fun k => inRow v k) w w' := by
  have c := h.cell
  have HM := Lib.hid h
  by_cases h0 : i < 0
  · have HC : Hid (writeL l i x = l) := Lib.hid (by unfold writeL; rw [if_neg (by omega)])
    have HD : Hid ((decide (0 ≤ i) && decide (i < (l.length : Int))) = false) := Lib.hid (by simp; omega)
    rw [HC.out, HD.out]
    clear h
    go_enter Tryz.func59, Tryz.ntmps59
    go_wp2
    go_ret
    exact ⟨rfl, HM.out, Only.refl _ _⟩
  · obtain ⟨j, rfl⟩ : ∃ j : Nat, i = (j : Int) := ⟨i.toNat, by omega⟩
    have hlen := h.2.2
    by_cases h1 : j < 16 * n
    · have HC : Hid (writeL l j x = l.set j x) := Lib.hid (by unfold writeL; rw [if_pos (by omega), Int.toNat_natCast])
      have HD : Hid ((decide (0 ≤ (j : Int)) && decide ((j : Int) < (l.length : Int))) = true) := Lib.hid (by simp; omega)
      rw [HC.out, HD.out]
      obtain ⟨g, cap, rfl, -⟩ := h.own (by omega)
      have g0 := (own_cell h.2.1 j (by omega)).trans (u32s_get l j (by omega))
      have g1 := own_free h.2.1 j
      have hgb : ¬ b = g := fun e => h.not (by subst e; rfl)
      have HS : Hid (MAr (w.setCell ⟨g, j, none⟩ (.int .u32 x)) b (.slice (some ⟨g, 0, none⟩) (16 * n) cap) n (l.set j x)) := Lib.hid ⟨blk_set h.1 (by exact hgb) _, by
        rw [← u32s_set]
        exact (h.2.1.stored j _).1, by rw [List.length_set]; exact hlen⟩
      have HON : Hid (Only (fun k => inRow (.slice (some ⟨g, 0, none⟩) (16 * n) cap) k) w (w.setCell ⟨g, j, none⟩ (.int .u32 x))) := Lib.hid
        (Only.setCell (F := fun k => inRow (.slice (some ⟨g, 0, none⟩) (16 * n) cap) k) (Only.refl _ _) (p := ⟨g, j, none⟩) (.inl rfl) _)
      have hji : (j : Int) < ((16 * n : Nat) : Int) := by omega
      obtain ⟨N, hN⟩ : ∃ N, 16 * n = N := ⟨_, rfl⟩
      rw [hN] at hji c HON HS ⊢
      clear h h1 hgb hlen HM HC
      go_enter Tryz.func59, Tryz.ntmps59
      clear hN
      go_wp2
      go_ret
      exact ⟨rfl, HS.out, HON.out⟩
    · have HC : Hid (writeL l j x = l) := Lib.hid (by unfold writeL; rw [if_neg (by omega)])
      have HD : Hid ((decide (0 ≤ (j : Int)) && decide ((j : Int) < (l.length : Int))) = false) := Lib.hid (by simp; omega)
      rw [HC.out, HD.out]
      obtain ⟨ao, cap, rfl, -⟩ := h.slice
      have hji : ((16 * n : Nat) : Int) ≤ (j : Int) := by omega
      obtain ⟨N, hN⟩ : ∃ N, 16 * n = N := ⟨_, rfl⟩
      rw [hN] at hji c HM ⊢
      clear h h1 hlen
      go_enter Tryz.func59, Tryz.ntmps59
      clear hN
      go_wp2
      go_ret
      exact ⟨rfl, HM.out, Only.refl _ _⟩
end Go.Proofs.YtaoaachgnnengaaGreatDoor

