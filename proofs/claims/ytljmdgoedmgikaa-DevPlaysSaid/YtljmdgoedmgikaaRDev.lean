/-
  The document's devices in memory, and contracts of their methods.
-/
import Derived.Test.YtljmdgoedmgikaaDev
import Derived.Test.YtljmdgoedmgikaaWords
namespace Go.Proofs.Ytljmdgoedmgikaa
open Go.RowKit

def rdevCells (kv : Value) (sec : List Int) (st : Bool) (due : Int) (sv : Value) : Array Value := (kv :: sv :: (u32s sec ++ [.int .i64 due, .bool st])).toArray
theorem rdevCells_0 (kv sv : Value) (sec : List Int) (st : Bool) (due : Int) : (rdevCells kv sec st due sv)[0]? = some kv := rfl
theorem rdevCells_sec (kv sv : Value) (sec : List Int) (st : Bool) (due : Int) (i : Nat) (hi : i < sec.length) : (rdevCells kv sec st due sv)[2 + i]? = some (.int .u32 (sec.getD i 0)) := by
  simp [rdevCells, u32s, Nat.add_comm 2 i, List.getElem?_append_left, hi]
theorem rdevCells_17 (kv sv : Value) (sec : List Int) (st : Bool) (due : Int) (h : sec.length = 16) : (rdevCells kv sec st due sv)[19]? = some (.bool st) := by
  simp [rdevCells, u32s, List.getElem?_append_right, h]
theorem rdevCells_18 (kv sv : Value) (sec : List Int) (st : Bool) (due : Int) (h : sec.length = 16) : (rdevCells kv sec st due sv)[18]? = some (.int .i64 due) := by
  simp [rdevCells, u32s, List.getElem?_append_right, h]
theorem rdevCells_19 (kv sv : Value) (sec : List Int) (st : Bool) (due : Int) (h : sec.length = 16) : (rdevCells kv sec st due sv)[1]? = some sv := by
  simp [rdevCells, u32s, List.getElem?_append_right, h]
theorem rdevCells_set0 (kv sv v : Value) (sec : List Int) (st : Bool) (due : Int) : (rdevCells kv sec st due sv).setIfInBounds 0 v = rdevCells v sec st due sv := by
  simp [rdevCells]
theorem rdevCells_setSec (kv sv : Value) (sec : List Int) (st : Bool) (due : Int) (i : Nat) (x : Int) (hi : i < sec.length) : (rdevCells kv sec st due sv).setIfInBounds (2 + i) (.int .u32 x) = rdevCells kv (sec.set i x) st due sv := by
  simp [rdevCells, u32s, Nat.add_comm 2 i, List.set_append_left, hi, List.map_set]
theorem rdevCells_set17 (kv sv : Value) (sec : List Int) (st x : Bool) (due : Int) (h : sec.length = 16) : (rdevCells kv sec st due sv).setIfInBounds 19 (.bool x) = rdevCells kv sec x due sv := by
  simp [rdevCells, u32s, List.set_append_right, h]
theorem rdevCells_set18 (kv sv : Value) (sec : List Int) (st : Bool) (due x : Int) (h : sec.length = 16) : (rdevCells kv sec st due sv).setIfInBounds 18 (.int .i64 x) = rdevCells kv sec st x sv := by
  simp [rdevCells, u32s, List.set_append_right, h]
theorem rdevCells_set19 (kv sv v : Value) (sec : List Int) (st : Bool) (due : Int) (h : sec.length = 16) : (rdevCells kv sec st due sv).setIfInBounds 1 v = rdevCells kv sec st due v := by
  simp [rdevCells, u32s, List.set_append_right, h]

/-- devices D lie at block b, their rows are kv, sv -/
structure RDevRep (w : World) (b : Nat) (D : DevS) (kv sv : Value) : Prop where
  blk : w.heap[b]? = some (.cells (rdevCells kv D.sec D.set D.due sv) 51 (0, 0))
  len : D.sec.length = 16
  keys : w.ownsRow 0 24 1 kv D.keys.length (u32s D.keys)
  seen : w.ownsRow 0 39 3 sv D.seen.length (seenCells D.seen)

/-- devices D lie at block b, within the blocks of F -/
def RDevAt (w : World) (b : Nat) (D : DevS) (F : Nat → Prop) : Prop := ∃ kv sv, RDevRep w b D kv sv ∧ ∀ k, k = b ∨ inRow kv k ∨ inRow sv k → F k

theorem RDevAt.mono {w : World} {b : Nat} {D : DevS} {F G : Nat → Prop} (h : RDevAt w b D F) (hF : ∀ k, F k → G k) : RDevAt w b D G := by
  obtain ⟨kv, sv, hr, hk⟩ := h
  exact ⟨kv, sv, hr, fun k h => hF k (hk k h)⟩
theorem RDevAt.only {w w' : World} {b : Nat} {D : DevS} {F G : Nat → Prop} (h : RDevAt w b D F) (ho : Only G w w') (hd : ∀ k, F k → k < w.heap.size → ¬ G k) : RDevAt w' b D F := by
  obtain ⟨kv, sv, ⟨h1, h2, h3, h4⟩, hk⟩ := h
  exact ⟨kv, sv, ⟨ho.blk h1 (hd b (hk b (.inl rfl)) (blk_lt h1)), h2, own_only h3 ho fun k hi => hd k (hk k (.inr (.inl hi))) (own_lt h3 hi), own_only h4 ho fun k hi => hd k (hk k (.inr (.inr hi))) (own_lt h4 hi)⟩, hk⟩
theorem RDevAt.below {w w' : World} {b : Nat} {D : DevS} {F : Nat → Prop} (h : RDevAt w b D F) (hb : Below w.heap.size w w') : RDevAt w' b D F :=
  h.only (G := fun _ => False) (Only.of_below hb) fun _ _ _ h => h

theorem RDevRep.put_keys {w : World} {b n : Nat} {D : DevS} {kv sv v : Value} {ks : List Int} (h1 : w.heap[b]? = some (.cells (rdevCells kv D.sec D.set D.due sv) 51 (0, 0))) (h2 : D.sec.length = 16)
    (h4 : w.ownsRow 0 39 3 sv D.seen.length (seenCells D.seen)) (ho : w.ownsRow 0 24 1 v n (u32s ks)) (hn : n = ks.length) : RDevRep (w.setCell ⟨b, 0, none⟩ v) b { D with keys := ks } v sv := by
  subst hn
  refine ⟨?_, h2, own_set ho h1 (by decide) _ _, own_set h4 h1 (by decide) _ _⟩
  have := blk_put h1 0 v
  rw [rdevCells_set0] at this
  exact this
theorem RDevRep.put_seen {w : World} {b n : Nat} {D : DevS} {kv sv v : Value} {l : List (Int × Int × Int)} (h1 : w.heap[b]? = some (.cells (rdevCells kv D.sec D.set D.due sv) 51 (0, 0))) (h2 : D.sec.length = 16)
    (h3 : w.ownsRow 0 24 1 kv D.keys.length (u32s D.keys)) (ho : w.ownsRow 0 39 3 v n (seenCells l)) (hn : n = l.length) : RDevRep (w.setCell ⟨b, 1, none⟩ v) b { D with seen := l } kv v := by
  subst hn
  refine ⟨?_, h2, own_set h3 h1 (by decide) _ _, own_set ho h1 (by decide) _ _⟩
  have := blk_put h1 1 v
  rw [rdevCells_set19 _ _ _ _ _ _ h2] at this
  exact this
theorem RDevRep.put_sec {w : World} {b : Nat} {D : DevS} {kv sv : Value} (h : RDevRep w b D kv sv) (i : Nat) (hi : i < 16) (x : Int) : RDevRep (w.setCell ⟨b, 2 + i, none⟩ (.int .u32 x)) b { D with sec := D.sec.set i x } kv sv := by
  obtain ⟨h1, h2, h3, h4⟩ := h
  refine ⟨?_, by simpa using h2, own_set h3 h1 (by decide) _ _, own_set h4 h1 (by decide) _ _⟩
  have := blk_put h1 (2 + i) (.int .u32 x)
  rw [rdevCells_setSec _ _ _ _ _ _ _ (by omega)] at this
  exact this
theorem RDevRep.put_set {w : World} {b : Nat} {D : DevS} {kv sv : Value} (h : RDevRep w b D kv sv) (x : Bool) : RDevRep (w.setCell ⟨b, 19, none⟩ (.bool x)) b { D with set := x } kv sv := by
  obtain ⟨h1, h2, h3, h4⟩ := h
  refine ⟨?_, h2, own_set h3 h1 (by decide) _ _, own_set h4 h1 (by decide) _ _⟩
  have := blk_put h1 19 (.bool x)
  rw [rdevCells_set17 _ _ _ _ _ _ h2] at this
  exact this
theorem RDevRep.put_due {w : World} {b : Nat} {D : DevS} {kv sv : Value} (h : RDevRep w b D kv sv) (x : Int) : RDevRep (w.setCell ⟨b, 18, none⟩ (.int .i64 x)) b { D with due := x } kv sv := by
  obtain ⟨h1, h2, h3, h4⟩ := h
  refine ⟨?_, h2, own_set h3 h1 (by decide) _ _, own_set h4 h1 (by decide) _ _⟩
  have := blk_put h1 18 (.int .i64 x)
  rw [rdevCells_set18 _ _ _ _ _ _ h2] at this
  exact this

set_option maxHeartbeats 400000 in
theorem rpress_room (D : DevS) (w : World) (b : Nat) (key : Int) (F : Nat → Prop) (h : RDevAt w b D F) (hk : D.keys.length < 64) :
    Calls Try.prog 22 #[.pointer (some ⟨b, 0, none⟩), .int .u32 key] w fun e w' => e = .returned (.bool true) ∧ RDevAt w' b { D with keys := D.keys ++ [key] } (fun k => F k ∨ w.heap.size ≤ k) ∧ Only F w w' := by
  obtain ⟨kv, sv, ⟨h1, h2, h3, h4⟩, hF⟩ := h
  have c0 : w.cell? ⟨b, 0, none⟩ = some kv := (blk_cell h1 0).trans rfl
  obtain ⟨i0, hi, hz0, hz1, hz2⟩ := info_parts infoU32
  obtain ⟨ao, cap, rfl⟩ := own_slice h3
  have hlt : (D.keys.length : Int) < 64 := by omega
  go_enter Try.func22, Try.ntmps22
  go_wp2_with (at_builtin; refine wpList_append_sep _ rfl _ _ 22 rfl 24 i0 (.int .u32 0) 1 4 Try.underlying22 hi hz0 hz1 hz2 rfl (by decide) _ _ _ rfl (h3.alloc _) ⟨w.heap.size, 0, none⟩ 1 1 [.int .u32 key] rfl rfl (cell_one_new _ _ _) (by simp [Value.oneCell']) (by unfold maxLen; omega) (by omega) ?_)
  intro v' w1 ho hg hs
  obtain ⟨ao', cap', rfl⟩ := own_slice ho
  have h1a := blk_old h1 (.cells #[.int .u32 key] 24)
  have h1b := blk_grown h1a hg (own_not (h3.alloc _) h1a (by decide))
  have h4b := own_grown (h4.alloc _) hg (fun k hk hk' => own_apart (h4.alloc (.cells #[.int .u32 key] 24)) (h3.alloc _) (by decide) hk hk')
  have c0b := blk_cell h1b 0
  have f0b := blk_free h1b 0
  rw [rdevCells_0] at c0b
  have hO : Only F w w1 := ((Only.refl F w).alloc' _).grown hg (fun k hk => .inl (hF k (.inr (.inl hk))))
  have e1 : u32s (D.keys ++ [key]) = u32s D.keys ++ [.int .u32 key] := by simp [u32s]
  rw [← e1] at ho
  have HR := Lib.hid (RDevRep.put_keys h1b h2 h4b ho (by simp))
  have HS := Lib.hid hs
  clear ho hs hg h1b e1 h1a h4b
  go_wp2
  go_ret
  refine ⟨rfl, ⟨_, sv, HR.out, ?_⟩, hO.setCell (.inl (hF b (.inl rfl))) _⟩
  rintro k (rfl | hk | hk)
  · exact .inl (hF _ (.inl rfl))
  · rcases HS.out k hk with h | h
    · exact .inl (hF _ (.inr (.inl h)))
    · exact .inr (Nat.le_trans (by simp) h)
  · exact .inl (hF _ (.inr (.inr hk)))

set_option maxHeartbeats 400000 in
theorem rpress_full (D : DevS) (w : World) (b : Nat) (key : Int) (F : Nat → Prop) (h : RDevAt w b D F) (hk : ¬ D.keys.length < 64) :
    Calls Try.prog 22 #[.pointer (some ⟨b, 0, none⟩), .int .u32 key] w fun e w' => e = .returned (.bool false) ∧ w = w' := by
  obtain ⟨kv, sv, ⟨h1, h2, h3, h4⟩, hF⟩ := h
  have c0 : w.cell? ⟨b, 0, none⟩ = some kv := (blk_cell h1 0).trans rfl
  obtain ⟨ao, cap, rfl⟩ := own_slice h3
  have hlt : ¬ (D.keys.length : Int) < 64 := by omega
  go_enter Try.func22, Try.ntmps22
  go_wp2
  go_ret
  exact ⟨rfl, rfl⟩

set_option maxHeartbeats 400000 in
theorem rin_none (D : DevS) (w : World) (b : Nat) (F : Nat → Prop) (h : RDevAt w b D F) (hk : D.keys = []) :
    Calls Try.prog 23 #[.pointer (some ⟨b, 0, none⟩)] w fun e w' => e = .returned (.int .u32 0) ∧ w = w' := by
  obtain ⟨kv, sv, ⟨h1, h2, h3, h4⟩, hF⟩ := h
  have c0 : w.cell? ⟨b, 0, none⟩ = some kv := (blk_cell h1 0).trans rfl
  rw [hk] at h3
  obtain ⟨ao, cap, rfl⟩ := own_slice h3
  clear hk
  go_enter Try.func23, Try.ntmps23
  go_wp2
  go_ret
  exact ⟨rfl, rfl⟩

set_option maxHeartbeats 400000 in
theorem rin_some (D : DevS) (w : World) (b : Nat) (F : Nat → Prop) (x : Int) (ks : List Int) (h : RDevAt w b D F) (hk : D.keys = x :: ks) (hl : D.keys.length ≤ 64) :
    Calls Try.prog 23 #[.pointer (some ⟨b, 0, none⟩)] w fun e w' => e = .returned (.int .u32 x) ∧ RDevAt w' b { D with keys := ks } (fun k => F k ∨ w.heap.size ≤ k) ∧ Only F w w' := by
  obtain ⟨kv, sv, ⟨h1, h2, h3, h4⟩, hF⟩ := h
  have c0 : w.cell? ⟨b, 0, none⟩ = some kv := (blk_cell h1 0).trans rfl
  rw [hk] at h3 hl
  rcases own_shape h3 with ⟨rfl, hn, -⟩ | ⟨g, cap, rfl, hcap, hcm⟩
  · simp at hn
  have cg := fun j hj => own_cell h3 j hj
  have cg0 : w.cell? ⟨g, 0, none⟩ = some (.int .u32 x) := (cg 0 (by simp)).trans (by simp [u32s])
  have hl' : ks.length < 64 := by simp at hl; omega
  clear hl
  by_cases hc1 : cap = 1
  · subst hc1
    have h0 : ks = [] := by
      cases ks with
      | nil => rfl
      | cons _ _ => simp at hcap
    have hr : Reads w (.slice (some ⟨g, 0, none⟩) ks.length 0) ks.length (u32s ks) := .inr ⟨⟨g, 0, none⟩, 0, rfl, by simp [h0, u32s]⟩
    have h1c : (1 : Int) ≤ ((x :: ks).length : Int) := by simp; omega
    clear cg h0
    go_enter Try.func23, Try.ntmps23
    go_wp2_with fail
    refine (wordsU32 _ _ _ w hr (by omega) (u32s_len ks) ⟨ks, rfl⟩).mono ?_
    rintro e w1 ⟨v', rfl, ho, hs, hb⟩
    obtain ⟨ao', cap', rfl⟩ := own_slice ho
    have h1b := blk_below h1 hb (blk_lt h1)
    have h4b := own_frame h4 fun k hk => hb.block k (own_lt h4 hk)
    have c0b := blk_cell h1b 0
    have f0b := blk_free h1b 0
    rw [rdevCells_0] at c0b
    have hO : Only F w w1 := Only.of_below hb
    have HR := Lib.hid (RDevRep.put_keys h1b h2 h4b ho rfl)
    have HS := Lib.hid hs
    clear ho hs hb h1b h4b
    go_wp2
    go_ret
    refine ⟨rfl, ⟨_, sv, HR.out, ?_⟩, hO.setCell (.inl (hF b (.inl rfl))) _⟩
    rintro k (rfl | hk | hk)
    · exact .inl (hF _ (.inl rfl))
    · exact .inr (HS.out k hk)
    · exact .inl (hF _ (.inr (.inr hk)))
  · have hr : Reads w (.slice (some ⟨g, 1, none⟩) ks.length (cap - 1)) ks.length (u32s ks) := by
      refine .inr ⟨⟨g, 1, none⟩, cap - 1, rfl, fun j u hj => ?_⟩
      have hj' := (List.getElem?_eq_some_iff.1 hj).1
      rw [Addr.add_lit, cg (1 + j) (by simp [u32s] at hj' ⊢; omega)]
      simpa [u32s, Nat.add_comm 1 j] using hj
    have h1c : (1 : Int) ≤ ((x :: ks).length : Int) := by simp; omega
    clear cg
    go_enter Try.func23, Try.ntmps23
    go_wp2_with fail
    refine (wordsU32 _ _ _ w hr (by omega) (u32s_len ks) ⟨ks, rfl⟩).mono ?_
    rintro e w1 ⟨v', rfl, ho, hs, hb⟩
    obtain ⟨ao', cap', rfl⟩ := own_slice ho
    have h1b := blk_below h1 hb (blk_lt h1)
    have h4b := own_frame h4 fun k hk => hb.block k (own_lt h4 hk)
    have c0b := blk_cell h1b 0
    have f0b := blk_free h1b 0
    rw [rdevCells_0] at c0b
    have hO : Only F w w1 := Only.of_below hb
    have HR := Lib.hid (RDevRep.put_keys h1b h2 h4b ho rfl)
    have HS := Lib.hid hs
    clear ho hs hb h1b h4b
    go_wp2
    go_ret
    refine ⟨rfl, ⟨_, sv, HR.out, ?_⟩, hO.setCell (.inl (hF b (.inl rfl))) _⟩
    rintro k (rfl | hk | hk)
    · exact .inl (hF _ (.inl rfl))
    · exact .inr (HS.out k hk)
    · exact .inl (hF _ (.inr (.inr hk)))
end Go.Proofs.Ytljmdgoedmgikaa
