/-
  Devices: what a dev.Dev in memory is, and contracts of its methods.
-/
import Derived.Test.YtljmdgoedmgikaaCloneU32
import Derived.Test.YtljmdgoedmgikaaCloneSeen
namespace Go.Proofs.Ytljmdgoedmgikaa
open Go.RowKit

/-- what devices hold -/
structure DevS where
  keys : List Int := []
  sec : List Int := List.replicate 16 0
  set : Bool := false
  due : Int := 0
  seen : List (Int × Int × Int) := []

def seenCells (l : List (Int × Int × Int)) : List Value := l.flatMap fun s => [.int .i64 s.1, .int .u32 s.2.1, .int .u32 s.2.2]
theorem seenCells_len (l : List (Int × Int × Int)) : (seenCells l).length = l.length * 3 := by
  induction l with
  | nil => rfl
  | cons a l ih => simp only [seenCells, List.flatMap_cons, List.length_append, List.length_cons, List.length_nil] at ih ⊢; omega
theorem seenCells_snoc (l : List (Int × Int × Int)) (k a n : Int) : seenCells (l ++ [(k, a, n)]) = seenCells l ++ [.int .i64 k, .int .u32 a, .int .u32 n] := by
  simp [seenCells]
theorem seenCells_one (l : List (Int × Int × Int)) : ∀ u ∈ seenCells l, u.oneCell' = true := by
  intro u hu
  simp only [seenCells, List.mem_flatMap] at hu
  obtain ⟨s, -, hs⟩ := hu
  simp only [List.mem_cons, List.not_mem_nil, or_false] at hs
  rcases hs with rfl | rfl | rfl <;> rfl

def devCells (kv : Value) (sec : List Int) (st : Bool) (due : Int) (sv : Value) : Array Value := (kv :: (u32s sec ++ [.bool st, .int .i64 due, sv])).toArray
theorem devCells_0 (kv sv : Value) (sec : List Int) (st : Bool) (due : Int) : (devCells kv sec st due sv)[0]? = some kv := rfl
theorem devCells_sec (kv sv : Value) (sec : List Int) (st : Bool) (due : Int) (i : Nat) (hi : i < sec.length) : (devCells kv sec st due sv)[1 + i]? = some (.int .u32 (sec.getD i 0)) := by
  simp [devCells, u32s, Nat.add_comm 1 i, List.getElem?_append_left, hi]
theorem devCells_17 (kv sv : Value) (sec : List Int) (st : Bool) (due : Int) (h : sec.length = 16) : (devCells kv sec st due sv)[17]? = some (.bool st) := by
  simp [devCells, u32s, List.getElem?_append_right, h]
theorem devCells_18 (kv sv : Value) (sec : List Int) (st : Bool) (due : Int) (h : sec.length = 16) : (devCells kv sec st due sv)[18]? = some (.int .i64 due) := by
  simp [devCells, u32s, List.getElem?_append_right, h]
theorem devCells_19 (kv sv : Value) (sec : List Int) (st : Bool) (due : Int) (h : sec.length = 16) : (devCells kv sec st due sv)[19]? = some sv := by
  simp [devCells, u32s, List.getElem?_append_right, h]
theorem devCells_set0 (kv sv v : Value) (sec : List Int) (st : Bool) (due : Int) : (devCells kv sec st due sv).setIfInBounds 0 v = devCells v sec st due sv := by
  simp [devCells]
theorem devCells_setSec (kv sv : Value) (sec : List Int) (st : Bool) (due : Int) (i : Nat) (x : Int) (hi : i < sec.length) : (devCells kv sec st due sv).setIfInBounds (1 + i) (.int .u32 x) = devCells kv (sec.set i x) st due sv := by
  simp [devCells, u32s, Nat.add_comm 1 i, List.set_append_left, hi, List.map_set]
theorem devCells_set17 (kv sv : Value) (sec : List Int) (st x : Bool) (due : Int) (h : sec.length = 16) : (devCells kv sec st due sv).setIfInBounds 17 (.bool x) = devCells kv sec x due sv := by
  simp [devCells, u32s, List.set_append_right, h]
theorem devCells_set18 (kv sv : Value) (sec : List Int) (st : Bool) (due x : Int) (h : sec.length = 16) : (devCells kv sec st due sv).setIfInBounds 18 (.int .i64 x) = devCells kv sec st x sv := by
  simp [devCells, u32s, List.set_append_right, h]
theorem devCells_set19 (kv sv v : Value) (sec : List Int) (st : Bool) (due : Int) (h : sec.length = 16) : (devCells kv sec st due sv).setIfInBounds 19 v = devCells kv sec st due v := by
  simp [devCells, u32s, List.set_append_right, h]

/-- devices D lie at block b, their rows are kv, sv -/
structure DevRep (w : World) (b : Nat) (D : DevS) (kv sv : Value) : Prop where
  blk : w.heap[b]? = some (.cells (devCells kv D.sec D.set D.due sv) 28 (0, 0))
  len : D.sec.length = 16
  keys : w.ownsRow 0 24 1 kv D.keys.length (u32s D.keys)
  seen : w.ownsRow 0 39 3 sv D.seen.length (seenCells D.seen)

/-- devices D lie at block b, within the blocks of F -/
def DevAt (w : World) (b : Nat) (D : DevS) (F : Nat → Prop) : Prop := ∃ kv sv, DevRep w b D kv sv ∧ ∀ k, k = b ∨ inRow kv k ∨ inRow sv k → F k

theorem DevAt.mono {w : World} {b : Nat} {D : DevS} {F G : Nat → Prop} (h : DevAt w b D F) (hF : ∀ k, F k → G k) : DevAt w b D G := by
  obtain ⟨kv, sv, hr, hk⟩ := h
  exact ⟨kv, sv, hr, fun k h => hF k (hk k h)⟩
theorem DevAt.only {w w' : World} {b : Nat} {D : DevS} {F G : Nat → Prop} (h : DevAt w b D F) (ho : Only G w w') (hd : ∀ k, F k → k < w.heap.size → ¬ G k) : DevAt w' b D F := by
  obtain ⟨kv, sv, ⟨h1, h2, h3, h4⟩, hk⟩ := h
  exact ⟨kv, sv, ⟨ho.blk h1 (hd b (hk b (.inl rfl)) (blk_lt h1)), h2, own_only h3 ho fun k hi => hd k (hk k (.inr (.inl hi))) (own_lt h3 hi), own_only h4 ho fun k hi => hd k (hk k (.inr (.inr hi))) (own_lt h4 hi)⟩, hk⟩
theorem DevAt.below {w w' : World} {b : Nat} {D : DevS} {F : Nat → Prop} (h : DevAt w b D F) (hb : Below w.heap.size w w') : DevAt w' b D F :=
  h.only (G := fun _ => False) (Only.of_below hb) fun _ _ _ h => h

theorem DevRep.put_keys {w : World} {b n : Nat} {D : DevS} {kv sv v : Value} {ks : List Int} (h1 : w.heap[b]? = some (.cells (devCells kv D.sec D.set D.due sv) 28 (0, 0))) (h2 : D.sec.length = 16)
    (h4 : w.ownsRow 0 39 3 sv D.seen.length (seenCells D.seen)) (ho : w.ownsRow 0 24 1 v n (u32s ks)) (hn : n = ks.length) : DevRep (w.setCell ⟨b, 0, none⟩ v) b { D with keys := ks } v sv := by
  subst hn
  refine ⟨?_, h2, own_set ho h1 (by decide) _ _, own_set h4 h1 (by decide) _ _⟩
  have := blk_put h1 0 v
  rw [devCells_set0] at this
  exact this
theorem DevRep.put_seen {w : World} {b n : Nat} {D : DevS} {kv sv v : Value} {l : List (Int × Int × Int)} (h1 : w.heap[b]? = some (.cells (devCells kv D.sec D.set D.due sv) 28 (0, 0))) (h2 : D.sec.length = 16)
    (h3 : w.ownsRow 0 24 1 kv D.keys.length (u32s D.keys)) (ho : w.ownsRow 0 39 3 v n (seenCells l)) (hn : n = l.length) : DevRep (w.setCell ⟨b, 19, none⟩ v) b { D with seen := l } kv v := by
  subst hn
  refine ⟨?_, h2, own_set h3 h1 (by decide) _ _, own_set ho h1 (by decide) _ _⟩
  have := blk_put h1 19 v
  rw [devCells_set19 _ _ _ _ _ _ h2] at this
  exact this
theorem DevRep.put_sec {w : World} {b : Nat} {D : DevS} {kv sv : Value} (h : DevRep w b D kv sv) (i : Nat) (hi : i < 16) (x : Int) : DevRep (w.setCell ⟨b, 1 + i, none⟩ (.int .u32 x)) b { D with sec := D.sec.set i x } kv sv := by
  obtain ⟨h1, h2, h3, h4⟩ := h
  refine ⟨?_, by simpa using h2, own_set h3 h1 (by decide) _ _, own_set h4 h1 (by decide) _ _⟩
  have := blk_put h1 (1 + i) (.int .u32 x)
  rw [devCells_setSec _ _ _ _ _ _ _ (by omega)] at this
  exact this
theorem DevRep.put_set {w : World} {b : Nat} {D : DevS} {kv sv : Value} (h : DevRep w b D kv sv) (x : Bool) : DevRep (w.setCell ⟨b, 17, none⟩ (.bool x)) b { D with set := x } kv sv := by
  obtain ⟨h1, h2, h3, h4⟩ := h
  refine ⟨?_, h2, own_set h3 h1 (by decide) _ _, own_set h4 h1 (by decide) _ _⟩
  have := blk_put h1 17 (.bool x)
  rw [devCells_set17 _ _ _ _ _ _ h2] at this
  exact this
theorem DevRep.put_due {w : World} {b : Nat} {D : DevS} {kv sv : Value} (h : DevRep w b D kv sv) (x : Int) : DevRep (w.setCell ⟨b, 18, none⟩ (.int .i64 x)) b { D with due := x } kv sv := by
  obtain ⟨h1, h2, h3, h4⟩ := h
  refine ⟨?_, h2, own_set h3 h1 (by decide) _ _, own_set h4 h1 (by decide) _ _⟩
  have := blk_put h1 18 (.int .i64 x)
  rw [devCells_set18 _ _ _ _ _ _ h2] at this
  exact this

set_option maxHeartbeats 400000 in
theorem press_room (D : DevS) (w : World) (b : Nat) (key : Int) (F : Nat → Prop) (h : DevAt w b D F) (hk : D.keys.length < 64) :
    Calls Try.prog 9 #[.pointer (some ⟨b, 0, none⟩), .int .u32 key] w fun e w' => e = .returned (.bool true) ∧ DevAt w' b { D with keys := D.keys ++ [key] } (fun k => F k ∨ w.heap.size ≤ k) ∧ Only F w w' := by
  obtain ⟨kv, sv, ⟨h1, h2, h3, h4⟩, hF⟩ := h
  have c0 : w.cell? ⟨b, 0, none⟩ = some kv := (blk_cell h1 0).trans rfl
  obtain ⟨i0, hi, hz0, hz1, hz2⟩ := info_parts infoU32
  obtain ⟨ao, cap, rfl⟩ := own_slice h3
  have hlt : (D.keys.length : Int) < 64 := by omega
  go_enter Try.func9, Try.ntmps9
  go_wp2_with (at_builtin; refine wpList_append_sep _ rfl _ _ 22 rfl 24 i0 (.int .u32 0) 1 4 Try.underlying22 hi hz0 hz1 hz2 rfl (by decide) _ _ _ rfl (h3.alloc _) ⟨w.heap.size, 0, none⟩ 1 1 [.int .u32 key] rfl rfl (cell_one_new _ _ _) (by simp [Value.oneCell']) (by unfold maxLen; omega) (by omega) ?_)
  intro v' w1 ho hg hs
  obtain ⟨ao', cap', rfl⟩ := own_slice ho
  have h1a := blk_old h1 (.cells #[.int .u32 key] 24)
  have h1b := blk_grown h1a hg (own_not (h3.alloc _) h1a (by decide))
  have h4b := own_grown (h4.alloc _) hg (fun k hk hk' => own_apart (h4.alloc (.cells #[.int .u32 key] 24)) (h3.alloc _) (by decide) hk hk')
  have c0b := blk_cell h1b 0
  have f0b := blk_free h1b 0
  rw [devCells_0] at c0b
  have hO : Only F w w1 := ((Only.refl F w).alloc' _).grown hg (fun k hk => .inl (hF k (.inr (.inl hk))))
  have e1 : u32s (D.keys ++ [key]) = u32s D.keys ++ [.int .u32 key] := by simp [u32s]
  rw [← e1] at ho
  have HR := Lib.hid (DevRep.put_keys h1b h2 h4b ho (by simp))
  have HS := Lib.hid hs
  clear ho hs hg h1b e1 h1a h4b
  go_wp2
  go_ret
  refine ⟨rfl, ⟨_, sv, HR.out, ?_⟩, hO.setCell (.inl (hF b (.inl rfl))) _⟩
  rintro k (rfl | hk | hk)
  · exact .inl (hF _ (.inl rfl))
  · rcases HS.out k hk with h | h
    · exact .inl (hF _ (.inr (.inl h)))
    · exact .inr (Nat.le_trans (by simp) h)
  · exact .inl (hF _ (.inr (.inr hk)))

set_option maxHeartbeats 400000 in
theorem press_full (D : DevS) (w : World) (b : Nat) (key : Int) (F : Nat → Prop) (h : DevAt w b D F) (hk : ¬ D.keys.length < 64) :
    Calls Try.prog 9 #[.pointer (some ⟨b, 0, none⟩), .int .u32 key] w fun e w' => e = .returned (.bool false) ∧ w = w' := by
  obtain ⟨kv, sv, ⟨h1, h2, h3, h4⟩, hF⟩ := h
  have c0 : w.cell? ⟨b, 0, none⟩ = some kv := (blk_cell h1 0).trans rfl
  obtain ⟨ao, cap, rfl⟩ := own_slice h3
  have hlt : ¬ (D.keys.length : Int) < 64 := by omega
  go_enter Try.func9, Try.ntmps9
  go_wp2
  go_ret
  exact ⟨rfl, rfl⟩

set_option maxHeartbeats 400000 in
theorem keys_any (D : DevS) (w : World) (b : Nat) (F : Nat → Prop) (h : DevAt w b D F) :
    Calls Try.prog 10 #[.pointer (some ⟨b, 0, none⟩)] w fun e w' => e = .returned (.int .i64 D.keys.length) ∧ w = w' := by
  obtain ⟨kv, sv, ⟨h1, h2, h3, h4⟩, hF⟩ := h
  have c0 : w.cell? ⟨b, 0, none⟩ = some kv := (blk_cell h1 0).trans rfl
  obtain ⟨ao, cap, rfl⟩ := own_slice h3
  go_enter Try.func10, Try.ntmps10
  go_wp2
  go_ret
  exact ⟨rfl, rfl⟩

set_option maxHeartbeats 400000 in
theorem in_none (D : DevS) (w : World) (b : Nat) (F : Nat → Prop) (h : DevAt w b D F) (hk : D.keys = []) :
    Calls Try.prog 11 #[.pointer (some ⟨b, 0, none⟩)] w fun e w' => e = .returned (.int .u32 0) ∧ w = w' := by
  obtain ⟨kv, sv, ⟨h1, h2, h3, h4⟩, hF⟩ := h
  have c0 : w.cell? ⟨b, 0, none⟩ = some kv := (blk_cell h1 0).trans rfl
  rw [hk] at h3
  obtain ⟨ao, cap, rfl⟩ := own_slice h3
  clear hk
  go_enter Try.func11, Try.ntmps11
  go_wp2
  go_ret
  exact ⟨rfl, rfl⟩

set_option maxHeartbeats 400000 in
theorem in_some (D : DevS) (w : World) (b : Nat) (F : Nat → Prop) (x : Int) (ks : List Int) (h : DevAt w b D F) (hk : D.keys = x :: ks) (hl : D.keys.length ≤ 64) :
    Calls Try.prog 11 #[.pointer (some ⟨b, 0, none⟩)] w fun e w' => e = .returned (.int .u32 x) ∧ DevAt w' b { D with keys := ks } (fun k => F k ∨ w.heap.size ≤ k) ∧ Only F w w' := by
  obtain ⟨kv, sv, ⟨h1, h2, h3, h4⟩, hF⟩ := h
  have c0 : w.cell? ⟨b, 0, none⟩ = some kv := (blk_cell h1 0).trans rfl
  rw [hk] at h3 hl
  rcases own_shape h3 with ⟨rfl, hn, -⟩ | ⟨g, cap, rfl, hcap, hcm⟩
  · simp at hn
  have cg := fun j hj => own_cell h3 j hj
  have cg0 : w.cell? ⟨g, 0, none⟩ = some (.int .u32 x) := (cg 0 (by simp)).trans (by simp [u32s])
  have hl' : ks.length < 64 := by simp at hl; omega
  clear hl
  by_cases hc1 : cap = 1
  · subst hc1
    have h0 : ks = [] := by
      cases ks with
      | nil => rfl
      | cons _ _ => simp at hcap
    have hr : Reads w (.slice (some ⟨g, 0, none⟩) ks.length 0) ks.length (u32s ks) := .inr ⟨⟨g, 0, none⟩, 0, rfl, by simp [h0, u32s]⟩
    have h1c : (1 : Int) ≤ ((x :: ks).length : Int) := by simp; omega
    clear cg h0
    go_enter Try.func11, Try.ntmps11
    go_wp2_with fail
    refine (cloneU32 _ _ _ w hr (by omega) (u32s_len ks) (u32s_one ks)).mono ?_
    rintro e w1 ⟨v', rfl, ho, hs, hb⟩
    obtain ⟨ao', cap', rfl⟩ := own_slice ho
    have h1b := blk_below h1 hb (blk_lt h1)
    have h4b := own_frame h4 fun k hk => hb.block k (own_lt h4 hk)
    have c0b := blk_cell h1b 0
    have f0b := blk_free h1b 0
    rw [devCells_0] at c0b
    have hO : Only F w w1 := Only.of_below hb
    have HR := Lib.hid (DevRep.put_keys h1b h2 h4b ho rfl)
    have HS := Lib.hid hs
    clear ho hs hb h1b h4b
    go_wp2
    go_ret
    refine ⟨rfl, ⟨_, sv, HR.out, ?_⟩, hO.setCell (.inl (hF b (.inl rfl))) _⟩
    rintro k (rfl | hk | hk)
    · exact .inl (hF _ (.inl rfl))
    · exact .inr (HS.out k hk)
    · exact .inl (hF _ (.inr (.inr hk)))
  · have hr : Reads w (.slice (some ⟨g, 1, none⟩) ks.length (cap - 1)) ks.length (u32s ks) := by
      refine .inr ⟨⟨g, 1, none⟩, cap - 1, rfl, fun j u hj => ?_⟩
      have hj' := (List.getElem?_eq_some_iff.1 hj).1
      rw [Addr.add_lit, cg (1 + j) (by simp [u32s] at hj' ⊢; omega)]
      simpa [u32s, Nat.add_comm 1 j] using hj
    have h1c : (1 : Int) ≤ ((x :: ks).length : Int) := by simp; omega
    clear cg
    go_enter Try.func11, Try.ntmps11
    go_wp2_with fail
    refine (cloneU32 _ _ _ w hr (by omega) (u32s_len ks) (u32s_one ks)).mono ?_
    rintro e w1 ⟨v', rfl, ho, hs, hb⟩
    obtain ⟨ao', cap', rfl⟩ := own_slice ho
    have h1b := blk_below h1 hb (blk_lt h1)
    have h4b := own_frame h4 fun k hk => hb.block k (own_lt h4 hk)
    have c0b := blk_cell h1b 0
    have f0b := blk_free h1b 0
    rw [devCells_0] at c0b
    have hO : Only F w w1 := Only.of_below hb
    have HR := Lib.hid (DevRep.put_keys h1b h2 h4b ho rfl)
    have HS := Lib.hid hs
    clear ho hs hb h1b h4b
    go_wp2
    go_ret
    refine ⟨rfl, ⟨_, sv, HR.out, ?_⟩, hO.setCell (.inl (hF b (.inl rfl))) _⟩
    rintro k (rfl | hk | hk)
    · exact .inl (hF _ (.inl rfl))
    · exact .inr (HS.out k hk)
    · exact .inl (hF _ (.inr (.inr hk)))
end Go.Proofs.Ytljmdgoedmgikaa
