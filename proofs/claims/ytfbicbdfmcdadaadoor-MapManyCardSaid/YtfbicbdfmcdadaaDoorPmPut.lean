/-
  p2m.Map: Put; what stays true whatever is told.
-/
import Derived.Test.YtfbicbdfmcdadaaDoorPm
namespace Go.Proofs.YtfbicbdfmcdadaaDoor
open Go.RowKit

theorem ints_set (l : List Int) (k : Nat) (x : Int) : (ints l).set k (.int .i64 x) = ints (l.set k x) := by simp [ints, List.map_set]
theorem set_getD (l : List Int) (n : Nat) (x : Int) (i : Nat) (hi : i < l.length) : (l.set n x).getD i 0 = if i = n then x else l.getD i 0 := by
  rw [List.getD_eq_getElem?_getD, List.getElem?_set]
  by_cases h : n = i
  · subst h
    simp [hi]
  · rw [if_neg h, if_neg (fun e => h e.symm), ← List.getD_eq_getElem?_getD]
theorem snoc_getD (l : List Int) (x : Int) (i : Nat) (hi : i ≤ l.length) : (l ++ [x]).getD i 0 = if i < l.length then l.getD i 0 else x := by
  by_cases h : i < l.length
  · rw [if_pos h, List.getD_eq_getElem?_getD, List.getElem?_append_left h, ← List.getD_eq_getElem?_getD]
  · obtain rfl : i = l.length := by omega
    simp

/-- no number twice, all fair, not too many -/
structure PGood (l : List Int) : Prop where
  few : l.length ≤ 512
  fair : ∀ i, i < l.length → fairP (l.getD i 0) = true
  once : ∀ i j, i < l.length → j < l.length → l.getD i 0 = l.getD j 0 → i = j
theorem PGood.nil : PGood [] := ⟨by simp, fun i hi => by simp at hi, fun i j hi => by simp at hi⟩
theorem PGood.snoc {l : List Int} (h : PGood l) {x : Int} (hx : fairP x = true) (hm : x ∉ l) (hf : l.length < 512) : PGood (l ++ [x]) := by
  have hno : ∀ j, j < l.length → l.getD j 0 ≠ x := fun j hj e => hm (mem_getD.2 ⟨j, hj, e⟩)
  refine ⟨by simp; omega, fun i hi => ?_, fun i j hi hj e => ?_⟩
  · simp at hi
    rw [snoc_getD l x i (by omega)]
    split
    · rename_i h'
      exact h.fair i h'
    · exact hx
  · simp at hi hj
    rw [snoc_getD l x i (by omega), snoc_getD l x j (by omega)] at e
    split at e <;> split at e
    · rename_i h1 h2
      exact h.once i j h1 h2 e
    · rename_i h1 h2
      exact (hno i h1 e).elim
    · rename_i h1 h2
      exact (hno j h2 e.symm).elim
    · omega
theorem PGood.put {l : List Int} (h : PGood l) {x : Int} {n : Nat} (hn : n < l.length) (hx : fairP x = true) {r : Int} (hr : IdxIs l x r) (hrn : r < 0 ∨ r = n) : PGood (l.set n x) := by
  have hno : ∀ j, j < l.length → j ≠ n → l.getD j 0 ≠ x := fun j hj hne e => by
    rcases hr with ⟨-, hr⟩ | ⟨k, hk, rfl, e2, -⟩
    · exact hr j hj e
    · have hkn : k = n := by omega
      exact hne (hkn ▸ h.once j k hj hk (e.trans e2.symm))
  refine ⟨by simpa using h.few, fun i hi => ?_, fun i j hi hj e => ?_⟩
  · simp at hi
    rw [set_getD l n x i hi]
    split
    · exact hx
    · exact h.fair i hi
  · simp at hi hj
    rw [set_getD l n x i hi, set_getD l n x j hj] at e
    split at e <;> split at e
    · omega
    · rename_i h1 h2
      exact (hno j hj h2 e.symm).elim
    · rename_i h1 h2
      exact (hno i hi h1 e).elim
    · exact h.once i j hi hj e
theorem PGood.idx {l : List Int} (h : PGood l) {i : Nat} (hi : i < l.length) {r : Int} (hr : IdxIs l (l.getD i 0) r) : r = i := by
  rcases hr with ⟨-, hr⟩ | ⟨k, hk, e1, e2, -⟩
  · exact (hr i hi rfl).elim
  · rw [e1, h.once k i hk hi e2]

set_option maxHeartbeats 800000 in
theorem put_none (E : Nat → Addr) (l : List Int) (b : Nat) (v : Value) (n x : Int) (w : World) (hE : ErrsAt errT gOf w E p4) (h : PAt w b v l) (hl : l.length ≤ 1000) (hn : n < 0 ∨ (l.length : Int) ≤ n) :
    Calls Tryd.prog 28 #[.pointer (some ⟨b, 0, none⟩), .int .i64 n, .int .i64 x] w fun e w' => e = .returned (errV (E 6)) ∧ Below w.heap.size w w' := by
  have c : w.cell? ⟨4, 0, none⟩ = some (errV (E 6)) := (hE.1 6 (by decide)).1
  have c0 := h.cell
  obtain ⟨ao, cap, rfl, hat⟩ := h.slice
  have HAT := Lib.hid hat
  clear hE h hat
  by_cases h0 : n < 0
  · clear hn
    go_enter Tryd.func28, Tryd.ntmps28
    go_wp2_with fail
    refine (index_ints l l.length ao cap x _ HAT.out rfl (by omega)).mono ?_
    rintro e w1 ⟨r, rfl, -, rfl⟩
    go_wp2
    go_ret
    exact ⟨rfl, Below.refl _ _⟩
  · have h1 : (l.length : Int) ≤ n := by omega
    clear hn
    go_enter Tryd.func28, Tryd.ntmps28
    go_wp2_with fail
    refine (index_ints l l.length ao cap x _ HAT.out rfl (by omega)).mono ?_
    rintro e w1 ⟨r, rfl, -, rfl⟩
    go_wp2
    go_ret
    exact ⟨rfl, Below.refl _ _⟩
set_option maxHeartbeats 800000 in
theorem put_unfair (E : Nat → Addr) (l : List Int) (b : Nat) (v : Value) (n : Nat) (x : Int) (w : World) (hE : ErrsAt errT gOf w E p4) (h : PAt w b v l) (hl : l.length ≤ 1000) (hn : n < l.length) (hx : fairP x = false) :
    Calls Tryd.prog 28 #[.pointer (some ⟨b, 0, none⟩), .int .i64 n, .int .i64 x] w fun e w' => e = .returned (errV (E 2)) ∧ Below w.heap.size w w' := by
  have c : w.cell? ⟨1, 0, none⟩ = some (errV (E 2)) := (hE.1 2 (by decide)).1
  have c0 := h.cell
  obtain ⟨ao, cap, rfl, hat⟩ := h.slice
  have HAT := Lib.hid hat
  have HX := Lib.hid hx
  have h1 : (n : Int) < (l.length : Int) := by omega
  clear hE h hat hx
  go_enter Tryd.func28, Tryd.ntmps28
  go_wp2_with fail
  refine (index_ints l l.length ao cap x _ HAT.out rfl (by omega)).mono ?_
  rintro e w1 ⟨r, rfl, -, rfl⟩
  go_wp2_with fail
  refine (fairP_any x _).mono ?_
  rintro e w1 ⟨rfl, rfl⟩
  rw [HX.out]
  go_wp2
  go_ret
  exact ⟨rfl, Below.refl _ _⟩
set_option maxHeartbeats 800000 in
theorem put_twice (E : Nat → Addr) (l : List Int) (b : Nat) (v : Value) (n : Nat) (x : Int) (w : World) (hE : ErrsAt errT gOf w E p4) (h : PAt w b v l) (hl : l.length ≤ 1000) (hn : n < l.length) (hx : fairP x = true) (hr : ∀ r, IdxIs l x r → 0 ≤ r ∧ r ≠ (n : Int)) :
    Calls Tryd.prog 28 #[.pointer (some ⟨b, 0, none⟩), .int .i64 n, .int .i64 x] w fun e w' => e = .returned (errV (E 5)) ∧ Below w.heap.size w w' := by
  have c : w.cell? ⟨2, 0, none⟩ = some (errV (E 5)) := (hE.1 5 (by decide)).1
  have c0 := h.cell
  obtain ⟨ao, cap, rfl, hat⟩ := h.slice
  have HAT := Lib.hid hat
  have HX := Lib.hid hx
  have HR := Lib.hid hr
  have h1 : (n : Int) < (l.length : Int) := by omega
  clear hE h hat hx hr
  go_enter Tryd.func28, Tryd.ntmps28
  go_wp2_with fail
  refine (index_ints l l.length ao cap x _ HAT.out rfl (by omega)).mono ?_
  rintro e w1 ⟨r, rfl, hi, rfl⟩
  have hr0 := (HR.out r hi).1
  have hr1 : (r != (n : Int)) = true := by rw [bne_iff_ne]; exact (HR.out r hi).2
  clear hi
  go_wp2_with fail
  refine (fairP_any x _).mono ?_
  rintro e w1 ⟨rfl, rfl⟩
  rw [HX.out]
  go_wp2
  go_ret
  exact ⟨rfl, Below.refl _ _⟩
set_option maxHeartbeats 1600000 in
theorem put_ok (l : List Int) (b : Nat) (v : Value) (n : Nat) (x : Int) (w : World) (h : PAt w b v l) (hl : l.length ≤ 1000) (hn : n < l.length) (hx : fairP x = true) (hr : ∀ r, IdxIs l x r → r < 0 ∨ r = (n : Int)) :
    Calls Tryd.prog 28 #[.pointer (some ⟨b, 0, none⟩), .int .i64 n, .int .i64 x] w fun e w' => e = .returned .nilIface ∧ PAt w' b v (l.set n x) ∧ Only (fun k => inRow v k) w w' := by
  have c0 := h.cell
  have HP := Lib.hid h
  rcases own_shape h.2 with ⟨-, hz, -⟩ | ⟨g, cap, rfl, -⟩
  · omega
  obtain ⟨ao', cap', he, hat⟩ := h.slice
  cases he
  have HAT := Lib.hid hat
  have HX := Lib.hid hx
  have HR := Lib.hid hr
  have h1 : (n : Int) < (l.length : Int) := by omega
  have g0 := (own_cell h.2 n (by omega)).trans (ints_get l n hn)
  have g1 := own_free h.2 n
  have hgb : ¬ b = g := fun e => h.not (by subst e; rfl)
  have HS : Hid (PAt (w.setCell ⟨g, n, none⟩ (.int .i64 x)) b (.slice (some ⟨g, 0, none⟩) l.length cap) (l.set n x)) := Lib.hid ⟨blk_set h.1 (by exact hgb) _, by
    rw [List.length_set, ← ints_set]
    exact (h.2.stored n _).1⟩
  have HON : Hid (Only (fun k => inRow (.slice (some ⟨g, 0, none⟩) l.length cap) k) w (w.setCell ⟨g, n, none⟩ (.int .i64 x))) := Lib.hid
    (Only.setCell (F := fun k => inRow (.slice (some ⟨g, 0, none⟩) l.length cap) k) (Only.refl _ _) (p := ⟨g, n, none⟩) (.inl rfl) _)
  clear h hat hx hr hgb
  go_enter Tryd.func28, Tryd.ntmps28
  go_wp2_with fail
  refine (index_ints l l.length _ cap x _ HAT.out rfl (by omega)).mono ?_
  rintro e w1 ⟨r, rfl, hi, rfl⟩
  have HRR := Lib.hid (HR.out r hi)
  clear hi
  by_cases hr0 : r < 0
  · go_wp2_with fail
    refine (fairP_any x _).mono ?_
    rintro e w1 ⟨rfl, rfl⟩
    rw [HX.out]
    go_wp2
    go_ret
    exact ⟨rfl, HS.out, HON.out⟩
  · have hr1 : r = (n : Int) := by have := HRR.out; omega
    subst hr1
    go_wp2_with fail
    refine (fairP_any x _).mono ?_
    rintro e w1 ⟨rfl, rfl⟩
    rw [HX.out]
    go_wp2
    go_ret
    exact ⟨rfl, HS.out, HON.out⟩

def Kept (b : Nat) (v : Value) (w : World) (e : Ending) (w' : World) : Prop :=
  (∃ u, e = .returned u) ∧ ∃ v' l', PAt w' b v' l' ∧ PGood l' ∧ Only (fun k => k = b ∨ inRow v k) w w' ∧ ∀ k, inRow v' k → inRow v k ∨ w.heap.size ≤ k
theorem Kept.stay {b : Nat} {v : Value} {w w' : World} {u : Value} {l : List Int} (h : PAt w b v l) (hg : PGood l) (hb : Below w.heap.size w w') : Kept b v w (.returned u) w' :=
  ⟨⟨_, rfl⟩, v, l, h.below hb, hg, Only.of_below hb, fun _ hk => .inl hk⟩
theorem add_keeps (E : Nat → Addr) (l : List Int) (b : Nat) (v : Value) (x : Int) (w : World) (hE : ErrsAt errT gOf w E p4) (h : PAt w b v l) (hg : PGood l) :
    Calls Tryd.prog 27 #[.pointer (some ⟨b, 0, none⟩), .int .i64 x] w (Kept b v w) := by
  have hf := hg.few
  by_cases hx : fairP x = true
  · by_cases hm : x ∈ l
    · refine (add_twice E l b v x w hE h hx (by omega) hm).mono ?_
      rintro e w' ⟨rfl, hb⟩
      exact Kept.stay h hg hb
    · by_cases hl : 512 ≤ l.length
      · refine (add_many E l b v x w hE h hx (by omega) hm hl).mono ?_
        rintro e w' ⟨rfl, hb⟩
        exact Kept.stay h hg hb
      · refine (add_ok l b v x w h hx hm (by omega)).mono ?_
        rintro e w' ⟨rfl, v', hp, ho, hs⟩
        exact ⟨⟨_, rfl⟩, v', _, hp, hg.snoc hx hm (by omega), ho, hs⟩
  · refine (add_unfair E l b v x w hE h (by simpa using hx)).mono ?_
    rintro e w' ⟨rfl, hb⟩
    exact Kept.stay h hg hb
theorem nat_least {p : Nat → Prop} (h : ∃ k, p k) : ∃ k, p k ∧ ∀ j, j < k → ¬ p j := by
  obtain ⟨n, hn⟩ := h
  induction n using Nat.strongRecOn with
  | ind n ih =>
    by_cases hx : ∃ j, j < n ∧ p j
    · obtain ⟨j, hj, hp⟩ := hx
      exact ih j hj hp
    · exact ⟨n, hn, fun j hj hp => hx ⟨j, hj, hp⟩⟩
theorem idx_ex (l : List Int) (x : Int) : ∃ r, IdxIs l x r := by
  by_cases h : ∃ k : Nat, k < l.length ∧ l.getD k 0 = x
  · obtain ⟨k, ⟨hk, e⟩, hmin⟩ := nat_least (p := fun k => k < l.length ∧ l.getD k 0 = x) h
    exact ⟨k, .inr ⟨k, hk, rfl, e, fun j hj e2 => hmin j hj ⟨by omega, e2⟩⟩⟩
  · exact ⟨-1, .inl ⟨rfl, fun j hj e => h ⟨j, hj, e⟩⟩⟩
theorem idx_one {l : List Int} {x r q : Int} (h : IdxIs l x r) (k : IdxIs l x q) : r = q := by
  rcases h with ⟨rfl, h⟩ | ⟨i, hi, rfl, e, hm⟩ <;> rcases k with ⟨rfl, k⟩ | ⟨j, hj, rfl, e2, hm2⟩
  · rfl
  · exact (h j hj e2).elim
  · exact (k i hi e).elim
  · rcases Nat.lt_trichotomy i j with h | h | h
    · exact (hm2 i h e).elim
    · rw [h]
    · exact (hm j h e2).elim
theorem put_keeps (E : Nat → Addr) (l : List Int) (b : Nat) (v : Value) (n x : Int) (w : World) (hE : ErrsAt errT gOf w E p4) (h : PAt w b v l) (hg : PGood l) :
    Calls Tryd.prog 28 #[.pointer (some ⟨b, 0, none⟩), .int .i64 n, .int .i64 x] w (Kept b v w) := by
  have hf := hg.few
  by_cases hn : n < 0 ∨ (l.length : Int) ≤ n
  · refine (put_none E l b v n x w hE h (by omega) hn).mono ?_
    rintro e w' ⟨rfl, hb⟩
    exact Kept.stay h hg hb
  · obtain ⟨m, rfl⟩ : ∃ m : Nat, n = (m : Int) := ⟨n.toNat, by omega⟩
    have hm : m < l.length := by omega
    by_cases hx : fairP x = true
    · obtain ⟨r, hr⟩ := idx_ex l x
      by_cases hrr : r < 0 ∨ r = (m : Int)
      · refine (put_ok l b v m x w h (by omega) hm hx (fun q hq => by rw [idx_one hq hr]; exact hrr)).mono ?_
        rintro e w' ⟨rfl, hp, ho⟩
        exact ⟨⟨_, rfl⟩, v, _, hp, hg.put hm hx hr hrr, ho.mono (fun k hk => .inl (.inr hk)), fun k hk => .inl hk⟩
      · refine (put_twice E l b v m x w hE h (by omega) hm hx (fun q hq => by rw [idx_one hq hr]; omega)).mono ?_
        rintro e w' ⟨rfl, hb⟩
        exact Kept.stay h hg hb
    · refine (put_unfair E l b v m x w hE h (by omega) hm (by simpa using hx)).mono ?_
      rintro e w' ⟨rfl, hb⟩
      exact Kept.stay h hg hb
end Go.Proofs.YtfbicbdfmcdadaaDoor
