/-
  p2m.Map: what its functions answer, over the list of the frames.
-/
import Derived.Test.YtnhocmmgdkiepaaDoorSee
import Derived.Test.YtnhocmmgdkiepaaDoorLists
import Derived.Test.YtnhocmmgdkiepaaDoorCloneInts
namespace Go.Proofs.YtnhocmmgdkiepaaDoor
open Go.RowKit

def p4 : List Nat := [2, 3, 5, 6]
theorem ErrsAt.sub4 {w : World} {E : Nat → Addr} (h : ErrsAt errT gOf w E all16) : ErrsAt errT gOf w E p4 :=
  have hs : ∀ k ∈ p4, k ∈ all16 := by decide
  ⟨fun k hk => h.1 k (hs k hk), fun i hi j hj => h.2 i (hs i hi) j (hs j hj)⟩
theorem infoPInt : (Tryd.prog.info? 3).map (fun i => (i.zero, i.size, i.bytes)) = some (some (.int .i64 0), 1, 8) := by kernel_rfl

def PAt (w : World) (b : Nat) (v : Value) (l : List Int) : Prop := w.heap[b]? = some (.cells #[v] 131 (0, 0)) ∧ w.ownsRow 0 3 1 v l.length (ints l)
theorem PAt.not {w : World} {b : Nat} {v : Value} {l : List Int} (h : PAt w b v l) : ¬ inRow v b := own_not h.2 h.1 (by decide)
theorem PAt.cell {w : World} {b : Nat} {v : Value} {l : List Int} (h : PAt w b v l) : w.cell? ⟨b, 0, none⟩ = some v := blk_cell h.1 0
theorem PAt.free {w : World} {b : Nat} {v : Value} {l : List Int} (h : PAt w b v l) : w.frozen? ⟨b, 0, none⟩ = false := blk_free h.1 0
theorem PAt.below {w w' : World} {b : Nat} {v : Value} {l : List Int} (h : PAt w b v l) (hb : Below w.heap.size w w') : PAt w' b v l :=
  ⟨by rw [hb.block b (blk_lt h.1)]; exact h.1, own_frame h.2 fun k hk => hb.block k (own_lt h.2 hk)⟩
theorem PAt.only {F : Nat → Prop} {w w' : World} {b : Nat} {v : Value} {l : List Int} (h : PAt w b v l) (ho : Only F w w') (h1 : ¬ F b) (h2 : ∀ k, inRow v k → ¬ F k) : PAt w' b v l :=
  ⟨ho.blk h.1 h1, own_only h.2 ho h2⟩
theorem PAt.slice {w : World} {b : Nat} {v : Value} {l : List Int} (h : PAt w b v l) : ∃ ao cap, v = .slice ao l.length cap ∧ AtL w ao (ints l) := atL_of_own h.2
theorem PAt.new (w : World) : PAt (w.alloc (.cells #[.slice none 0 0] 131)) w.heap.size (.slice none 0 0) [] := ⟨blk_new _ _, own_nil _ _ _⟩

def fairP (x : Int) : Bool := decide (0 ≤ x) && decide (x < 1024)
set_option maxHeartbeats 400000 in
theorem fairP_any (x : Int) (w : World) : Calls Tryd.prog 103 #[.int .i64 x] w fun e w' => e = .returned (.bool (fairP x)) ∧ w = w' := by
  by_cases h0 : 0 ≤ x
  · go_enter Tryd.func103, Tryd.ntmps103
    go_wp2
    go_ret
    exact ⟨ret_bool (by simp [fairP, h0]), rfl⟩
  · go_enter Tryd.func103, Tryd.ntmps103
    go_wp2
    go_ret
    exact ⟨ret_bool (by simp [fairP]; omega), rfl⟩

/-- the first place, or -1 -/
def IdxIs (l : List Int) (x r : Int) : Prop := (r = -1 ∧ ∀ j, j < l.length → l.getD j 0 ≠ x) ∨ ∃ k : Nat, k < l.length ∧ r = (k : Int) ∧ l.getD k 0 = x ∧ ∀ j, j < k → l.getD j 0 ≠ x
theorem mem_getD {l : List Int} {x : Int} : x ∈ l ↔ ∃ j, j < l.length ∧ l.getD j 0 = x := by
  rw [List.mem_iff_getElem]
  constructor
  · rintro ⟨j, hj, rfl⟩
    exact ⟨j, hj, by simp [List.getD_eq_getElem?_getD, hj]⟩
  · rintro ⟨j, hj, rfl⟩
    exact ⟨j, hj, by simp [List.getD_eq_getElem?_getD, hj]⟩
theorem IdxIs.neg {l : List Int} {x r : Int} (h : IdxIs l x r) (hn : x ∉ l) : r = -1 := by
  rcases h with ⟨h, -⟩ | ⟨k, hk, -, e, -⟩
  · exact h
  · exact (hn (mem_getD.2 ⟨k, hk, e⟩)).elim
theorem IdxIs.pos {l : List Int} {x r : Int} (h : IdxIs l x r) (hn : x ∈ l) : ∃ k : Nat, k < l.length ∧ r = (k : Int) ∧ l.getD k 0 = x ∧ ∀ j, j < k → l.getD j 0 ≠ x := by
  rcases h with ⟨-, h⟩ | h
  · obtain ⟨j, hj, e⟩ := mem_getD.1 hn
    exact (h j hj e).elim
  · exact h
theorem IdxIs.range {l : List Int} {x r : Int} (h : IdxIs l x r) : -1 ≤ r ∧ r < l.length ∨ r = -1 := by
  rcases h with ⟨h, -⟩ | ⟨k, hk, e, -, -⟩
  · exact .inr h
  · exact .inl (by omega)

def NotTo (l : List Int) (x : Int) (i : Value) : Prop := ∃ k : Nat, k ≤ l.length ∧ i = .int .i64 k ∧ ∀ j, j < k → l.getD j 0 ≠ x
set_option maxHeartbeats 800000 in
theorem index_ints (l : List Int) (n : Nat) (ao : Option Addr) (c1 : Nat) (x : Int) (w : World) (hl : AtL w ao (ints l)) (hn : l.length = n) (h : n ≤ 100000) :
    Calls Tryd.prog 111 #[.slice ao n c1, .int .i64 x] w fun e w' => ∃ r, e = .returned (.int .i64 r) ∧ IdxIs l x r ∧ w = w' := by
  subst hn
  have HL := Lib.hid hl
  clear hl
  go_enter Tryd.func111, Tryd.ntmps111
  go_wp2_with fail
  go_loop [8] (fun i => NotTo l x i) (fun i => l.length - (intOf i).toNat)
  case atStart => exact ⟨0, Nat.zero_le _, rfl, fun j hj => by omega⟩
  case round =>
    obtain ⟨k, hk, rfl, hno⟩ := hrel
    have HNO := Lib.hid hno
    clear hno
    by_cases hlt : k < l.length
    · obtain ⟨b, off, rfl, c0, -⟩ := HL.out k _ (ints_get l k hlt)
      have hki : (k : Int) < (l.length : Int) := by omega
      obtain ⟨z, hz⟩ : ∃ z, l.getD k 0 = z := ⟨_, rfl⟩
      rw [hz] at c0
      have HZ := Lib.hid hz
      clear hz
      by_cases hx : x = z
      · have hb : (x == z) = true := by simp [hx]
        have HX := Lib.hid hx
        clear hx
        go_wp2
        go_ret
        exact ⟨k, rfl, .inr ⟨k, hlt, rfl, by rw [HZ.out, HX.out], HNO.out⟩, rfl⟩
      · have hb : (x == z) = false := by simp [hx]
        have HX := Lib.hid hx
        clear hx
        go_wp2
        go_round
        case rel =>
          refine ⟨k + 1, by omega, by go_num, fun j hj => ?_⟩
          rcases Nat.lt_succ_iff_lt_or_eq.1 hj with h | rfl
          · exact HNO.out j h
          · rw [HZ.out]; exact fun e => HX.out e.symm
        case measure => simp [intOf]; omega
    · obtain rfl : k = l.length := by omega
      go_wp2
      go_ret
      exact ⟨-1, rfl, .inl ⟨rfl, HNO.out⟩, rfl⟩
set_option maxHeartbeats 400000 in
theorem contains_ints (l : List Int) (n : Nat) (ao : Option Addr) (c1 : Nat) (x : Int) (w : World) (hl : AtL w ao (ints l)) (hn : l.length = n) (h : n ≤ 100000) :
    Calls Tryd.prog 104 #[.slice ao n c1, .int .i64 x] w fun e w' => e = .returned (.bool (decide (x ∈ l))) ∧ w = w' := by
  have HL := Lib.hid hl
  clear hl
  go_enter Tryd.func104, Tryd.ntmps104
  go_wp2_with fail
  refine (index_ints l n ao c1 x _ HL.out hn h).mono ?_
  rintro e w1 ⟨r, rfl, hr, rfl⟩
  have HR : Hid ((0 ≤ r) ↔ x ∈ l) := Lib.hid ⟨fun h0 => by
      rcases hr with ⟨e, -⟩ | ⟨k, hk, -, e, -⟩
      · omega
      · exact mem_getD.2 ⟨k, hk, e⟩, fun hm => by obtain ⟨k, -, e, -, -⟩ := hr.pos hm; omega⟩
  clear hr
  go_wp2
  go_ret
  exact ⟨ret_bool (by rw [decide_eq_decide]; exact HR.out), rfl⟩

set_option maxHeartbeats 400000 in
theorem pm_len (l : List Int) (b : Nat) (v : Value) (w : World) (h : PAt w b v l) :
    Calls Tryd.prog 179 #[.pointer (some ⟨b, 0, none⟩)] w fun e w' => e = .returned (.int .i64 l.length) ∧ w = w' := by
  have c := h.cell
  obtain ⟨ao, cap, rfl, -⟩ := h.slice
  clear h
  go_enter Tryd.func179, Tryd.ntmps179
  go_wp2
  go_ret
  exact ⟨rfl, rfl⟩

def getAns (l : List Int) (i : Int) : Value := if 0 ≤ i ∧ i < l.length then .tuple #[.int .i64 (l.getD i.toNat 0), .bool true] else .tuple #[.int .i64 0, .bool false]

set_option maxHeartbeats 800000 in
theorem pm_get (l : List Int) (b : Nat) (v : Value) (i : Int) (w : World) (h : PAt w b v l) :
    Calls Tryd.prog 107 #[.pointer (some ⟨b, 0, none⟩), .int .i64 i] w fun e w' => e = .returned (getAns l i) ∧ w = w' := by
  have c := h.cell
  obtain ⟨ao, cap, rfl, hat⟩ := h.slice
  have HAT := Lib.hid hat
  clear h hat
  by_cases h0 : i < 0
  · have HC : Hid (getAns l i = .tuple #[.int .i64 0, .bool false]) := Lib.hid (by unfold getAns; rw [if_neg (by omega)])
    go_enter Tryd.func107, Tryd.ntmps107
    go_wp2
    go_ret2
    exact ⟨by rw [HC.out]; rfl, rfl⟩
  · obtain ⟨j, rfl⟩ : ∃ j : Nat, i = (j : Int) := ⟨i.toNat, by omega⟩
    by_cases h1 : j < l.length
    · have HC : Hid (getAns l (j : Int) = .tuple #[.int .i64 (l.getD j 0), .bool true]) := Lib.hid (by unfold getAns; rw [if_pos (by omega), Int.toNat_natCast])
      obtain ⟨d, off, rfl, c0, -⟩ := HAT.out j _ (ints_get l j h1)
      obtain ⟨z, hz⟩ : ∃ z, l.getD j 0 = z := ⟨_, rfl⟩
      rw [hz] at c0 HC
      clear hz
      have hji : (j : Int) < (l.length : Int) := by omega
      go_enter Tryd.func107, Tryd.ntmps107
      go_wp2
      go_ret2
      exact ⟨by rw [HC.out]; rfl, rfl⟩
    · have HC : Hid (getAns l (j : Int) = .tuple #[.int .i64 0, .bool false]) := Lib.hid (by unfold getAns; rw [if_neg (by omega)])
      have hji : (l.length : Int) ≤ (j : Int) := by omega
      go_enter Tryd.func107, Tryd.ntmps107
      go_wp2
      go_ret2
      exact ⟨by rw [HC.out]; rfl, rfl⟩

set_option maxHeartbeats 800000 in
theorem pm_of (l : List Int) (b : Nat) (v : Value) (x : Int) (w : World) (h : PAt w b v l) (hn : l.length ≤ 1000) :
    Calls Tryd.prog 76 #[.pointer (some ⟨b, 0, none⟩), .int .i64 x] w fun e w' => (∃ r, e = .returned (.tuple #[.int .i64 (max r 0), .bool (decide (0 ≤ r))]) ∧ IdxIs l x r) ∧ w = w' := by
  have c := h.cell
  obtain ⟨ao, cap, rfl, hat⟩ := h.slice
  have HAT := Lib.hid hat
  clear h hat
  go_enter Tryd.func76, Tryd.ntmps76
  go_wp2_with fail
  refine (index_ints l l.length ao cap x _ HAT.out rfl (by omega)).mono ?_
  rintro e w1 ⟨r, rfl, hr, rfl⟩
  have HR := Lib.hid hr
  clear hr
  by_cases h0 : 0 ≤ r
  · have HM : Hid (max r 0 = r) := Lib.hid (by omega)
    go_wp2
    go_ret2
    exact ⟨⟨r, by rw [HM.out]; simp [h0], HR.out⟩, rfl⟩
  · have HM : Hid (max r 0 = 0) := Lib.hid (by omega)
    go_wp2
    go_ret2
    exact ⟨⟨r, by rw [HM.out]; simp [h0], HR.out⟩, rfl⟩

set_option maxHeartbeats 800000 in
theorem add_unfair (E : Nat → Addr) (l : List Int) (b : Nat) (v : Value) (x : Int) (w : World) (hE : ErrsAt errT gOf w E p4) (h : PAt w b v l) (hx : fairP x = false) :
    Calls Tryd.prog 72 #[.pointer (some ⟨b, 0, none⟩), .int .i64 x] w fun e w' => e = .returned (.tuple #[.int .i64 0, errV (E 2)]) ∧ Below w.heap.size w w' := by
  have c : w.cell? ⟨0, 0, none⟩ = some (errV (E 2)) := (hE.1 2 (by decide)).1
  have HX := Lib.hid hx
  clear hE h hx
  go_enter Tryd.func72, Tryd.ntmps72
  go_wp2_with fail
  refine (fairP_any x _).mono ?_
  rintro e w1 ⟨rfl, rfl⟩
  rw [HX.out]
  go_wp2_with fail
  go_quiet (fail)
  go_wp2
  go_ret2
  exact ⟨rfl, below_drewN (Below.refl _ _) _⟩

set_option maxHeartbeats 800000 in
theorem add_twice (E : Nat → Addr) (l : List Int) (b : Nat) (v : Value) (x : Int) (w : World) (hE : ErrsAt errT gOf w E p4) (h : PAt w b v l) (hx : fairP x = true) (hn : l.length ≤ 1000) (hm : x ∈ l) :
    Calls Tryd.prog 72 #[.pointer (some ⟨b, 0, none⟩), .int .i64 x] w fun e w' => e = .returned (.tuple #[.int .i64 0, errV (E 5)]) ∧ Below w.heap.size w w' := by
  have c : w.cell? ⟨1, 0, none⟩ = some (errV (E 5)) := (hE.1 5 (by decide)).1
  have c0 := h.cell
  obtain ⟨ao, cap, rfl, hat⟩ := h.slice
  have HAT := Lib.hid hat
  have HX := Lib.hid hx
  have HM := Lib.hid hm
  clear hE h hx hat hm
  go_enter Tryd.func72, Tryd.ntmps72
  go_wp2_with fail
  refine (fairP_any x _).mono ?_
  rintro e w1 ⟨rfl, rfl⟩
  rw [HX.out]
  go_wp2_with fail
  refine (contains_ints l l.length ao cap x _ HAT.out rfl (by omega)).mono ?_
  rintro e w1 ⟨rfl, rfl⟩
  rw [decide_eq_true HM.out]
  go_wp2_with fail
  go_quiet (fail)
  go_wp2
  go_ret2
  exact ⟨rfl, below_drewN (Below.refl _ _) _⟩

set_option maxHeartbeats 800000 in
theorem add_many (E : Nat → Addr) (l : List Int) (b : Nat) (v : Value) (x : Int) (w : World) (hE : ErrsAt errT gOf w E p4) (h : PAt w b v l) (hx : fairP x = true) (hn : l.length ≤ 1000) (hm : x ∉ l) (hf : 512 ≤ l.length) :
    Calls Tryd.prog 72 #[.pointer (some ⟨b, 0, none⟩), .int .i64 x] w fun e w' => e = .returned (.tuple #[.int .i64 0, errV (E 3)]) ∧ Below w.heap.size w w' := by
  have c : w.cell? ⟨4, 0, none⟩ = some (errV (E 3)) := (hE.1 3 (by decide)).1
  have c0 := h.cell
  obtain ⟨ao, cap, rfl, hat⟩ := h.slice
  have HAT := Lib.hid hat
  have HX := Lib.hid hx
  have HM := Lib.hid hm
  have hf2 : (512 : Int) ≤ (l.length : Int) := by omega
  clear hE h hx hat hm hf
  go_enter Tryd.func72, Tryd.ntmps72
  go_wp2_with fail
  refine (fairP_any x _).mono ?_
  rintro e w1 ⟨rfl, rfl⟩
  rw [HX.out]
  go_wp2_with fail
  refine (contains_ints l l.length ao cap x _ HAT.out rfl (by omega)).mono ?_
  rintro e w1 ⟨rfl, rfl⟩
  rw [decide_eq_false HM.out]
  go_wp2_with fail
  go_quiet (fail)
  go_wp2
  go_ret2
  exact ⟨rfl, below_drewN (Below.refl _ _) _⟩

set_option maxRecDepth 100000 in
set_option maxHeartbeats 1600000 in
theorem add_ok (l : List Int) (b : Nat) (v : Value) (x : Int) (w : World) (h : PAt w b v l) (hx : fairP x = true) (hm : x ∉ l) (hf : l.length < 512) :
    Calls Tryd.prog 72 #[.pointer (some ⟨b, 0, none⟩), .int .i64 x] w fun e w' => e = .returned (.tuple #[.int .i64 l.length, .nilIface]) ∧ ∃ v', PAt w' b v' (l ++ [x]) ∧ Only (fun k => k = b ∨ inRow v k) w w' ∧ ∀ k, inRow v' k → inRow v k ∨ w.heap.size ≤ k := by
  obtain ⟨i0, hi, hz0, hz1, hz2⟩ := info_parts infoPInt
  have c0 := h.cell
  have HP := Lib.hid h
  obtain ⟨ao, cap, rfl, hat⟩ := h.slice
  have HAT := Lib.hid hat
  have HX := Lib.hid hx
  have HM := Lib.hid hm
  have hf2 : (l.length : Int) < (512 : Int) := by omega
  have hw1 := IntWalk.i64_in (l.length : Int) (by omega)
  clear h hx hat hm
  go_enter Tryd.func72, Tryd.ntmps72
  go_wp2_with fail
  refine (fairP_any x _).mono ?_
  rintro e w1 ⟨rfl, rfl⟩
  rw [HX.out]
  go_wp2_with fail
  refine (contains_ints l l.length ao cap x _ HAT.out rfl (by omega)).mono ?_
  rintro e w1 ⟨rfl, rfl⟩
  rw [decide_eq_false HM.out]
  go_wp2_with (at_builtin; refine wpList_append_sep _ rfl _ _ 35 rfl 3 i0 (.int .i64 0) 1 8 Tryd.underlying35 hi hz0 hz1 hz2 rfl (by decide) _ _ _ rfl (HP.out.2.alloc _) ⟨w.heap.size, 0, none⟩ 1 1 [.int .i64 x] rfl rfl (cell_one_new _ _ _) (by simp [Value.oneCell']) (by unfold maxLen; omega) (by omega) ?_)
  intro v' wx ho2 hg2 hs2
  obtain ⟨ao2, cap2, rfl⟩ := own_slice ho2
  have hbx := blk_grown (blk_old HP.out.1 (.cells #[.int .i64 x] 3)) hg2 HP.out.not
  have cx := blk_cell hbx 0
  have fx := blk_free hbx 0
  have HP2 : Hid (PAt (wx.setCell ⟨b, 0, none⟩ (.slice ao2 (l.length + 1) cap2)) b (.slice ao2 (l.length + 1) cap2) (l ++ [x])) := Lib.hid ⟨by have := blk_put hbx 0 (.slice ao2 (l.length + 1) cap2); exact this, by
    have e1 : ints l ++ [Value.int .i64 x] = ints (l ++ [x]) := by simp [ints]
    rw [e1] at ho2
    rw [List.length_append]
    exact own_set ho2 hbx (by decide) 0 _⟩
  have HON : Hid (Only (fun k => k = b ∨ inRow (.slice ao l.length cap) k) w (wx.setCell ⟨b, 0, none⟩ (.slice ao2 (l.length + 1) cap2))) := Lib.hid
    (Only.setCell (F := fun k => k = b ∨ inRow (.slice ao l.length cap) k) ((Only.alloc _ w (.cells #[.int .i64 x] 3)).grown hg2 (fun k hk => .inl (.inr hk))) (p := ⟨b, 0, none⟩) (.inl (.inl rfl)) _)
  have HSP : Hid (∀ k, inRow (.slice ao2 (l.length + 1) cap2) k → inRow (.slice ao l.length cap) k ∨ w.heap.size ≤ k) := Lib.hid fun k hk => by
    rcases hs2 k hk with h | h
    · exact .inl h
    · have h' := h
      try simp only [World.size_alloc] at h'
      exact .inr (by omega)
  clear ho2 hg2 hs2 hbx c0
  go_wp2
  go_ret2
  exact ⟨rfl, _, HP2.out, HON.out, HSP.out⟩
end Go.Proofs.YtnhocmmgdkiepaaDoor
