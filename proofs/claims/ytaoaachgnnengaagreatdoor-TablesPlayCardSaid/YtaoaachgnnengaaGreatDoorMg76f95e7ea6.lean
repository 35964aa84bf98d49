/-
  Parts of one proof, one behind the other.
-/
import Derived.Test.YtaoaachgnnengaaGreatDoorMg46ad1761f3
import Derived.Test.YtaoaachgnnengaaGreatDoorMg67c367e12d
import Derived.Test.YtaoaachgnnengaaGreatDoorRows
import Derived.Test.YtaoaachgnnengaaGreatDoorMg4e4d88e392
import Derived.Test.YtaoaachgnnengaaGreatDoorMg9a5a14a2e3
import Derived.Shelf.Bits.Mul64
/-
  p2m.Map: what its functions answer, over the list of the frames.
-/
namespace Go.Proofs.YtaoaachgnnengaaGreatDoor
open Go.RowKit

def p4 : List Nat := [2, 3, 5, 6]
theorem ErrsAt.sub4 {w : World} {E : Nat → Addr} (h : ErrsAt errT gOf w E all16) : ErrsAt errT gOf w E p4 :=
  have hs : ∀ k ∈ p4, k ∈ all16 := by decide
  ⟨fun k hk => h.1 k (hs k hk), fun i hi j hj => h.2 i (hs i hi) j (hs j hj)⟩
theorem infoPInt : (Tryz.prog.info? 3).map (fun i => (i.zero, i.size, i.bytes)) = some (some (.int .i64 0), 1, 8) := by kernel_rfl

def PAt (w : World) (b : Nat) (v : Value) (l : List Int) : Prop := w.heap[b]? = some (.cells #[v] 106 (0, 0)) ∧ w.ownsRow 0 3 1 v l.length (ints l)
theorem PAt.not {w : World} {b : Nat} {v : Value} {l : List Int} (h : PAt w b v l) : ¬ inRow v b := own_not h.2 h.1 (by decide)
theorem PAt.cell {w : World} {b : Nat} {v : Value} {l : List Int} (h : PAt w b v l) : w.cell? ⟨b, 0, none⟩ = some v := blk_cell h.1 0
theorem PAt.free {w : World} {b : Nat} {v : Value} {l : List Int} (h : PAt w b v l) : w.frozen? ⟨b, 0, none⟩ = false := blk_free h.1 0
theorem PAt.below {w w' : World} {b : Nat} {v : Value} {l : List Int} (h : PAt w b v l) (hb : Below w.heap.size w w') : PAt w' b v l :=
  ⟨by rw [hb.block b (blk_lt h.1)]; exact h.1, own_frame h.2 fun k hk => hb.block k (own_lt h.2 hk)⟩
theorem PAt.only {F : Nat → Prop} {w w' : World} {b : Nat} {v : Value} {l : List Int} (h : PAt w b v l) (ho : Only F w w') (h1 : ¬ F b) (h2 : ∀ k, inRow v k → ¬ F k) : PAt w' b v l :=
  ⟨ho.blk h.1 h1, own_only h.2 ho h2⟩
theorem PAt.slice {w : World} {b : Nat} {v : Value} {l : List Int} (h : PAt w b v l) : ∃ ao cap, v = .slice ao l.length cap ∧ AtL w ao (ints l) := atL_of_own h.2
theorem PAt.new (w : World) : PAt (w.alloc (.cells #[.slice none 0 0] 106)) w.heap.size (.slice none 0 0) [] := ⟨blk_new _ _, own_nil _ _ _⟩

def fairP (x : Int) : Bool := decide (0 ≤ x) && decide (x < 1024)
set_option maxHeartbeats 400000 in
theorem fairP_any (x : Int) (w : World) : Calls Tryz.prog 89 #[.int .i64 x] w fun e w' => e = .returned (.bool (fairP x)) ∧ w = w' := by
  by_cases h0 : 0 ≤ x
  · go_enter Tryz.func89, Tryz.ntmps89
    go_wp2
    go_ret
    exact ⟨ret_bool (by simp [fairP, h0]), rfl⟩
  · go_enter Tryz.func89, Tryz.ntmps89
    go_wp2
    go_ret
    exact ⟨ret_bool (by simp [fairP]; omega), rfl⟩

/-- the first place, or -1 -/
def IdxIs (l : List Int) (x r : Int) : Prop := (r = -1 ∧ ∀ j, j < l.length → l.getD j 0 ≠ x) ∨ ∃ k : Nat, k < l.length ∧ r = (k : Int) ∧ l.getD k 0 = x ∧ ∀ j, j < k → l.getD j 0 ≠ x
theorem mem_getD {l : List Int} {x : Int} : x ∈ l ↔ ∃ j, j < l.length ∧ l.getD j 0 = x := by
  rw [List.mem_iff_getElem]
  constructor
  · rintro ⟨j, hj, rfl⟩
    exact ⟨j, hj, by simp [List.getD_eq_getElem?_getD, hj]⟩
  · rintro ⟨j, hj, rfl⟩
    exact ⟨j, hj, by simp [List.getD_eq_getElem?_getD, hj]⟩
theorem IdxIs.neg {l : List Int} {x r : Int} (h : IdxIs l x r) (hn : x ∉ l) : r = -1 := by
  rcases h with ⟨h, -⟩ | ⟨k, hk, -, e, -⟩
  · exact h
  · exact (hn (mem_getD.2 ⟨k, hk, e⟩)).elim
theorem IdxIs.pos {l : List Int} {x r : Int} (h : IdxIs l x r) (hn : x ∈ l) : ∃ k : Nat, k < l.length ∧ r = (k : Int) ∧ l.getD k 0 = x ∧ ∀ j, j < k → l.getD j 0 ≠ x := by
  rcases h with ⟨-, h⟩ | h
  · obtain ⟨j, hj, e⟩ := mem_getD.1 hn
    exact (h j hj e).elim
  · exact h
theorem IdxIs.range {l : List Int} {x r : Int} (h : IdxIs l x r) : -1 ≤ r ∧ r < l.length ∨ r = -1 := by
  rcases h with ⟨h, -⟩ | ⟨k, hk, e, -, -⟩
  · exact .inr h
  · exact .inl (by omega)

def NotTo (l : List Int) (x : Int) (i : Value) : Prop := ∃ k : Nat, k ≤ l.length ∧ i = .int .i64 k ∧ ∀ j, j < k → l.getD j 0 ≠ x
set_option maxHeartbeats 800000 in
theorem index_ints (l : List Int) (n : Nat) (ao : Option Addr) (c1 : Nat) (x : Int) (w : World) (hl : AtL w ao (ints l)) (hn : l.length = n) (h : n ≤ 100000) :
    Calls Tryz.prog 81 #[.slice ao n c1, .int .i64 x] w fun e w' => ∃ r, e = .returned (.int .i64 r) ∧ IdxIs l x r ∧ w = w' := by
  subst hn
  have HL := Lib.hid hl
  clear hl
  go_enter Tryz.func81, Tryz.ntmps81
  go_wp2_with fail
  go_loop [8] (fun i => NotTo l x i) (fun i => l.length - (intOf i).toNat)
  case atStart => exact ⟨0, Nat.zero_le _, rfl, fun j hj => by omega⟩
  case round =>
    obtain ⟨k, hk, rfl, hno⟩ := hrel
    have HNO := Lib.hid hno
    clear hno
    by_cases hlt : k < l.length
    · obtain ⟨b, off, rfl, c0, -⟩ := HL.out k _ (ints_get l k hlt)
      have hki : (k : Int) < (l.length : Int) := by omega
      obtain ⟨z, hz⟩ : ∃ z, l.getD k 0 = z := ⟨_, rfl⟩
      rw [hz] at c0
      have HZ := Lib.hid hz
      clear hz
      by_cases hx : x = z
      · have hb : (x == z) = true := by simp [hx]
        have HX := Lib.hid hx
        clear hx
        go_wp2
        go_ret
        exact ⟨k, rfl, .inr ⟨k, hlt, rfl, by rw [HZ.out, HX.out], HNO.out⟩, rfl⟩
      · have hb : (x == z) = false := by simp [hx]
        have HX := Lib.hid hx
        clear hx
        go_wp2
        go_round
        case rel =>
          refine ⟨k + 1, by omega, by go_num, fun j hj => ?_⟩
          rcases Nat.lt_succ_iff_lt_or_eq.1 hj with h | rfl
          · exact HNO.out j h
          · rw [HZ.out]; exact fun e => HX.out e.symm
        case measure => simp [intOf]; omega
    · obtain rfl : k = l.length := by omega
      go_wp2
      go_ret
      exact ⟨-1, rfl, .inl ⟨rfl, HNO.out⟩, rfl⟩
set_option maxHeartbeats 400000 in
theorem contains_ints (l : List Int) (n : Nat) (ao : Option Addr) (c1 : Nat) (x : Int) (w : World) (hl : AtL w ao (ints l)) (hn : l.length = n) (h : n ≤ 100000) :
    Calls Tryz.prog 90 #[.slice ao n c1, .int .i64 x] w fun e w' => e = .returned (.bool (decide (x ∈ l))) ∧ w = w' := by
  have HL := Lib.hid hl
  clear hl
  go_enter Tryz.func90, Tryz.ntmps90
  go_wp2_with fail
  refine (index_ints l n ao c1 x _ HL.out hn h).mono ?_
  rintro e w1 ⟨r, rfl, hr, rfl⟩
  have HR : Hid ((0 ≤ r) ↔ x ∈ l) := Lib.hid ⟨fun h0 => by
      rcases hr with ⟨e, -⟩ | ⟨k, hk, -, e, -⟩
      · omega
      · exact mem_getD.2 ⟨k, hk, e⟩, fun hm => by obtain ⟨k, -, e, -, -⟩ := hr.pos hm; omega⟩
  clear hr
  go_wp2
  go_ret
  exact ⟨ret_bool (by rw [decide_eq_decide]; exact HR.out), rfl⟩

set_option maxHeartbeats 400000 in
theorem pm_all (l : List Int) (b : Nat) (v : Value) (w : World) (h : PAt w b v l) (hn : l.length ≤ 1000) :
    Calls Tryz.prog 32 #[.pointer (some ⟨b, 0, none⟩)] w fun e w' => ∃ v', e = .returned v' ∧ w'.ownsRow 0 3 1 v' l.length (ints l) ∧ (∀ k, inRow v' k → w.heap.size ≤ k) ∧ Below w.heap.size w w' := by
  have c := h.cell
  have HR := Lib.hid (own_reads h.2)
  clear h
  go_enter Tryz.func32, Tryz.ntmps32
  go_wp2_with fail
  refine (cloneInts v l.length (ints l) _ HR.out (by omega) (ints_len l) (ints_one l)).mono ?_
  rintro e w1 ⟨v', rfl, ho, hf, hb⟩
  have HO := Lib.hid ho
  have HF := Lib.hid hf
  have HB := Lib.hid hb
  clear ho hf hb
  go_wp2
  go_ret
  exact ⟨_, rfl, HO.out, HF.out, HB.out⟩

def getAns (l : List Int) (i : Int) : Value := if 0 ≤ i ∧ i < l.length then .tuple #[.int .i64 (l.getD i.toNat 0), .bool true] else .tuple #[.int .i64 0, .bool false]

set_option maxHeartbeats 800000 in
theorem pm_get (l : List Int) (b : Nat) (v : Value) (i : Int) (w : World) (h : PAt w b v l) :
    Calls Tryz.prog 70 #[.pointer (some ⟨b, 0, none⟩), .int .i64 i] w fun e w' => e = .returned (getAns l i) ∧ w = w' := by
  have c := h.cell
  obtain ⟨ao, cap, rfl, hat⟩ := h.slice
  have HAT := Lib.hid hat
  clear h hat
  by_cases h0 : i < 0
  · have HC : Hid (getAns l i = .tuple #[.int .i64 0, .bool false]) := Lib.hid (by unfold getAns; rw [if_neg (by omega)])
    go_enter Tryz.func70, Tryz.ntmps70
    go_wp2
    go_ret2
    exact ⟨by rw [HC.out]; rfl, rfl⟩
  · obtain ⟨j, rfl⟩ : ∃ j : Nat, i = (j : Int) := ⟨i.toNat, by omega⟩
    by_cases h1 : j < l.length
    · have HC : Hid (getAns l (j : Int) = .tuple #[.int .i64 (l.getD j 0), .bool true]) := Lib.hid (by unfold getAns; rw [if_pos (by omega), Int.toNat_natCast])
      obtain ⟨d, off, rfl, c0, -⟩ := HAT.out j _ (ints_get l j h1)
      obtain ⟨z, hz⟩ : ∃ z, l.getD j 0 = z := ⟨_, rfl⟩
      rw [hz] at c0 HC
      clear hz
      have hji : (j : Int) < (l.length : Int) := by omega
      go_enter Tryz.func70, Tryz.ntmps70
      go_wp2
      go_ret2
      exact ⟨by rw [HC.out]; rfl, rfl⟩
    · have HC : Hid (getAns l (j : Int) = .tuple #[.int .i64 0, .bool false]) := Lib.hid (by unfold getAns; rw [if_neg (by omega)])
      have hji : (l.length : Int) ≤ (j : Int) := by omega
      go_enter Tryz.func70, Tryz.ntmps70
      go_wp2
      go_ret2
      exact ⟨by rw [HC.out]; rfl, rfl⟩

set_option maxHeartbeats 800000 in
theorem pm_of (l : List Int) (b : Nat) (v : Value) (x : Int) (w : World) (h : PAt w b v l) (hn : l.length ≤ 1000) :
    Calls Tryz.prog 42 #[.pointer (some ⟨b, 0, none⟩), .int .i64 x] w fun e w' => (∃ r, e = .returned (.tuple #[.int .i64 (max r 0), .bool (decide (0 ≤ r))]) ∧ IdxIs l x r) ∧ w = w' := by
  have c := h.cell
  obtain ⟨ao, cap, rfl, hat⟩ := h.slice
  have HAT := Lib.hid hat
  clear h hat
  go_enter Tryz.func42, Tryz.ntmps42
  go_wp2_with fail
  refine (index_ints l l.length ao cap x _ HAT.out rfl (by omega)).mono ?_
  rintro e w1 ⟨r, rfl, hr, rfl⟩
  have HR := Lib.hid hr
  clear hr
  by_cases h0 : 0 ≤ r
  · have HM : Hid (max r 0 = r) := Lib.hid (by omega)
    go_wp2
    go_ret2
    exact ⟨⟨r, by rw [HM.out]; simp [h0], HR.out⟩, rfl⟩
  · have HM : Hid (max r 0 = 0) := Lib.hid (by omega)
    go_wp2
    go_ret2
    exact ⟨⟨r, by rw [HM.out]; simp [h0], HR.out⟩, rfl⟩

set_option maxHeartbeats 800000 in
theorem add_unfair (E : Nat → Addr) (l : List Int) (b : Nat) (v : Value) (x : Int) (w : World) (hE : ErrsAt errT gOf w E p4) (h : PAt w b v l) (hx : fairP x = false) :
    Calls Tryz.prog 54 #[.pointer (some ⟨b, 0, none⟩), .int .i64 x] w fun e w' => e = .returned (.tuple #[.int .i64 0, errV (E 2)]) ∧ Below w.heap.size w w' := by
  have c : w.cell? ⟨0, 0, none⟩ = some (errV (E 2)) := (hE.1 2 (by decide)).1
  have HX := Lib.hid hx
  clear hE h hx
  go_enter Tryz.func54, Tryz.ntmps54
  go_wp2_with fail
  refine (fairP_any x _).mono ?_
  rintro e w1 ⟨rfl, rfl⟩
  rw [HX.out]
  go_wp2_with fail
  go_quiet (fail)
  go_wp2
  go_ret2
  exact ⟨rfl, below_drewN (Below.refl _ _) _⟩

set_option maxHeartbeats 800000 in
theorem add_twice (E : Nat → Addr) (l : List Int) (b : Nat) (v : Value) (x : Int) (w : World) (hE : ErrsAt errT gOf w E p4) (h : PAt w b v l) (hx : fairP x = true) (hn : l.length ≤ 1000) (hm : x ∈ l) :
    Calls Tryz.prog 54 #[.pointer (some ⟨b, 0, none⟩), .int .i64 x] w fun e w' => e = .returned (.tuple #[.int .i64 0, errV (E 5)]) ∧ Below w.heap.size w w' := by
  have c : w.cell? ⟨7, 0, none⟩ = some (errV (E 5)) := (hE.1 5 (by decide)).1
  have c0 := h.cell
  obtain ⟨ao, cap, rfl, hat⟩ := h.slice
  have HAT := Lib.hid hat
  have HX := Lib.hid hx
  have HM := Lib.hid hm
  clear hE h hx hat hm
  go_enter Tryz.func54, Tryz.ntmps54
  go_wp2_with fail
  refine (fairP_any x _).mono ?_
  rintro e w1 ⟨rfl, rfl⟩
  rw [HX.out]
  go_wp2_with fail
  refine (contains_ints l l.length ao cap x _ HAT.out rfl (by omega)).mono ?_
  rintro e w1 ⟨rfl, rfl⟩
  rw [decide_eq_true HM.out]
  go_wp2_with fail
  go_quiet (fail)
  go_wp2
  go_ret2
  exact ⟨rfl, below_drewN (Below.refl _ _) _⟩

set_option maxHeartbeats 800000 in
theorem add_many (E : Nat → Addr) (l : List Int) (b : Nat) (v : Value) (x : Int) (w : World) (hE : ErrsAt errT gOf w E p4) (h : PAt w b v l) (hx : fairP x = true) (hn : l.length ≤ 1000) (hm : x ∉ l) (hf : 512 ≤ l.length) :
    Calls Tryz.prog 54 #[.pointer (some ⟨b, 0, none⟩), .int .i64 x] w fun e w' => e = .returned (.tuple #[.int .i64 0, errV (E 3)]) ∧ Below w.heap.size w w' := by
  have c : w.cell? ⟨2, 0, none⟩ = some (errV (E 3)) := (hE.1 3 (by decide)).1
  have c0 := h.cell
  obtain ⟨ao, cap, rfl, hat⟩ := h.slice
  have HAT := Lib.hid hat
  have HX := Lib.hid hx
  have HM := Lib.hid hm
  have hf2 : (512 : Int) ≤ (l.length : Int) := by omega
  clear hE h hx hat hm hf
  go_enter Tryz.func54, Tryz.ntmps54
  go_wp2_with fail
  refine (fairP_any x _).mono ?_
  rintro e w1 ⟨rfl, rfl⟩
  rw [HX.out]
  go_wp2_with fail
  refine (contains_ints l l.length ao cap x _ HAT.out rfl (by omega)).mono ?_
  rintro e w1 ⟨rfl, rfl⟩
  rw [decide_eq_false HM.out]
  go_wp2_with fail
  go_quiet (fail)
  go_wp2
  go_ret2
  exact ⟨rfl, below_drewN (Below.refl _ _) _⟩

set_option maxRecDepth 100000 in
set_option maxHeartbeats 1600000 in
theorem add_ok (l : List Int) (b : Nat) (v : Value) (x : Int) (w : World) (h : PAt w b v l) (hx : fairP x = true) (hm : x ∉ l) (hf : l.length < 512) :
    Calls Tryz.prog 54 #[.pointer (some ⟨b, 0, none⟩), .int .i64 x] w fun e w' => e = .returned (.tuple #[.int .i64 l.length, .nilIface]) ∧ ∃ v', PAt w' b v' (l ++ [x]) ∧ Only (fun k => k = b ∨ inRow v k) w w' ∧ ∀ k, inRow v' k → inRow v k ∨ w.heap.size ≤ k := by
  obtain ⟨i0, hi, hz0, hz1, hz2⟩ := info_parts infoPInt
  have c0 := h.cell
  have HP := Lib.hid h
  obtain ⟨ao, cap, rfl, hat⟩ := h.slice
  have HAT := Lib.hid hat
  have HX := Lib.hid hx
  have HM := Lib.hid hm
  have hf2 : (l.length : Int) < (512 : Int) := by omega
  have hw1 := IntWalk.i64_in (l.length : Int) (by omega)
  clear h hx hat hm
  go_enter Tryz.func54, Tryz.ntmps54
  go_wp2_with fail
  refine (fairP_any x _).mono ?_
  rintro e w1 ⟨rfl, rfl⟩
  rw [HX.out]
  go_wp2_with fail
  refine (contains_ints l l.length ao cap x _ HAT.out rfl (by omega)).mono ?_
  rintro e w1 ⟨rfl, rfl⟩
  rw [decide_eq_false HM.out]
  go_wp2_with (at_builtin; refine wpList_append_sep _ rfl _ _ 43 rfl 3 i0 (.int .i64 0) 1 8 Tryz.underlying43 hi hz0 hz1 hz2 rfl (by decide) _ _ _ rfl (HP.out.2.alloc _) ⟨w.heap.size, 0, none⟩ 1 1 [.int .i64 x] rfl rfl (cell_one_new _ _ _) (by simp [Value.oneCell']) (by unfold maxLen; omega) (by omega) ?_)
  intro v' wx ho2 hg2 hs2
  obtain ⟨ao2, cap2, rfl⟩ := own_slice ho2
  have hbx := blk_grown (blk_old HP.out.1 (.cells #[.int .i64 x] 3)) hg2 HP.out.not
  have cx := blk_cell hbx 0
  have fx := blk_free hbx 0
  have HP2 : Hid (PAt (wx.setCell ⟨b, 0, none⟩ (.slice ao2 (l.length + 1) cap2)) b (.slice ao2 (l.length + 1) cap2) (l ++ [x])) := Lib.hid ⟨by have := blk_put hbx 0 (.slice ao2 (l.length + 1) cap2); exact this, by
    have e1 : ints l ++ [Value.int .i64 x] = ints (l ++ [x]) := by simp [ints]
    rw [e1] at ho2
    rw [List.length_append]
    exact own_set ho2 hbx (by decide) 0 _⟩
  have HON : Hid (Only (fun k => k = b ∨ inRow (.slice ao l.length cap) k) w (wx.setCell ⟨b, 0, none⟩ (.slice ao2 (l.length + 1) cap2))) := Lib.hid
    (Only.setCell (F := fun k => k = b ∨ inRow (.slice ao l.length cap) k) ((Only.alloc _ w (.cells #[.int .i64 x] 3)).grown hg2 (fun k hk => .inl (.inr hk))) (p := ⟨b, 0, none⟩) (.inl (.inl rfl)) _)
  have HSP : Hid (∀ k, inRow (.slice ao2 (l.length + 1) cap2) k → inRow (.slice ao l.length cap) k ∨ w.heap.size ≤ k) := Lib.hid fun k hk => by
    rcases hs2 k hk with h | h
    · exact .inl h
    · have h' := h
      try simp only [World.size_alloc] at h'
      exact .inr (by omega)
  clear ho2 hg2 hs2 hbx c0
  go_wp2
  go_ret2
  exact ⟨rfl, _, HP2.out, HON.out, HSP.out⟩
end Go.Proofs.YtaoaachgnnengaaGreatDoor

/-
  p2m.Map: Put; what stays true whatever is told.
-/
namespace Go.Proofs.YtaoaachgnnengaaGreatDoor
open Go.RowKit

theorem ints_set (l : List Int) (k : Nat) (x : Int) : (ints l).set k (.int .i64 x) = ints (l.set k x) := by simp [ints, List.map_set]
theorem set_getD (l : List Int) (n : Nat) (x : Int) (i : Nat) (hi : i < l.length) : (l.set n x).getD i 0 = if i = n then x else l.getD i 0 := by
  rw [List.getD_eq_getElem?_getD, List.getElem?_set]
  by_cases h : n = i
  · subst h
    simp [hi]
  · rw [if_neg h, if_neg (fun e => h e.symm), ← List.getD_eq_getElem?_getD]
theorem snoc_getD (l : List Int) (x : Int) (i : Nat) (hi : i ≤ l.length) : (l ++ [x]).getD i 0 = if i < l.length then l.getD i 0 else x := by
  by_cases h : i < l.length
  · rw [if_pos h, List.getD_eq_getElem?_getD, List.getElem?_append_left h, ← List.getD_eq_getElem?_getD]
  · obtain rfl : i = l.length := by omega
    simp

/-- no number twice, all fair, not too many -/
structure PGood (l : List Int) : Prop where
  few : l.length ≤ 512
  fair : ∀ i, i < l.length → fairP (l.getD i 0) = true
  once : ∀ i j, i < l.length → j < l.length → l.getD i 0 = l.getD j 0 → i = j
theorem PGood.nil : PGood [] := ⟨by simp, fun i hi => by simp at hi, fun i j hi => by simp at hi⟩
theorem PGood.snoc {l : List Int} (h : PGood l) {x : Int} (hx : fairP x = true) (hm : x ∉ l) (hf : l.length < 512) : PGood (l ++ [x]) := by
  have hno : ∀ j, j < l.length → l.getD j 0 ≠ x := fun j hj e => hm (mem_getD.2 ⟨j, hj, e⟩)
  refine ⟨by simp; omega, fun i hi => ?_, fun i j hi hj e => ?_⟩
  · simp at hi
    rw [snoc_getD l x i (by omega)]
    split
    · rename_i h'
      exact h.fair i h'
    · exact hx
  · simp at hi hj
    rw [snoc_getD l x i (by omega), snoc_getD l x j (by omega)] at e
    split at e <;> split at e
    · rename_i h1 h2
      exact h.once i j h1 h2 e
    · rename_i h1 h2
      exact (hno i h1 e).elim
    · rename_i h1 h2
      exact (hno j h2 e.symm).elim
    · omega
theorem PGood.put {l : List Int} (h : PGood l) {x : Int} {n : Nat} (hn : n < l.length) (hx : fairP x = true) {r : Int} (hr : IdxIs l x r) (hrn : r < 0 ∨ r = n) : PGood (l.set n x) := by
  have hno : ∀ j, j < l.length → j ≠ n → l.getD j 0 ≠ x := fun j hj hne e => by
    rcases hr with ⟨-, hr⟩ | ⟨k, hk, rfl, e2, -⟩
    · exact hr j hj e
    · have hkn : k = n := by omega
      exact hne (hkn ▸ h.once j k hj hk (e.trans e2.symm))
  refine ⟨by simpa using h.few, fun i hi => ?_, fun i j hi hj e => ?_⟩
  · simp at hi
    rw [set_getD l n x i hi]
    split
    · exact hx
    · exact h.fair i hi
  · simp at hi hj
    rw [set_getD l n x i hi, set_getD l n x j hj] at e
    split at e <;> split at e
    · omega
    · rename_i h1 h2
      exact (hno j hj h2 e.symm).elim
    · rename_i h1 h2
      exact (hno i hi h1 e).elim
    · exact h.once i j hi hj e
theorem PGood.idx {l : List Int} (h : PGood l) {i : Nat} (hi : i < l.length) {r : Int} (hr : IdxIs l (l.getD i 0) r) : r = i := by
  rcases hr with ⟨-, hr⟩ | ⟨k, hk, e1, e2, -⟩
  · exact (hr i hi rfl).elim
  · rw [e1, h.once k i hk hi e2]
end Go.Proofs.YtaoaachgnnengaaGreatDoor

/-
  facaderef.Ints: a copy, in new memory.
-/
namespace Go.Proofs.YtaoaachgnnengaaGreatDoor
open Go.RowKit

theorem infoInts : (Tryz.prog.info? 3).map (fun i => (i.zero, i.size, i.bytes)) = some (some (.int .i64 0), 1, 8) := by kernel_rfl

/-- the first k are copied -/
def CopyIntsTo (xs : List Int) (w : World) (v i : Value) (wr : World) : Prop :=
  ∃ k : Nat, k ≤ xs.length ∧ i = .int .i64 k ∧ wr.ownsRow 0 3 1 v k (ints (xs.take k)) ∧ (∀ j, inRow v j → w.heap.size ≤ j) ∧ Below w.heap.size w wr ∧ ∃ ao cap, v = .slice ao k cap
end Go.Proofs.YtaoaachgnnengaaGreatDoor

/-
  p2m.Map: Clone; the document's own: place, AddFrame, PutFrame, OfFrame.
-/
namespace Go.Proofs.YtaoaachgnnengaaGreatDoor
open Go.RowKit

def addC (l : List Int) (x : Int) : Option Nat := if fairP x = false then some 2 else if x ∈ l then some 5 else if 512 ≤ l.length then some 3 else none
def addL (l : List Int) (x : Int) : List Int := if addC l x = none then l ++ [x] else l
def putC (l : List Int) (n x : Int) : Option Nat := if n < 0 ∨ (l.length : Int) ≤ n then some 6 else if fairP x = false then some 2 else if x ∈ l ∧ l.getD n.toNat 0 ≠ x then some 5 else none
def putL (l : List Int) (n x : Int) : List Int := if putC l n x = none then l.set n.toNat x else l
def codeOf : Option Nat → Int
  | none => 0
  | some k => ((101 + k : Nat) : Int)

set_option maxHeartbeats 800000 in
theorem place_ints (l : List Int) (n : Nat) (ao : Option Addr) (c1 : Nat) (x : Int) (w : World) (hl : AtL w ao (ints l)) (hn : l.length = n) (h : n ≤ 100000) :
    Calls Tryz.prog 84 #[.slice ao n c1, .int .i64 x] w fun e w' => ∃ r, e = .returned (.int .i64 r) ∧ IdxIs l x r ∧ w = w' := by
  subst hn
  have HL := Lib.hid hl
  clear hl
  go_enter Tryz.func84, Tryz.ntmps84
  go_wp2_with fail
  go_loop [5] (fun i => NotTo l x i) (fun i => l.length - (intOf i).toNat)
  case atStart => exact ⟨0, Nat.zero_le _, rfl, fun j hj => by omega⟩
  case round =>
    obtain ⟨k, hk, rfl, hno⟩ := hrel
    have HNO := Lib.hid hno
    clear hno
    by_cases hlt : k < l.length
    · obtain ⟨b, off, rfl, c0, -⟩ := HL.out k _ (ints_get l k hlt)
      have hki : (k : Int) < (l.length : Int) := by omega
      obtain ⟨z, hz⟩ : ∃ z, l.getD k 0 = z := ⟨_, rfl⟩
      rw [hz] at c0
      have HZ := Lib.hid hz
      clear hz
      by_cases hx : z = x
      · have hb : (z == x) = true := by simp [hx]
        have HX := Lib.hid hx
        clear hx
        go_wp2
        go_ret
        exact ⟨k, rfl, .inr ⟨k, hlt, rfl, by rw [HZ.out, HX.out], HNO.out⟩, rfl⟩
      · have hb : (z == x) = false := by simp [hx]
        have HX := Lib.hid hx
        clear hx
        go_wp2
        go_round
        case rel =>
          refine ⟨k + 1, by omega, by go_num, fun j hj => ?_⟩
          rcases Nat.lt_succ_iff_lt_or_eq.1 hj with h | rfl
          · exact HNO.out j h
          · rw [HZ.out]; exact HX.out
        case measure => simp [intOf]; omega
    · obtain rfl : k = l.length := by omega
      go_wp2
      go_ret
      exact ⟨-1, rfl, .inl ⟨rfl, HNO.out⟩, rfl⟩
set_option maxHeartbeats 400000 in
theorem ofFrame_any (l : List Int) (n : Nat) (ao : Option Addr) (c1 : Nat) (x : Int) (w : World) (hl : AtL w ao (ints l)) (hn : l.length = n) (h : n ≤ 100000) :
    Calls Tryz.prog 44 #[.slice ao n c1, .int .i64 x] w fun e w' => ∃ r, e = .returned (.int .i64 r) ∧ IdxIs l x r ∧ w = w' := by
  have HL := Lib.hid hl
  clear hl
  go_enter Tryz.func44, Tryz.ntmps44
  go_wp2_with fail
  refine (place_ints l n ao c1 x _ HL.out hn h).mono ?_
  rintro e w1 ⟨r, rfl, hr, rfl⟩
  have HR := Lib.hid hr
  clear hr
  go_wp2
  go_ret
  exact ⟨r, rfl, HR.out, rfl⟩

/-- what the document's own answer: a row that reads as the list, there or new -/
def RefAns (l : List Int) (ao : Option Addr) (c : Option Nat) (w : World) (e : Ending) (w' : World) : Prop :=
  ∃ av cap, e = .returned (.tuple #[.slice av l.length cap, .int .i64 (codeOf c)]) ∧ AtL w' av (ints l) ∧ (av = ao ∨ ∀ b off, av = some ⟨b, off, none⟩ → w.heap.size ≤ b ∧ b < w'.heap.size) ∧ Below w.heap.size w w'
end Go.Proofs.YtaoaachgnnengaaGreatDoor

/-
  grant.Table: what its functions answer, over a plain list of sixteen loans.
-/
namespace Go.Proofs.YtaoaachgnnengaaGreatDoor
open Go.RowKit

structure Gr where
  live : Bool := false
  w : Bool := false
  used : Bool := false
  frame : Int := 0
  to_ : Int := 0
deriving Inhabited
def grOne (x : Gr) : List Value := [.bool x.live, .bool x.w, .bool x.used, .int .i64 x.frame, .int .i64 x.to_]
def grCells (l : List Gr) : List Value := l.flatMap grOne
theorem grCells_cons (x : Gr) (l : List Gr) : grCells (x :: l) = grOne x ++ grCells l := rfl
theorem grCells_at (l : List Gr) (r : Nat) (h : r < l.length) : (grCells l)[r * 5]? = some (.bool (l.getD r default).live) ∧ (grCells l)[r * 5 + 1]? = some (.bool (l.getD r default).w) ∧ (grCells l)[r * 5 + 2]? = some (.bool (l.getD r default).used) ∧
    (grCells l)[r * 5 + 3]? = some (.int .i64 (l.getD r default).frame) ∧ (grCells l)[r * 5 + 4]? = some (.int .i64 (l.getD r default).to_) := by
  induction l generalizing r with
  | nil => simp at h
  | cons x l ih =>
    cases r with
    | zero => simp [grCells_cons, grOne]
    | succ r =>
      have := ih r (by simpa using h)
      rw [grCells_cons, List.getD_cons_succ, show (r + 1) * 5 = 5 + r * 5 by omega]
      have e : ∀ i, (grOne x ++ grCells l)[5 + r * 5 + i]? = (grCells l)[r * 5 + i]? := fun i => by
        rw [List.getElem?_append_right (by simp [grOne]; omega)]
        congr 1
        simp [grOne]
        omega
      have e0 := e 0
      rw [Nat.add_zero, Nat.add_zero] at e0
      rw [e0, e 1, e 2, e 3, e 4]
      exact this
theorem grCells_set (l : List Gr) (r : Nat) (h : r < l.length) (x : Gr) :
    (((((grCells l).set (r * 5) (.bool x.live)).set (r * 5 + 1) (.bool x.w)).set (r * 5 + 2) (.bool x.used)).set (r * 5 + 3) (.int .i64 x.frame)).set (r * 5 + 4) (.int .i64 x.to_) = grCells (l.set r x) := by
  induction l generalizing r with
  | nil => simp at h
  | cons y l ih =>
    cases r with
    | zero => simp [grCells_cons, grOne]
    | succ r =>
      have := ih r (by simpa using h)
      rw [grCells_cons, List.set_cons_succ, grCells_cons, ← this, show (r + 1) * 5 + 1 = r * 5 + 1 + 5 by omega, show (r + 1) * 5 + 2 = r * 5 + 2 + 5 by omega, show (r + 1) * 5 + 3 = r * 5 + 3 + 5 by omega, show (r + 1) * 5 + 4 = r * 5 + 4 + 5 by omega, show (r + 1) * 5 = r * 5 + 5 by omega]
      simp [grOne]
theorem grCells_used (l : List Gr) (r : Nat) (h : r < l.length) (b : Bool) : (grCells l).set (r * 5 + 2) (.bool b) = grCells (l.set r { l.getD r default with used := b }) := by
  induction l generalizing r with
  | nil => simp at h
  | cons y l ih =>
    cases r with
    | zero => simp [grCells_cons, grOne]
    | succ r =>
      have := ih r (by simpa using h)
      rw [grCells_cons, List.set_cons_succ, List.getD_cons_succ, grCells_cons, ← this, show (r + 1) * 5 + 2 = r * 5 + 2 + 5 by omega]
      simp [grOne]

theorem only1 (w : World) (b o : Nat) (v : Value) : Only (fun k => k = b) w (w.setCell ⟨b, o, none⟩ v) :=
  Only.setCell (F := fun k => k = b) (Only.refl _ _) (p := ⟨b, o, none⟩) (.inl rfl) v
theorem only5 (w : World) (b o0 o1 o2 o3 o4 : Nat) (v0 v1 v2 v3 v4 : Value) : Only (fun k => k = b) w (((((w.setCell ⟨b, o0, none⟩ v0).setCell ⟨b, o1, none⟩ v1).setCell ⟨b, o2, none⟩ v2).setCell ⟨b, o3, none⟩ v3).setCell ⟨b, o4, none⟩ v4) :=
  ((((only1 w b o0 v0).trans (only1 _ b o1 v1)).trans (only1 _ b o2 v2)).trans (only1 _ b o3 v3)).trans (only1 _ b o4 v4)

/-- the error of a number, or none -/
def errOf (E : Nat → Addr) : Option Nat → Value
  | none => .nilIface
  | some k => errV (E k)
theorem errOf_num (E : Nat → Addr) (o : Option Nat) (h : ∀ k, o = some k → k < 16) : errNum (errOf E o) E (match o with | none => 0 | some k => ((101 + k : Nat) : Int)) := by
  cases o with
  | none => exact .inl ⟨rfl, rfl⟩
  | some k => exact .inr ⟨k, h k rfl, rfl, rfl⟩

/-- a loan that is live, if there is one -/
def liveAt (l : List Gr) (ref : Int) : Option Nat := if 0 ≤ ref ∧ ref < 16 ∧ (l.getD ref.toNat default).live = true then some ref.toNat else none
def ptrAt (b : Nat) : Option Nat → Value
  | none => .pointer none
  | some r => .pointer (some ⟨b, r * 5, none⟩)
end Go.Proofs.YtaoaachgnnengaaGreatDoor

/-
  PutFrame; p2m.Map's Clone; what Add, Put answer, all ways in one.
-/
namespace Go.Proofs.YtaoaachgnnengaaGreatDoor
open Go.RowKit

theorem put_twice_iff {l : List Int} (hg : PGood l) {x r : Int} {n : Nat} (hn : n < l.length) (h : IdxIs l x r) : (0 ≤ r ∧ r ≠ (n : Int)) ↔ (x ∈ l ∧ l.getD n 0 ≠ x) := by
  constructor
  · rintro ⟨h0, hne⟩
    rcases h with ⟨rfl, -⟩ | ⟨k, hk, rfl, e, -⟩
    · omega
    · refine ⟨mem_getD.2 ⟨k, hk, e⟩, fun e2 => hne ?_⟩
      rw [hg.once k n hk hn (e.trans e2.symm)]
  · rintro ⟨hm, hne⟩
    obtain ⟨k, hk, rfl, e, -⟩ := h.pos hm
    refine ⟨by omega, fun e2 => hne ?_⟩
    have : k = n := by omega
    rw [← this, e]

set_option maxHeartbeats 800000 in
theorem pm_clone (l : List Int) (b : Nat) (v : Value) (w : World) (h : PAt w b v l) (hn : l.length ≤ 1000) :
    Calls Tryz.prog 66 #[.pointer (some ⟨b, 0, none⟩)] w fun e w' => ∃ cb cv, e = .returned (.pointer (some ⟨cb, 0, none⟩)) ∧ PAt w' cb cv l ∧ w.heap.size ≤ cb ∧ (∀ k, inRow cv k → w.heap.size ≤ k) ∧ Below w.heap.size w w' := by
  have c := h.cell
  have HR := Lib.hid (own_reads h.2)
  clear h
  go_enter Tryz.func66, Tryz.ntmps66
  go_wp2_with fail
  refine (cloneInts v l.length (ints l) _ HR.out (by omega) (ints_len l) (ints_one l)).mono ?_
  rintro e w1 ⟨v', rfl, ho, hf, hb⟩
  have HP : Hid (PAt (w1.alloc (.cells #[v'] 106)) w1.heap.size v' l) := Lib.hid ⟨blk_new _ _, ho.alloc _⟩
  have HF := Lib.hid hf
  have HB := Lib.hid (hb.alloc hb.size (.cells #[v'] 106))
  have HS := Lib.hid hb.size
  obtain ⟨ao, cap, rfl⟩ := own_slice ho
  clear ho hf hb
  go_wp2
  go_ret
  exact ⟨_, _, rfl, HP.out, HS.out, HF.out, HB.out⟩
end Go.Proofs.YtaoaachgnnengaaGreatDoor

/-
  An entry's word read again.
-/
namespace Go.Proofs.YtaoaachgnnengaaGreatDoor
open Go.RowKit

theorem ofA_ent'' {f : Int} {t wr u : Bool} (h : entOk f t wr u) : ofA (entW f t wr u) = (⟨f, t, wr, u⟩, true) := by
  unfold ofA
  rw [if_pos ((isEntB_iff _).2 (ent_is h))]
  obtain ⟨e1, e2, e3, e4⟩ := ent_back h
  rw [e1, e2, e3, e4]
end Go.Proofs.YtaoaachgnnengaaGreatDoor

/-
  pt.Tables: its cells; page, write, entry.
-/
namespace Go.Proofs.YtaoaachgnnengaaGreatDoor
open Go.RowKit

/-- tables: memory, frames, the guest's frames -/
structure Ts where
  n : Nat
  M : List Int
  F : List Fr
  P : List Int
  who : Int
/-- where tables lie -/
structure Pl where
  tb : Nat
  mb : Nat
  fb : Nat
  fg : Nat
  pb : Nat
  mv : Value
  pv : Value
  lv : Value
/-- the blocks that no operation writes; memory's words; frames; the map -/
def Pl.z0 (p : Pl) (k : Nat) : Prop := k = p.tb ∨ k = p.mb ∨ k = p.fb ∨ inRow p.lv k
def Pl.z1 (p : Pl) (k : Nat) : Prop := inRow p.mv k
def Pl.z2 (p : Pl) (k : Nat) : Prop := k = p.fg
def Pl.z3 (p : Pl) (k : Nat) : Prop := k = p.pb ∨ inRow p.pv k
structure Pl.Apart (p : Pl) : Prop where
  a01 : ∀ k, p.z0 k → ¬ p.z1 k
  a02 : ∀ k, p.z0 k → ¬ p.z2 k
  a03 : ∀ k, p.z0 k → ¬ p.z3 k
  a12 : ∀ k, p.z1 k → ¬ p.z2 k
  a13 : ∀ k, p.z1 k → ¬ p.z3 k
  a23 : ∀ k, p.z2 k → ¬ p.z3 k
def ptCells (p : Pl) (who : Int) : Array Value := #[.pointer (some ⟨p.mb, 0, none⟩), .pointer (some ⟨p.fb, 0, none⟩), .int .i64 who, .pointer (some ⟨p.pb, 0, none⟩), p.lv]
structure PtAt (w : World) (p : Pl) (s : Ts) : Prop where
  row : w.heap[p.tb]? = some (.cells (ptCells p s.who) 90 (0, 0))
  mem : MAt w p.mb p.mv s.n s.M
  fr : FrAt 99 69 w p.fb p.fg s.n s.F
  pm : PAt w p.pb p.pv s.P
  tl : w.ownsRow 0 3 1 p.lv 17 (ints (s.P.take 17))
  apart : p.Apart
theorem PtAt.keep {F : Nat → Prop} {w w' : World} {p : Pl} {s : Ts} (h : PtAt w p s) (ho : Only F w w') (h0 : ∀ k, p.z0 k → ¬ F k) (h1 : ∀ k, p.z1 k → ¬ F k) (h2 : ∀ k, p.z2 k → ¬ F k) (h3 : ∀ k, p.z3 k → ¬ F k) : PtAt w' p s :=
  ⟨ho.blk h.row (h0 _ (.inl rfl)), h.mem.only ho (h0 _ (.inr (.inl rfl))) h1, h.fr.only ho (h0 _ (.inr (.inr (.inl rfl)))) (h2 _ rfl), h.pm.only ho (h3 _ (.inl rfl)) (fun k hk => h3 k (.inr hk)), own_only h.tl ho (fun k hk => h0 k (.inr (.inr (.inr hk)))), h.apart⟩
theorem PtAt.below {w w' : World} {p : Pl} {s : Ts} (h : PtAt w p s) (hb : Below w.heap.size w w') : PtAt w' p s :=
  h.keep (F := fun _ => False) (Only.of_below hb) (fun _ _ h => h) (fun _ _ h => h) (fun _ _ h => h) (fun _ _ h => h)
theorem PtAt.mem' {w w' : World} {p : Pl} {s : Ts} {M : List Int} (h : PtAt w p s) (ho : Only (fun k => inRow p.mv k) w w') (hm : MAt w' p.mb p.mv s.n M) : PtAt w' p { s with M := M } :=
  ⟨ho.blk h.row (h.apart.a01 _ (.inl rfl)), hm, h.fr.only ho (h.apart.a01 _ (.inr (.inr (.inl rfl)))) (fun h' => h.apart.a12 _ h' rfl), h.pm.only ho (fun h' => h.apart.a13 _ h' (.inl rfl)) (fun k hk h' => h.apart.a13 _ h' (.inr hk)), own_only h.tl ho (fun k hk => h.apart.a01 k (.inr (.inr (.inr hk)))), h.apart⟩
theorem PtAt.fr' {w w' : World} {p : Pl} {s : Ts} {F : List Fr} (h : PtAt w p s) (ho : Only (fun k => k = p.fg) w w') (hm : FrAt 99 69 w' p.fb p.fg s.n F) : PtAt w' p { s with F := F } :=
  ⟨ho.blk h.row (h.apart.a02 _ (.inl rfl)), h.mem.only ho (h.apart.a02 _ (.inr (.inl rfl))) (fun k hk h' => h.apart.a12 _ hk h'), hm, h.pm.only ho (fun h' => h.apart.a23 _ h' (.inl rfl)) (fun k hk h' => h.apart.a23 _ h' (.inr hk)), own_only h.tl ho (fun k hk => h.apart.a02 k (.inr (.inr (.inr hk)))), h.apart⟩
theorem PtAt.cells {w : World} {p : Pl} {s : Ts} (h : PtAt w p s) : w.cell? ⟨p.tb, 0, none⟩ = some (.pointer (some ⟨p.mb, 0, none⟩)) ∧ w.cell? ⟨p.tb, 1, none⟩ = some (.pointer (some ⟨p.fb, 0, none⟩)) ∧ w.cell? ⟨p.tb, 2, none⟩ = some (.int .i64 s.who) ∧ w.cell? ⟨p.tb, 3, none⟩ = some (.pointer (some ⟨p.pb, 0, none⟩)) ∧ w.cell? ⟨p.tb, 4, none⟩ = some p.lv :=
  ⟨blk_cell h.row 0, blk_cell h.row 1, blk_cell h.row 2, blk_cell h.row 3, blk_cell h.row 4⟩
theorem take_getD (l : List Int) (k m : Nat) (h : k < m) : (l.take m).getD k 0 = l.getD k 0 := by
  rw [List.getD_eq_getElem?_getD, List.getD_eq_getElem?_getD, List.getElem?_take_of_lt h]
theorem ints_get' (l : List Int) (k : Nat) (h : k < l.length) : (ints l)[k]? = some (.int .i64 (l.getD k 0)) := by
  rw [ints, List.getElem?_map, List.getElem?_eq_getElem h, List.getD_eq_getElem?_getD, List.getElem?_eq_getElem h]
  rfl
/-- the list of the tables' frames -/
theorem PtAt.list {w : World} {p : Pl} {s : Ts} (h : PtAt w p s) (hP : 17 ≤ s.P.length) : ∃ g cap, p.lv = .slice (some ⟨g, 0, none⟩) 17 cap ∧ g < w.heap.size ∧ ∀ k, k < 17 → w.cell? ⟨g, k, none⟩ = some (.int .i64 (s.P.getD k 0)) := by
  rcases own_shape h.tl with ⟨-, hz, -⟩ | hs
  · omega
  · obtain ⟨g, cap, e1, -⟩ := hs
    have ht := h.tl
    rw [e1] at ht
    refine ⟨g, cap, e1, own_lt ht (show inRow _ g from rfl), fun k hk => ?_⟩
    rw [own_cell ht k (by omega), ints_get' _ k (by rw [List.length_take]; omega), take_getD _ _ _ hk]

/-- where a page's entry stands -/
def tWord (s : Ts) (page : Nat) : Nat := 16 * (s.P.getD (1 + page / 16) 0).toNat + page % 16
/-- a page's entry, as it stands -/
def tEnt (s : Ts) (page : Int) : Ent := if 0 ≤ page ∧ page < 256 ∧ (ofA (s.M.getD (tWord s page.toNat) 0)).1.t = true then (ofA (s.M.getD (tWord s page.toNat) 0)).1 else Ent.z
/-- tables as they are -/
structure TInv (m : Int) (s : Ts) : Prop where
  n1 : s.n ≤ 1024
  lm : s.M.length = 16 * s.n
  lf : s.F.length = s.n
  w32 : ∀ j, W32 (s.M.getD j 0)
  fok : FrOk m s.F
  p17 : 17 ≤ s.P.length
  p512 : s.P.length ≤ 512
  pin : ∀ i, i < s.P.length → 0 ≤ s.P.getD i 0 ∧ s.P.getD i 0 < (s.n : Int) ∧ (s.F.getD (s.P.getD i 0).toNat default).owner ≠ -1
  pne : ∀ i j, i < s.P.length → j < s.P.length → s.P.getD i 0 = s.P.getD j 0 → i = j
  root : ∀ k, k < 16 → s.M.getD (16 * (s.P.getD 0 0).toNat + k) 0 = entW (s.P.getD (k + 1) 0) true true true

theorem tEnt_page {m : Int} {s : Ts} (h : TInv m s) (page : Int) : pageA s.M s.n (s.P.getD 0 0) page = (tEnt s page, (tEnt s page).t) := by
  unfold tEnt
  by_cases hp : 0 ≤ page ∧ page < 256
  · obtain ⟨j, rfl⟩ : ∃ j : Nat, page = (j : Int) := ⟨page.toNat, by omega⟩
    have h0 := h.pin 0 (by have := h.p17; omega)
    have h1 := h.pin (j / 16 + 1) (by have := h.p17; omega)
    have hn := h.n1
    have hr := h.root (j / 16) (by omega)
    have hk : entOk (s.P.getD (j / 16 + 1) 0) true true true := ⟨h1.1, by omega, fun h => by cases h⟩
    have e1 := ofA_ent'' hk
    rw [← hr] at e1
    obtain ⟨r, hr0⟩ : ∃ r : Nat, s.P.getD 0 0 = (r : Int) := ⟨(s.P.getD 0 0).toNat, by omega⟩
    rw [hr0] at e1 h0 ⊢
    rw [Int.toNat_natCast] at e1
    have hpg := pageA_by s.M s.n r j (by omega) (by omega) ⟨s.P.getD (j / 16 + 1) 0, true, true, true⟩ true e1
    rw [if_pos ⟨rfl, rfl⟩] at hpg
    rw [hpg]
    obtain ⟨⟨e, b⟩, ho⟩ : ∃ q, ofA (s.M.getD (tWord s j) 0) = q := ⟨_, rfl⟩
    have hw : 16 * (s.P.getD (j / 16 + 1) 0).toNat + j % 16 = tWord s j := by
      unfold tWord
      rw [Nat.add_comm 1]
    rw [entryA_by s.M s.n (s.P.getD (j / 16 + 1) 0) (j % 16) h1.1 h1.2.1 e b (by rw [hw]; exact ho)]
    rw [Int.toNat_natCast, ho]
    have hb : e.t = true → b = true := fun ht => by
      unfold ofA at ho
      split at ho
      · exact (Prod.mk.inj ho).2.symm
      · obtain ⟨rfl, rfl⟩ := Prod.mk.inj ho
        cases ht
    by_cases ht : e.t = true
    · rw [if_pos ⟨hb ht, ht⟩, if_pos ⟨hp.1, hp.2, ht⟩, ht]
    · rw [if_neg (fun hh => ht hh.2), if_neg (fun hh => ht hh.2.2)]
      rfl
  · unfold pageA
    rw [if_neg (fun hh => hp ⟨hh.1, hh.2.1⟩), if_neg (fun hh => hp ⟨hh.1, hh.2.1⟩)]
    rfl

/-- a page's number -/
def isPage (n : Int) : Bool := decide (0 ≤ n) && decide (n < 256)
set_option maxHeartbeats 400000 in
theorem tpage_any (n : Int) (w : World) : Calls Tryz.prog 69 #[.int .i64 n] w fun e w' => e = .returned (.bool (isPage n)) ∧ w = w' := by
  have hc : (¬ 0 ≤ n ∧ isPage n = false) ∨ (0 ≤ n ∧ ¬ n < 256 ∧ isPage n = false) ∨ (0 ≤ n ∧ n < 256 ∧ isPage n = true) := by
    unfold isPage
    by_cases h : 0 ≤ n
    · by_cases h2 : n < 256
      · exact .inr (.inr ⟨h, h2, by simp; omega⟩)
      · exact .inr (.inl ⟨h, h2, by simp; omega⟩)
    · exact .inl ⟨h, by simp; omega⟩
  rcases hc with ⟨h1, hp⟩ | ⟨h1, h2, hp⟩ | ⟨h1, h2, hp⟩
  all_goals
    rw [hp]
    clear hp
    go_enter Tryz.func69, Tryz.ntmps69
    go_wp2
    go_ret
    exact ⟨rfl, rfl⟩

/-- a word of an entry, if it has one, put -/
def putE (l : List Int) (f i : Int) (e : Ent) : List Int := if (bitsA e).2 then writeL l (f * 16 + i) (bitsA e).1 else l
set_option maxRecDepth 100000 in
set_option maxHeartbeats 1600000 in
theorem twrite_any (l : List Int) (b n : Nat) (v : Value) (f i : Int) (e : Ent) (w : World) (h : MAt w b v n l) (hf : 0 ≤ f ∧ f < 1024) (hi : 0 ≤ i ∧ i < 16) :
    Calls Tryz.prog 53 #[.pointer (some ⟨b, 0, none⟩), .int .i64 f, .int .i64 i, e.v] w fun y w' => y = .returned (.tuple #[]) ∧ MAt w' b v n (putE l f i e) ∧ Only (fun k => inRow v k) w w' := by
  have hb0 : Below w.heap.size w (w.alloc (.cells #[.int .i64 e.f, .bool e.t, .bool e.w, .bool e.u] 34)) := (Below.refl _ _).alloc (Nat.le_refl _) _
  have HB0 := Lib.hid hb0
  have HBT := Lib.hid (fun wx => bits_any e wx)
  have HM : Hid (∀ wx, Below w.heap.size w wx → MAt wx b v n l) := Lib.hid fun wx hx => h.below hx
  have w1 := IntWalk.i64_in (f * 16) (by omega)
  have w2 := IntWalk.i64_in (f * 16 + i) (by omega)
  unfold putE
  obtain ⟨⟨x, q⟩, hx⟩ : ∃ r, bitsA e = r := ⟨_, rfl⟩
  rw [hx] at HBT ⊢
  unfold wordV at HBT
  obtain ⟨ef, et, ew, eu⟩ := e
  unfold Ent.v at HBT ⊢
  dsimp only at HBT HB0 ⊢
  clear h hb0 hx
  cases q
  · go_enter Tryz.func53, Tryz.ntmps53
    go_wp2_with fail
    refine (HBT.out _).mono ?_
    rintro y w3 ⟨rfl, hb3⟩
    have HB3 := Lib.hid (HB0.out.trans (hb3.mono HB0.out.size))
    clear hb3
    go_wp2
    go_end0
    exact ⟨rfl, HM.out _ HB3.out, Only.of_below HB3.out⟩
  · go_enter Tryz.func53, Tryz.ntmps53
    go_wp2_with fail
    refine (HBT.out _).mono ?_
    rintro y w3 ⟨rfl, hb3⟩
    have HB3 := Lib.hid (HB0.out.trans (hb3.mono HB0.out.size))
    clear hb3
    go_wp2_with fail
    refine (mm_write l b n v (f * 16 + i) x _ (HM.out _ HB3.out)).mono ?_
    rintro y w4 ⟨rfl, hm4, ho4⟩
    have HM4 := Lib.hid hm4
    have HO4 := Lib.hid ((Only.of_below HB3.out).trans ho4)
    clear hm4 ho4
    go_wp2
    go_end0
    exact ⟨rfl, HM4.out, HO4.out⟩
end Go.Proofs.YtaoaachgnnengaaGreatDoor

/-
  What each operation makes of tables: plain laws.
-/
namespace Go.Proofs.YtaoaachgnnengaaGreatDoor
open Go.RowKit

def tDropF (s : Ts) (page : Int) : List Fr := (frThere s.F (tEnt s page).f (if (tEnt s page).w = true then kUnwrite else kUnuse)).l
/-- Drop -/
def tDrop (s : Ts) (page : Int) : Ts × Int :=
  if isPage page = true then (if (tEnt s page).t = true then ({ s with F := tDropF s page, M := writeL s.M (tWord s page.toNat : Int) 0 }, 0) else (s, 0)) else (s, 103)
def tSetR (s : Ts) (frame : Int) (w : Bool) : FrR := frThere s.F frame (if w = true then kWrite else kUse)
/-- set, of a page -/
def tSet (s : Ts) (page frame : Int) (w : Bool) : Ts × Int :=
  if (tSetR s frame w).c = 0 then ({ (tDrop { s with F := (tSetR s frame w).l } page).1 with M := putE (tDrop { s with F := (tSetR s frame w).l } page).1.M (s.P.getD (1 + page.toNat / 16) 0) ((page.toNat % 16 : Nat) : Int) ⟨frame, true, w, true⟩ }, 0) else (s, (tSetR s frame w).c)
def tPut (s : Ts) (page : Int) (e : Ent) : Ts × Int :=
  if isPage page = true then (if e.t = true then (if 0 ≤ e.f ∧ e.f < (s.P.length : Int) then (if (s.F.getD (s.P.getD e.f.toNat 0).toNat default).owner = s.who then tSet s page (s.P.getD e.f.toNat 0) e.w else (s, 110)) else (s, 107)) else (if e.f = 0 ∧ e.w = false ∧ e.u = false then tDrop s page else (s, 103))) else (s, 103)
def tLend (s : Ts) (page frame : Int) (w : Bool) : Ts × Int :=
  if isPage page = true then (if (frAt s.F frame).isSome = true then tSet s page frame w else (s, 107)) else (s, 103)
def tAddR (s : Ts) : FrR := frAlloc s.F s.who
def tAdd (s : Ts) : Ts × Int × Int :=
  if 512 ≤ s.P.length then (s, 0, 104) else if (tAddR s).c = 0 then ({ s with F := (tAddR s).l, M := fillL s.M (tAddR s).n.toNat [], P := s.P ++ [(tAddR s).n] }, (s.P.length : Int), 0) else (s, 0, (tAddR s).c)

/-- words of the tables of the second level may be put -/
theorem TInv.word {m : Int} {s : Ts} (h : TInv m s) (page : Int) (hp : isPage page = true) (x : Int) (hx : W32 x) : TInv m { s with M := writeL s.M (tWord s page.toNat : Int) x } := by
  have hpg : 0 ≤ page ∧ page < 256 := by simpa [isPage] using hp
  have h1 := h.pin (1 + page.toNat / 16) (by have := h.p17; omega)
  have hlt : tWord s page.toNat < s.M.length := by rw [h.lm]; unfold tWord; omega
  have hg : ∀ t, (writeL s.M (tWord s page.toNat : Int) x).getD t 0 = if t = tWord s page.toNat then x else s.M.getD t 0 := fun t => by
    unfold writeL
    rw [if_pos (by omega), Int.toNat_natCast, setD_get _ _ _ _ hlt]
  refine ⟨h.n1, ?_, h.lf, fun j => ?_, h.fok, h.p17, h.p512, h.pin, h.pne, fun k hk => ?_⟩
  · show (writeL s.M _ x).length = _
    unfold writeL
    split
    · rw [List.length_set]; exact h.lm
    · exact h.lm
  · show W32 ((writeL s.M _ x).getD j 0)
    rw [hg j]
    split
    · exact hx
    · exact h.w32 j
  · show (writeL s.M _ x).getD _ 0 = _
    have h0 := h.pin 0 (by have := h.p17; omega)
    have hne : (s.P.getD (1 + page.toNat / 16) 0) ≠ s.P.getD 0 0 := fun e => by
      have := h.pne _ _ (by have := h.p17; omega) (by have := h.p17; omega) e
      omega
    rw [hg, if_neg (by unfold tWord; show ¬ 16 * (s.P.getD 0 0).toNat + k = _; omega)]
    exact h.root k hk
/-- counts may turn -/
theorem TInv.frames {m m' : Int} {s : Ts} (h : TInv m s) {F : List Fr} (hl : F.length = s.F.length) (hok : FrOk m' F) (ho : ∀ i, i < s.F.length → (F.getD i default).owner = (s.F.getD i default).owner) : TInv m' { s with F := F } :=
  ⟨h.n1, h.lm, hl.trans h.lf, h.w32, hok, h.p17, h.p512, fun i hi => by
    have := h.pin i hi
    refine ⟨this.1, this.2.1, ?_⟩
    show (F.getD (s.P.getD i 0).toNat default).owner ≠ -1
    rw [ho (s.P.getD i 0).toNat (by rw [h.lf]; omega)]
    exact this.2.2, h.pne, h.root⟩
theorem frThere_owner (l : List Fr) (i : Int) (k : Fr → Fr × Int) (hk : ∀ x, (k x).1.owner = x.owner) (j : Nat) : ((frThere l i k).l.getD j default).owner = (l.getD j default).owner := by
  unfold frThere
  cases hN : frAt l i with
  | none => rfl
  | some n =>
    obtain ⟨-, hn, -⟩ := frAt_some hN
    show ((l.set n (k (l.getD n default)).1).getD j default).owner = _
    rw [List.getD_eq_getElem?_getD, List.getElem?_set]
    by_cases h : n = j
    · subst h
      rw [if_pos rfl, if_pos hn]
      exact hk _
    · rw [if_neg h, ← List.getD_eq_getElem?_getD]
theorem kUnwrite_owner (x : Fr) : (kUnwrite x).1.owner = x.owner := by unfold kUnwrite; split <;> rfl
theorem kUnuse_owner (x : Fr) : (kUnuse x).1.owner = x.owner := by unfold kUnuse; split <;> rfl
theorem kWrite_owner (x : Fr) : (kWrite x).1.owner = x.owner := by unfold kWrite; split <;> rfl
theorem kUse_owner (x : Fr) : (kUse x).1.owner = x.owner := rfl
theorem TInv.there {m : Int} {s : Ts} (h : TInv m s) (i : Int) (k : Fr → Fr × Int) (hk : ∀ x, (k x).1.owner = x.owner) (hin : ∀ x, frIn m x → x.owner ≠ -1 → frIn (m + 1) (k x).1) : TInv (m + 1) { s with F := (frThere s.F i k).l } :=
  h.frames (frThere_len _ _ _) (frThere_in h.fok i k hin) fun j _ => frThere_owner _ _ _ hk j
theorem TInv.mono {m : Int} {s : Ts} (h : TInv m s) : TInv (m + 1) s := ⟨h.n1, h.lm, h.lf, h.w32, frOk_mono h.fok, h.p17, h.p512, h.pin, h.pne, h.root⟩
theorem w32_zero : W32 0 := ⟨by decide, by decide⟩
theorem tDrop_inv {m : Int} {s : Ts} (h : TInv m s) (page : Int) : TInv (m + 1) (tDrop s page).1 := by
  unfold tDrop
  by_cases hp : isPage page = true
  · rw [if_pos hp]
    by_cases ht : (tEnt s page).t = true
    · rw [if_pos ht]
      have h1 : TInv (m + 1) { s with F := tDropF s page } := by
        unfold tDropF
        by_cases hw : (tEnt s page).w = true
        · rw [if_pos hw]; exact h.there _ _ kUnwrite_owner (fun x h1 h2 => kUnwrite_in h1 h2)
        · rw [if_neg hw]; exact h.there _ _ kUnuse_owner (fun x h1 h2 => kUnuse_in h1 h2)
      exact h1.word page hp 0 w32_zero
    · rw [if_neg ht]; exact h.mono
  · rw [if_neg hp]; exact h.mono
theorem frOk_b {m : Int} {l : List Fr} (h : FrOk m l) (hm : m ≤ 1000000) : ∀ n, n < l.length → (0 ≤ (l.getD n default).wr ∧ (l.getD n default).wr ≤ 1000000) ∧ (0 ≤ (l.getD n default).us ∧ (l.getD n default).us ≤ 1000000) := fun n hn => by
  have := frOk_get h n hn
  exact ⟨⟨this.2.1, Int.le_trans this.2.2.1 hm⟩, ⟨this.2.2.2.1, Int.le_trans this.2.2.2.2.1 hm⟩⟩
end Go.Proofs.YtaoaachgnnengaaGreatDoor

/-
  math/bits.Mul: the product of two words of 64 bits, in two words.
-/
namespace Go.Proofs.YtaoaachgnnengaaGreatDoor
open Go.RowKit Go.Lib

set_option maxHeartbeats 1000000 in
theorem mul64_any (x y : Nat) (hx : x < 18446744073709551616) (hy : y < 18446744073709551616) (w : World) :
    Calls Tryz.prog 99 #[.int .u64 x, .int .u64 y] w fun e w' => e = .returned (.tuple #[.int .u64 ((x * y / 18446744073709551616 : Nat) : Int), .int .u64 ((x * y % 18446744073709551616 : Nat) : Int)]) ∧ w' = w := by
  obtain ⟨bd, bt, bw, hhi⟩ := Lib.mul64_hi x y hx hy
  have ba := Lib.half_mul_le (a := x / 4294967296) (b := y / 4294967296) (by omega) (by omega)
  have bb := Lib.half_mul_le (a := x / 4294967296) (b := y % 4294967296) (by omega) (by omega)
  have bc := Lib.half_mul_le (a := x % 4294967296) (b := y / 4294967296) (by omega) (by omega)
  have ba' : x / 4294967296 * (y / 4294967296) < 18446744073709551616 := by omega
  have bb' : x / 4294967296 * (y % 4294967296) < 18446744073709551616 := by omega
  have bc' : x % 4294967296 * (y / 4294967296) < 18446744073709551616 := by omega
  have bh1 : x / 4294967296 * (y / 4294967296) + (x / 4294967296 * (y % 4294967296) + x % 4294967296 * (y % 4294967296) / 4294967296) / 4294967296 < 18446744073709551616 := by omega
  have bh : x / 4294967296 * (y / 4294967296) + (x / 4294967296 * (y % 4294967296) + x % 4294967296 * (y % 4294967296) / 4294967296) / 4294967296 + ((x / 4294967296 * (y % 4294967296) + x % 4294967296 * (y % 4294967296) / 4294967296) % 4294967296 + x % 4294967296 * (y / 4294967296)) / 4294967296 < 18446744073709551616 := by omega
  go_enter Tryz.func99, Tryz.ntmps99
  go_wp2
  simp only [Mul64.maskN x hx, Mul64.maskN y hy, Mul64.divN, Mul64.mulN, Mul64.addN, Mul64.wrapN _ bd, Mul64.wrapN _ bb', Mul64.wrapN _ bt, Mul64.maskN _ bt, Mul64.wrapN _ bc', Mul64.wrapN _ bw, Mul64.wrapN _ ba', Mul64.wrapN _ bh1, Mul64.wrapN _ bh, Mul64.wrapM (x * y)]
  rw [hhi]
  go_ret2
  exact ⟨rfl, rfl⟩
theorem mul_any (x y : Nat) (hx : x < 18446744073709551616) (hy : y < 18446744073709551616) (w : World) :
    Calls Tryz.prog 85 #[.int .u64 x, .int .u64 y] w fun e w' => e = .returned (.tuple #[.int .u64 ((x * y / 18446744073709551616 : Nat) : Int), .int .u64 ((x * y % 18446744073709551616 : Nat) : Int)]) ∧ w' = w := by
  have c64 := Lib.hid (mul64_any x y hx hy w)
  obtain ⟨p, hp⟩ : ∃ p, x * y / 18446744073709551616 = p := ⟨_, rfl⟩
  obtain ⟨q, hq⟩ : ∃ q, x * y % 18446744073709551616 = q := ⟨_, rfl⟩
  rw [hp, hq] at c64 ⊢
  clear hp hq
  go_enter Tryz.func85, Tryz.ntmps85
  go_wp2_with fail
  refine c64.out.mono ?_
  rintro e w' ⟨rfl, rfl⟩
  go_wp2
  go_ret2
  exact ⟨rfl, rfl⟩
end Go.Proofs.YtaoaachgnnengaaGreatDoor

