/-
  frames.Frames: Of: whose frames.
-/
import Derived.Test.YtaoaachgnnengaaDoorFrDo
import Derived.Test.YtaoaachgnnengaaDoorLists
namespace Go.Proofs.YtaoaachgnnengaaDoor
open Go.RowKit Go.Deep

theorem infoI64o : (Tryd.prog.info? 3).map (fun i => (i.zero, i.size, i.bytes)) = some (some (.int .i64 0), 1, 8) := by kernel_rfl
/-- the numbers of somebody's frames, of the first n -/
def frOf (l : List Fr) (who : Int) (n : Nat) : List Int := ((List.range n).filter fun i => decide ((l.getD i default).owner = who)).map Int.ofNat
theorem frOf_succ (l : List Fr) (who : Int) (n : Nat) : frOf l who (n + 1) = if (l.getD n default).owner = who then frOf l who n ++ [(n : Int)] else frOf l who n := by
  unfold frOf
  rw [List.range_succ, List.filter_append, List.map_append]
  by_cases h : (l.getD n default).owner = who
  · rw [if_pos h, List.filter_cons, if_pos (decide_eq_true h)]
    rfl
  · rw [if_neg h, List.filter_cons, if_neg (by rw [decide_eq_false h]; decide)]
    simp
theorem frOf_len (l : List Fr) (who : Int) (n : Nat) : (frOf l who n).length ≤ n := by
  unfold frOf
  rw [List.length_map]
  exact Nat.le_trans (List.length_filter_le _ _) (by simp)
/-- frames that can be read: a header in block b, the frames wherever -/
def FrRd (TB : TypeId) (w : World) (b : Nat) (ao : Option Addr) (cap : Nat) (l : List Fr) : Prop :=
  w.heap[b]? = some (.cells #[.slice ao l.length cap] TB (0, 0)) ∧ AtL w ao (frCells l) ∧ l.length ≤ cap
theorem FrRd.below {TB : TypeId} {w w' : World} {b cap : Nat} {ao : Option Addr} {l : List Fr} (h : FrRd TB w b ao cap l) (hb : Below w.heap.size w w') : FrRd TB w' b ao cap l :=
  ⟨(hb.block b (blk_lt h.1)).trans h.1, h.2.1.mono hb, h.2.2⟩
theorem FrAt.rd {TB TR : TypeId} {w : World} {b g cap : Nat} {l : List Fr} (h : FrAt TB TR w b g cap l) : FrRd TB w b (some ⟨g, 0, none⟩) cap l :=
  ⟨h.1, fun i v hi => ⟨g, 0, rfl, by rw [blk_cell h.2.1, Nat.zero_add, List.getElem?_toArray]; exact hi, blk_lt h.2.1⟩, h.2.2.2.1⟩
def OfTo (l : List Fr) (who : Int) (s : Nat) (w : World) (v i : Value) (wr : World) : Prop :=
  ∃ j : Nat, j ≤ l.length ∧ i = .int .i64 (j : Int) ∧ wr.ownsRow 0 3 1 v (frOf l who j).length (ints (frOf l who j)) ∧ (∀ k, inRow v k → s ≤ k) ∧ Below s w wr ∧ ∃ ao cap, v = .slice ao (frOf l who j).length cap
def OfPost (l : List Fr) (who : Int) (w : World) (e : Ending) (w' : World) : Prop :=
  ∃ v, e = .returned v ∧ w'.ownsRow 0 3 1 v (frOf l who l.length).length (ints (frOf l who l.length)) ∧ (∀ k, inRow v k → w.heap.size ≤ k) ∧ Below w.heap.size w w' ∧ ∃ ao cap, v = .slice ao (frOf l who l.length).length cap

set_option maxRecDepth 100000 in
set_option maxHeartbeats 4000000 in
theorem fof_any (l : List Fr) (b cap : Nat) (ao : Option Addr) (who : Int) (w : World) (hm : l.length ≤ 1024) (h : FrRd 95 w b ao cap l) :
    Calls Tryd.prog 18 #[.pointer (some ⟨b, 0, none⟩), .int .i64 who] w (OfPost l who w) := by
  obtain ⟨i0, hi, hz0, hz1, hz2⟩ := info_parts infoI64o
  have HF : Hid (∀ wx, Below w.heap.size w wx → FrRd 95 wx b ao cap l) := Lib.hid fun wx hx => h.below hx
  have HST : Hid (OfTo l who w.heap.size w (.slice none 0 0) (.int .i64 0) w) := Lib.hid ⟨0, Nat.zero_le _, rfl, own_nil _ _ _, fun k hk => by simp [inRow, Value.ownBlock] at hk, Below.refl _ _, none, 0, rfl⟩
  have c : w.cell? ⟨b, 0, none⟩ = some (.slice ao l.length cap) := blk_cell h.1 0
  have HLT : Hid (b < w.heap.size) := Lib.hid (blk_lt h.1)
  clear h
  go_enter Tryd.func18, Tryd.ntmps18
  go_wp2_with fail
  go_loopw [5, 13] (fun v i wr => OfTo l who w.heap.size w v i wr) (fun _ i _ => l.length - (intOf i).toNat)
  case atStart => exact HST.out
  case round =>
    obtain ⟨j, hj, rfl, hown, hfr, hb, ao', cap', rfl⟩ := hrel
    have HOWN := Lib.hid hown
    have HFR := Lib.hid hfr
    have HB := Lib.hid hb
    clear hown hfr hb HST c
    by_cases hlt : j < l.length
    · have hji : (j : Int) < (l.length : Int) := by omega
      have hl := (HF.out _ HB.out).2.1
      have get : ∀ k u, k < 4 → (frOne (l.getD j default))[k]? = some u → ∃ g off, ao = some ⟨g, off, none⟩ ∧ wr.cell? ⟨g, off + j * 4 + k, none⟩ = some u ∧ g < wr.heap.size := fun k u hk hu => by
        obtain ⟨g, off, e, hcc, hbb⟩ := hl (j * 4 + k) u ((rec_get frOne 4 frOne_len l j k hlt hk).trans hu)
        exact ⟨g, off, e, by rw [Nat.add_assoc]; exact hcc, hbb⟩
      obtain ⟨g, off, rfl, c0, hg⟩ := get 0 _ (by decide) rfl
      obtain ⟨_, _, e1, c1, -⟩ := get 1 _ (by decide) rfl
      cases e1
      obtain ⟨_, _, e2, c2, -⟩ := get 2 _ (by decide) rfl
      cases e2
      obtain ⟨_, _, e3, c3, -⟩ := get 3 _ (by decide) rfl
      cases e3
      rw [Nat.add_zero] at c0
      have HS := Lib.hid (frOf_succ l who j)
      have HLN := Lib.hid (frOf_len l who j)
      obtain ⟨⟨x0, x1, x2, x3⟩, hx⟩ : ∃ x, l.getD j default = x := ⟨_, rfl⟩
      rw [hx] at c0 c1 c2 c3 HS
      dsimp only at c0 c1 c2 c3 HS
      clear get hl hx
      by_cases ho : x0 = who
      · subst ho
        rw [if_pos rfl] at HS
        have HE1 : Hid (ints (frOf l x0 (j + 1)) = ints (frOf l x0 j) ++ [.int .i64 (j : Int)]) := Lib.hid (by rw [HS.out]; simp [ints])
        have HE2 : Hid ((frOf l x0 (j + 1)).length = (frOf l x0 j).length + 1) := Lib.hid (by rw [HS.out]; simp)
        have hdl := HLN.out
        go_wp2_with (at_builtin; refine wpList_append_sep _ rfl _ _ 37 rfl 3 i0 (.int .i64 0) 1 8 Tryd.underlying37 hi hz0 hz1 hz2 rfl (by decide) _ _ _ rfl ((HOWN.out.alloc _).alloc _) ⟨wr.heap.size + 1, 0, none⟩ 1 1 [.int .i64 (j : Int)] rfl rfl ?_ (by simp [Value.oneCell']) (by unfold maxLen; omega) (by omega) ?_)
        · intro k u hk
          rw [Addr.add_lit]
          have hbn := blk_new (wr.alloc (.cells #[.int .i64 x0, .int .i64 x1, .int .i64 x2, .int .i64 x3] 33)) (.cells #[.int .i64 (j : Int)] 3)
          rw [show (wr.alloc (.cells #[.int .i64 x0, .int .i64 x1, .int .i64 x2, .int .i64 x3] 33)).heap.size = wr.heap.size + 1 by simp] at hbn
          refine (blk_cell hbn (0 + k)).trans ?_
          rw [Nat.zero_add, List.getElem?_toArray]
          exact hk
        · intro v' w10 ho4 hg4 hs4
          obtain ⟨ao4, cap4, rfl⟩ := own_slice ho4
          rw [← HE1.out] at ho4
          have hw4 : Below w.heap.size w w10 := ((HB.out.alloc HB.out.size _).alloc (HB.out.alloc HB.out.size _).size _).grown hg4 (Nat.le_trans HB.out.size (by simp; omega)) (fun j hj => HFR.out j hj)
          have HF4 := Lib.hid (show ∀ k, inRow (.slice ao4 ((frOf l x0 j).length + 1) cap4) k → w.heap.size ≤ k from fun k hk => by
            rcases hs4 k hk with h | h
            · exact HFR.out k h
            · have := HB.out.size; omega)
          have HO4 := Lib.hid ho4
          have HW4 := Lib.hid hw4
          clear ho4 hg4 hs4 hw4
          go_wp2
          go_roundw
          case rel => exact ⟨j + 1, by omega, by go_num, by rw [HE2.out]; exact HO4.out, HF4.out, HW4.out, ao4, cap4, by rw [HE2.out]⟩
          case measure => simp [intOf]; omega
      · rw [if_neg ho] at HS
        have ho' : (x0 == who) = false := by simp [ho]
        clear ho
        go_wp2
        go_roundw
        case rel => exact ⟨j + 1, by omega, by go_num, by rw [HS.out]; exact HOWN.out.alloc _, HFR.out, HB.out.alloc HB.out.size _, ao', cap', by rw [HS.out]⟩
        case measure => simp [intOf]; omega
    · obtain rfl : j = l.length := by omega
      go_wp2
      go_ret
      exact ⟨_, rfl, HOWN.out, HFR.out, HB.out, _, _, rfl⟩
end Go.Proofs.YtaoaachgnnengaaDoor
