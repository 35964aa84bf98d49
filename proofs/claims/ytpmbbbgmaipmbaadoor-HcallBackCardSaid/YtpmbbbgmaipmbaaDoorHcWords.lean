/-
  hcall.Words: calls as words.
-/
import Derived.Test.YtpmbbbgmaipmbaaDoorHcWordsLaw
namespace Go.Proofs.YtpmbbbgmaipmbaaDoor
open Go.ChangeShapes Go.WideShapes Go.ChangeAt Go.RowKit Go.Joins Go.Deep

theorem infoU32w : (Tryd.prog.info? 22).map (fun i => (i.zero, i.size, i.bytes)) = some (some (.int .u32 0), 1, 4) := by kernel_rfl
def WordsTo (l : List Hc) (s : Nat) (w : World) (v i : Value) (wr : World) : Prop :=
  ∃ j : Nat, j ≤ l.length ∧ i = .int .i64 (j : Int) ∧ wr.ownsRow 0 22 1 v (5 * j) (u32s (hcWords (l.take j))) ∧ (∀ k, inRow v k → s ≤ k) ∧ Below s w wr ∧ ∃ ao cap, v = .slice ao (5 * j) cap
theorem hc_cells (l : List Hc) (j k : Nat) (hj : j < l.length) (hk : k < 5) : (l.flatMap hcCells)[5 * j + k]? = (hcCells (l.getD j default))[k]? := by
  rw [show 5 * j + k = j * 5 + k by omega]
  exact rec_get hcCells 5 hc_len l j k hj hk
/-- the words of calls: a row of their own -/
def WordsPost (l : List Hc) (w : World) (e : Ending) (w' : World) : Prop :=
  ∃ v, e = .returned v ∧ w'.ownsRow 0 22 1 v (5 * l.length) (u32s (hcWords l)) ∧ (∀ k, inRow v k → w.heap.size ≤ k) ∧ Below w.heap.size w w'

set_option maxRecDepth 100000 in
set_option maxHeartbeats 4000000 in
theorem words_all (l : List Hc) (ao : Option Addr) (c : Nat) (w : World) (hn : l.length ≤ 16) (hl : AtL w ao (l.flatMap hcCells)) (hu : ∀ x ∈ l, 0 ≤ x.num ∧ x.num ≤ 1000) :
    Calls Tryd.prog 33 #[.slice ao l.length c] w (WordsPost l w) := by
  obtain ⟨i0, hi, hz0, hz1, hz2⟩ := info_parts infoU32w
  have HL := Lib.hid hl
  have HU := Lib.hid hu
  have HST : Hid (WordsTo l w.heap.size w (.slice none 0 0) (.int .i64 0) w) := Lib.hid ⟨0, Nat.zero_le _, rfl, own_nil _ _ _, fun k hk => by simp [inRow, Value.ownBlock] at hk, Below.refl _ _, none, 0, rfl⟩
  have HTK : Hid (l.take l.length = l) := Lib.hid (List.take_length)
  clear hl hu
  go_enter Tryd.func33, Tryd.ntmps33
  go_wp2_with fail
  go_loopw [3, 8] (fun v i wr => WordsTo l w.heap.size w v i wr) (fun _ i _ => l.length - (intOf i).toNat)
  case atStart => exact HST.out
  case round =>
    obtain ⟨j, hj, rfl, hown, hfr, hb, ao', cap', rfl⟩ := hrel
    have HOWN := Lib.hid hown
    have HFR := Lib.hid hfr
    have HB := Lib.hid hb
    clear hown hfr hb HST
    by_cases hlt : j < l.length
    · have hji : (j : Int) < (l.length : Int) := by omega
      have get : ∀ k u, k < 5 → (hcCells (l.getD j default))[k]? = some u → ∃ b off, ao = some ⟨b, off, none⟩ ∧ wr.cell? ⟨b, off + j * 5 + k, none⟩ = some u ∧ b < w.heap.size := fun k u hk hu => by
        obtain ⟨b, off, e, hcc, hbb⟩ := HL.out (5 * j + k) u ((hc_cells l j k hlt hk).trans hu)
        refine ⟨b, off, e, ?_, hbb⟩
        rw [show off + j * 5 + k = off + (5 * j + k) by omega]
        exact (HB.out.cell (p := ⟨b, off + (5 * j + k), none⟩) hbb).trans hcc
      have HNX : Hid (u32s (hcWords (l.take (j + 1))) = u32s (hcWords (l.take j)) ++ [.int .u32 (l.getD j default).num, .int .u32 (l.getD j default).a, .int .u32 (l.getD j default).b, .int .u32 (l.getD j default).c, .int .u32 (l.getD j default).d]) := Lib.hid (by rw [hcWords_next l j hlt]; unfold u32s; rw [List.map_append]; rfl)
      have hum : 0 ≤ (l.getD j default).num ∧ (l.getD j default).num ≤ 1000 := HU.out _ (by
        rw [List.getD_eq_getElem?_getD, List.getElem?_eq_getElem hlt]
        exact List.getElem_mem _)
      obtain ⟨⟨x0, x1, x2, x3, x4⟩, hx⟩ : ∃ x, l.getD j default = x := ⟨_, rfl⟩
      rw [hx] at get HNX hum
      dsimp only at HNX hum
      obtain ⟨lb, lo, rfl, d0, hlb⟩ := get 0 _ (by decide) rfl
      obtain ⟨_, _, e1, d1, -⟩ := get 1 _ (by decide) rfl
      cases e1
      obtain ⟨_, _, e2, d2, -⟩ := get 2 _ (by decide) rfl
      cases e2
      obtain ⟨_, _, e3, d3, -⟩ := get 3 _ (by decide) rfl
      cases e3
      obtain ⟨_, _, e4, d4, -⟩ := get 4 _ (by decide) rfl
      cases e4
      rw [Nat.add_zero] at d0
      have hlw : lb < wr.heap.size := Nat.lt_of_lt_of_le hlb HB.out.size
      have hwm := IntWalk.u32_in x0 (by omega)
      clear get hx
      have HNEW : Hid (∀ (k : Nat) (u : Value), ([.int .u32 x0, .int .u32 x1, .int .u32 x2, .int .u32 x3, .int .u32 x4] : List Value)[k]? = some u → ((wr.alloc (.cells #[.int .i64 x0, .int .u32 x1, .int .u32 x2, .int .u32 x3, .int .u32 x4] 55)).alloc (.cells #[.int .u32 x0, .int .u32 x1, .int .u32 x2, .int .u32 x3, .int .u32 x4] 22)).cell? ((⟨wr.heap.size + 1, 0, none⟩ : Addr).add k) = some u) := Lib.hid fun k u hk => by
        rw [Addr.add_lit]
        have hb := blk_new (wr.alloc (.cells #[.int .i64 x0, .int .u32 x1, .int .u32 x2, .int .u32 x3, .int .u32 x4] 55)) (.cells #[.int .u32 x0, .int .u32 x1, .int .u32 x2, .int .u32 x3, .int .u32 x4] 22)
        rw [show (wr.alloc (.cells #[.int .i64 x0, .int .u32 x1, .int .u32 x2, .int .u32 x3, .int .u32 x4] 55)).heap.size = wr.heap.size + 1 by simp] at hb
        refine (blk_cell hb (0 + k)).trans ?_
        rw [Nat.zero_add, List.getElem?_toArray]
        exact hk
      have HO5 : Hid (((wr.alloc (.cells #[.int .i64 x0, .int .u32 x1, .int .u32 x2, .int .u32 x3, .int .u32 x4] 55)).alloc (.cells #[.int .u32 x0, .int .u32 x1, .int .u32 x2, .int .u32 x3, .int .u32 x4] 22)).ownsRow 0 22 1 (.slice ao' (5 * j) cap') (5 * j) (u32s (hcWords (l.take j)))) := Lib.hid ((HOWN.out.alloc _).alloc _)
      have HW5 : Hid (Below w.heap.size w ((wr.alloc (.cells #[.int .i64 x0, .int .u32 x1, .int .u32 x2, .int .u32 x3, .int .u32 x4] 55)).alloc (.cells #[.int .u32 x0, .int .u32 x1, .int .u32 x2, .int .u32 x3, .int .u32 x4] 22))) := Lib.hid ((HB.out.alloc HB.out.size _).alloc (HB.out.alloc HB.out.size _).size _)
      have HJ : Hid (5 * j + 5 = 5 * (j + 1) ∧ j + 1 ≤ 16) := Lib.hid (by omega)
      go_wp2_with (at_builtin; refine wpList_append_sep _ rfl _ _ 63 rfl 22 i0 (.int .u32 0) 1 4 Tryd.underlying63 hi hz0 hz1 hz2 rfl (by decide) _ _ _ rfl HO5.out ⟨wr.heap.size + 1, 0, none⟩ 5 5 [.int .u32 x0, .int .u32 x1, .int .u32 x2, .int .u32 x3, .int .u32 x4] rfl rfl HNEW.out (by simp [Value.oneCell']) (by have := HJ.out; unfold maxLen; omega) (by have := HJ.out; omega) ?_)
      intro v' w10 ho4 hg4 hs4
      rw [← HNX.out, HJ.out.1] at ho4
      obtain ⟨ao4, cap4, rfl⟩ := own_slice ho4
      have hw4 : Below w.heap.size w w10 := HW5.out.grown hg4 HW5.out.size (fun j hj => HFR.out j hj)
      have HF4 := Lib.hid (show ∀ k, inRow (.slice ao4 (5 * (j + 1)) cap4) k → w.heap.size ≤ k from fun k hk => by
        rcases hs4 k hk with h | h
        · exact HFR.out k h
        · have := HB.out.size; omega)
      have HO4 := Lib.hid ho4
      have HW4 := Lib.hid hw4
      clear ho4 hg4 hs4 hw4 d0 d1 d2 d3 d4
      go_wp2
      go_roundw
      case rel => exact ⟨j + 1, by omega, by go_num, HO4.out, HF4.out, HW4.out, ao4, cap4, rfl⟩
      case measure => simp [intOf]; omega
    · obtain rfl : j = l.length := by omega
      rw [HTK.out] at HOWN
      go_wp2
      go_ret
      exact ⟨_, rfl, HOWN.out, HFR.out, HB.out⟩
end Go.Proofs.YtpmbbbgmaipmbaaDoor
