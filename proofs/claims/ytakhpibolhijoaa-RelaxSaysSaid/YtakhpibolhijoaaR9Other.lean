/-
  facadelaw12.other: the items as the other's.
-/
import Derived.Test.YtakhpibolhijoaaR9
import Derived.Deep.RegionHeldLaw
import Derived.Deep.AppendLies
namespace Go.Proofs.Ytakhpibolhijoaa
open Go.RowKit

theorem infoIt9 : (Try.prog.info? 49).map (fun i => (i.zero, i.size, i.bytes)) = some (some (.agg #[.int .i64 0, .int .i64 0, .bool false]), 3, 24) := by kernel_rfl

theorem itCells_take (l : List Rx.It) (k : Nat) (h : k < l.length) : itCells (l.take (k + 1)) = itCells (l.take k) ++ [.int .i64 (l.getD k default).size, .int .i64 (l.getD k default).to_, .bool (l.getD k default).br] := by
  rw [List.take_succ_eq_append_getElem h, itCells_append, List.getD_eq_getElem?_getD, List.getElem?_eq_getElem h]
  rfl
def OtherTo (l : List Rx.It) (w : World) (v i : Value) (wr : World) : Prop :=
  ∃ k : Nat, k ≤ l.length ∧ i = .int .i64 k ∧ wr.ownsRow 0 49 3 v k (itCells (l.take k)) ∧ (∀ j, inRow v j → w.heap.size ≤ j) ∧ Below w.heap.size w wr ∧ ∃ ao cap, v = .slice ao k cap

set_option maxRecDepth 100000 in
set_option maxHeartbeats 2000000 in
theorem other_any (l : List Rx.It) (ao : Option Addr) (c1 : Nat) (w : World) (hl : AtL w ao (itCells l)) (hn : l.length ≤ 4096) :
    Calls Try.prog 15 #[.slice ao l.length c1] w fun e w' => ∃ v c, e = .returned (.slice v l.length c) ∧ AtL w' v (itCells l) ∧ Below w.heap.size w w' := by
  obtain ⟨i0, hi, hz0, hz1, hz2⟩ := info_parts infoIt9
  have HL := Lib.hid hl
  clear hl
  go_enter Try.func15, Try.ntmps15
  go_wp2_with fail
  go_loopw [3, 4] (fun v i wr => OtherTo l w v i wr) (fun _ i _ => l.length - (intOf i).toNat)
  case atStart => exact ⟨0, Nat.zero_le _, rfl, own_nil _ _ _, fun j hj => by simp [inRow, Value.ownBlock] at hj, Below.refl _ _, _, _, rfl⟩
  case round =>
    obtain ⟨k, hk, rfl, hown, hfr, hbw, ao', cap', rfl⟩ := hrel
    have HO := Lib.hid hown
    have HFR := Lib.hid hfr
    have HW := Lib.hid hbw
    clear hfr hbw hown
    by_cases hlt : k < l.length
    · obtain ⟨b, off, rfl, hb0, -, -, -⟩ := (AtIt.of HL.out) k hlt
      obtain ⟨b', off', he, -, x0, x1, x2⟩ := (AtIt.of (HL.out.mono HW.out)) k hlt
      cases he
      have HT := Lib.hid (itCells_take l k hlt)
      have hki : (k : Int) < (l.length : Int) := by omega
      have hk0 : (0 : Int) ≤ (k : Int) := by omega
      obtain ⟨s, hs⟩ : ∃ s, (l.getD k default).size = s := ⟨_, rfl⟩
      obtain ⟨t, ht⟩ : ∃ t, (l.getD k default).to_ = t := ⟨_, rfl⟩
      obtain ⟨r, hr⟩ : ∃ r, (l.getD k default).br = r := ⟨_, rfl⟩
      rw [hs] at x0 HT
      rw [ht] at x1 HT
      rw [hr] at x2 HT
      have HNEW : Hid (∀ (W : World) (T : TypeId) (j : Nat) (u : Value), ([.int .i64 s, .int .i64 t, .bool r] : List Value)[j]? = some u → (W.alloc (.cells #[.int .i64 s, .int .i64 t, .bool r] T)).cell? ((⟨W.heap.size, 0, none⟩ : Addr).add j) = some u) := Lib.hid fun W T j u hj => by
        rw [Addr.add_lit]
        obtain ⟨b, off, e, hc, -⟩ := atL_blk (vs := [.int .i64 s, .int .i64 t, .bool r]) (blk_new W (.cells #[.int .i64 s, .int .i64 t, .bool r] T)) rfl j u hj
        cases e
        exact hc
      have HONE : Hid (∀ u ∈ ([.int .i64 s, .int .i64 t, .bool r] : List Value), u.oneCell' = true) := Lib.hid fun u hu => by
        simp only [List.mem_cons, List.not_mem_nil, or_false] at hu
        rcases hu with rfl | rfl | rfl <;> rfl
      have HOA : Hid (∀ X, (wr.drew.alloc X).ownsRow 0 49 3 (.slice ao' k cap') k (itCells (l.take k))) := Lib.hid fun X => (show wr.drew.ownsRow _ _ _ _ _ _ from HO.out).alloc X
      have HBA : Hid (∀ X, Below w.heap.size w (wr.drew.alloc X)) := Lib.hid fun X => HW.out.drew.alloc HW.out.size X
      have HNE : Hid (some b ≠ (Value.slice ao' k cap').ownBlock) := Lib.hid fun e => by
        have := HFR.out b e.symm
        omega
      have HB0 := Lib.hid (show ∀ X, b < (wr.drew.alloc X).heap.size from fun X => by have := HW.out.size; simp; omega)
      clear hs ht hr hb0
      go_wp2_with fail
      go_region_held_law (fun w' => w'.cell? ⟨b, off + k * 3, none⟩ = some (.int .i64 s) ∧ w'.cell? ⟨b, off + k * 3 + 1, none⟩ = some (.int .i64 t) ∧ w'.cell? ⟨b, off + k * 3 + 2, none⟩ = some (.bool r))
        (first | go_keep | (go_split_ands; refine ⟨?_, ?_, ?_⟩ <;> (rw [hgrow.cell_far _ (HB0.out _) HNE.out]; assumption)))
        ((refine step_append_lies _ (by rfl) _ _ _ (by rfl) 0 49 i0 (.agg #[.int .i64 0, .int .i64 0, .bool false]) 3 24 Try.underlying37 hi hz0 hz1 hz2 rfl (by decide) (.slice ao' k cap') k (itCells (l.take k)) (by rfl) (HOA.out _) ⟨wr.heap.size, 0, none⟩ 1 1 [.int .i64 s, .int .i64 t, .bool r] (by rfl) rfl (HNEW.out wr.drew _) HONE.out (by decide) (by unfold maxLen; omega) (by omega) (Nat.zero_le _) _ rfl ?_; intro g cap w1 hown1 hgrow hat hlt1))
      rw [← HT.out] at hown1
      have HO1 := Lib.hid hown1
      have HW1 := Lib.hid ((HBA.out _).grown hgrow (HBA.out _).size (fun j hj => HFR.out j hj))
      have HF1 : Hid (∀ j, inRow (.slice (some ⟨g, 0, none⟩) (k + 1) cap) j → w.heap.size ≤ j) := Lib.hid fun j hj => by
        have hj' : g = j := by simpa [inRow, Value.ownBlock] using hj
        subst hj'
        rcases hat with h | h
        · exact HFR.out g h
        · have := HW.out.size
          have h' := h
          simp at h'
          omega
      clear hown1 hgrow hat hlt1
      go_wp2
      go_roundw
      case rel => exact ⟨k + 1, by omega, by go_num, HO1.out, HF1.out, HW1.out, _, _, rfl⟩
      case measure => simp [intOf]; omega
    · obtain rfl : k = l.length := by omega
      rw [List.take_length] at HO
      obtain ⟨e1, e2, he, hat⟩ := atL_of_own HO.out
      cases he
      have HAT := Lib.hid hat
      clear hat
      go_wp2
      go_ret
      exact ⟨_, _, rfl, HAT.out, HW.out⟩
end Go.Proofs.Ytakhpibolhijoaa
