/-
  slices.Clone at uint32: the copy is in new memory and reads as what was copied; nothing that was there is turned.
-/
import Derived.Test.YtehmpdgpjpifoaaDoorRows
import Derived.Test.YtehmpdgpjpifoaaDoorOwn
namespace Go.Proofs.YtehmpdgpjpifoaaDoor
open Go.RowKit
theorem infoU32 : (Tryd.prog.info? 24).map (fun i => (i.zero, i.size, i.bytes)) = some (some (.int .u32 0), 1, 4) := by kernel_rfl

set_option maxHeartbeats 400000 in
theorem cloneU32 (v : Value) (n : Nat) (xs : List Value) (w : World) (hr : Reads w v n xs) (hn : n * 4 ≤ 140737488355328) (hl : xs.length = n * 1) (h1 : ∀ u ∈ xs, u.oneCell' = true) :
    Calls Tryd.prog 55 #[v] w fun e w' => ∃ v', e = .returned v' ∧ w'.ownsRow 0 24 1 v' n xs ∧ (∀ k, inRow v' k → w.heap.size ≤ k) ∧ Below w.heap.size w w' := by
  obtain ⟨i0, hi, hz0, hz1, hz2⟩ := info_parts infoU32
  rcases hr with ⟨rfl, rfl, rfl⟩ | ⟨a, cap, rfl, hc⟩
  · have heq := fun wx => Lib.run_eql_slice_nil (P := Tryd.prog) wx 25 24 none 0 0 0 0 Tryd.underlying25
    clear hl h1 hn
    go_enter Tryd.func55, Tryd.ntmps55
    go_wp2
    go_ret
    exact ⟨_, rfl, own_nil _ _ _, fun k hk => by simp [inRow, Value.ownBlock] at hk, Below.refl _ _⟩
  · have heq := fun wx => Lib.run_eql_slice_nil (P := Tryd.prog) wx 25 24 (some a) n cap 0 0 Tryd.underlying25
    have HC := Lib.hid hc
    have HL := Lib.hid hl
    have H1 := Lib.hid h1
    clear hc hl h1
    go_enter Tryd.func55, Tryd.ntmps55
    go_wp2_with (at_builtin; refine wpList_append_sep _ rfl _ _ 25 rfl 24 i0 (.int .u32 0) 1 4 Tryd.underlying25 hi hz0 hz1 hz2 rfl (by decide) (.slice (some ⟨w.heap.size, 0, none⟩) 0 0) 0 [] rfl (World.ownsRow_made w #[] 0 (Nat.zero_le _) (Nat.zero_le _) rfl) a n cap xs rfl HL.out ?_ H1.out (by unfold maxLen; omega) (by omega) ?_)
    · intro j u hj
      have := HC.out j u hj
      exact (World.cell?_of_block (blk_cell_old this)).trans this
    · intro v' w' ho hg hs
      have hk' : ∀ k, inRow v' k → w.heap.size ≤ k := fun k hk => by
        rcases hs k hk with h | h
        · simp [inRow, Value.ownBlock] at h; omega
        · exact Nat.le_trans (by simp) h
      have hb : Below w.heap.size w w' := ((Below.refl _ _).alloc (Nat.le_refl _) _).grown hg (by simp) (fun k hk => by simp [Value.ownBlock] at hk; omega)
      have ho' : w'.ownsRow 0 24 1 v' n xs := by simpa using ho
      clear ho hg hs HC HL H1
      go_wp2
      go_ret
      exact ⟨_, rfl, ho', hk', hb⟩
end Go.Proofs.YtehmpdgpjpifoaaDoor
