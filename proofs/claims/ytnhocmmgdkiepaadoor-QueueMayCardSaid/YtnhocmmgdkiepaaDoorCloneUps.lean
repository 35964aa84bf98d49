/-
  slices.Clone at facade/queue.Update: the copy is in new memory and reads as what was copied; nothing that was there is turned.
-/
import Derived.Test.YtnhocmmgdkiepaaDoorRows
import Derived.Test.YtnhocmmgdkiepaaDoorOwn
namespace Go.Proofs.YtnhocmmgdkiepaaDoor
open Go.RowKit
theorem infoUps : (Tryd.prog.info? 48).map (fun i => (i.zero, i.size, i.bytes)) = some (some (.agg #[.int .i64 0, .int .u32 0]), 2, 16) := by kernel_rfl

set_option maxHeartbeats 400000 in
theorem cloneUps (v : Value) (n : Nat) (xs : List Value) (w : World) (hr : Reads w v n xs) (hn : n * 16 ≤ 140737488355328) (hl : xs.length = n * 2) (h1 : ∀ u ∈ xs, u.oneCell' = true) :
    Calls Tryd.prog 64 #[v] w fun e w' => ∃ v', e = .returned v' ∧ w'.ownsRow 0 48 2 v' n xs ∧ (∀ k, inRow v' k → w.heap.size ≤ k) ∧ Below w.heap.size w w' := by
  obtain ⟨i0, hi, hz0, hz1, hz2⟩ := info_parts infoUps
  rcases hr with ⟨rfl, rfl, rfl⟩ | ⟨a, cap, rfl, hc⟩
  · have heq := fun wx => Lib.run_eql_slice_nil (P := Tryd.prog) wx 51 48 none 0 0 0 0 Tryd.underlying51
    clear hl h1 hn
    go_enter Tryd.func64, Tryd.ntmps64
    go_wp2
    go_ret
    exact ⟨_, rfl, own_nil _ _ _, fun k hk => by simp [inRow, Value.ownBlock] at hk, Below.refl _ _⟩
  · have heq := fun wx => Lib.run_eql_slice_nil (P := Tryd.prog) wx 51 48 (some a) n cap 0 0 Tryd.underlying51
    have HC := Lib.hid hc
    have HL := Lib.hid hl
    have H1 := Lib.hid h1
    clear hc hl h1
    go_enter Tryd.func64, Tryd.ntmps64
    go_wp2_with (at_builtin; refine wpList_append_sep _ rfl _ _ 51 rfl 48 i0 (.agg #[.int .i64 0, .int .u32 0]) 2 16 Tryd.underlying51 hi hz0 hz1 hz2 rfl (by decide) (.slice (some ⟨w.heap.size, 0, none⟩) 0 0) 0 [] rfl (World.ownsRow_made w #[] 0 (Nat.zero_le _) (Nat.zero_le _) rfl) a n cap xs rfl HL.out ?_ H1.out (by unfold maxLen; omega) (by omega) ?_)
    · intro j u hj
      have := HC.out j u hj
      exact (World.cell?_of_block (blk_cell_old this)).trans this
    · intro v' w' ho hg hs
      have hk' : ∀ k, inRow v' k → w.heap.size ≤ k := fun k hk => by
        rcases hs k hk with h | h
        · simp [inRow, Value.ownBlock] at h; omega
        · exact Nat.le_trans (by simp) h
      have hb : Below w.heap.size w w' := ((Below.refl _ _).alloc (Nat.le_refl _) _).grown hg (by simp) (fun k hk => by simp [Value.ownBlock] at hk; omega)
      have ho' : w'.ownsRow 0 48 2 v' n xs := by simpa using ho
      clear ho hg hs HC HL H1
      go_wp2
      go_ret
      exact ⟨_, rfl, ho', hk', hb⟩
end Go.Proofs.YtnhocmmgdkiepaaDoor
