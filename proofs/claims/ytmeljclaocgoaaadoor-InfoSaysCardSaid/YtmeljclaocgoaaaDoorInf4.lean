/-
  facaderef16.OfInfo, facadelaw23.other, same.
-/
import Derived.Test.YtmeljclaocgoaaaDoorInf3
import Derived.Test.YtmeljclaocgoaaaDoorSameWords
namespace Go.Proofs.YtmeljclaocgoaaaDoor
open Go.RowKit

set_option linter.unusedSimpArgs false

theorem rfa_blk0 (w : World) : (World.heap (w.alloc (.cells #[.int .u32 0, .int .u32 0, .int .i64 0, .bool false, .int .i64 0, .int .i64 0] 31)))[w.heap.size]? = some (.cells #[.int .u32 0, .int .u32 0, .int .i64 0, .bool false, .int .i64 0, .int .i64 0] 31 (0, 0)) := blk_new w _
theorem rfa_below (w : World) : Below w.heap.size w (w.alloc (.cells #[.int .u32 0, .int .u32 0, .int .i64 0, .bool false, .int .i64 0, .int .i64 0] 31)) := (Below.refl _ _).alloc (Nat.le_refl _) _
theorem rfa_put (w : World) (v0 v1 v2 v3 v4 v5 : Value) : Below w.heap.size w (World.setCell (World.setCell (World.setCell (World.setCell (World.setCell (World.setCell (w.alloc (.cells #[.int .u32 0, .int .u32 0, .int .i64 0, .bool false, .int .i64 0, .int .i64 0] 31)) ⟨w.heap.size, 0, none⟩ v0) ⟨w.heap.size, 1, none⟩ v1) ⟨w.heap.size, 2, none⟩ v2) ⟨w.heap.size, 3, none⟩ v3) ⟨w.heap.size, 4, none⟩ v4) ⟨w.heap.size, 5, none⟩ v5) := (Below.setCell (Below.setCell (Below.setCell (Below.setCell (Below.setCell (Below.setCell (rfa_below w ) (p := ⟨w.heap.size, 0, none⟩) (Nat.le_refl _) v0) (p := ⟨w.heap.size, 1, none⟩) (Nat.le_refl _) v1) (p := ⟨w.heap.size, 2, none⟩) (Nat.le_refl _) v2) (p := ⟨w.heap.size, 3, none⟩) (Nat.le_refl _) v3) (p := ⟨w.heap.size, 4, none⟩) (Nat.le_refl _) v4) (p := ⟨w.heap.size, 5, none⟩) (Nat.le_refl _) v5)
theorem rfa_blk (w : World) (v0 v1 v2 v3 v4 v5 : Value) : (World.heap (World.setCell (World.setCell (World.setCell (World.setCell (World.setCell (World.setCell (w.alloc (.cells #[.int .u32 0, .int .u32 0, .int .i64 0, .bool false, .int .i64 0, .int .i64 0] 31)) ⟨w.heap.size, 0, none⟩ v0) ⟨w.heap.size, 1, none⟩ v1) ⟨w.heap.size, 2, none⟩ v2) ⟨w.heap.size, 3, none⟩ v3) ⟨w.heap.size, 4, none⟩ v4) ⟨w.heap.size, 5, none⟩ v5))[w.heap.size]? = some (.cells #[v0, v1, v2, v3, v4, v5] 31 (0, 0)) := (blk_put (blk_put (blk_put (blk_put (blk_put (blk_put (rfa_blk0 w ) 0 v0) 1 v1) 2 v2) 3 v3) 4 v4) 5 v5)
theorem rfa_0 (w : World) (v0 v1 v2 v3 v4 v5 : Value) : World.cell? (World.setCell (World.setCell (World.setCell (World.setCell (World.setCell (World.setCell (w.alloc (.cells #[.int .u32 0, .int .u32 0, .int .i64 0, .bool false, .int .i64 0, .int .i64 0] 31)) ⟨w.heap.size, 0, none⟩ v0) ⟨w.heap.size, 1, none⟩ v1) ⟨w.heap.size, 2, none⟩ v2) ⟨w.heap.size, 3, none⟩ v3) ⟨w.heap.size, 4, none⟩ v4) ⟨w.heap.size, 5, none⟩ v5) ⟨w.heap.size, 0, none⟩ = some v0 := blk_cell (rfa_blk w v0 v1 v2 v3 v4 v5) 0
theorem rfa_1 (w : World) (v0 v1 v2 v3 v4 v5 : Value) : World.cell? (World.setCell (World.setCell (World.setCell (World.setCell (World.setCell (World.setCell (w.alloc (.cells #[.int .u32 0, .int .u32 0, .int .i64 0, .bool false, .int .i64 0, .int .i64 0] 31)) ⟨w.heap.size, 0, none⟩ v0) ⟨w.heap.size, 1, none⟩ v1) ⟨w.heap.size, 2, none⟩ v2) ⟨w.heap.size, 3, none⟩ v3) ⟨w.heap.size, 4, none⟩ v4) ⟨w.heap.size, 5, none⟩ v5) ⟨w.heap.size, 1, none⟩ = some v1 := blk_cell (rfa_blk w v0 v1 v2 v3 v4 v5) 1
theorem rfa_2 (w : World) (v0 v1 v2 v3 v4 v5 : Value) : World.cell? (World.setCell (World.setCell (World.setCell (World.setCell (World.setCell (World.setCell (w.alloc (.cells #[.int .u32 0, .int .u32 0, .int .i64 0, .bool false, .int .i64 0, .int .i64 0] 31)) ⟨w.heap.size, 0, none⟩ v0) ⟨w.heap.size, 1, none⟩ v1) ⟨w.heap.size, 2, none⟩ v2) ⟨w.heap.size, 3, none⟩ v3) ⟨w.heap.size, 4, none⟩ v4) ⟨w.heap.size, 5, none⟩ v5) ⟨w.heap.size, 2, none⟩ = some v2 := blk_cell (rfa_blk w v0 v1 v2 v3 v4 v5) 2
theorem rfa_3 (w : World) (v0 v1 v2 v3 v4 v5 : Value) : World.cell? (World.setCell (World.setCell (World.setCell (World.setCell (World.setCell (World.setCell (w.alloc (.cells #[.int .u32 0, .int .u32 0, .int .i64 0, .bool false, .int .i64 0, .int .i64 0] 31)) ⟨w.heap.size, 0, none⟩ v0) ⟨w.heap.size, 1, none⟩ v1) ⟨w.heap.size, 2, none⟩ v2) ⟨w.heap.size, 3, none⟩ v3) ⟨w.heap.size, 4, none⟩ v4) ⟨w.heap.size, 5, none⟩ v5) ⟨w.heap.size, 3, none⟩ = some v3 := blk_cell (rfa_blk w v0 v1 v2 v3 v4 v5) 3
theorem rfa_4 (w : World) (v0 v1 v2 v3 v4 v5 : Value) : World.cell? (World.setCell (World.setCell (World.setCell (World.setCell (World.setCell (World.setCell (w.alloc (.cells #[.int .u32 0, .int .u32 0, .int .i64 0, .bool false, .int .i64 0, .int .i64 0] 31)) ⟨w.heap.size, 0, none⟩ v0) ⟨w.heap.size, 1, none⟩ v1) ⟨w.heap.size, 2, none⟩ v2) ⟨w.heap.size, 3, none⟩ v3) ⟨w.heap.size, 4, none⟩ v4) ⟨w.heap.size, 5, none⟩ v5) ⟨w.heap.size, 4, none⟩ = some v4 := blk_cell (rfa_blk w v0 v1 v2 v3 v4 v5) 4
theorem rfa_5 (w : World) (v0 v1 v2 v3 v4 v5 : Value) : World.cell? (World.setCell (World.setCell (World.setCell (World.setCell (World.setCell (World.setCell (w.alloc (.cells #[.int .u32 0, .int .u32 0, .int .i64 0, .bool false, .int .i64 0, .int .i64 0] 31)) ⟨w.heap.size, 0, none⟩ v0) ⟨w.heap.size, 1, none⟩ v1) ⟨w.heap.size, 2, none⟩ v2) ⟨w.heap.size, 3, none⟩ v3) ⟨w.heap.size, 4, none⟩ v4) ⟨w.heap.size, 5, none⟩ v5) ⟨w.heap.size, 5, none⟩ = some v5 := blk_cell (rfa_blk w v0 v1 v2 v3 v4 v5) 5
theorem rfb_blk0 (w : World) (n : Nat) : (World.heap ((w.alloc (.cells #[.int .u32 0, .int .u32 0, .int .i64 0, .bool false, .int .i64 0, .int .i64 0] 31)).drewN n))[w.heap.size]? = some (.cells #[.int .u32 0, .int .u32 0, .int .i64 0, .bool false, .int .i64 0, .int .i64 0] 31 (0, 0)) := by
  rw [(below_drewN (Below.refl (w.alloc (.cells #[.int .u32 0, .int .u32 0, .int .i64 0, .bool false, .int .i64 0, .int .i64 0] 31)).heap.size _) n).block _ (by simp)]
  exact blk_new w _
theorem rfb_below (w : World) (n : Nat) : Below w.heap.size w ((w.alloc (.cells #[.int .u32 0, .int .u32 0, .int .i64 0, .bool false, .int .i64 0, .int .i64 0] 31)).drewN n) := below_drewN ((Below.refl _ _).alloc (Nat.le_refl _) _) n
theorem rfb_put (w : World) (n : Nat) (v0 v1 v2 v3 v4 v5 : Value) : Below w.heap.size w (World.setCell (World.setCell (World.setCell (World.setCell (World.setCell (World.setCell ((w.alloc (.cells #[.int .u32 0, .int .u32 0, .int .i64 0, .bool false, .int .i64 0, .int .i64 0] 31)).drewN n) ⟨w.heap.size, 0, none⟩ v0) ⟨w.heap.size, 1, none⟩ v1) ⟨w.heap.size, 2, none⟩ v2) ⟨w.heap.size, 3, none⟩ v3) ⟨w.heap.size, 4, none⟩ v4) ⟨w.heap.size, 5, none⟩ v5) := (Below.setCell (Below.setCell (Below.setCell (Below.setCell (Below.setCell (Below.setCell (rfb_below w n) (p := ⟨w.heap.size, 0, none⟩) (Nat.le_refl _) v0) (p := ⟨w.heap.size, 1, none⟩) (Nat.le_refl _) v1) (p := ⟨w.heap.size, 2, none⟩) (Nat.le_refl _) v2) (p := ⟨w.heap.size, 3, none⟩) (Nat.le_refl _) v3) (p := ⟨w.heap.size, 4, none⟩) (Nat.le_refl _) v4) (p := ⟨w.heap.size, 5, none⟩) (Nat.le_refl _) v5)
theorem rfb_blk (w : World) (n : Nat) (v0 v1 v2 v3 v4 v5 : Value) : (World.heap (World.setCell (World.setCell (World.setCell (World.setCell (World.setCell (World.setCell ((w.alloc (.cells #[.int .u32 0, .int .u32 0, .int .i64 0, .bool false, .int .i64 0, .int .i64 0] 31)).drewN n) ⟨w.heap.size, 0, none⟩ v0) ⟨w.heap.size, 1, none⟩ v1) ⟨w.heap.size, 2, none⟩ v2) ⟨w.heap.size, 3, none⟩ v3) ⟨w.heap.size, 4, none⟩ v4) ⟨w.heap.size, 5, none⟩ v5))[w.heap.size]? = some (.cells #[v0, v1, v2, v3, v4, v5] 31 (0, 0)) := (blk_put (blk_put (blk_put (blk_put (blk_put (blk_put (rfb_blk0 w n) 0 v0) 1 v1) 2 v2) 3 v3) 4 v4) 5 v5)
theorem rfb_0 (w : World) (n : Nat) (v0 v1 v2 v3 v4 v5 : Value) : World.cell? (World.setCell (World.setCell (World.setCell (World.setCell (World.setCell (World.setCell ((w.alloc (.cells #[.int .u32 0, .int .u32 0, .int .i64 0, .bool false, .int .i64 0, .int .i64 0] 31)).drewN n) ⟨w.heap.size, 0, none⟩ v0) ⟨w.heap.size, 1, none⟩ v1) ⟨w.heap.size, 2, none⟩ v2) ⟨w.heap.size, 3, none⟩ v3) ⟨w.heap.size, 4, none⟩ v4) ⟨w.heap.size, 5, none⟩ v5) ⟨w.heap.size, 0, none⟩ = some v0 := blk_cell (rfb_blk w n v0 v1 v2 v3 v4 v5) 0
theorem rfb_1 (w : World) (n : Nat) (v0 v1 v2 v3 v4 v5 : Value) : World.cell? (World.setCell (World.setCell (World.setCell (World.setCell (World.setCell (World.setCell ((w.alloc (.cells #[.int .u32 0, .int .u32 0, .int .i64 0, .bool false, .int .i64 0, .int .i64 0] 31)).drewN n) ⟨w.heap.size, 0, none⟩ v0) ⟨w.heap.size, 1, none⟩ v1) ⟨w.heap.size, 2, none⟩ v2) ⟨w.heap.size, 3, none⟩ v3) ⟨w.heap.size, 4, none⟩ v4) ⟨w.heap.size, 5, none⟩ v5) ⟨w.heap.size, 1, none⟩ = some v1 := blk_cell (rfb_blk w n v0 v1 v2 v3 v4 v5) 1
theorem rfb_2 (w : World) (n : Nat) (v0 v1 v2 v3 v4 v5 : Value) : World.cell? (World.setCell (World.setCell (World.setCell (World.setCell (World.setCell (World.setCell ((w.alloc (.cells #[.int .u32 0, .int .u32 0, .int .i64 0, .bool false, .int .i64 0, .int .i64 0] 31)).drewN n) ⟨w.heap.size, 0, none⟩ v0) ⟨w.heap.size, 1, none⟩ v1) ⟨w.heap.size, 2, none⟩ v2) ⟨w.heap.size, 3, none⟩ v3) ⟨w.heap.size, 4, none⟩ v4) ⟨w.heap.size, 5, none⟩ v5) ⟨w.heap.size, 2, none⟩ = some v2 := blk_cell (rfb_blk w n v0 v1 v2 v3 v4 v5) 2
theorem rfb_3 (w : World) (n : Nat) (v0 v1 v2 v3 v4 v5 : Value) : World.cell? (World.setCell (World.setCell (World.setCell (World.setCell (World.setCell (World.setCell ((w.alloc (.cells #[.int .u32 0, .int .u32 0, .int .i64 0, .bool false, .int .i64 0, .int .i64 0] 31)).drewN n) ⟨w.heap.size, 0, none⟩ v0) ⟨w.heap.size, 1, none⟩ v1) ⟨w.heap.size, 2, none⟩ v2) ⟨w.heap.size, 3, none⟩ v3) ⟨w.heap.size, 4, none⟩ v4) ⟨w.heap.size, 5, none⟩ v5) ⟨w.heap.size, 3, none⟩ = some v3 := blk_cell (rfb_blk w n v0 v1 v2 v3 v4 v5) 3
theorem rfb_4 (w : World) (n : Nat) (v0 v1 v2 v3 v4 v5 : Value) : World.cell? (World.setCell (World.setCell (World.setCell (World.setCell (World.setCell (World.setCell ((w.alloc (.cells #[.int .u32 0, .int .u32 0, .int .i64 0, .bool false, .int .i64 0, .int .i64 0] 31)).drewN n) ⟨w.heap.size, 0, none⟩ v0) ⟨w.heap.size, 1, none⟩ v1) ⟨w.heap.size, 2, none⟩ v2) ⟨w.heap.size, 3, none⟩ v3) ⟨w.heap.size, 4, none⟩ v4) ⟨w.heap.size, 5, none⟩ v5) ⟨w.heap.size, 4, none⟩ = some v4 := blk_cell (rfb_blk w n v0 v1 v2 v3 v4 v5) 4
theorem rfb_5 (w : World) (n : Nat) (v0 v1 v2 v3 v4 v5 : Value) : World.cell? (World.setCell (World.setCell (World.setCell (World.setCell (World.setCell (World.setCell ((w.alloc (.cells #[.int .u32 0, .int .u32 0, .int .i64 0, .bool false, .int .i64 0, .int .i64 0] 31)).drewN n) ⟨w.heap.size, 0, none⟩ v0) ⟨w.heap.size, 1, none⟩ v1) ⟨w.heap.size, 2, none⟩ v2) ⟨w.heap.size, 3, none⟩ v3) ⟨w.heap.size, 4, none⟩ v4) ⟨w.heap.size, 5, none⟩ v5) ⟨w.heap.size, 5, none⟩ = some v5 := blk_cell (rfb_blk w n v0 v1 v2 v3 v4 v5) 5
theorem rfc_blk0 (w : World) : (World.heap ((w.alloc (.cells #[.int .u32 0, .int .u32 0, .int .i64 0, .bool false, .int .i64 0, .int .i64 0] 31)).drew))[w.heap.size]? = some (.cells #[.int .u32 0, .int .u32 0, .int .i64 0, .bool false, .int .i64 0, .int .i64 0] 31 (0, 0)) := blk_new w _
theorem rfc_below (w : World) : Below w.heap.size w ((w.alloc (.cells #[.int .u32 0, .int .u32 0, .int .i64 0, .bool false, .int .i64 0, .int .i64 0] 31)).drew) := ((Below.refl _ _).alloc (Nat.le_refl _) _).drew
theorem rfc_put (w : World) (v0 v1 v2 v3 v4 v5 : Value) : Below w.heap.size w (World.setCell (World.setCell (World.setCell (World.setCell (World.setCell (World.setCell ((w.alloc (.cells #[.int .u32 0, .int .u32 0, .int .i64 0, .bool false, .int .i64 0, .int .i64 0] 31)).drew) ⟨w.heap.size, 0, none⟩ v0) ⟨w.heap.size, 1, none⟩ v1) ⟨w.heap.size, 2, none⟩ v2) ⟨w.heap.size, 3, none⟩ v3) ⟨w.heap.size, 4, none⟩ v4) ⟨w.heap.size, 5, none⟩ v5) := (Below.setCell (Below.setCell (Below.setCell (Below.setCell (Below.setCell (Below.setCell (rfc_below w ) (p := ⟨w.heap.size, 0, none⟩) (Nat.le_refl _) v0) (p := ⟨w.heap.size, 1, none⟩) (Nat.le_refl _) v1) (p := ⟨w.heap.size, 2, none⟩) (Nat.le_refl _) v2) (p := ⟨w.heap.size, 3, none⟩) (Nat.le_refl _) v3) (p := ⟨w.heap.size, 4, none⟩) (Nat.le_refl _) v4) (p := ⟨w.heap.size, 5, none⟩) (Nat.le_refl _) v5)
theorem rfc_blk (w : World) (v0 v1 v2 v3 v4 v5 : Value) : (World.heap (World.setCell (World.setCell (World.setCell (World.setCell (World.setCell (World.setCell ((w.alloc (.cells #[.int .u32 0, .int .u32 0, .int .i64 0, .bool false, .int .i64 0, .int .i64 0] 31)).drew) ⟨w.heap.size, 0, none⟩ v0) ⟨w.heap.size, 1, none⟩ v1) ⟨w.heap.size, 2, none⟩ v2) ⟨w.heap.size, 3, none⟩ v3) ⟨w.heap.size, 4, none⟩ v4) ⟨w.heap.size, 5, none⟩ v5))[w.heap.size]? = some (.cells #[v0, v1, v2, v3, v4, v5] 31 (0, 0)) := (blk_put (blk_put (blk_put (blk_put (blk_put (blk_put (rfc_blk0 w ) 0 v0) 1 v1) 2 v2) 3 v3) 4 v4) 5 v5)
theorem rfc_0 (w : World) (v0 v1 v2 v3 v4 v5 : Value) : World.cell? (World.setCell (World.setCell (World.setCell (World.setCell (World.setCell (World.setCell ((w.alloc (.cells #[.int .u32 0, .int .u32 0, .int .i64 0, .bool false, .int .i64 0, .int .i64 0] 31)).drew) ⟨w.heap.size, 0, none⟩ v0) ⟨w.heap.size, 1, none⟩ v1) ⟨w.heap.size, 2, none⟩ v2) ⟨w.heap.size, 3, none⟩ v3) ⟨w.heap.size, 4, none⟩ v4) ⟨w.heap.size, 5, none⟩ v5) ⟨w.heap.size, 0, none⟩ = some v0 := blk_cell (rfc_blk w v0 v1 v2 v3 v4 v5) 0
theorem rfc_1 (w : World) (v0 v1 v2 v3 v4 v5 : Value) : World.cell? (World.setCell (World.setCell (World.setCell (World.setCell (World.setCell (World.setCell ((w.alloc (.cells #[.int .u32 0, .int .u32 0, .int .i64 0, .bool false, .int .i64 0, .int .i64 0] 31)).drew) ⟨w.heap.size, 0, none⟩ v0) ⟨w.heap.size, 1, none⟩ v1) ⟨w.heap.size, 2, none⟩ v2) ⟨w.heap.size, 3, none⟩ v3) ⟨w.heap.size, 4, none⟩ v4) ⟨w.heap.size, 5, none⟩ v5) ⟨w.heap.size, 1, none⟩ = some v1 := blk_cell (rfc_blk w v0 v1 v2 v3 v4 v5) 1
theorem rfc_2 (w : World) (v0 v1 v2 v3 v4 v5 : Value) : World.cell? (World.setCell (World.setCell (World.setCell (World.setCell (World.setCell (World.setCell ((w.alloc (.cells #[.int .u32 0, .int .u32 0, .int .i64 0, .bool false, .int .i64 0, .int .i64 0] 31)).drew) ⟨w.heap.size, 0, none⟩ v0) ⟨w.heap.size, 1, none⟩ v1) ⟨w.heap.size, 2, none⟩ v2) ⟨w.heap.size, 3, none⟩ v3) ⟨w.heap.size, 4, none⟩ v4) ⟨w.heap.size, 5, none⟩ v5) ⟨w.heap.size, 2, none⟩ = some v2 := blk_cell (rfc_blk w v0 v1 v2 v3 v4 v5) 2
theorem rfc_3 (w : World) (v0 v1 v2 v3 v4 v5 : Value) : World.cell? (World.setCell (World.setCell (World.setCell (World.setCell (World.setCell (World.setCell ((w.alloc (.cells #[.int .u32 0, .int .u32 0, .int .i64 0, .bool false, .int .i64 0, .int .i64 0] 31)).drew) ⟨w.heap.size, 0, none⟩ v0) ⟨w.heap.size, 1, none⟩ v1) ⟨w.heap.size, 2, none⟩ v2) ⟨w.heap.size, 3, none⟩ v3) ⟨w.heap.size, 4, none⟩ v4) ⟨w.heap.size, 5, none⟩ v5) ⟨w.heap.size, 3, none⟩ = some v3 := blk_cell (rfc_blk w v0 v1 v2 v3 v4 v5) 3
theorem rfc_4 (w : World) (v0 v1 v2 v3 v4 v5 : Value) : World.cell? (World.setCell (World.setCell (World.setCell (World.setCell (World.setCell (World.setCell ((w.alloc (.cells #[.int .u32 0, .int .u32 0, .int .i64 0, .bool false, .int .i64 0, .int .i64 0] 31)).drew) ⟨w.heap.size, 0, none⟩ v0) ⟨w.heap.size, 1, none⟩ v1) ⟨w.heap.size, 2, none⟩ v2) ⟨w.heap.size, 3, none⟩ v3) ⟨w.heap.size, 4, none⟩ v4) ⟨w.heap.size, 5, none⟩ v5) ⟨w.heap.size, 4, none⟩ = some v4 := blk_cell (rfc_blk w v0 v1 v2 v3 v4 v5) 4
theorem rfc_5 (w : World) (v0 v1 v2 v3 v4 v5 : Value) : World.cell? (World.setCell (World.setCell (World.setCell (World.setCell (World.setCell (World.setCell ((w.alloc (.cells #[.int .u32 0, .int .u32 0, .int .i64 0, .bool false, .int .i64 0, .int .i64 0] 31)).drew) ⟨w.heap.size, 0, none⟩ v0) ⟨w.heap.size, 1, none⟩ v1) ⟨w.heap.size, 2, none⟩ v2) ⟨w.heap.size, 3, none⟩ v3) ⟨w.heap.size, 4, none⟩ v4) ⟨w.heap.size, 5, none⟩ v5) ⟨w.heap.size, 5, none⟩ = some v5 := blk_cell (rfc_blk w v0 v1 v2 v3 v4 v5) 5
theorem rfd_blk0 (w : World) (n : Nat) : (World.heap (((w.alloc (.cells #[.int .u32 0, .int .u32 0, .int .i64 0, .bool false, .int .i64 0, .int .i64 0] 31)).drewN n).drew))[w.heap.size]? = some (.cells #[.int .u32 0, .int .u32 0, .int .i64 0, .bool false, .int .i64 0, .int .i64 0] 31 (0, 0)) := by
  rw [((below_drewN (Below.refl (w.alloc (.cells #[.int .u32 0, .int .u32 0, .int .i64 0, .bool false, .int .i64 0, .int .i64 0] 31)).heap.size _) n).drew).block _ (by simp)]
  exact blk_new w _
theorem rfd_below (w : World) (n : Nat) : Below w.heap.size w (((w.alloc (.cells #[.int .u32 0, .int .u32 0, .int .i64 0, .bool false, .int .i64 0, .int .i64 0] 31)).drewN n).drew) := (below_drewN ((Below.refl _ _).alloc (Nat.le_refl _) _) n).drew
theorem rfd_put (w : World) (n : Nat) (v0 v1 v2 v3 v4 v5 : Value) : Below w.heap.size w (World.setCell (World.setCell (World.setCell (World.setCell (World.setCell (World.setCell (((w.alloc (.cells #[.int .u32 0, .int .u32 0, .int .i64 0, .bool false, .int .i64 0, .int .i64 0] 31)).drewN n).drew) ⟨w.heap.size, 0, none⟩ v0) ⟨w.heap.size, 1, none⟩ v1) ⟨w.heap.size, 2, none⟩ v2) ⟨w.heap.size, 3, none⟩ v3) ⟨w.heap.size, 4, none⟩ v4) ⟨w.heap.size, 5, none⟩ v5) := (Below.setCell (Below.setCell (Below.setCell (Below.setCell (Below.setCell (Below.setCell (rfd_below w n) (p := ⟨w.heap.size, 0, none⟩) (Nat.le_refl _) v0) (p := ⟨w.heap.size, 1, none⟩) (Nat.le_refl _) v1) (p := ⟨w.heap.size, 2, none⟩) (Nat.le_refl _) v2) (p := ⟨w.heap.size, 3, none⟩) (Nat.le_refl _) v3) (p := ⟨w.heap.size, 4, none⟩) (Nat.le_refl _) v4) (p := ⟨w.heap.size, 5, none⟩) (Nat.le_refl _) v5)
theorem rfd_blk (w : World) (n : Nat) (v0 v1 v2 v3 v4 v5 : Value) : (World.heap (World.setCell (World.setCell (World.setCell (World.setCell (World.setCell (World.setCell (((w.alloc (.cells #[.int .u32 0, .int .u32 0, .int .i64 0, .bool false, .int .i64 0, .int .i64 0] 31)).drewN n).drew) ⟨w.heap.size, 0, none⟩ v0) ⟨w.heap.size, 1, none⟩ v1) ⟨w.heap.size, 2, none⟩ v2) ⟨w.heap.size, 3, none⟩ v3) ⟨w.heap.size, 4, none⟩ v4) ⟨w.heap.size, 5, none⟩ v5))[w.heap.size]? = some (.cells #[v0, v1, v2, v3, v4, v5] 31 (0, 0)) := (blk_put (blk_put (blk_put (blk_put (blk_put (blk_put (rfd_blk0 w n) 0 v0) 1 v1) 2 v2) 3 v3) 4 v4) 5 v5)
theorem rfd_0 (w : World) (n : Nat) (v0 v1 v2 v3 v4 v5 : Value) : World.cell? (World.setCell (World.setCell (World.setCell (World.setCell (World.setCell (World.setCell (((w.alloc (.cells #[.int .u32 0, .int .u32 0, .int .i64 0, .bool false, .int .i64 0, .int .i64 0] 31)).drewN n).drew) ⟨w.heap.size, 0, none⟩ v0) ⟨w.heap.size, 1, none⟩ v1) ⟨w.heap.size, 2, none⟩ v2) ⟨w.heap.size, 3, none⟩ v3) ⟨w.heap.size, 4, none⟩ v4) ⟨w.heap.size, 5, none⟩ v5) ⟨w.heap.size, 0, none⟩ = some v0 := blk_cell (rfd_blk w n v0 v1 v2 v3 v4 v5) 0
theorem rfd_1 (w : World) (n : Nat) (v0 v1 v2 v3 v4 v5 : Value) : World.cell? (World.setCell (World.setCell (World.setCell (World.setCell (World.setCell (World.setCell (((w.alloc (.cells #[.int .u32 0, .int .u32 0, .int .i64 0, .bool false, .int .i64 0, .int .i64 0] 31)).drewN n).drew) ⟨w.heap.size, 0, none⟩ v0) ⟨w.heap.size, 1, none⟩ v1) ⟨w.heap.size, 2, none⟩ v2) ⟨w.heap.size, 3, none⟩ v3) ⟨w.heap.size, 4, none⟩ v4) ⟨w.heap.size, 5, none⟩ v5) ⟨w.heap.size, 1, none⟩ = some v1 := blk_cell (rfd_blk w n v0 v1 v2 v3 v4 v5) 1
theorem rfd_2 (w : World) (n : Nat) (v0 v1 v2 v3 v4 v5 : Value) : World.cell? (World.setCell (World.setCell (World.setCell (World.setCell (World.setCell (World.setCell (((w.alloc (.cells #[.int .u32 0, .int .u32 0, .int .i64 0, .bool false, .int .i64 0, .int .i64 0] 31)).drewN n).drew) ⟨w.heap.size, 0, none⟩ v0) ⟨w.heap.size, 1, none⟩ v1) ⟨w.heap.size, 2, none⟩ v2) ⟨w.heap.size, 3, none⟩ v3) ⟨w.heap.size, 4, none⟩ v4) ⟨w.heap.size, 5, none⟩ v5) ⟨w.heap.size, 2, none⟩ = some v2 := blk_cell (rfd_blk w n v0 v1 v2 v3 v4 v5) 2
theorem rfd_3 (w : World) (n : Nat) (v0 v1 v2 v3 v4 v5 : Value) : World.cell? (World.setCell (World.setCell (World.setCell (World.setCell (World.setCell (World.setCell (((w.alloc (.cells #[.int .u32 0, .int .u32 0, .int .i64 0, .bool false, .int .i64 0, .int .i64 0] 31)).drewN n).drew) ⟨w.heap.size, 0, none⟩ v0) ⟨w.heap.size, 1, none⟩ v1) ⟨w.heap.size, 2, none⟩ v2) ⟨w.heap.size, 3, none⟩ v3) ⟨w.heap.size, 4, none⟩ v4) ⟨w.heap.size, 5, none⟩ v5) ⟨w.heap.size, 3, none⟩ = some v3 := blk_cell (rfd_blk w n v0 v1 v2 v3 v4 v5) 3
theorem rfd_4 (w : World) (n : Nat) (v0 v1 v2 v3 v4 v5 : Value) : World.cell? (World.setCell (World.setCell (World.setCell (World.setCell (World.setCell (World.setCell (((w.alloc (.cells #[.int .u32 0, .int .u32 0, .int .i64 0, .bool false, .int .i64 0, .int .i64 0] 31)).drewN n).drew) ⟨w.heap.size, 0, none⟩ v0) ⟨w.heap.size, 1, none⟩ v1) ⟨w.heap.size, 2, none⟩ v2) ⟨w.heap.size, 3, none⟩ v3) ⟨w.heap.size, 4, none⟩ v4) ⟨w.heap.size, 5, none⟩ v5) ⟨w.heap.size, 4, none⟩ = some v4 := blk_cell (rfd_blk w n v0 v1 v2 v3 v4 v5) 4
theorem rfd_5 (w : World) (n : Nat) (v0 v1 v2 v3 v4 v5 : Value) : World.cell? (World.setCell (World.setCell (World.setCell (World.setCell (World.setCell (World.setCell (((w.alloc (.cells #[.int .u32 0, .int .u32 0, .int .i64 0, .bool false, .int .i64 0, .int .i64 0] 31)).drewN n).drew) ⟨w.heap.size, 0, none⟩ v0) ⟨w.heap.size, 1, none⟩ v1) ⟨w.heap.size, 2, none⟩ v2) ⟨w.heap.size, 3, none⟩ v3) ⟨w.heap.size, 4, none⟩ v4) ⟨w.heap.size, 5, none⟩ v5) ⟨w.heap.size, 5, none⟩ = some v5 := blk_cell (rfd_blk w n v0 v1 v2 v3 v4 v5) 5

def ofAns (l : List Int) : Value := .tuple #[infV (infOf l), .bool (infOK l)]
theorem ofAns_no {l : List Int} (h : infOK l = false) : ofAns l = .tuple #[infV infZ, .bool false] := by
  unfold ofAns
  rw [infOf_no h, h]
theorem ofAns_ok {l : List Int} (h : infOK l = true) : ofAns l = .tuple #[infV ⟨l.getD 0 0, l.getD 1 0, l.getD 2 0 + l.getD 3 0 * 4294967296, l.getD 4 0 == 1, l.getD 5 0, l.getD 6 0⟩, .bool true] := by
  unfold ofAns
  rw [infOf_ok h, h]
def OfTo (l : List Int) (i : Value) : Prop := ∃ k : Nat, 7 ≤ k ∧ k ≤ 16 ∧ i = .int .i64 k ∧ nzIs ((l.drop 7).take (k - 7)) = false
theorem ofTo_next {l : List Int} {k : Nat} (h : l.length = 16) (h7 : 7 ≤ k) (h16 : k < 16) (hno : nzIs ((l.drop 7).take (k - 7)) = false) (hz : (l.getD k 0 != 0) = false) : nzIs ((l.drop 7).take (k + 1 - 7)) = false := by
  have e : k + 1 - 7 = (k - 7) + 1 := by omega
  rw [e, take_nz (l.drop 7) (k - 7) (by rw [List.length_drop]; omega), hno, List.getD_eq_getElem?_getD, List.getElem?_drop, ← List.getD_eq_getElem?_getD, show 7 + (k - 7) = k by omega, hz]
  rfl
theorem nz_at {l : List Int} {k : Nat} (h : l.length = 16) (h7 : 7 ≤ k) (h16 : k < 16) (hz : (l.getD k 0 != 0) = true) : nzIs (l.drop 7) = true :=
  nz_of (k := k - 7) (by rw [List.length_drop]; omega) (by rw [List.getD_eq_getElem?_getD, List.getElem?_drop, ← List.getD_eq_getElem?_getD, show 7 + (k - 7) = k by omega]; exact hz)
theorem ok_nz {l : List Int} (h : nzIs (l.drop 7) = true) : infOK l = false := by simp [infOK, h]
theorem ok_4 {l : List Int} (h : 1 < l.getD 4 0) : infOK l = false := by unfold infOK; rw [decide_eq_false (show ¬ l.getD 4 0 ≤ 1 by omega)]; simp
theorem ok_5 {l : List Int} (h : 256 < l.getD 5 0) : infOK l = false := by unfold infOK; rw [decide_eq_false (show ¬ l.getD 5 0 ≤ 256 by omega)]; simp
theorem ok_6 {l : List Int} (h : 256 < l.getD 6 0) : infOK l = false := by unfold infOK; rw [decide_eq_false (show ¬ l.getD 6 0 ≤ 256 by omega)]; simp
theorem ok_t {l : List Int} (h : 1099511627776 < l.getD 2 0 + l.getD 3 0 * 4294967296) : infOK l = false := by unfold infOK; rw [decide_eq_false (show ¬ l.getD 2 0 + l.getD 3 0 * 4294967296 ≤ 1099511627776 by omega)]; simp
theorem ok_16 {l : List Int} (h : ¬ l.length = 16) : infOK l = false := by unfold infOK; rw [decide_eq_false h]; simp
theorem ok_all {l : List Int} (h : l.length = 16) (h4 : ¬ 1 < l.getD 4 0) (h7 : nzIs (l.drop 7) = false) (h5 : ¬ 256 < l.getD 5 0) (h6 : ¬ 256 < l.getD 6 0) (ht : ¬ 1099511627776 < l.getD 2 0 + l.getD 3 0 * 4294967296) : infOK l = true := by
  unfold infOK
  rw [decide_eq_true h, decide_eq_true (show l.getD 4 0 ≤ 1 by omega), h7, decide_eq_true (show l.getD 5 0 ≤ 256 by omega), decide_eq_true (show l.getD 6 0 ≤ 256 by omega), decide_eq_true (show l.getD 2 0 + l.getD 3 0 * 4294967296 ≤ 1099511627776 by omega)]
  rfl

set_option maxRecDepth 100000 in
set_option maxHeartbeats 1600000 in
theorem ofi_any (l : List Int) (n c : Nat) (ao : Option Addr) (w : World) (hx : AtL w ao (u32s l)) (hcap : n ≤ c) (hr : ∀ z ∈ l, 0 ≤ z ∧ z ≤ 4294967295) (hn : l.length = n) :
    Calls Tryd.prog 17 #[.slice ao n c] w fun e w' => e = .returned (ofAns l) ∧ Below w.heap.size w w' := by
  by_cases h16 : n = 16
  · obtain rfl := h16
    have h16 : l.length = 16 := hn
    obtain ⟨b, off, rfl, hc, hd⟩ := cells16 hx h16
    have c0 := hc 0 (by decide)
    have c1 := hc 1 (by decide)
    have c2 := hc 2 (by decide)
    have c3 := hc 3 (by decide)
    have c4 := hc 4 (by decide)
    have c5 := hc 5 (by decide)
    have c6 := hc 6 (by decide)
    rw [Nat.add_zero] at c0
    have HC := Lib.hid hc
    have hb : b < w.heap.size := World.block_lt_of_cell? w _ c0
    have r2 := getD_in hr 2
    have r3 := getD_in hr 3
    have q0 := getD_in hr 4
    have q5 := getD_in hr 5
    have q6 := getD_in hr 6
    have H16 := Lib.hid h16
    clear hc hd hx h16 hn hr
    by_cases g4 : (1 : Int) < l.getD 4 0
    · have HNO := Lib.hid (ofAns_no (ok_4 g4))
      obtain ⟨x4, e4⟩ : ∃ x, l.getD 4 0 = x := ⟨_, rfl⟩
      rw [e4] at c4 g4
      clear c0 c1 c2 c3 c5 c6 HC r2 r3 q0 q5 q6 e4
      go_enter Tryd.func17, Tryd.ntmps17
      go_wp2_with fail
      refine bodyPost_ret (v := .tuple #[infV infZ, .bool false]) (by simp [results, Tryd.results17, go_sem, infZ, rfa_0, rfa_1, rfa_2, rfa_3, rfa_4, rfa_5, rfb_0, rfb_1, rfb_2, rfb_3, rfb_4, rfb_5, rfc_0, rfc_1, rfc_2, rfc_3, rfc_4, rfc_5, rfd_0, rfd_1, rfd_2, rfd_3, rfd_4, rfd_5]) rfl ⟨by rw [HNO.out], ?_⟩
      first | with_reducible exact rfa_put _ _ _ _ _ _ _ | with_reducible exact rfb_put _ _ _ _ _ _ _ _ | with_reducible exact rfc_put _ _ _ _ _ _ _ | with_reducible exact rfd_put _ _ _ _ _ _ _ _ | with_reducible exact rfa_below _ | with_reducible exact rfb_below _ _ | with_reducible exact rfc_below _ | with_reducible exact rfd_below _ _

    · by_cases g5 : (256 : Int) < l.getD 5 0
      · have HNO := Lib.hid (ofAns_no (ok_5 g5))
        obtain ⟨x4, e4⟩ : ∃ x, l.getD 4 0 = x := ⟨_, rfl⟩
        rw [e4] at c4 g4
        obtain ⟨x5, e5⟩ : ∃ x, l.getD 5 0 = x := ⟨_, rfl⟩
        rw [e5] at c5 g5
        clear c0 c1 c2 c3 c6 HC r2 r3 q0 q5 q6 e4 e5
        go_enter Tryd.func17, Tryd.ntmps17
        go_wp2_with fail
        refine bodyPost_ret (v := .tuple #[infV infZ, .bool false]) (by simp [results, Tryd.results17, go_sem, infZ, rfa_0, rfa_1, rfa_2, rfa_3, rfa_4, rfa_5, rfb_0, rfb_1, rfb_2, rfb_3, rfb_4, rfb_5, rfc_0, rfc_1, rfc_2, rfc_3, rfc_4, rfc_5, rfd_0, rfd_1, rfd_2, rfd_3, rfd_4, rfd_5]) rfl ⟨by rw [HNO.out], ?_⟩
        first | with_reducible exact rfa_put _ _ _ _ _ _ _ | with_reducible exact rfb_put _ _ _ _ _ _ _ _ | with_reducible exact rfc_put _ _ _ _ _ _ _ | with_reducible exact rfd_put _ _ _ _ _ _ _ _ | with_reducible exact rfa_below _ | with_reducible exact rfb_below _ _ | with_reducible exact rfc_below _ | with_reducible exact rfd_below _ _

      · by_cases g6 : (256 : Int) < l.getD 6 0
        · have HNO := Lib.hid (ofAns_no (ok_6 g6))
          obtain ⟨x4, e4⟩ : ∃ x, l.getD 4 0 = x := ⟨_, rfl⟩
          rw [e4] at c4 g4
          obtain ⟨x5, e5⟩ : ∃ x, l.getD 5 0 = x := ⟨_, rfl⟩
          rw [e5] at c5 g5
          obtain ⟨x6, e6⟩ : ∃ x, l.getD 6 0 = x := ⟨_, rfl⟩
          rw [e6] at c6 g6
          clear c0 c1 c2 c3 HC r2 r3 q0 q5 q6 e4 e5 e6
          go_enter Tryd.func17, Tryd.ntmps17
          go_wp2_with fail
          refine bodyPost_ret (v := .tuple #[infV infZ, .bool false]) (by simp [results, Tryd.results17, go_sem, infZ, rfa_0, rfa_1, rfa_2, rfa_3, rfa_4, rfa_5, rfb_0, rfb_1, rfb_2, rfb_3, rfb_4, rfb_5, rfc_0, rfc_1, rfc_2, rfc_3, rfc_4, rfc_5, rfd_0, rfd_1, rfd_2, rfd_3, rfd_4, rfd_5]) rfl ⟨by rw [HNO.out], ?_⟩
          first | with_reducible exact rfa_put _ _ _ _ _ _ _ | with_reducible exact rfb_put _ _ _ _ _ _ _ _ | with_reducible exact rfc_put _ _ _ _ _ _ _ | with_reducible exact rfd_put _ _ _ _ _ _ _ _ | with_reducible exact rfa_below _ | with_reducible exact rfb_below _ _ | with_reducible exact rfc_below _ | with_reducible exact rfd_below _ _

        · have HALL : Hid (nzIs (l.drop 7) = false → ¬ 1099511627776 < l.getD 2 0 + l.getD 3 0 * 4294967296 → infOK l = true) := Lib.hid fun a t => ok_all H16.out g4 a g5 g6 t
          have HT : Hid (1099511627776 < l.getD 2 0 + l.getD 3 0 * 4294967296 → infOK l = false) := Lib.hid ok_t
          have HANS : Hid (infOK l = true → ofAns l = .tuple #[infV ⟨l.getD 0 0, l.getD 1 0, l.getD 2 0 + l.getD 3 0 * 4294967296, l.getD 4 0 == 1, l.getD 5 0, l.getD 6 0⟩, .bool true]) := Lib.hid ofAns_ok
          obtain ⟨x0, e0⟩ : ∃ x, l.getD 0 0 = x := ⟨_, rfl⟩
          obtain ⟨x1, e1⟩ : ∃ x, l.getD 1 0 = x := ⟨_, rfl⟩
          obtain ⟨x2, e2⟩ : ∃ x, l.getD 2 0 = x := ⟨_, rfl⟩
          obtain ⟨x3, e3⟩ : ∃ x, l.getD 3 0 = x := ⟨_, rfl⟩
          obtain ⟨x4, e4⟩ : ∃ x, l.getD 4 0 = x := ⟨_, rfl⟩
          obtain ⟨x5, e5⟩ : ∃ x, l.getD 5 0 = x := ⟨_, rfl⟩
          obtain ⟨x6, e6⟩ : ∃ x, l.getD 6 0 = x := ⟨_, rfl⟩
          rw [e0] at c0 HANS
          rw [e1] at c1 HANS
          rw [e2] at c2 r2 HALL HT HANS
          rw [e3] at c3 r3 HALL HT HANS
          rw [e4] at c4 g4 q0 HANS
          rw [e5] at c5 g5 q5 HANS
          rw [e6] at c6 g6 q6 HANS
          obtain ⟨t2, t3, t4, -, t5⟩ := time_facts x2 x3 r2 r3
          obtain ⟨T, hT⟩ : ∃ T, x2 + x3 * 4294967296 = T := ⟨_, rfl⟩
          rw [hT] at t5 HALL HT HANS
          have hT0 : 0 ≤ T := by omega
          have t7 := IntWalk.i64_in x5 (by omega)
          have t8 := IntWalk.i64_in x6 (by omega)
          have HK : Hid (∀ wx, Below w.heap.size w wx → wx.cell? ⟨b, off, none⟩ = some (.int .u32 x0) ∧ wx.cell? ⟨b, off + 1, none⟩ = some (.int .u32 x1) ∧ wx.cell? ⟨b, off + 4, none⟩ = some (.int .u32 x4) ∧ wx.cell? ⟨b, off + 5, none⟩ = some (.int .u32 x5) ∧ wx.cell? ⟨b, off + 6, none⟩ = some (.int .u32 x6)) := Lib.hid fun wx h =>
            ⟨(h.cell (p := ⟨b, off, none⟩) hb).trans c0, (h.cell (p := ⟨b, off + 1, none⟩) hb).trans c1, (h.cell (p := ⟨b, off + 4, none⟩) hb).trans c4, (h.cell (p := ⟨b, off + 5, none⟩) hb).trans c5, (h.cell (p := ⟨b, off + 6, none⟩) hb).trans c6⟩
          clear e0 e1 e2 e3 e4 e5 e6 hT r2 r3 q0 q5 q6
          go_enter Tryd.func17, Tryd.ntmps17
          go_wp2_with fail
          go_loop [4] (fun i => OfTo l i) (fun i => 16 - (intOf i).toNat)
          case atStart => exact ⟨7, Nat.le_refl _, by decide, rfl, rfl⟩
          case round =>
            obtain ⟨k, hk7, hk, rfl, hno⟩ := hrel
            by_cases hlt : k < 16
            · have ck := HC.out k hlt
              have hki : (k : Int) < 16 := by omega
              cases hz : (l.getD k 0 != 0)
              · have HNX := Lib.hid (ofTo_next H16.out hk7 hlt hno hz)
                obtain ⟨z, hzz⟩ : ∃ z, l.getD k 0 = z := ⟨_, rfl⟩
                rw [hzz] at ck hz
                clear hno hzz c0 c1 c2 c3 c4 c5 c6
                go_wp2
                go_round
                case rel => exact ⟨k + 1, by omega, by omega, by go_num, HNX.out⟩
                case measure => simp [intOf]; omega
              · have HNO := Lib.hid (ofAns_no (ok_nz (nz_at H16.out hk7 hlt hz)))
                obtain ⟨z, hzz⟩ : ∃ z, l.getD k 0 = z := ⟨_, rfl⟩
                rw [hzz] at ck hz
                clear hno hzz c0 c1 c2 c3 c4 c5 c6
                go_wp2_with fail
                refine bodyPost_ret (v := .tuple #[infV infZ, .bool false]) (by simp [results, Tryd.results17, go_sem, infZ, rfa_0, rfa_1, rfa_2, rfa_3, rfa_4, rfa_5, rfb_0, rfb_1, rfb_2, rfb_3, rfb_4, rfb_5, rfc_0, rfc_1, rfc_2, rfc_3, rfc_4, rfc_5, rfd_0, rfd_1, rfd_2, rfd_3, rfd_4, rfd_5]) rfl ⟨by rw [HNO.out], ?_⟩
                first | with_reducible exact rfa_put _ _ _ _ _ _ _ | with_reducible exact rfb_put _ _ _ _ _ _ _ _ | with_reducible exact rfc_put _ _ _ _ _ _ _ | with_reducible exact rfd_put _ _ _ _ _ _ _ _ | with_reducible exact rfa_below _ | with_reducible exact rfb_below _ _ | with_reducible exact rfc_below _ | with_reducible exact rfd_below _ _

            · obtain rfl : k = 16 := by omega
              have H7 : Hid (nzIs (l.drop 7) = false) := Lib.hid (by rw [show (16 : Nat) - 7 = 9 by rfl, List.take_of_length_le (by rw [List.length_drop, H16.out]; omega)] at hno; exact hno)
              clear hno
              by_cases gT : (1099511627776 : Int) < T
              · have HNO := Lib.hid (ofAns_no (HT.out gT))
                clear c0 c1 c4 c5 c6
                go_wp2_with fail
                go_quiet (fail)
                go_wp2_with fail
                refine bodyPost_ret (v := .tuple #[infV infZ, .bool false]) (by simp [results, Tryd.results17, go_sem, infZ, rfa_0, rfa_1, rfa_2, rfa_3, rfa_4, rfa_5, rfb_0, rfb_1, rfb_2, rfb_3, rfb_4, rfb_5, rfc_0, rfc_1, rfc_2, rfc_3, rfc_4, rfc_5, rfd_0, rfd_1, rfd_2, rfd_3, rfd_4, rfd_5]) rfl ⟨by rw [HNO.out], ?_⟩
                first | with_reducible exact rfa_put _ _ _ _ _ _ _ | with_reducible exact rfb_put _ _ _ _ _ _ _ _ | with_reducible exact rfc_put _ _ _ _ _ _ _ | with_reducible exact rfd_put _ _ _ _ _ _ _ _ | with_reducible exact rfa_below _ | with_reducible exact rfb_below _ _ | with_reducible exact rfc_below _ | with_reducible exact rfd_below _ _

              · have HOK := Lib.hid (HANS.out (HALL.out H7.out (by omega)))
                have t6 := IntWalk.i64_in T (by omega)
                go_wp2_with fail
                go_quiet (fail)
                go_wp2_with fail
                go_region_held3 (fun wx => wx.cell? ⟨b, off, none⟩ = some (.int .u32 x0) ∧ wx.cell? ⟨b, off + 1, none⟩ = some (.int .u32 x1) ∧ wx.cell? ⟨b, off + 4, none⟩ = some (.int .u32 x4) ∧ wx.cell? ⟨b, off + 5, none⟩ = some (.int .u32 x5) ∧ wx.cell? ⟨b, off + 6, none⟩ = some (.int .u32 x6)) (first | (refine HK.out _ ?_; first | with_reducible exact rfa_put _ _ _ _ _ _ _ | with_reducible exact rfb_put _ _ _ _ _ _ _ _ | with_reducible exact rfc_put _ _ _ _ _ _ _ | with_reducible exact rfd_put _ _ _ _ _ _ _ _ | with_reducible exact rfa_below _ | with_reducible exact rfb_below _ _ | with_reducible exact rfc_below _ | with_reducible exact rfd_below _ _)) (first | fail)
                go_wp2
                refine bodyPost_ret (v := .tuple #[.agg #[.int .u32 x0, .int .u32 x1, .int .i64 T, .bool (x4 == 1), .int .i64 x5, .int .i64 x6], .bool true]) (by simp [results, Tryd.results17, go_sem, rfa_0, rfa_1, rfa_2, rfa_3, rfa_4, rfa_5, rfb_0, rfb_1, rfb_2, rfb_3, rfb_4, rfb_5, rfc_0, rfc_1, rfc_2, rfc_3, rfc_4, rfc_5, rfd_0, rfd_1, rfd_2, rfd_3, rfd_4, rfd_5]) rfl ⟨by rw [HOK.out], ?_⟩
                first | with_reducible exact rfa_put _ _ _ _ _ _ _ | with_reducible exact rfb_put _ _ _ _ _ _ _ _ | with_reducible exact rfc_put _ _ _ _ _ _ _ | with_reducible exact rfd_put _ _ _ _ _ _ _ _ | with_reducible exact rfa_below _ | with_reducible exact rfb_below _ _ | with_reducible exact rfc_below _ | with_reducible exact rfd_below _ _
  · have hb : ((n : Int) != 16) = true := by rw [bne_iff_ne]; omega
    have HNO := Lib.hid (ofAns_no (ok_16 (show ¬ l.length = 16 by omega)))
    clear hx h16 hr hn
    go_enter Tryd.func17, Tryd.ntmps17
    go_wp2_with fail
    refine bodyPost_ret (v := .tuple #[infV infZ, .bool false]) (by simp [results, Tryd.results17, go_sem, infZ, rfa_0, rfa_1, rfa_2, rfa_3, rfa_4, rfa_5, rfb_0, rfb_1, rfb_2, rfb_3, rfb_4, rfb_5, rfc_0, rfc_1, rfc_2, rfc_3, rfc_4, rfc_5, rfd_0, rfd_1, rfd_2, rfd_3, rfd_4, rfd_5]) rfl ⟨by rw [HNO.out], ?_⟩
    first | with_reducible exact rfa_put _ _ _ _ _ _ _ | with_reducible exact rfb_put _ _ _ _ _ _ _ _ | with_reducible exact rfc_put _ _ _ _ _ _ _ | with_reducible exact rfd_put _ _ _ _ _ _ _ _ | with_reducible exact rfa_below _ | with_reducible exact rfb_below _ _ | with_reducible exact rfc_below _ | with_reducible exact rfd_below _ _
end Go.Proofs.YtmeljclaocgoaaaDoor
