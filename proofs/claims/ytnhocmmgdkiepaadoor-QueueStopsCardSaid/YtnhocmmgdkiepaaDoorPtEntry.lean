/-
  pt.Tables.entry.
-/
import Derived.Test.YtnhocmmgdkiepaaDoorPt
import Derived.Deep.RegionWith
import Derived.Deep.RegionHeld3
namespace Go.Proofs.YtnhocmmgdkiepaaDoor
open Go.RowKit

theorem ent_kept {w wx w3 : World} {o : Obj} (h : wx.heap[w.heap.size]? = some o) (hb : Below wx.heap.size wx w3) : w3.heap[w.heap.size]? = some o := blk_below h hb (blk_lt h)
set_option maxRecDepth 100000 in
set_option maxHeartbeats 3200000 in
theorem tentry_any (p : Pl) (s : Ts) (m : Int) (page : Int) (w : World) (h : PtAt w p s) (hi : TInv m s) :
    Calls Tryd.prog 75 #[.pointer (some ⟨p.tb, 0, none⟩), .int .i64 page] w fun y w' => y = .returned (.tuple #[(tEnt s page).v, .bool (tEnt s page).t]) ∧ Below w.heap.size w w' := by
  have hb0 : Below w.heap.size w (w.alloc (.cells #[.int .i64 0, .bool false, .bool false, .bool false] 42)) := (Below.refl _ _).alloc (Nat.le_refl _) _
  have HPG : Hid (∀ wx, Below w.heap.size w wx → Calls Tryd.prog 110 #[.pointer (some ⟨p.mb, 0, none⟩), .int .i64 (s.P.getD 0 0), .int .i64 page] wx fun y w' => y = .returned (.tuple #[(tEnt s page).v, .bool (tEnt s page).t]) ∧ Below wx.heap.size wx w') := Lib.hid fun wx hb => by
    have := page_any s.M p.mb s.n p.mv (s.P.getD 0 0) page wx (h.mem.below hb) hi.n1 hi.w32
    rw [tEnt_page hi page] at this
    exact this
  have h1 := h.below hb0
  obtain ⟨c0, -, -, -, c4⟩ := h1.cells
  obtain ⟨g, cap, hl, hg, hcell⟩ := h1.list hi.p17
  rw [hl] at c4
  have ct := hcell 0 (by decide)
  obtain ⟨t0, ht0⟩ : ∃ x, s.P.getD 0 0 = x := ⟨_, rfl⟩
  rw [ht0] at ct HPG
  obtain ⟨⟨ef, et, ew, eu⟩, he⟩ : ∃ e, tEnt s page = e := ⟨_, rfl⟩
  rw [he] at HPG ⊢
  unfold Ent.v at HPG ⊢
  dsimp only at HPG ⊢
  have HB0 := Lib.hid hb0
  have HBN : Hid ((w.alloc (.cells #[.int .i64 0, .bool false, .bool false, .bool false] 42)).drew.heap[w.heap.size]? = some (.cells #[.int .i64 0, .bool false, .bool false, .bool false] 42 (0, 0))) := Lib.hid (blk_new w (.cells #[.int .i64 0, .bool false, .bool false, .bool false] 42))
  have ltb := blk_lt h1.row
  have HTB : Hid (p.tb < w.heap.size) := Lib.hid (blk_lt h.row)
  clear h hi h1 hl hcell ht0 he hb0
  go_enter Tryd.func75, Tryd.ntmps75
  go_wp2_with fail
  go_region_with (first | (go_at_call 110; refine (HPG.out _ (by first | exact HB0.out | exact HB0.out.drew)).mono ?_; rintro e w3 ⟨rfl, hb3⟩; have hk := ent_kept HBN.out hb3; have f0 := blk_free hk 0; have f1 := blk_free hk 1; have f2 := blk_free hk 2; have f3 := blk_free hk 3; have z0 := blk_cell hk 0; have z1 := blk_cell hk 1; have z2 := blk_cell hk 2; have z3 := blk_cell hk 3))
  all_goals
    go_wp2
    refine bodyPost_ret (v := .tuple #[.agg #[.int .i64 ef, .bool et, .bool ew, .bool eu], .bool et]) (by simp [results, Tryd.results75, go_sem, z0, z1, z2, z3]) rfl ⟨rfl, ?_⟩
    exact (((((HB0.out.drew.trans (hb3.mono HB0.out.drew.size))).setCell (p := ⟨w.heap.size, 0, none⟩) (Nat.le_refl _) _).setCell (p := ⟨w.heap.size, 1, none⟩) (Nat.le_refl _) _).setCell (p := ⟨w.heap.size, 2, none⟩) (Nat.le_refl _) _).setCell (p := ⟨w.heap.size, 3, none⟩) (Nat.le_refl _) _
end Go.Proofs.YtnhocmmgdkiepaaDoor
