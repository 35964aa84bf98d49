/-
  queue.Queue: its cells; Len, Clear, All, Put.
-/
import Derived.Test.YtnhocmmgdkiepaaDoorRec
import Derived.Test.YtnhocmmgdkiepaaDoorSee
import Derived.Deep.RegionWith
import Derived.Deep.RegionLaw
import Derived.Deep.AppendLies
namespace Go.Proofs.YtnhocmmgdkiepaaDoor
open Go.RowKit

structure Up where
  page : Int
  word : Int
deriving Inhabited
def upOne (u : Up) : List Value := [.int .i64 u.page, .int .u32 u.word]
theorem upOne_len (u : Up) : (upOne u).length = 2 := rfl
def upCells (l : List Up) : List Value := l.flatMap upOne
def QuAt (w : World) (b : Nat) (v : Value) (l : List Up) : Prop := w.heap[b]? = some (.cells #[v] 53 (0, 0)) ∧ w.ownsRow 0 48 2 v l.length (upCells l)
theorem QuAt.not {w : World} {b : Nat} {v : Value} {l : List Up} (h : QuAt w b v l) : ¬ inRow v b := own_not h.2 h.1 (by decide)
theorem QuAt.cell {w : World} {b : Nat} {v : Value} {l : List Up} (h : QuAt w b v l) : w.cell? ⟨b, 0, none⟩ = some v := blk_cell h.1 0
theorem QuAt.below {w w' : World} {b : Nat} {v : Value} {l : List Up} (h : QuAt w b v l) (hb : Below w.heap.size w w') : QuAt w' b v l :=
  ⟨by rw [hb.block b (blk_lt h.1)]; exact h.1, own_frame h.2 fun k hk => hb.block k (own_lt h.2 hk)⟩
theorem QuAt.only {F : Nat → Prop} {w w' : World} {b : Nat} {v : Value} {l : List Up} (h : QuAt w b v l) (ho : Only F w w') (h1 : ¬ F b) (h2 : ∀ k, inRow v k → ¬ F k) : QuAt w' b v l :=
  ⟨ho.blk h.1 h1, own_only h.2 ho h2⟩
theorem QuAt.slice {w : World} {b : Nat} {v : Value} {l : List Up} (h : QuAt w b v l) : ∃ ao cap, v = .slice ao l.length cap := own_slice h.2
theorem QuAt.new (w : World) : QuAt (w.alloc (.cells #[.slice none 0 0] 53)) w.heap.size (.slice none 0 0) [] := ⟨blk_new _ _, own_nil _ _ _⟩

set_option maxHeartbeats 800000 in
theorem qlen_any (l : List Up) (b : Nat) (v : Value) (w : World) (h : QuAt w b v l) :
    Calls Tryd.prog 30 #[.pointer (some ⟨b, 0, none⟩)] w fun e w' => e = .returned (.int .i64 l.length) ∧ w = w' := by
  have c := h.cell
  obtain ⟨ao, cap, rfl⟩ := h.slice
  clear h
  go_enter Tryd.func30, Tryd.ntmps30
  go_wp2
  go_ret
  exact ⟨rfl, rfl⟩
set_option maxHeartbeats 800000 in
theorem qclear_any (l : List Up) (b : Nat) (v : Value) (w : World) (h : QuAt w b v l) :
    Calls Tryd.prog 29 #[.pointer (some ⟨b, 0, none⟩)] w fun e w' => e = .returned (.tuple #[]) ∧ QuAt w' b (.slice none 0 0) [] ∧ Only (fun k => k = b) w w' := by
  have c := h.cell
  have f := blk_free h.1 0
  have HF : Hid (QuAt (w.setCell ⟨b, 0, none⟩ (.slice none 0 0)) b (.slice none 0 0) [] ∧ Only (fun k => k = b) w (w.setCell ⟨b, 0, none⟩ (.slice none 0 0))) := Lib.hid ⟨⟨blk_put h.1 0 _, own_nil _ _ _⟩, Only.setCell (F := fun k => k = b) (Only.refl _ _) (p := ⟨b, 0, none⟩) (.inl rfl) _⟩
  clear h
  go_enter Tryd.func29, Tryd.ntmps29
  go_wp2
  go_end0
  exact ⟨rfl, HF.out⟩
theorem infoUp : (Tryd.prog.info? 48).map (fun i => (i.zero, i.size, i.bytes)) = some (some (.agg #[.int .i64 0, .int .u32 0]), 2, 16) := by kernel_rfl

set_option maxRecDepth 100000 in
set_option maxHeartbeats 3200000 in
theorem qput_ok (l : List Up) (b : Nat) (v : Value) (x y : Int) (w : World) (h : QuAt w b v l) (hl : l.length < 16) :
    Calls Tryd.prog 28 #[.pointer (some ⟨b, 0, none⟩), .agg #[.int .i64 x, .int .u32 y]] w fun e w' => e = .returned .nilIface ∧ ∃ v', QuAt w' b v' (l ++ [⟨x, y⟩]) ∧ Only (fun k => k = b ∨ inRow v k) w w' ∧ ∀ k, inRow v' k → inRow v k ∨ w.heap.size ≤ k := by
  obtain ⟨i0, hi, hz0, hz1, hz2⟩ := info_parts infoUp
  have hb0 : Below w.heap.size w (w.alloc (.cells #[.int .i64 x, .int .u32 y] 48)) := (Below.refl _ _).alloc (Nat.le_refl _) _
  have h1 := h.below hb0
  have c := h1.cell
  have lb := blk_lt h1.1
  have lb0 := blk_lt h.1
  have lb2 : b < w.heap.size + 1 := by omega
  have HP := Lib.hid h
  have HNB := Lib.hid h.not
  obtain ⟨ao, cap, rfl⟩ := h.slice
  have hl2 : ¬ (16 : Int) ≤ (l.length : Int) := by omega
  have hnew := blk_new w (.cells #[.int .i64 x, .int .u32 y] 48)
  have x0 := blk_cell hnew 0
  have x1 := blk_cell hnew 1
  have HNEW : Hid (∀ (W : World) (T : TypeId) (j : Nat) (u : Value), ([.int .i64 x, .int .u32 y] : List Value)[j]? = some u → (W.alloc (.cells #[.int .i64 x, .int .u32 y] T)).cell? ((⟨W.heap.size, 0, none⟩ : Addr).add j) = some u) := Lib.hid fun W T j u hj => by
    rw [Addr.add_lit, blk_cell (blk_new W (.cells #[.int .i64 x, .int .u32 y] T)), Nat.zero_add]
    simpa using hj
  have HONE : Hid (∀ u ∈ ([.int .i64 x, .int .u32 y] : List Value), u.oneCell' = true) := Lib.hid fun u hu => by
    simp only [List.mem_cons, List.not_mem_nil, or_false] at hu
    rcases hu with rfl | rfl <;> rfl
  have HOA : Hid (∀ X, ((w.alloc (.cells #[.int .i64 x, .int .u32 y] 48)).drew.alloc X).ownsRow 0 48 2 (.slice ao l.length cap) l.length (upCells l)) := Lib.hid fun X => (show (w.alloc _).drew.ownsRow _ _ _ _ _ _ from h1.2).alloc X
  have HRW : Hid (∀ X, ((w.alloc (.cells #[.int .i64 x, .int .u32 y] 48)).drew.alloc X).heap[b]? = some (.cells #[.slice ao l.length cap] 53 (0, 0))) := Lib.hid fun X => blk_old (show (w.alloc _).drew.heap[b]? = _ from h1.1) X
  have HO0 : Hid (∀ X, Only (fun k => k = b ∨ inRow (.slice ao l.length cap) k) w ((w.alloc (.cells #[.int .i64 x, .int .u32 y] 48)).drew.alloc X)) := Lib.hid fun X => (Only.of_below hb0).drew.alloc' X
  have HOA2 : Hid (∀ X, ((w.alloc (.cells #[.int .i64 x, .int .u32 y] 48)).alloc X).ownsRow 0 48 2 (.slice ao l.length cap) l.length (upCells l)) := Lib.hid fun X => h1.2.alloc X
  have HRW2 : Hid (∀ X, ((w.alloc (.cells #[.int .i64 x, .int .u32 y] 48)).alloc X).heap[b]? = some (.cells #[.slice ao l.length cap] 53 (0, 0))) := Lib.hid fun X => blk_old h1.1 X
  have HNW1 : Hid (∀ (j : Nat) (u : Value), ([.int .i64 x, .int .u32 y] : List Value)[j]? = some u → ((w.alloc (.cells #[.int .i64 x, .int .u32 y] 48)).drew.alloc (.cells #[.int .i64 x, .int .u32 y] 48)).cell? ((⟨w.heap.size + 1, 0, none⟩ : Addr).add j) = some u) := Lib.hid fun j u hj => by
    have := HNEW.out (w.alloc (.cells #[.int .i64 x, .int .u32 y] 48)).drew 48 j u hj
    rwa [show (w.alloc (.cells #[.int .i64 x, .int .u32 y] 48)).drew.heap.size = w.heap.size + 1 by simp] at this
  have HNW2 : Hid (∀ (j : Nat) (u : Value), ([.int .i64 x, .int .u32 y] : List Value)[j]? = some u → ((w.alloc (.cells #[.int .i64 x, .int .u32 y] 48)).alloc (.cells #[.int .i64 x, .int .u32 y] 48)).cell? ((⟨w.heap.size + 1, 0, none⟩ : Addr).add j) = some u) := Lib.hid fun j u hj => by
    have := HNEW.out (w.alloc (.cells #[.int .i64 x, .int .u32 y] 48)) 48 j u hj
    rwa [show (w.alloc (.cells #[.int .i64 x, .int .u32 y] 48)).heap.size = w.heap.size + 1 by simp] at this
  have HO02 : Hid (∀ X, Only (fun k => k = b ∨ inRow (.slice ao l.length cap) k) w ((w.alloc (.cells #[.int .i64 x, .int .u32 y] 48)).alloc X)) := Lib.hid fun X => (Only.of_below hb0).alloc' X
  have HE1 : Hid (upCells l ++ [.int .i64 x, .int .u32 y] = upCells (l ++ [⟨x, y⟩])) := Lib.hid (by unfold upCells; rw [List.flatMap_append]; rfl)
  clear h h1 hb0 hnew
  go_enter Tryd.func28, Tryd.ntmps28
  go_wp2_with fail
  go_region_law ((refine step_append_lies _ (by rfl) _ _ _ (by rfl) 0 48 i0 (.agg #[.int .i64 0, .int .u32 0]) 2 16 Tryd.underlying51 hi hz0 hz1 hz2 rfl (by decide) (.slice ao l.length cap) l.length (upCells l) (by rfl) (by first | exact HOA.out _ | exact HOA2.out _) ⟨w.heap.size + 1, 0, none⟩ 1 1 [.int .i64 x, .int .u32 y] (by rfl) rfl (by first | exact HNW1.out | exact HNW2.out) HONE.out (by decide) (by unfold maxLen; omega) (by omega) (Nat.zero_le _) _ rfl ?_; intro g cap2 w1 hown1 hgrow hat hlt1; have hrw := blk_grown (by first | exact HRW.out _ | exact HRW2.out _) hgrow HNB.out; have cz := blk_cell hrw 0; have fz := blk_free hrw 0))
  all_goals
    have HF : Hid (QuAt (w1.setCell ⟨b, 0, none⟩ (.slice (some ⟨g, 0, none⟩) (l.length + 1) cap2)) b (.slice (some ⟨g, 0, none⟩) (l.length + 1) cap2) (l ++ [⟨x, y⟩]) ∧ Only (fun k => k = b ∨ inRow (.slice ao l.length cap) k) w (w1.setCell ⟨b, 0, none⟩ (.slice (some ⟨g, 0, none⟩) (l.length + 1) cap2)) ∧ ∀ k, inRow (.slice (some ⟨g, 0, none⟩) (l.length + 1) cap2) k → inRow (.slice ao l.length cap) k ∨ w.heap.size ≤ k) := Lib.hid ⟨⟨by have := blk_put hrw 0 (.slice (some ⟨g, 0, none⟩) (l.length + 1) cap2); exact this, by
        rw [HE1.out] at hown1
        rw [List.length_append]
        exact own_set hown1 hrw (by decide) 0 _⟩,
      Only.setCell (F := fun k => k = b ∨ inRow (.slice ao l.length cap) k) (Only.grown (by first | exact HO0.out _ | exact HO02.out _) hgrow (fun k hk => .inl (.inr hk))) (p := ⟨b, 0, none⟩) (.inl (.inl rfl)) _, fun k hk => by
        have hk' : g = k := by simpa [inRow, Value.ownBlock] using hk
        subst hk'
        rcases hat with h | h
        · exact .inl h
        · have h' := h
          try simp only [World.size_alloc] at h'
          exact .inr (by simp at h'; omega)⟩
    clear hown1 hgrow hat hlt1 hrw cz fz
    go_wp2
    go_ret
    exact ⟨rfl, _, HF.out⟩
end Go.Proofs.YtnhocmmgdkiepaaDoor
