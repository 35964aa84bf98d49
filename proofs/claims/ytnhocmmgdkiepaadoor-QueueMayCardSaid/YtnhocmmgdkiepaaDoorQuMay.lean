/-
  queue.May, queue.Queue.All.
-/
import Derived.Test.YtnhocmmgdkiepaaDoorQu
import Derived.Test.YtnhocmmgdkiepaaDoorWk
namespace Go.Proofs.YtnhocmmgdkiepaaDoor
open Go.RowKit

/-- may a guest of so many frames ask for it? -/
def mayB (page : Int) (r : Ent × Bool) (quota : Int) : Bool := decide (0 ≤ page) && decide (page < 128) && r.2 && (!r.1.t || (decide (17 ≤ r.1.f) && decide (r.1.f < quota)))
/-- the ways of it -/
theorem may_ways (page f quota : Int) (t w u ok : Bool) : (¬ 0 ≤ page ∧ mayB page (⟨f, t, w, u⟩, ok) quota = false) ∨ (0 ≤ page ∧ ¬ page < 128 ∧ mayB page (⟨f, t, w, u⟩, ok) quota = false) ∨ (0 ≤ page ∧ page < 128 ∧ ok = false ∧ mayB page (⟨f, t, w, u⟩, ok) quota = false) ∨ (0 ≤ page ∧ page < 128 ∧ ok = true ∧ t = false ∧ mayB page (⟨f, t, w, u⟩, ok) quota = true) ∨ (0 ≤ page ∧ page < 128 ∧ ok = true ∧ t = true ∧ ¬ 17 ≤ f ∧ mayB page (⟨f, t, w, u⟩, ok) quota = false) ∨ (0 ≤ page ∧ page < 128 ∧ ok = true ∧ t = true ∧ 17 ≤ f ∧ ¬ f < quota ∧ mayB page (⟨f, t, w, u⟩, ok) quota = false) ∨ (0 ≤ page ∧ page < 128 ∧ ok = true ∧ t = true ∧ 17 ≤ f ∧ f < quota ∧ mayB page (⟨f, t, w, u⟩, ok) quota = true) := by
  unfold mayB
  by_cases h1 : 0 ≤ page <;> by_cases h2 : page < 128 <;> cases ok <;> cases t <;> by_cases h3 : 17 ≤ f <;> by_cases h4 : f < quota <;> simp [h1, h2, h3, h4]

set_option maxRecDepth 100000 in
set_option maxHeartbeats 6400000 in
theorem qmay_any (page x quota : Int) (w : World) (hx : W32 x) :
    Calls Tryd.prog 26 #[.agg #[.int .i64 page, .int .u32 x], .int .i64 quota] w fun e w' => e = .returned (.bool (mayB page (ofA x) quota)) ∧ Below w.heap.size w w' := by
  have hb0 : Below w.heap.size w (w.alloc (.cells #[.int .i64 page, .int .u32 x] 48)) := (Below.refl _ _).alloc (Nat.le_refl _) _
  have HB0 := Lib.hid hb0
  have hnew := blk_new w (.cells #[.int .i64 page, .int .u32 x] 48)
  have HOF := Lib.hid (fun wx => of_any x wx hx)
  obtain ⟨⟨⟨f, t, wr, u⟩, ok⟩, hr⟩ : ∃ r, ofA x = r := ⟨_, rfl⟩
  rw [hr] at HOF ⊢
  unfold Ent.v at HOF
  dsimp only at HOF
  have HNW := Lib.hid hnew
  clear hb0 hnew hx hr
  rcases may_ways page f quota t wr u ok with ⟨h1, hm⟩ | ⟨h1, h2, hm⟩ | ⟨h1, h2, h3, hm⟩ | ⟨h1, h2, h3, h4, hm⟩ | ⟨h1, h2, h3, h4, h5, hm⟩ | ⟨h1, h2, h3, h4, h5, h6, hm⟩ | ⟨h1, h2, h3, h4, h5, h6, hm⟩
  all_goals
    rw [hm]
    clear hm
    try subst h3
    try subst h4
    go_enter Tryd.func26, Tryd.ntmps26
    go_wp2_with fail
    refine (HOF.out _).mono ?_
    rintro y w1 ⟨rfl, hb1⟩
    have hk := blk_below HNW.out hb1 (blk_lt HNW.out)
    have x0 := blk_cell hk 0
    have HB1 : Hid (∀ X, Below w.heap.size w (w1.alloc X)) := Lib.hid fun X => (HB0.out.trans (hb1.mono HB0.out.size)).alloc (Nat.le_trans HB0.out.size hb1.size) X
    have lk := blk_lt hk
    clear hb1 hk
    go_wp2
    go_ret
    first
    | exact ⟨rfl, HB1.out _⟩
    | (have hd : decide (f < quota) = true := decide_eq_true h6
       exact ⟨by rw [hd]; rfl, HB1.out _⟩)
    | (have hd : decide (f < quota) = false := decide_eq_false (by omega)
       exact ⟨by rw [hd]; rfl, HB1.out _⟩)
end Go.Proofs.YtnhocmmgdkiepaaDoor
