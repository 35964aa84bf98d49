/-
  WalkBack returns true for every pair of entries and every word; nothing that was there is turned. No conditions.
-/
import Derived.Test.YtpaijiamcjbbcaaLaw
import Derived.Test.YtpaijiamcjbbcaaWalkLaws
namespace Go.Proofs.Ytpaijiamcjbbcaa
open Go.ChangeShapes Go.WideShapes Go.ChangeAt Go.RowKit Go.Joins

set_option maxHeartbeats 400000 in
theorem first_true (w : World) :
    Calls Try.prog 4 #[] w fun e w' => e = .returned (.bool true) ∧ Below w.heap.size w w' := by
  go_enter Try.func4, Try.ntmps4
  go_wp2_with fail
  refine (bits_there 3 false false _ (by omega) (by omega)).mono ?_
  rintro e w1 ⟨rfl, hb⟩
  have e1 : entW 3 true false false = 769 := by decide
  go_wp2
  go_ret
  exact ⟨rfl, hb⟩

theorem of_ent (f : Int) (t wr u : Bool) (w : World) (h : entOk f t wr u) :
    Calls Try.prog 6 #[.int .u32 (entW f t wr u)] w fun e w' => e = .returned (.tuple #[.agg #[.int .i64 f, .bool t, .bool wr, .bool u], .bool true]) ∧ Below w.heap.size w w' := by
  have hr := entW_range h
  obtain ⟨e1, e2, e3, e4⟩ := ent_back h
  have := of_yes (entW f t wr u) w hr.1 (by omega) (ent_is h)
  rw [e1, e2, e3, e4] at this
  exact this

theorem same_refl (f : Int) (t wr u : Bool) (w : World) :
    Calls Try.prog 7 #[.agg #[.int .i64 f, .bool t, .bool wr, .bool u], .agg #[.int .i64 f, .bool t, .bool wr, .bool u]] w fun e w' => e = .returned (.bool true) ∧ Below w.heap.size w w' :=
  (same_any f f t t wr wr u u w).mono fun _ _ ⟨he, hb⟩ => ⟨by simpa using he, hb⟩
theorem same_ne (f g : Int) (t1 t2 w1 w2 u1 u2 : Bool) (w : World) (h : ¬ (f = g ∧ t1 = t2 ∧ w1 = w2 ∧ u1 = u2)) :
    Calls Try.prog 7 #[.agg #[.int .i64 f, .bool t1, .bool w1, .bool u1], .agg #[.int .i64 g, .bool t2, .bool w2, .bool u2]] w fun e w' => e = .returned (.bool false) ∧ Below w.heap.size w w' :=
  (same_any f g t1 t2 w1 w2 u1 u2 w).mono fun _ _ ⟨he, hb⟩ => ⟨by
    have : (f == g && t1 == t2 && w1 == w2 && u1 == u2) = false := by
      rw [Bool.eq_false_iff]
      intro hh
      simp only [Bool.and_eq_true, beq_iff_eq] at hh
      exact h ⟨hh.1.1.1, hh.1.1.2, hh.1.2, hh.2⟩
    rw [he, this], hb⟩

set_option maxHeartbeats 1000000 in
theorem back_ynn (f g x : Int) (t1 w1 u1 t2 w2 u2 : Bool) (w : World) (hx0 : 0 ≤ x) (hx1 : x ≤ 4294967295) (he : ¬ entOk f t1 w1 u1) (hg : ¬ entOk g t2 w2 u2) (hx : isEnt x) :
    Calls Try.prog 3 #[.agg #[.int .i64 f, .bool t1, .bool w1, .bool u1], .agg #[.int .i64 g, .bool t2, .bool w2, .bool u2], .int .u32 x] w fun e w' => e = .returned (.bool true) ∧ Below w.heap.size w w' := by
  have hxw : (entW (x / 256) (flag x 1) (flag x 2) (flag x 4) != x) = false := by simp [hx.2]
  go_enter Try.func3, Try.ntmps3
  go_wp2_with fail
  refine (first_true _).mono ?_
  rintro e wA ⟨rfl, hbA⟩
  have bE := blk_below (blk_old (blk_new w _) _) hbA (by simp; omega)
  have bF := blk_below (blk_new (w.alloc _) _) hbA (by simp)
  simp only [World.size_alloc] at bF
  have hB : Below w.heap.size w wA := (((Below.refl _ _).alloc (Nat.le_refl _) _).alloc (by simp) _).trans (hbA.mono (by simp; omega))
  clear hbA
  have cE := blk_cell bE
  have cF := blk_cell bF
  go_wp2_with fail
  refine (bits_no f t1 w1 u1 _ he).mono ?_
  rintro e wB ⟨rfl, hb⟩
  replace bE := blk_below bE hb (blk_lt bE)
  replace bF := blk_below bF hb (blk_lt bF)
  replace hB := (hB).trans (hb.mono (hB).size)
  clear hb
  replace cE := blk_cell bE
  replace cF := blk_cell bF
  go_wp2_with fail
  refine (bits_no g t2 w2 u2 _ hg).mono ?_
  rintro e wC ⟨rfl, hb⟩
  replace bE := blk_below bE hb (blk_lt bE)
  replace bF := blk_below bF hb (blk_lt bF)
  replace hB := (hB).trans (hb.mono (hB).size)
  clear hb
  replace cE := blk_cell bE
  replace cF := blk_cell bF
  go_wp2_with fail
  refine (of_yes x _ hx0 hx1 hx).mono ?_
  rintro e wD ⟨rfl, hb⟩
  replace bE := blk_below bE hb (blk_lt bE)
  replace bF := blk_below bF hb (blk_lt bF)
  replace hB := (hB).trans (hb.mono (hB).size)
  clear hb
  replace cE := blk_cell bE
  replace cF := blk_cell bF
  replace bE := blk_old bE (.cells #[.int .i64 (x / 256), .bool (flag x 1), .bool (flag x 2), .bool (flag x 4)] 23)
  replace bF := blk_old bF (.cells #[.int .i64 (x / 256), .bool (flag x 1), .bool (flag x 2), .bool (flag x 4)] 23)
  replace hB := hB.alloc hB.size (.cells #[.int .i64 (x / 256), .bool (flag x 1), .bool (flag x 2), .bool (flag x 4)] 23)
  go_wp2_with fail
  refine (bits_yes (x / 256) (flag x 1) (flag x 2) (flag x 4) _ hx.1).mono ?_
  rintro e wE ⟨rfl, hb⟩
  replace bE := blk_below bE hb (blk_lt bE)
  replace bF := blk_below bF hb (blk_lt bF)
  replace hB := (hB).trans (hb.mono (hB).size)
  clear hb
  replace cE := blk_cell bE
  replace cF := blk_cell bF
  go_wp2
  go_ret
  exact ⟨rfl, hB⟩

set_option maxHeartbeats 1000000 in
theorem back_yny (f g x : Int) (t1 w1 u1 t2 w2 u2 : Bool) (w : World) (hx0 : 0 ≤ x) (hx1 : x ≤ 4294967295) (he : ¬ entOk f t1 w1 u1) (hg : entOk g t2 w2 u2) (hx : isEnt x) :
    Calls Try.prog 3 #[.agg #[.int .i64 f, .bool t1, .bool w1, .bool u1], .agg #[.int .i64 g, .bool t2, .bool w2, .bool u2], .int .u32 x] w fun e w' => e = .returned (.bool true) ∧ Below w.heap.size w w' := by
  have hxw : (entW (x / 256) (flag x 1) (flag x 2) (flag x 4) != x) = false := by simp [hx.2]
  go_enter Try.func3, Try.ntmps3
  go_wp2_with fail
  refine (first_true _).mono ?_
  rintro e wA ⟨rfl, hbA⟩
  have bE := blk_below (blk_old (blk_new w _) _) hbA (by simp; omega)
  have bF := blk_below (blk_new (w.alloc _) _) hbA (by simp)
  simp only [World.size_alloc] at bF
  have hB : Below w.heap.size w wA := (((Below.refl _ _).alloc (Nat.le_refl _) _).alloc (by simp) _).trans (hbA.mono (by simp; omega))
  clear hbA
  have cE := blk_cell bE
  have cF := blk_cell bF
  go_wp2_with fail
  refine (bits_no f t1 w1 u1 _ he).mono ?_
  rintro e wB ⟨rfl, hb⟩
  replace bE := blk_below bE hb (blk_lt bE)
  replace bF := blk_below bF hb (blk_lt bF)
  replace hB := (hB).trans (hb.mono (hB).size)
  clear hb
  replace cE := blk_cell bE
  replace cF := blk_cell bF
  go_wp2_with fail
  refine (bits_yes g t2 w2 u2 _ hg).mono ?_
  rintro e wC ⟨rfl, hb⟩
  replace bE := blk_below bE hb (blk_lt bE)
  replace bF := blk_below bF hb (blk_lt bF)
  replace hB := (hB).trans (hb.mono (hB).size)
  clear hb
  replace cE := blk_cell bE
  replace cF := blk_cell bF
  go_wp2_with fail
  refine (of_yes x _ hx0 hx1 hx).mono ?_
  rintro e wD ⟨rfl, hb⟩
  replace bE := blk_below bE hb (blk_lt bE)
  replace bF := blk_below bF hb (blk_lt bF)
  replace hB := (hB).trans (hb.mono (hB).size)
  clear hb
  replace cE := blk_cell bE
  replace cF := blk_cell bF
  replace bE := blk_old bE (.cells #[.int .i64 (x / 256), .bool (flag x 1), .bool (flag x 2), .bool (flag x 4)] 23)
  replace bF := blk_old bF (.cells #[.int .i64 (x / 256), .bool (flag x 1), .bool (flag x 2), .bool (flag x 4)] 23)
  replace hB := hB.alloc hB.size (.cells #[.int .i64 (x / 256), .bool (flag x 1), .bool (flag x 2), .bool (flag x 4)] 23)
  go_wp2_with fail
  refine (bits_yes (x / 256) (flag x 1) (flag x 2) (flag x 4) _ hx.1).mono ?_
  rintro e wE ⟨rfl, hb⟩
  replace bE := blk_below bE hb (blk_lt bE)
  replace bF := blk_below bF hb (blk_lt bF)
  replace hB := (hB).trans (hb.mono (hB).size)
  clear hb
  replace cE := blk_cell bE
  replace cF := blk_cell bF
  go_wp2
  go_ret
  exact ⟨rfl, hB⟩

set_option maxHeartbeats 1000000 in
theorem back_yyn (f g x : Int) (t1 w1 u1 t2 w2 u2 : Bool) (w : World) (hx0 : 0 ≤ x) (hx1 : x ≤ 4294967295) (he : entOk f t1 w1 u1) (hg : ¬ entOk g t2 w2 u2) (hx : isEnt x) :
    Calls Try.prog 3 #[.agg #[.int .i64 f, .bool t1, .bool w1, .bool u1], .agg #[.int .i64 g, .bool t2, .bool w2, .bool u2], .int .u32 x] w fun e w' => e = .returned (.bool true) ∧ Below w.heap.size w w' := by
  have hxw : (entW (x / 256) (flag x 1) (flag x 2) (flag x 4) != x) = false := by simp [hx.2]
  go_enter Try.func3, Try.ntmps3
  go_wp2_with fail
  refine (first_true _).mono ?_
  rintro e wA ⟨rfl, hbA⟩
  have bE := blk_below (blk_old (blk_new w _) _) hbA (by simp; omega)
  have bF := blk_below (blk_new (w.alloc _) _) hbA (by simp)
  simp only [World.size_alloc] at bF
  have hB : Below w.heap.size w wA := (((Below.refl _ _).alloc (Nat.le_refl _) _).alloc (by simp) _).trans (hbA.mono (by simp; omega))
  clear hbA
  have cE := blk_cell bE
  have cF := blk_cell bF
  go_wp2_with fail
  refine (bits_yes f t1 w1 u1 _ he).mono ?_
  rintro e wB ⟨rfl, hb⟩
  replace bE := blk_below bE hb (blk_lt bE)
  replace bF := blk_below bF hb (blk_lt bF)
  replace hB := (hB).trans (hb.mono (hB).size)
  clear hb
  replace cE := blk_cell bE
  replace cF := blk_cell bF
  go_wp2_with fail
  refine (bits_no g t2 w2 u2 _ hg).mono ?_
  rintro e wC ⟨rfl, hb⟩
  replace bE := blk_below bE hb (blk_lt bE)
  replace bF := blk_below bF hb (blk_lt bF)
  replace hB := (hB).trans (hb.mono (hB).size)
  clear hb
  replace cE := blk_cell bE
  replace cF := blk_cell bF
  go_wp2_with fail
  refine (of_yes x _ hx0 hx1 hx).mono ?_
  rintro e wD ⟨rfl, hb⟩
  replace bE := blk_below bE hb (blk_lt bE)
  replace bF := blk_below bF hb (blk_lt bF)
  replace hB := (hB).trans (hb.mono (hB).size)
  clear hb
  replace cE := blk_cell bE
  replace cF := blk_cell bF
  replace bE := blk_old bE (.cells #[.int .i64 (x / 256), .bool (flag x 1), .bool (flag x 2), .bool (flag x 4)] 23)
  replace bF := blk_old bF (.cells #[.int .i64 (x / 256), .bool (flag x 1), .bool (flag x 2), .bool (flag x 4)] 23)
  replace hB := hB.alloc hB.size (.cells #[.int .i64 (x / 256), .bool (flag x 1), .bool (flag x 2), .bool (flag x 4)] 23)
  go_wp2_with fail
  refine (bits_yes (x / 256) (flag x 1) (flag x 2) (flag x 4) _ hx.1).mono ?_
  rintro e wE ⟨rfl, hb⟩
  replace bE := blk_below bE hb (blk_lt bE)
  replace bF := blk_below bF hb (blk_lt bF)
  replace hB := (hB).trans (hb.mono (hB).size)
  clear hb
  replace cE := blk_cell bE
  replace cF := blk_cell bF
  go_wp2_with fail
  refine (of_ent f t1 w1 u1 _ he).mono ?_
  rintro e wF ⟨rfl, hb⟩
  replace bE := blk_below bE hb (blk_lt bE)
  replace bF := blk_below bF hb (blk_lt bF)
  replace hB := (hB).trans (hb.mono (hB).size)
  clear hb
  replace cE := blk_cell bE
  replace cF := blk_cell bF
  replace bE := blk_old bE (.cells #[.int .i64 f, .bool t1, .bool w1, .bool u1] 23)
  replace bF := blk_old bF (.cells #[.int .i64 f, .bool t1, .bool w1, .bool u1] 23)
  have bY := blk_new wF (.cells #[.int .i64 f, .bool t1, .bool w1, .bool u1] 23)
  replace cE := blk_cell bE
  replace cF := blk_cell bF
  replace hB := hB.alloc hB.size (.cells #[.int .i64 f, .bool t1, .bool w1, .bool u1] 23)
  go_wp2_with fail
  refine (same_refl f t1 w1 u1 _).mono ?_
  rintro e wG ⟨rfl, hb⟩
  replace bE := blk_below bE hb (blk_lt bE)
  replace bF := blk_below bF hb (blk_lt bF)
  replace hB := (hB).trans (hb.mono (hB).size)
  clear hb
  replace cE := blk_cell bE
  replace cF := blk_cell bF
  go_wp2
  go_ret
  exact ⟨rfl, hB⟩

set_option maxHeartbeats 1000000 in
theorem back_yyys (f x : Int) (t1 w1 u1 : Bool) (w : World) (hx0 : 0 ≤ x) (hx1 : x ≤ 4294967295) (he : entOk f t1 w1 u1) (hx : isEnt x) :
    Calls Try.prog 3 #[.agg #[.int .i64 f, .bool t1, .bool w1, .bool u1], .agg #[.int .i64 f, .bool t1, .bool w1, .bool u1], .int .u32 x] w fun e w' => e = .returned (.bool true) ∧ Below w.heap.size w w' := by
  have hxw : (entW (x / 256) (flag x 1) (flag x 2) (flag x 4) != x) = false := by simp [hx.2]
  go_enter Try.func3, Try.ntmps3
  go_wp2_with fail
  refine (first_true _).mono ?_
  rintro e wA ⟨rfl, hbA⟩
  have bE := blk_below (blk_old (blk_new w _) _) hbA (by simp; omega)
  have bF := blk_below (blk_new (w.alloc _) _) hbA (by simp)
  simp only [World.size_alloc] at bF
  have hB : Below w.heap.size w wA := (((Below.refl _ _).alloc (Nat.le_refl _) _).alloc (by simp) _).trans (hbA.mono (by simp; omega))
  clear hbA
  have cE := blk_cell bE
  have cF := blk_cell bF
  go_wp2_with fail
  refine (bits_yes f t1 w1 u1 _ he).mono ?_
  rintro e wB ⟨rfl, hb⟩
  replace bE := blk_below bE hb (blk_lt bE)
  replace bF := blk_below bF hb (blk_lt bF)
  replace hB := (hB).trans (hb.mono (hB).size)
  clear hb
  replace cE := blk_cell bE
  replace cF := blk_cell bF
  go_wp2_with fail
  refine (bits_yes f t1 w1 u1 _ he).mono ?_
  rintro e wC ⟨rfl, hb⟩
  replace bE := blk_below bE hb (blk_lt bE)
  replace bF := blk_below bF hb (blk_lt bF)
  replace hB := (hB).trans (hb.mono (hB).size)
  clear hb
  replace cE := blk_cell bE
  replace cF := blk_cell bF
  go_wp2_with fail
  refine (of_yes x _ hx0 hx1 hx).mono ?_
  rintro e wD ⟨rfl, hb⟩
  replace bE := blk_below bE hb (blk_lt bE)
  replace bF := blk_below bF hb (blk_lt bF)
  replace hB := (hB).trans (hb.mono (hB).size)
  clear hb
  replace cE := blk_cell bE
  replace cF := blk_cell bF
  replace bE := blk_old bE (.cells #[.int .i64 (x / 256), .bool (flag x 1), .bool (flag x 2), .bool (flag x 4)] 23)
  replace bF := blk_old bF (.cells #[.int .i64 (x / 256), .bool (flag x 1), .bool (flag x 2), .bool (flag x 4)] 23)
  replace hB := hB.alloc hB.size (.cells #[.int .i64 (x / 256), .bool (flag x 1), .bool (flag x 2), .bool (flag x 4)] 23)
  go_wp2_with fail
  refine (bits_yes (x / 256) (flag x 1) (flag x 2) (flag x 4) _ hx.1).mono ?_
  rintro e wE ⟨rfl, hb⟩
  replace bE := blk_below bE hb (blk_lt bE)
  replace bF := blk_below bF hb (blk_lt bF)
  replace hB := (hB).trans (hb.mono (hB).size)
  clear hb
  replace cE := blk_cell bE
  replace cF := blk_cell bF
  go_wp2_with fail
  refine (of_ent f t1 w1 u1 _ he).mono ?_
  rintro e wF ⟨rfl, hb⟩
  replace bE := blk_below bE hb (blk_lt bE)
  replace bF := blk_below bF hb (blk_lt bF)
  replace hB := (hB).trans (hb.mono (hB).size)
  clear hb
  replace cE := blk_cell bE
  replace cF := blk_cell bF
  replace bE := blk_old bE (.cells #[.int .i64 f, .bool t1, .bool w1, .bool u1] 23)
  replace bF := blk_old bF (.cells #[.int .i64 f, .bool t1, .bool w1, .bool u1] 23)
  have bY := blk_new wF (.cells #[.int .i64 f, .bool t1, .bool w1, .bool u1] 23)
  replace cE := blk_cell bE
  replace cF := blk_cell bF
  replace hB := hB.alloc hB.size (.cells #[.int .i64 f, .bool t1, .bool w1, .bool u1] 23)
  go_wp2_with fail
  refine (same_refl f t1 w1 u1 _).mono ?_
  rintro e wG ⟨rfl, hb⟩
  replace bE := blk_below bE hb (blk_lt bE)
  replace bF := blk_below bF hb (blk_lt bF)
  replace hB := (hB).trans (hb.mono (hB).size)
  clear hb
  replace cE := blk_cell bE
  replace cF := blk_cell bF
  go_wp2_with fail
  refine (same_refl f t1 w1 u1 _).mono ?_
  rintro e wH ⟨rfl, hb⟩
  replace bE := blk_below bE hb (blk_lt bE)
  replace bF := blk_below bF hb (blk_lt bF)
  replace hB := (hB).trans (hb.mono (hB).size)
  clear hb
  replace cE := blk_cell bE
  replace cF := blk_cell bF
  go_wp2
  go_ret
  exact ⟨rfl, hB⟩

set_option maxHeartbeats 1000000 in
theorem back_yyyd (f g x : Int) (t1 w1 u1 t2 w2 u2 : Bool) (w : World) (hx0 : 0 ≤ x) (hx1 : x ≤ 4294967295) (he : entOk f t1 w1 u1) (hg : entOk g t2 w2 u2) (hx : isEnt x) (hd : ¬ (f = g ∧ t1 = t2 ∧ w1 = w2 ∧ u1 = u2)) :
    Calls Try.prog 3 #[.agg #[.int .i64 f, .bool t1, .bool w1, .bool u1], .agg #[.int .i64 g, .bool t2, .bool w2, .bool u2], .int .u32 x] w fun e w' => e = .returned (.bool true) ∧ Below w.heap.size w w' := by
  have hxw : (entW (x / 256) (flag x 1) (flag x 2) (flag x 4) != x) = false := by simp [hx.2]
  have hne : (entW f t1 w1 u1 == entW g t2 w2 u2) = false := by
    rw [beq_eq_false_iff_ne]
    exact fun h => hd (ent_inj he hg h)
  go_enter Try.func3, Try.ntmps3
  go_wp2_with fail
  refine (first_true _).mono ?_
  rintro e wA ⟨rfl, hbA⟩
  have bE := blk_below (blk_old (blk_new w _) _) hbA (by simp; omega)
  have bF := blk_below (blk_new (w.alloc _) _) hbA (by simp)
  simp only [World.size_alloc] at bF
  have hB : Below w.heap.size w wA := (((Below.refl _ _).alloc (Nat.le_refl _) _).alloc (by simp) _).trans (hbA.mono (by simp; omega))
  clear hbA
  have cE := blk_cell bE
  have cF := blk_cell bF
  go_wp2_with fail
  refine (bits_yes f t1 w1 u1 _ he).mono ?_
  rintro e wB ⟨rfl, hb⟩
  replace bE := blk_below bE hb (blk_lt bE)
  replace bF := blk_below bF hb (blk_lt bF)
  replace hB := (hB).trans (hb.mono (hB).size)
  clear hb
  replace cE := blk_cell bE
  replace cF := blk_cell bF
  go_wp2_with fail
  refine (bits_yes g t2 w2 u2 _ hg).mono ?_
  rintro e wC ⟨rfl, hb⟩
  replace bE := blk_below bE hb (blk_lt bE)
  replace bF := blk_below bF hb (blk_lt bF)
  replace hB := (hB).trans (hb.mono (hB).size)
  clear hb
  replace cE := blk_cell bE
  replace cF := blk_cell bF
  go_wp2_with fail
  refine (of_yes x _ hx0 hx1 hx).mono ?_
  rintro e wD ⟨rfl, hb⟩
  replace bE := blk_below bE hb (blk_lt bE)
  replace bF := blk_below bF hb (blk_lt bF)
  replace hB := (hB).trans (hb.mono (hB).size)
  clear hb
  replace cE := blk_cell bE
  replace cF := blk_cell bF
  replace bE := blk_old bE (.cells #[.int .i64 (x / 256), .bool (flag x 1), .bool (flag x 2), .bool (flag x 4)] 23)
  replace bF := blk_old bF (.cells #[.int .i64 (x / 256), .bool (flag x 1), .bool (flag x 2), .bool (flag x 4)] 23)
  replace hB := hB.alloc hB.size (.cells #[.int .i64 (x / 256), .bool (flag x 1), .bool (flag x 2), .bool (flag x 4)] 23)
  go_wp2_with fail
  refine (bits_yes (x / 256) (flag x 1) (flag x 2) (flag x 4) _ hx.1).mono ?_
  rintro e wE ⟨rfl, hb⟩
  replace bE := blk_below bE hb (blk_lt bE)
  replace bF := blk_below bF hb (blk_lt bF)
  replace hB := (hB).trans (hb.mono (hB).size)
  clear hb
  replace cE := blk_cell bE
  replace cF := blk_cell bF
  go_wp2_with fail
  refine (of_ent f t1 w1 u1 _ he).mono ?_
  rintro e wF ⟨rfl, hb⟩
  replace bE := blk_below bE hb (blk_lt bE)
  replace bF := blk_below bF hb (blk_lt bF)
  replace hB := (hB).trans (hb.mono (hB).size)
  clear hb
  replace cE := blk_cell bE
  replace cF := blk_cell bF
  replace bE := blk_old bE (.cells #[.int .i64 f, .bool t1, .bool w1, .bool u1] 23)
  replace bF := blk_old bF (.cells #[.int .i64 f, .bool t1, .bool w1, .bool u1] 23)
  have bY := blk_new wF (.cells #[.int .i64 f, .bool t1, .bool w1, .bool u1] 23)
  replace cE := blk_cell bE
  replace cF := blk_cell bF
  replace hB := hB.alloc hB.size (.cells #[.int .i64 f, .bool t1, .bool w1, .bool u1] 23)
  go_wp2_with fail
  refine (same_refl f t1 w1 u1 _).mono ?_
  rintro e wG ⟨rfl, hb⟩
  replace bE := blk_below bE hb (blk_lt bE)
  replace bF := blk_below bF hb (blk_lt bF)
  replace hB := (hB).trans (hb.mono (hB).size)
  clear hb
  replace cE := blk_cell bE
  replace cF := blk_cell bF
  go_wp2_with fail
  refine (same_ne f g t1 t2 w1 w2 u1 u2 _ hd).mono ?_
  rintro e wH ⟨rfl, hb⟩
  replace bE := blk_below bE hb (blk_lt bE)
  replace bF := blk_below bF hb (blk_lt bF)
  replace hB := (hB).trans (hb.mono (hB).size)
  clear hb
  replace cE := blk_cell bE
  replace cF := blk_cell bF
  go_wp2
  go_ret
  exact ⟨rfl, hB⟩

set_option maxHeartbeats 1000000 in
theorem back_nnn (f g x : Int) (t1 w1 u1 t2 w2 u2 : Bool) (w : World) (hx0 : 0 ≤ x) (hx1 : x ≤ 4294967295) (he : ¬ entOk f t1 w1 u1) (hg : ¬ entOk g t2 w2 u2) (hx : ¬ isEnt x) :
    Calls Try.prog 3 #[.agg #[.int .i64 f, .bool t1, .bool w1, .bool u1], .agg #[.int .i64 g, .bool t2, .bool w2, .bool u2], .int .u32 x] w fun e w' => e = .returned (.bool true) ∧ Below w.heap.size w w' := by
  go_enter Try.func3, Try.ntmps3
  go_wp2_with fail
  refine (first_true _).mono ?_
  rintro e wA ⟨rfl, hbA⟩
  have bE := blk_below (blk_old (blk_new w _) _) hbA (by simp; omega)
  have bF := blk_below (blk_new (w.alloc _) _) hbA (by simp)
  simp only [World.size_alloc] at bF
  have hB : Below w.heap.size w wA := (((Below.refl _ _).alloc (Nat.le_refl _) _).alloc (by simp) _).trans (hbA.mono (by simp; omega))
  clear hbA
  have cE := blk_cell bE
  have cF := blk_cell bF
  go_wp2_with fail
  refine (bits_no f t1 w1 u1 _ he).mono ?_
  rintro e wB ⟨rfl, hb⟩
  replace bE := blk_below bE hb (blk_lt bE)
  replace bF := blk_below bF hb (blk_lt bF)
  replace hB := (hB).trans (hb.mono (hB).size)
  clear hb
  replace cE := blk_cell bE
  replace cF := blk_cell bF
  go_wp2_with fail
  refine (bits_no g t2 w2 u2 _ hg).mono ?_
  rintro e wC ⟨rfl, hb⟩
  replace bE := blk_below bE hb (blk_lt bE)
  replace bF := blk_below bF hb (blk_lt bF)
  replace hB := (hB).trans (hb.mono (hB).size)
  clear hb
  replace cE := blk_cell bE
  replace cF := blk_cell bF
  go_wp2_with fail
  refine (of_no x _ hx0 hx1 hx).mono ?_
  rintro e wD ⟨rfl, hb⟩
  replace bE := blk_below bE hb (blk_lt bE)
  replace bF := blk_below bF hb (blk_lt bF)
  replace hB := (hB).trans (hb.mono (hB).size)
  clear hb
  replace cE := blk_cell bE
  replace cF := blk_cell bF
  go_wp2
  go_ret
  exact ⟨rfl, hB.alloc hB.size _⟩

set_option maxHeartbeats 1000000 in
theorem back_nny (f g x : Int) (t1 w1 u1 t2 w2 u2 : Bool) (w : World) (hx0 : 0 ≤ x) (hx1 : x ≤ 4294967295) (he : ¬ entOk f t1 w1 u1) (hg : entOk g t2 w2 u2) (hx : ¬ isEnt x) :
    Calls Try.prog 3 #[.agg #[.int .i64 f, .bool t1, .bool w1, .bool u1], .agg #[.int .i64 g, .bool t2, .bool w2, .bool u2], .int .u32 x] w fun e w' => e = .returned (.bool true) ∧ Below w.heap.size w w' := by
  go_enter Try.func3, Try.ntmps3
  go_wp2_with fail
  refine (first_true _).mono ?_
  rintro e wA ⟨rfl, hbA⟩
  have bE := blk_below (blk_old (blk_new w _) _) hbA (by simp; omega)
  have bF := blk_below (blk_new (w.alloc _) _) hbA (by simp)
  simp only [World.size_alloc] at bF
  have hB : Below w.heap.size w wA := (((Below.refl _ _).alloc (Nat.le_refl _) _).alloc (by simp) _).trans (hbA.mono (by simp; omega))
  clear hbA
  have cE := blk_cell bE
  have cF := blk_cell bF
  go_wp2_with fail
  refine (bits_no f t1 w1 u1 _ he).mono ?_
  rintro e wB ⟨rfl, hb⟩
  replace bE := blk_below bE hb (blk_lt bE)
  replace bF := blk_below bF hb (blk_lt bF)
  replace hB := (hB).trans (hb.mono (hB).size)
  clear hb
  replace cE := blk_cell bE
  replace cF := blk_cell bF
  go_wp2_with fail
  refine (bits_yes g t2 w2 u2 _ hg).mono ?_
  rintro e wC ⟨rfl, hb⟩
  replace bE := blk_below bE hb (blk_lt bE)
  replace bF := blk_below bF hb (blk_lt bF)
  replace hB := (hB).trans (hb.mono (hB).size)
  clear hb
  replace cE := blk_cell bE
  replace cF := blk_cell bF
  go_wp2_with fail
  refine (of_no x _ hx0 hx1 hx).mono ?_
  rintro e wD ⟨rfl, hb⟩
  replace bE := blk_below bE hb (blk_lt bE)
  replace bF := blk_below bF hb (blk_lt bF)
  replace hB := (hB).trans (hb.mono (hB).size)
  clear hb
  replace cE := blk_cell bE
  replace cF := blk_cell bF
  go_wp2
  go_ret
  exact ⟨rfl, hB.alloc hB.size _⟩

set_option maxHeartbeats 1000000 in
theorem back_nyn (f g x : Int) (t1 w1 u1 t2 w2 u2 : Bool) (w : World) (hx0 : 0 ≤ x) (hx1 : x ≤ 4294967295) (he : entOk f t1 w1 u1) (hg : ¬ entOk g t2 w2 u2) (hx : ¬ isEnt x) :
    Calls Try.prog 3 #[.agg #[.int .i64 f, .bool t1, .bool w1, .bool u1], .agg #[.int .i64 g, .bool t2, .bool w2, .bool u2], .int .u32 x] w fun e w' => e = .returned (.bool true) ∧ Below w.heap.size w w' := by
  go_enter Try.func3, Try.ntmps3
  go_wp2_with fail
  refine (first_true _).mono ?_
  rintro e wA ⟨rfl, hbA⟩
  have bE := blk_below (blk_old (blk_new w _) _) hbA (by simp; omega)
  have bF := blk_below (blk_new (w.alloc _) _) hbA (by simp)
  simp only [World.size_alloc] at bF
  have hB : Below w.heap.size w wA := (((Below.refl _ _).alloc (Nat.le_refl _) _).alloc (by simp) _).trans (hbA.mono (by simp; omega))
  clear hbA
  have cE := blk_cell bE
  have cF := blk_cell bF
  go_wp2_with fail
  refine (bits_yes f t1 w1 u1 _ he).mono ?_
  rintro e wB ⟨rfl, hb⟩
  replace bE := blk_below bE hb (blk_lt bE)
  replace bF := blk_below bF hb (blk_lt bF)
  replace hB := (hB).trans (hb.mono (hB).size)
  clear hb
  replace cE := blk_cell bE
  replace cF := blk_cell bF
  go_wp2_with fail
  refine (bits_no g t2 w2 u2 _ hg).mono ?_
  rintro e wC ⟨rfl, hb⟩
  replace bE := blk_below bE hb (blk_lt bE)
  replace bF := blk_below bF hb (blk_lt bF)
  replace hB := (hB).trans (hb.mono (hB).size)
  clear hb
  replace cE := blk_cell bE
  replace cF := blk_cell bF
  go_wp2_with fail
  refine (of_no x _ hx0 hx1 hx).mono ?_
  rintro e wD ⟨rfl, hb⟩
  replace bE := blk_below bE hb (blk_lt bE)
  replace bF := blk_below bF hb (blk_lt bF)
  replace hB := (hB).trans (hb.mono (hB).size)
  clear hb
  replace cE := blk_cell bE
  replace cF := blk_cell bF
  replace bE := blk_old bE (.cells #[.int .i64 0, .bool false, .bool false, .bool false] 23)
  replace bF := blk_old bF (.cells #[.int .i64 0, .bool false, .bool false, .bool false] 23)
  replace hB := hB.alloc hB.size (.cells #[.int .i64 0, .bool false, .bool false, .bool false] 23)
  go_wp2_with fail
  refine (of_ent f t1 w1 u1 _ he).mono ?_
  rintro e wF ⟨rfl, hb⟩
  replace bE := blk_below bE hb (blk_lt bE)
  replace bF := blk_below bF hb (blk_lt bF)
  replace hB := (hB).trans (hb.mono (hB).size)
  clear hb
  replace cE := blk_cell bE
  replace cF := blk_cell bF
  replace bE := blk_old bE (.cells #[.int .i64 f, .bool t1, .bool w1, .bool u1] 23)
  replace bF := blk_old bF (.cells #[.int .i64 f, .bool t1, .bool w1, .bool u1] 23)
  have bY := blk_new wF (.cells #[.int .i64 f, .bool t1, .bool w1, .bool u1] 23)
  replace cE := blk_cell bE
  replace cF := blk_cell bF
  replace hB := hB.alloc hB.size (.cells #[.int .i64 f, .bool t1, .bool w1, .bool u1] 23)
  go_wp2_with fail
  refine (same_refl f t1 w1 u1 _).mono ?_
  rintro e wG ⟨rfl, hb⟩
  replace bE := blk_below bE hb (blk_lt bE)
  replace bF := blk_below bF hb (blk_lt bF)
  replace hB := (hB).trans (hb.mono (hB).size)
  clear hb
  replace cE := blk_cell bE
  replace cF := blk_cell bF
  go_wp2
  go_ret
  exact ⟨rfl, hB⟩

set_option maxHeartbeats 1000000 in
theorem back_nyys (f x : Int) (t1 w1 u1 : Bool) (w : World) (hx0 : 0 ≤ x) (hx1 : x ≤ 4294967295) (he : entOk f t1 w1 u1) (hx : ¬ isEnt x) :
    Calls Try.prog 3 #[.agg #[.int .i64 f, .bool t1, .bool w1, .bool u1], .agg #[.int .i64 f, .bool t1, .bool w1, .bool u1], .int .u32 x] w fun e w' => e = .returned (.bool true) ∧ Below w.heap.size w w' := by
  go_enter Try.func3, Try.ntmps3
  go_wp2_with fail
  refine (first_true _).mono ?_
  rintro e wA ⟨rfl, hbA⟩
  have bE := blk_below (blk_old (blk_new w _) _) hbA (by simp; omega)
  have bF := blk_below (blk_new (w.alloc _) _) hbA (by simp)
  simp only [World.size_alloc] at bF
  have hB : Below w.heap.size w wA := (((Below.refl _ _).alloc (Nat.le_refl _) _).alloc (by simp) _).trans (hbA.mono (by simp; omega))
  clear hbA
  have cE := blk_cell bE
  have cF := blk_cell bF
  go_wp2_with fail
  refine (bits_yes f t1 w1 u1 _ he).mono ?_
  rintro e wB ⟨rfl, hb⟩
  replace bE := blk_below bE hb (blk_lt bE)
  replace bF := blk_below bF hb (blk_lt bF)
  replace hB := (hB).trans (hb.mono (hB).size)
  clear hb
  replace cE := blk_cell bE
  replace cF := blk_cell bF
  go_wp2_with fail
  refine (bits_yes f t1 w1 u1 _ he).mono ?_
  rintro e wC ⟨rfl, hb⟩
  replace bE := blk_below bE hb (blk_lt bE)
  replace bF := blk_below bF hb (blk_lt bF)
  replace hB := (hB).trans (hb.mono (hB).size)
  clear hb
  replace cE := blk_cell bE
  replace cF := blk_cell bF
  go_wp2_with fail
  refine (of_no x _ hx0 hx1 hx).mono ?_
  rintro e wD ⟨rfl, hb⟩
  replace bE := blk_below bE hb (blk_lt bE)
  replace bF := blk_below bF hb (blk_lt bF)
  replace hB := (hB).trans (hb.mono (hB).size)
  clear hb
  replace cE := blk_cell bE
  replace cF := blk_cell bF
  replace bE := blk_old bE (.cells #[.int .i64 0, .bool false, .bool false, .bool false] 23)
  replace bF := blk_old bF (.cells #[.int .i64 0, .bool false, .bool false, .bool false] 23)
  replace hB := hB.alloc hB.size (.cells #[.int .i64 0, .bool false, .bool false, .bool false] 23)
  go_wp2_with fail
  refine (of_ent f t1 w1 u1 _ he).mono ?_
  rintro e wF ⟨rfl, hb⟩
  replace bE := blk_below bE hb (blk_lt bE)
  replace bF := blk_below bF hb (blk_lt bF)
  replace hB := (hB).trans (hb.mono (hB).size)
  clear hb
  replace cE := blk_cell bE
  replace cF := blk_cell bF
  replace bE := blk_old bE (.cells #[.int .i64 f, .bool t1, .bool w1, .bool u1] 23)
  replace bF := blk_old bF (.cells #[.int .i64 f, .bool t1, .bool w1, .bool u1] 23)
  have bY := blk_new wF (.cells #[.int .i64 f, .bool t1, .bool w1, .bool u1] 23)
  replace cE := blk_cell bE
  replace cF := blk_cell bF
  replace hB := hB.alloc hB.size (.cells #[.int .i64 f, .bool t1, .bool w1, .bool u1] 23)
  go_wp2_with fail
  refine (same_refl f t1 w1 u1 _).mono ?_
  rintro e wG ⟨rfl, hb⟩
  replace bE := blk_below bE hb (blk_lt bE)
  replace bF := blk_below bF hb (blk_lt bF)
  replace hB := (hB).trans (hb.mono (hB).size)
  clear hb
  replace cE := blk_cell bE
  replace cF := blk_cell bF
  go_wp2_with fail
  refine (same_refl f t1 w1 u1 _).mono ?_
  rintro e wH ⟨rfl, hb⟩
  replace bE := blk_below bE hb (blk_lt bE)
  replace bF := blk_below bF hb (blk_lt bF)
  replace hB := (hB).trans (hb.mono (hB).size)
  clear hb
  replace cE := blk_cell bE
  replace cF := blk_cell bF
  go_wp2
  go_ret
  exact ⟨rfl, hB⟩

set_option maxHeartbeats 1000000 in
theorem back_nyyd (f g x : Int) (t1 w1 u1 t2 w2 u2 : Bool) (w : World) (hx0 : 0 ≤ x) (hx1 : x ≤ 4294967295) (he : entOk f t1 w1 u1) (hg : entOk g t2 w2 u2) (hx : ¬ isEnt x) (hd : ¬ (f = g ∧ t1 = t2 ∧ w1 = w2 ∧ u1 = u2)) :
    Calls Try.prog 3 #[.agg #[.int .i64 f, .bool t1, .bool w1, .bool u1], .agg #[.int .i64 g, .bool t2, .bool w2, .bool u2], .int .u32 x] w fun e w' => e = .returned (.bool true) ∧ Below w.heap.size w w' := by
  have hne : (entW f t1 w1 u1 == entW g t2 w2 u2) = false := by
    rw [beq_eq_false_iff_ne]
    exact fun h => hd (ent_inj he hg h)
  go_enter Try.func3, Try.ntmps3
  go_wp2_with fail
  refine (first_true _).mono ?_
  rintro e wA ⟨rfl, hbA⟩
  have bE := blk_below (blk_old (blk_new w _) _) hbA (by simp; omega)
  have bF := blk_below (blk_new (w.alloc _) _) hbA (by simp)
  simp only [World.size_alloc] at bF
  have hB : Below w.heap.size w wA := (((Below.refl _ _).alloc (Nat.le_refl _) _).alloc (by simp) _).trans (hbA.mono (by simp; omega))
  clear hbA
  have cE := blk_cell bE
  have cF := blk_cell bF
  go_wp2_with fail
  refine (bits_yes f t1 w1 u1 _ he).mono ?_
  rintro e wB ⟨rfl, hb⟩
  replace bE := blk_below bE hb (blk_lt bE)
  replace bF := blk_below bF hb (blk_lt bF)
  replace hB := (hB).trans (hb.mono (hB).size)
  clear hb
  replace cE := blk_cell bE
  replace cF := blk_cell bF
  go_wp2_with fail
  refine (bits_yes g t2 w2 u2 _ hg).mono ?_
  rintro e wC ⟨rfl, hb⟩
  replace bE := blk_below bE hb (blk_lt bE)
  replace bF := blk_below bF hb (blk_lt bF)
  replace hB := (hB).trans (hb.mono (hB).size)
  clear hb
  replace cE := blk_cell bE
  replace cF := blk_cell bF
  go_wp2_with fail
  refine (of_no x _ hx0 hx1 hx).mono ?_
  rintro e wD ⟨rfl, hb⟩
  replace bE := blk_below bE hb (blk_lt bE)
  replace bF := blk_below bF hb (blk_lt bF)
  replace hB := (hB).trans (hb.mono (hB).size)
  clear hb
  replace cE := blk_cell bE
  replace cF := blk_cell bF
  replace bE := blk_old bE (.cells #[.int .i64 0, .bool false, .bool false, .bool false] 23)
  replace bF := blk_old bF (.cells #[.int .i64 0, .bool false, .bool false, .bool false] 23)
  replace hB := hB.alloc hB.size (.cells #[.int .i64 0, .bool false, .bool false, .bool false] 23)
  go_wp2_with fail
  refine (of_ent f t1 w1 u1 _ he).mono ?_
  rintro e wF ⟨rfl, hb⟩
  replace bE := blk_below bE hb (blk_lt bE)
  replace bF := blk_below bF hb (blk_lt bF)
  replace hB := (hB).trans (hb.mono (hB).size)
  clear hb
  replace cE := blk_cell bE
  replace cF := blk_cell bF
  replace bE := blk_old bE (.cells #[.int .i64 f, .bool t1, .bool w1, .bool u1] 23)
  replace bF := blk_old bF (.cells #[.int .i64 f, .bool t1, .bool w1, .bool u1] 23)
  have bY := blk_new wF (.cells #[.int .i64 f, .bool t1, .bool w1, .bool u1] 23)
  replace cE := blk_cell bE
  replace cF := blk_cell bF
  replace hB := hB.alloc hB.size (.cells #[.int .i64 f, .bool t1, .bool w1, .bool u1] 23)
  go_wp2_with fail
  refine (same_refl f t1 w1 u1 _).mono ?_
  rintro e wG ⟨rfl, hb⟩
  replace bE := blk_below bE hb (blk_lt bE)
  replace bF := blk_below bF hb (blk_lt bF)
  replace hB := (hB).trans (hb.mono (hB).size)
  clear hb
  replace cE := blk_cell bE
  replace cF := blk_cell bF
  go_wp2_with fail
  refine (same_ne f g t1 t2 w1 w2 u1 u2 _ hd).mono ?_
  rintro e wH ⟨rfl, hb⟩
  replace bE := blk_below bE hb (blk_lt bE)
  replace bF := blk_below bF hb (blk_lt bF)
  replace hB := (hB).trans (hb.mono (hB).size)
  clear hb
  replace cE := blk_cell bE
  replace cF := blk_cell bF
  go_wp2
  go_ret
  exact ⟨rfl, hB⟩

theorem back_walk (f g x : Int) (t1 w1 u1 t2 w2 u2 : Bool) (w : World) (hx0 : 0 ≤ x) (hx1 : x ≤ 4294967295) :
    Calls Try.prog 3 #[.agg #[.int .i64 f, .bool t1, .bool w1, .bool u1], .agg #[.int .i64 g, .bool t2, .bool w2, .bool u2], .int .u32 x] w fun e w' => e = .returned (.bool true) ∧ Below w.heap.size w w' := by
  by_cases hx : isEnt x <;> by_cases he : entOk f t1 w1 u1 <;> by_cases hg : entOk g t2 w2 u2
  · by_cases hd : f = g ∧ t1 = t2 ∧ w1 = w2 ∧ u1 = u2
    · obtain ⟨rfl, rfl, rfl, rfl⟩ := hd
      exact back_yyys f x t1 w1 u1 w hx0 hx1 he hx
    · exact back_yyyd f g x t1 w1 u1 t2 w2 u2 w hx0 hx1 he hg hx hd
  · exact back_yyn f g x t1 w1 u1 t2 w2 u2 w hx0 hx1 he hg hx
  · exact back_yny f g x t1 w1 u1 t2 w2 u2 w hx0 hx1 he hg hx
  · exact back_ynn f g x t1 w1 u1 t2 w2 u2 w hx0 hx1 he hg hx
  · by_cases hd : f = g ∧ t1 = t2 ∧ w1 = w2 ∧ u1 = u2
    · obtain ⟨rfl, rfl, rfl, rfl⟩ := hd
      exact back_nyys f x t1 w1 u1 w hx0 hx1 he hx
    · exact back_nyyd f g x t1 w1 u1 t2 w2 u2 w hx0 hx1 he hg hx hd
  · exact back_nyn f g x t1 w1 u1 t2 w2 u2 w hx0 hx1 he hg hx
  · exact back_nny f g x t1 w1 u1 t2 w2 u2 w hx0 hx1 he hg hx
  · exact back_nnn f g x t1 w1 u1 t2 w2 u2 w hx0 hx1 he hg hx
end Go.Proofs.Ytpaijiamcjbbcaa
