/-
  walk: where an address is, over the list of a memory's words.
-/
import Derived.Test.YtnhocmmgdkiepaaDoorMm2
import Derived.Test.YtnhocmmgdkiepaaDoorMmB
import Derived.Test.YtnhocmmgdkiepaaDoorWalkBack
namespace Go.Proofs.YtnhocmmgdkiepaaDoor
open Go.RowKit

/-- a word of a memory -/
def W32 (x : Int) : Prop := 0 ≤ x ∧ x ≤ 4294967295
structure Ent where
  f : Int
  t : Bool
  w : Bool
  u : Bool
def Ent.v (e : Ent) : Value := .agg #[.int .i64 e.f, .bool e.t, .bool e.w, .bool e.u]
def Ent.z : Ent := ⟨0, false, false, false⟩
def entOkB (f : Int) (t wr u : Bool) : Bool := decide (0 ≤ f ∧ f < 1024) && (t || (decide (f = 0) && !wr && !u))
def isEntB (x : Int) : Bool := entOkB (x / 256) (flag x 1) (flag x 2) (flag x 4) && decide (entW (x / 256) (flag x 1) (flag x 2) (flag x 4) = x)
theorem entOkB_iff (f : Int) (t wr u : Bool) : entOkB f t wr u = true ↔ entOk f t wr u := by
  unfold entOkB entOk
  cases t <;> cases wr <;> cases u <;> simp
  all_goals omega
theorem isEntB_iff (x : Int) : isEntB x = true ↔ isEnt x := by
  unfold isEntB isEnt
  rw [Bool.and_eq_true, entOkB_iff, decide_eq_true_eq]
/-- a word as an entry -/
def ofA (x : Int) : Ent × Bool := if isEntB x then (⟨x / 256, flag x 1, flag x 2, flag x 4⟩, true) else (Ent.z, false)
/-- an entry of a frame that is there -/
def entryA (l : List Int) (n : Nat) (f : Int) (i : Nat) : Ent × Bool :=
  if 0 ≤ f ∧ f < (n : Int) ∧ (ofA (l.getD (16 * f.toNat + i) 0)).2 = true ∧ (ofA (l.getD (16 * f.toNat + i) 0)).1.t = true then ((ofA (l.getD (16 * f.toNat + i) 0)).1, true) else (Ent.z, false)
/-- a page's entry -/
def pageA (l : List Int) (n : Nat) (root page : Int) : Ent × Bool :=
  if 0 ≤ page ∧ page < 256 ∧ (entryA l n root (page.toNat / 16)).2 = true then entryA l n (entryA l n root (page.toNat / 16)).1.f (page.toNat % 16) else (Ent.z, false)
/-- where an address is -/
def walkA (l : List Int) (n : Nat) (root addr : Int) (wr us : Bool) : Int × Bool :=
  if addr < 4096 ∧ (pageA l n root (addr / 16)).2 = true ∧ (wr = true → (pageA l n root (addr / 16)).1.w = true) ∧ (us = true → (pageA l n root (addr / 16)).1.u = true) ∧ (pageA l n root (addr / 16)).1.f < (n : Int) then ((pageA l n root (addr / 16)).1.f * 16 + addr % 16, true) else (0, false)
theorem ofA_range (x : Int) (h : 0 ≤ x) : 0 ≤ (ofA x).1.f ∧ (ofA x).1.f < 1024 := by
  unfold ofA
  by_cases hx : isEntB x = true
  · rw [if_pos hx]
    have := (isEntB_iff x).1 hx
    exact ⟨this.1.1, this.1.2.1⟩
  · rw [if_neg hx]
    exact ⟨by decide, by decide⟩
theorem entryA_f (l : List Int) (n : Nat) (f : Int) (i : Nat) (hl : ∀ j, W32 (l.getD j 0)) : 0 ≤ (entryA l n f i).1.f ∧ (entryA l n f i).1.f < 1024 := by
  unfold entryA
  split
  · exact ofA_range _ (hl _).1
  · exact ⟨by decide, by decide⟩
theorem pageA_f (l : List Int) (n : Nat) (r p : Int) (hl : ∀ j, W32 (l.getD j 0)) : 0 ≤ (pageA l n r p).1.f ∧ (pageA l n r p).1.f < 1024 := by
  unfold pageA
  split
  · exact entryA_f _ _ _ _ hl
  · exact ⟨by decide, by decide⟩

theorem of_any (x : Int) (w : World) (h : W32 x) :
    Calls Tryd.prog 63 #[.int .u32 x] w fun e w' => e = .returned (.tuple #[(ofA x).1.v, .bool (ofA x).2]) ∧ Below w.heap.size w w' := by
  unfold ofA
  by_cases hx : isEntB x = true
  · rw [if_pos hx]
    exact of_yes x w h.1 h.2 ((isEntB_iff x).1 hx)
  · rw [if_neg hx]
    exact of_no x w h.1 h.2 (fun e => hx ((isEntB_iff x).2 e))

theorem set4 {B : Nat} {w w' : World} (h : Below B w w') {b : Nat} (hb : B ≤ b) (x y z u : Value) : Below B w ((((w'.setCell ⟨b, 0, none⟩ x).setCell ⟨b, 1, none⟩ y).setCell ⟨b, 2, none⟩ z).setCell ⟨b, 3, none⟩ u) :=
  (((h.setCell (p := ⟨b, 0, none⟩) hb x).setCell (p := ⟨b, 1, none⟩) hb y).setCell (p := ⟨b, 2, none⟩) hb z).setCell (p := ⟨b, 3, none⟩) hb u
theorem set4a {w w' : World} (h : Below w.heap.size w w') {b : Nat} (hb : w.heap.size ≤ b) (x y z u : Value) (o : Obj) : Below w.heap.size w (((((w'.setCell ⟨b, 0, none⟩ x).setCell ⟨b, 1, none⟩ y).setCell ⟨b, 2, none⟩ z).setCell ⟨b, 3, none⟩ u).alloc o) :=
  (set4 h hb x y z u).alloc (set4 h hb x y z u).size o

set_option maxHeartbeats 1000000 in
theorem entry_any (l : List Int) (b n : Nat) (v : Value) (f : Int) (i : Nat) (w : World) (h : MAt w b v n l) (hn : n ≤ 1024) (hi : i < 16) (hl : ∀ j, W32 (l.getD j 0)) :
    Calls Tryd.prog 132 #[.pointer (some ⟨b, 0, none⟩), .int .i64 f, .int .i64 i] w fun e w' => e = .returned (.tuple #[(entryA l n f i).1.v, .bool (entryA l n f i).2]) ∧ Below w.heap.size w w' := by
  have HM := Lib.hid h
  by_cases h0 : f < 0
  · have HE : Hid (entryA l n f i = (Ent.z, false)) := Lib.hid (by unfold entryA; rw [if_neg (by omega)])
    rw [HE.out]
    clear h
    go_enter Tryd.func132, Tryd.ntmps132
    go_wp2
    refine bodyPost_ret (v := .tuple #[Ent.z.v, .bool false]) (by simp [results, Tryd.results132, go_sem, Ent.v, Ent.z]) rfl ⟨rfl, ?_⟩
    exact (Below.refl _ _).alloc (Nat.le_refl _) _
  · obtain ⟨k, rfl⟩ : ∃ k : Nat, f = (k : Int) := ⟨f.toNat, by omega⟩
    by_cases h1 : (n : Int) ≤ (k : Int)
    · have HE : Hid (entryA l n (k : Int) i = (Ent.z, false)) := Lib.hid (by unfold entryA; rw [if_neg (by omega)])
      rw [HE.out]
      clear h
      go_enter Tryd.func132, Tryd.ntmps132
      go_wp2_with fail
      refine (mm_frames l b n v _ (HM.out.below ((Below.refl _ _).alloc (Nat.le_refl _) _)) hn).mono ?_
      rintro e w1 ⟨rfl, rfl⟩
      go_wp2
      refine bodyPost_ret (v := .tuple #[Ent.z.v, .bool false]) (by simp [results, Tryd.results132, go_sem, Ent.v, Ent.z]) rfl ⟨rfl, ?_⟩
      exact (Below.refl _ _).alloc (Nat.le_refl _) _
    · have hkn : k < n := by omega
      have hux := hl (16 * k + i)
      have HE : Hid (∀ o ok, ofA (l.getD (16 * k + i) 0) = (o, ok) → entryA l n (k : Int) i = if ok = true ∧ o.t = true then (o, true) else (Ent.z, false)) := Lib.hid fun o ok e => by
        unfold entryA
        rw [Int.toNat_natCast, e]
        by_cases hc : ok = true ∧ o.t = true
        · rw [if_pos hc, if_pos ⟨by omega, by omega, hc.1, hc.2⟩]
        · rw [if_neg hc, if_neg (fun h => hc h.2.2)]
      have HOF : Hid (∀ wx, Calls Tryd.prog 63 #[.int .u32 (l.getD (16 * k + i) 0)] wx fun e w' => e = .returned (.tuple #[(ofA (l.getD (16 * k + i) 0)).1.v, .bool (ofA (l.getD (16 * k + i) 0)).2]) ∧ Below wx.heap.size wx w') := Lib.hid fun wx => of_any _ wx hux
      have hw1 := IntWalk.i64_in ((k : Int) * 16) (by omega)
      have hw2 := IntWalk.i64_in ((k : Int) * 16 + (i : Int)) (by omega)
      have HRD : Hid (∀ wx, MAt wx b v n l → Calls Tryd.prog 149 #[.pointer (some ⟨b, 0, none⟩), .int .i64 ((k : Int) * 16 + (i : Int))] wx fun e w' => e = .returned (.tuple #[.int .u32 (l.getD (16 * k + i) 0), .bool true]) ∧ wx = w') := Lib.hid fun wx hm => by
        have := mm_read_at l b n (16 * k + i) v wx hm (by omega)
        rwa [show (((16 * k + i : Nat) : Nat) : Int) = (k : Int) * 16 + (i : Int) by omega] at this
      obtain ⟨⟨⟨og, ot, ow, ou⟩, ok⟩, ho⟩ : ∃ p, ofA (l.getD (16 * k + i) 0) = p := ⟨_, rfl⟩
      rw [HE.out _ _ ho]
      rw [ho] at HOF
      obtain ⟨x, hx⟩ : ∃ x, l.getD (16 * k + i) 0 = x := ⟨_, rfl⟩
      rw [hx] at HOF HRD
      clear h hux HE ho hx hkn
      go_enter Tryd.func132, Tryd.ntmps132
      go_wp2_with fail
      refine (mm_frames l b n v _ (HM.out.below ((Below.refl _ _).alloc (Nat.le_refl _) _)) hn).mono ?_
      rintro e w1 ⟨rfl, rfl⟩
      go_wp2_with fail
      refine (HRD.out _ (HM.out.below ((Below.refl _ _).alloc (Nat.le_refl _) _))).mono ?_
      rintro e w1 ⟨rfl, rfl⟩
      go_wp2_with fail
      refine (HOF.out _).mono ?_
      rintro e w1 ⟨rfl, hb⟩
      have k0 : w1.heap[w.heap.size]? = _ := (hb.block w.heap.size (by simp)).trans (blk_new w _)
      have hb' : Below w.heap.size w w1 := ((Below.refl _ _).alloc (Nat.le_refl _) _).trans (hb.mono (by simp))
      have HB := Lib.hid hb'
      have hlt := blk_lt k0
      have c0 := blk_cell k0 0
      have c1 := blk_cell k0 1
      have c2 := blk_cell k0 2
      have c3 := blk_cell k0 3
      have f0 := blk_free k0 0
      have f1 := blk_free k0 1
      have f2 := blk_free k0 2
      have f3 := blk_free k0 3
      clear hb hb' k0
      unfold Ent.v
      cases ok <;> cases ot
      all_goals
        go_wp2
      iterate 3
        · refine bodyPost_ret (v := .tuple #[Ent.z.v, .bool false]) (by simp [results, Tryd.results132, go_sem, Ent.v, Ent.z, hlt, c0, c1, c2, c3]) rfl ⟨rfl, ?_⟩
          exact set4a HB.out (Nat.le_refl _) _ _ _ _ _
      · refine bodyPost_ret (v := .tuple #[(⟨og, true, ow, ou⟩ : Ent).v, .bool true]) (by simp [results, Tryd.results132, go_sem, Ent.v, hlt, c0, c1, c2, c3]) rfl ⟨rfl, ?_⟩
        exact set4a HB.out (Nat.le_refl _) _ _ _ _ _

set_option maxRecDepth 100000 in
set_option maxHeartbeats 1000000 in
theorem page_any (l : List Int) (b n : Nat) (v : Value) (root page : Int) (w : World) (h : MAt w b v n l) (hn : n ≤ 1024) (hl : ∀ j, W32 (l.getD j 0)) :
    Calls Tryd.prog 110 #[.pointer (some ⟨b, 0, none⟩), .int .i64 root, .int .i64 page] w fun e w' => e = .returned (.tuple #[(pageA l n root page).1.v, .bool (pageA l n root page).2]) ∧ Below w.heap.size w w' := by
  have HM := Lib.hid h
  by_cases h0 : page < 0
  · have HE : Hid (pageA l n root page = (Ent.z, false)) := Lib.hid (by unfold pageA; rw [if_neg (by omega)])
    rw [HE.out]
    clear h
    go_enter Tryd.func110, Tryd.ntmps110
    go_wp2
    refine bodyPost_ret (v := .tuple #[Ent.z.v, .bool false]) (by simp [results, Tryd.results110, go_sem, Ent.v, Ent.z]) rfl ⟨rfl, ?_⟩
    exact (Below.refl _ _).alloc (Nat.le_refl _) _
  · by_cases h1 : 256 ≤ page
    · have HE : Hid (pageA l n root page = (Ent.z, false)) := Lib.hid (by unfold pageA; rw [if_neg (by omega)])
      rw [HE.out]
      clear h
      go_enter Tryd.func110, Tryd.ntmps110
      go_wp2
      refine bodyPost_ret (v := .tuple #[Ent.z.v, .bool false]) (by simp [results, Tryd.results110, go_sem, Ent.v, Ent.z]) rfl ⟨rfl, ?_⟩
      exact (Below.refl _ _).alloc (Nat.le_refl _) _
    · obtain ⟨p, rfl⟩ : ∃ p : Nat, page = (p : Int) := ⟨page.toNat, by omega⟩
      have hw1 := IntWalk.i64_in ((p : Int) / 16) (by omega)
      have hw2 := IntWalk.i64_in ((p : Int) % 16) (by omega)
      have hq : (p : Int).tdiv 16 = ((p / 16 : Nat) : Int) := by rw [Int.tdiv_eq_ediv_of_nonneg (by omega)]; omega
      have hr : (p : Int).tmod 16 = ((p % 16 : Nat) : Int) := by rw [Int.tmod_eq_emod_of_nonneg (by omega)]; omega
      have HE : Hid (∀ o ok, entryA l n root (p / 16) = (o, ok) → pageA l n root (p : Int) = if ok = true then entryA l n o.f (p % 16) else (Ent.z, false)) := Lib.hid fun o ok e => by
        unfold pageA
        rw [Int.toNat_natCast, e]
        by_cases hc : ok = true
        · rw [if_pos hc, if_pos ⟨by omega, by omega, hc⟩]
        · rw [if_neg hc, if_neg (fun h => hc h.2.2)]
      have H1 : Hid (∀ wx, MAt wx b v n l → Calls Tryd.prog 132 #[.pointer (some ⟨b, 0, none⟩), .int .i64 root, .int .i64 ((p / 16 : Nat) : Int)] wx fun e w' => e = .returned (.tuple #[(entryA l n root (p / 16)).1.v, .bool (entryA l n root (p / 16)).2]) ∧ Below wx.heap.size wx w') := Lib.hid fun wx hm => entry_any l b n v root (p / 16) wx hm hn (by omega) hl
      have H2 : Hid (∀ wx f, MAt wx b v n l → Calls Tryd.prog 132 #[.pointer (some ⟨b, 0, none⟩), .int .i64 f, .int .i64 ((p % 16 : Nat) : Int)] wx fun e w' => e = .returned (.tuple #[(entryA l n f (p % 16)).1.v, .bool (entryA l n f (p % 16)).2]) ∧ Below wx.heap.size wx w') := Lib.hid fun wx f hm => entry_any l b n v f (p % 16) wx hm hn (by omega) hl
      obtain ⟨⟨⟨og, ot, ow, ou⟩, ok⟩, ho⟩ : ∃ q, entryA l n root (p / 16) = q := ⟨_, rfl⟩
      rw [HE.out _ _ ho]
      rw [ho] at H1
      clear ho HE
      obtain ⟨a1, ha1⟩ : ∃ a1, ((p / 16 : Nat) : Int) = a1 := ⟨_, rfl⟩
      obtain ⟨a2, ha2⟩ : ∃ a2, ((p % 16 : Nat) : Int) = a2 := ⟨_, rfl⟩
      have hw3 := IntWalk.i64_in a1 (by omega)
      have hw4 := IntWalk.i64_in a2 (by omega)
      rw [ha1] at H1 hq
      rw [ha2] at H2 hr
      clear ha1 ha2 h
      cases ok
      · rw [if_neg (by decide)]
        go_enter Tryd.func110, Tryd.ntmps110
        go_wp2_with fail
        refine (H1.out _ (HM.out.below ((Below.refl _ _).alloc (Nat.le_refl _) _))).mono ?_
        rintro e w1 ⟨rfl, hb⟩
        have k0 : w1.heap[w.heap.size]? = _ := (hb.block w.heap.size (by simp)).trans (blk_new w _)
        have HB : Hid (Below w.heap.size w w1) := Lib.hid (((Below.refl _ _).alloc (Nat.le_refl _) _).trans (hb.mono (by simp)))
        have hlt := blk_lt k0
        have c0 := blk_cell k0 0
        have c1 := blk_cell k0 1
        have c2 := blk_cell k0 2
        have c3 := blk_cell k0 3
        have f0 := blk_free k0 0
        have f1 := blk_free k0 1
        have f2 := blk_free k0 2
        have f3 := blk_free k0 3
        unfold Ent.v
        clear hb k0
        go_wp2
        refine bodyPost_ret (v := .tuple #[Ent.z.v, .bool false]) (by simp [results, Tryd.results110, go_sem, Ent.v, Ent.z, hlt, c0, c1, c2, c3]) rfl ⟨rfl, ?_⟩
        exact set4a HB.out (Nat.le_refl _) _ _ _ _ _
      · rw [if_pos rfl]
        obtain ⟨⟨⟨pg, pt, pw, pu⟩, pk⟩, hp⟩ : ∃ q, entryA l n og (p % 16) = q := ⟨_, rfl⟩
        have H3 := Lib.hid (fun wx hm => H2.out wx og hm)
        rw [hp] at H3 ⊢
        clear hp H2
        go_enter Tryd.func110, Tryd.ntmps110
        go_wp2_with fail
        refine (H1.out _ (HM.out.below ((Below.refl _ _).alloc (Nat.le_refl _) _))).mono ?_
        rintro e w1 ⟨rfl, hb⟩
        have K0 : Hid (w1.heap[w.heap.size]? = _) := Lib.hid ((hb.block w.heap.size (by simp)).trans (blk_new w _))
        have HB : Hid (Below w.heap.size w w1) := Lib.hid (((Below.refl _ _).alloc (Nat.le_refl _) _).trans (hb.mono (by simp)))
        have hlt := blk_lt K0.out
        unfold Ent.v
        clear hb
        go_wp2_with fail
        refine (H3.out _ (HM.out.below (HB.out.alloc HB.out.size _))).mono ?_
        rintro e w2 ⟨rfl, hb⟩
        have k2 : w2.heap[w.heap.size]? = _ := (hb.block w.heap.size (by simp; omega)).trans (blk_old K0.out _)
        have HB2 : Hid (Below w.heap.size w w2) := Lib.hid ((HB.out.alloc HB.out.size _).trans (hb.mono (by simp; omega)))
        have c0 := blk_cell k2 0
        have c1 := blk_cell k2 1
        have c2 := blk_cell k2 2
        have c3 := blk_cell k2 3
        have f0 := blk_free k2 0
        have f1 := blk_free k2 1
        have f2 := blk_free k2 2
        have f3 := blk_free k2 3
        unfold Ent.v
        clear hb k2
        go_wp2
        refine bodyPost_ret (v := .tuple #[(⟨pg, pt, pw, pu⟩ : Ent).v, .bool pk]) (by simp [results, Tryd.results110, go_sem, Ent.v, c0, c1, c2, c3]) rfl ⟨rfl, ?_⟩
        exact set4 HB2.out (Nat.le_refl _) _ _ _ _

theorem walkA_of (l : List Int) (n : Nat) (root addr : Int) (wr us : Bool) (e : Ent) (ok : Bool) (h : addr < 4096) (hp : pageA l n root (addr / 16) = (e, ok)) :
    walkA l n root addr wr us = if ok = true ∧ (wr = true → e.w = true) ∧ (us = true → e.u = true) ∧ e.f < (n : Int) then (e.f * 16 + addr % 16, true) else (0, false) := by
  unfold walkA
  rw [hp]
  by_cases hc : ok = true ∧ (wr = true → e.w = true) ∧ (us = true → e.u = true) ∧ e.f < (n : Int)
  · rw [if_pos hc, if_pos ⟨h, hc.1, hc.2.1, hc.2.2.1, hc.2.2.2⟩]
  · rw [if_neg hc, if_neg (fun h => hc ⟨h.2.1, h.2.2.1, h.2.2.2.1, h.2.2.2.2⟩)]
def pairV (p : Int × Bool) : Value := .tuple #[.int .i64 p.1, .bool p.2]