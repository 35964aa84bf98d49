/-
  Parts of one proof, one behind the other.
-/
import Derived.Test.YtaoaachgnnengaaDoorMg423b7060be
import Derived.BigQuiet
import Derived.Lib.SliceRun
import Derived.Test.YtaoaachgnnengaaDoorMg27fb478bb6
/-
  walk: where an address is, over the list of a memory's words.
-/
namespace Go.Proofs.YtaoaachgnnengaaDoor
open Go.RowKit

/-- a word of a memory -/
def W32 (x : Int) : Prop := 0 ≤ x ∧ x ≤ 4294967295
structure Ent where
  f : Int
  t : Bool
  w : Bool
  u : Bool
def Ent.v (e : Ent) : Value := .agg #[.int .i64 e.f, .bool e.t, .bool e.w, .bool e.u]
def Ent.z : Ent := ⟨0, false, false, false⟩
def entOkB (f : Int) (t wr u : Bool) : Bool := decide (0 ≤ f ∧ f < 1024) && (t || (decide (f = 0) && !wr && !u))
def isEntB (x : Int) : Bool := entOkB (x / 256) (flag x 1) (flag x 2) (flag x 4) && decide (entW (x / 256) (flag x 1) (flag x 2) (flag x 4) = x)
theorem entOkB_iff (f : Int) (t wr u : Bool) : entOkB f t wr u = true ↔ entOk f t wr u := by
  unfold entOkB entOk
  cases t <;> cases wr <;> cases u <;> simp
  all_goals omega
theorem isEntB_iff (x : Int) : isEntB x = true ↔ isEnt x := by
  unfold isEntB isEnt
  rw [Bool.and_eq_true, entOkB_iff, decide_eq_true_eq]
/-- a word as an entry -/
def ofA (x : Int) : Ent × Bool := if isEntB x then (⟨x / 256, flag x 1, flag x 2, flag x 4⟩, true) else (Ent.z, false)
/-- an entry of a frame that is there -/
def entryA (l : List Int) (n : Nat) (f : Int) (i : Nat) : Ent × Bool :=
  if 0 ≤ f ∧ f < (n : Int) ∧ (ofA (l.getD (16 * f.toNat + i) 0)).2 = true ∧ (ofA (l.getD (16 * f.toNat + i) 0)).1.t = true then ((ofA (l.getD (16 * f.toNat + i) 0)).1, true) else (Ent.z, false)
/-- a page's entry -/
def pageA (l : List Int) (n : Nat) (root page : Int) : Ent × Bool :=
  if 0 ≤ page ∧ page < 256 ∧ (entryA l n root (page.toNat / 16)).2 = true then entryA l n (entryA l n root (page.toNat / 16)).1.f (page.toNat % 16) else (Ent.z, false)
/-- where an address is -/
def walkA (l : List Int) (n : Nat) (root addr : Int) (wr us : Bool) : Int × Bool :=
  if addr < 4096 ∧ (pageA l n root (addr / 16)).2 = true ∧ (wr = true → (pageA l n root (addr / 16)).1.w = true) ∧ (us = true → (pageA l n root (addr / 16)).1.u = true) ∧ (pageA l n root (addr / 16)).1.f < (n : Int) then ((pageA l n root (addr / 16)).1.f * 16 + addr % 16, true) else (0, false)
theorem ofA_range (x : Int) (h : 0 ≤ x) : 0 ≤ (ofA x).1.f ∧ (ofA x).1.f < 1024 := by
  unfold ofA
  by_cases hx : isEntB x = true
  · rw [if_pos hx]
    have := (isEntB_iff x).1 hx
    exact ⟨this.1.1, this.1.2.1⟩
  · rw [if_neg hx]
    exact ⟨by decide, by decide⟩
theorem entryA_f (l : List Int) (n : Nat) (f : Int) (i : Nat) (hl : ∀ j, W32 (l.getD j 0)) : 0 ≤ (entryA l n f i).1.f ∧ (entryA l n f i).1.f < 1024 := by
  unfold entryA
  split
  · exact ofA_range _ (hl _).1
  · exact ⟨by decide, by decide⟩
theorem pageA_f (l : List Int) (n : Nat) (r p : Int) (hl : ∀ j, W32 (l.getD j 0)) : 0 ≤ (pageA l n r p).1.f ∧ (pageA l n r p).1.f < 1024 := by
  unfold pageA
  split
  · exact entryA_f _ _ _ _ hl
  · exact ⟨by decide, by decide⟩

theorem of_any (x : Int) (w : World) (h : W32 x) :
    Calls Tryd.prog 98 #[.int .u32 x] w fun e w' => e = .returned (.tuple #[(ofA x).1.v, .bool (ofA x).2]) ∧ Below w.heap.size w w' := by
  unfold ofA
  by_cases hx : isEntB x = true
  · rw [if_pos hx]
    exact of_yes x w h.1 h.2 ((isEntB_iff x).1 hx)
  · rw [if_neg hx]
    exact of_no x w h.1 h.2 (fun e => hx ((isEntB_iff x).2 e))

theorem set4 {B : Nat} {w w' : World} (h : Below B w w') {b : Nat} (hb : B ≤ b) (x y z u : Value) : Below B w ((((w'.setCell ⟨b, 0, none⟩ x).setCell ⟨b, 1, none⟩ y).setCell ⟨b, 2, none⟩ z).setCell ⟨b, 3, none⟩ u) :=
  (((h.setCell (p := ⟨b, 0, none⟩) hb x).setCell (p := ⟨b, 1, none⟩) hb y).setCell (p := ⟨b, 2, none⟩) hb z).setCell (p := ⟨b, 3, none⟩) hb u
theorem set4a {w w' : World} (h : Below w.heap.size w w') {b : Nat} (hb : w.heap.size ≤ b) (x y z u : Value) (o : Obj) : Below w.heap.size w (((((w'.setCell ⟨b, 0, none⟩ x).setCell ⟨b, 1, none⟩ y).setCell ⟨b, 2, none⟩ z).setCell ⟨b, 3, none⟩ u).alloc o) :=
  (set4 h hb x y z u).alloc (set4 h hb x y z u).size o

set_option maxHeartbeats 1000000 in
theorem entry_any (l : List Int) (b n : Nat) (v : Value) (f : Int) (i : Nat) (w : World) (h : MAt w b v n l) (hn : n ≤ 1024) (hi : i < 16) (hl : ∀ j, W32 (l.getD j 0)) :
    Calls Tryd.prog 74 #[.pointer (some ⟨b, 0, none⟩), .int .i64 f, .int .i64 i] w fun e w' => e = .returned (.tuple #[(entryA l n f i).1.v, .bool (entryA l n f i).2]) ∧ Below w.heap.size w w' := by
  have HM := Lib.hid h
  by_cases h0 : f < 0
  · have HE : Hid (entryA l n f i = (Ent.z, false)) := Lib.hid (by unfold entryA; rw [if_neg (by omega)])
    rw [HE.out]
    clear h
    go_enter Tryd.func74, Tryd.ntmps74
    go_wp2
    refine bodyPost_ret (v := .tuple #[Ent.z.v, .bool false]) (by simp [results, Tryd.results74, go_sem, Ent.v, Ent.z]) rfl ⟨rfl, ?_⟩
    exact (Below.refl _ _).alloc (Nat.le_refl _) _
  · obtain ⟨k, rfl⟩ : ∃ k : Nat, f = (k : Int) := ⟨f.toNat, by omega⟩
    by_cases h1 : (n : Int) ≤ (k : Int)
    · have HE : Hid (entryA l n (k : Int) i = (Ent.z, false)) := Lib.hid (by unfold entryA; rw [if_neg (by omega)])
      rw [HE.out]
      clear h
      go_enter Tryd.func74, Tryd.ntmps74
      go_wp2_with fail
      refine (mm_frames l b n v _ (HM.out.below ((Below.refl _ _).alloc (Nat.le_refl _) _)) hn).mono ?_
      rintro e w1 ⟨rfl, rfl⟩
      go_wp2
      refine bodyPost_ret (v := .tuple #[Ent.z.v, .bool false]) (by simp [results, Tryd.results74, go_sem, Ent.v, Ent.z]) rfl ⟨rfl, ?_⟩
      exact (Below.refl _ _).alloc (Nat.le_refl _) _
    · have hkn : k < n := by omega
      have hux := hl (16 * k + i)
      have HE : Hid (∀ o ok, ofA (l.getD (16 * k + i) 0) = (o, ok) → entryA l n (k : Int) i = if ok = true ∧ o.t = true then (o, true) else (Ent.z, false)) := Lib.hid fun o ok e => by
        unfold entryA
        rw [Int.toNat_natCast, e]
        by_cases hc : ok = true ∧ o.t = true
        · rw [if_pos hc, if_pos ⟨by omega, by omega, hc.1, hc.2⟩]
        · rw [if_neg hc, if_neg (fun h => hc h.2.2)]
      have HOF : Hid (∀ wx, Calls Tryd.prog 98 #[.int .u32 (l.getD (16 * k + i) 0)] wx fun e w' => e = .returned (.tuple #[(ofA (l.getD (16 * k + i) 0)).1.v, .bool (ofA (l.getD (16 * k + i) 0)).2]) ∧ Below wx.heap.size wx w') := Lib.hid fun wx => of_any _ wx hux
      have hw1 := IntWalk.i64_in ((k : Int) * 16) (by omega)
      have hw2 := IntWalk.i64_in ((k : Int) * 16 + (i : Int)) (by omega)
      have HRD : Hid (∀ wx, MAt wx b v n l → Calls Tryd.prog 46 #[.pointer (some ⟨b, 0, none⟩), .int .i64 ((k : Int) * 16 + (i : Int))] wx fun e w' => e = .returned (.tuple #[.int .u32 (l.getD (16 * k + i) 0), .bool true]) ∧ wx = w') := Lib.hid fun wx hm => by
        have := mm_read_at l b n (16 * k + i) v wx hm (by omega)
        rwa [show (((16 * k + i : Nat) : Nat) : Int) = (k : Int) * 16 + (i : Int) by omega] at this
      obtain ⟨⟨⟨og, ot, ow, ou⟩, ok⟩, ho⟩ : ∃ p, ofA (l.getD (16 * k + i) 0) = p := ⟨_, rfl⟩
      rw [HE.out _ _ ho]
      rw [ho] at HOF
      obtain ⟨x, hx⟩ : ∃ x, l.getD (16 * k + i) 0 = x := ⟨_, rfl⟩
      rw [hx] at HOF HRD
      clear h hux HE ho hx hkn
      go_enter Tryd.func74, Tryd.ntmps74
      go_wp2_with fail
      refine (mm_frames l b n v _ (HM.out.below ((Below.refl _ _).alloc (Nat.le_refl _) _)) hn).mono ?_
      rintro e w1 ⟨rfl, rfl⟩
      go_wp2_with fail
      refine (HRD.out _ (HM.out.below ((Below.refl _ _).alloc (Nat.le_refl _) _))).mono ?_
      rintro e w1 ⟨rfl, rfl⟩
      go_wp2_with fail
      refine (HOF.out _).mono ?_
      rintro e w1 ⟨rfl, hb⟩
      have k0 : w1.heap[w.heap.size]? = _ := (hb.block w.heap.size (by simp)).trans (blk_new w _)
      have hb' : Below w.heap.size w w1 := ((Below.refl _ _).alloc (Nat.le_refl _) _).trans (hb.mono (by simp))
      have HB := Lib.hid hb'
      have hlt := blk_lt k0
      have c0 := blk_cell k0 0
      have c1 := blk_cell k0 1
      have c2 := blk_cell k0 2
      have c3 := blk_cell k0 3
      have f0 := blk_free k0 0
      have f1 := blk_free k0 1
      have f2 := blk_free k0 2
      have f3 := blk_free k0 3
      clear hb hb' k0
      unfold Ent.v
      cases ok <;> cases ot
      all_goals
        go_wp2
      iterate 3
        · refine bodyPost_ret (v := .tuple #[Ent.z.v, .bool false]) (by simp [results, Tryd.results74, go_sem, Ent.v, Ent.z, hlt, c0, c1, c2, c3]) rfl ⟨rfl, ?_⟩
          exact set4a HB.out (Nat.le_refl _) _ _ _ _ _
      · refine bodyPost_ret (v := .tuple #[(⟨og, true, ow, ou⟩ : Ent).v, .bool true]) (by simp [results, Tryd.results74, go_sem, Ent.v, hlt, c0, c1, c2, c3]) rfl ⟨rfl, ?_⟩
        exact set4a HB.out (Nat.le_refl _) _ _ _ _ _

set_option maxRecDepth 100000 in
set_option maxHeartbeats 1000000 in
theorem page_any (l : List Int) (b n : Nat) (v : Value) (root page : Int) (w : World) (h : MAt w b v n l) (hn : n ≤ 1024) (hl : ∀ j, W32 (l.getD j 0)) :
    Calls Tryd.prog 36 #[.pointer (some ⟨b, 0, none⟩), .int .i64 root, .int .i64 page] w fun e w' => e = .returned (.tuple #[(pageA l n root page).1.v, .bool (pageA l n root page).2]) ∧ Below w.heap.size w w' := by
  have HM := Lib.hid h
  by_cases h0 : page < 0
  · have HE : Hid (pageA l n root page = (Ent.z, false)) := Lib.hid (by unfold pageA; rw [if_neg (by omega)])
    rw [HE.out]
    clear h
    go_enter Tryd.func36, Tryd.ntmps36
    go_wp2
    refine bodyPost_ret (v := .tuple #[Ent.z.v, .bool false]) (by simp [results, Tryd.results36, go_sem, Ent.v, Ent.z]) rfl ⟨rfl, ?_⟩
    exact (Below.refl _ _).alloc (Nat.le_refl _) _
  · by_cases h1 : 256 ≤ page
    · have HE : Hid (pageA l n root page = (Ent.z, false)) := Lib.hid (by unfold pageA; rw [if_neg (by omega)])
      rw [HE.out]
      clear h
      go_enter Tryd.func36, Tryd.ntmps36
      go_wp2
      refine bodyPost_ret (v := .tuple #[Ent.z.v, .bool false]) (by simp [results, Tryd.results36, go_sem, Ent.v, Ent.z]) rfl ⟨rfl, ?_⟩
      exact (Below.refl _ _).alloc (Nat.le_refl _) _
    · obtain ⟨p, rfl⟩ : ∃ p : Nat, page = (p : Int) := ⟨page.toNat, by omega⟩
      have hw1 := IntWalk.i64_in ((p : Int) / 16) (by omega)
      have hw2 := IntWalk.i64_in ((p : Int) % 16) (by omega)
      have hq : (p : Int).tdiv 16 = ((p / 16 : Nat) : Int) := by rw [Int.tdiv_eq_ediv_of_nonneg (by omega)]; omega
      have hr : (p : Int).tmod 16 = ((p % 16 : Nat) : Int) := by rw [Int.tmod_eq_emod_of_nonneg (by omega)]; omega
      have HE : Hid (∀ o ok, entryA l n root (p / 16) = (o, ok) → pageA l n root (p : Int) = if ok = true then entryA l n o.f (p % 16) else (Ent.z, false)) := Lib.hid fun o ok e => by
        unfold pageA
        rw [Int.toNat_natCast, e]
        by_cases hc : ok = true
        · rw [if_pos hc, if_pos ⟨by omega, by omega, hc⟩]
        · rw [if_neg hc, if_neg (fun h => hc h.2.2)]
      have H1 : Hid (∀ wx, MAt wx b v n l → Calls Tryd.prog 74 #[.pointer (some ⟨b, 0, none⟩), .int .i64 root, .int .i64 ((p / 16 : Nat) : Int)] wx fun e w' => e = .returned (.tuple #[(entryA l n root (p / 16)).1.v, .bool (entryA l n root (p / 16)).2]) ∧ Below wx.heap.size wx w') := Lib.hid fun wx hm => entry_any l b n v root (p / 16) wx hm hn (by omega) hl
      have H2 : Hid (∀ wx f, MAt wx b v n l → Calls Tryd.prog 74 #[.pointer (some ⟨b, 0, none⟩), .int .i64 f, .int .i64 ((p % 16 : Nat) : Int)] wx fun e w' => e = .returned (.tuple #[(entryA l n f (p % 16)).1.v, .bool (entryA l n f (p % 16)).2]) ∧ Below wx.heap.size wx w') := Lib.hid fun wx f hm => entry_any l b n v f (p % 16) wx hm hn (by omega) hl
      obtain ⟨⟨⟨og, ot, ow, ou⟩, ok⟩, ho⟩ : ∃ q, entryA l n root (p / 16) = q := ⟨_, rfl⟩
      rw [HE.out _ _ ho]
      rw [ho] at H1
      clear ho HE
      obtain ⟨a1, ha1⟩ : ∃ a1, ((p / 16 : Nat) : Int) = a1 := ⟨_, rfl⟩
      obtain ⟨a2, ha2⟩ : ∃ a2, ((p % 16 : Nat) : Int) = a2 := ⟨_, rfl⟩
      have hw3 := IntWalk.i64_in a1 (by omega)
      have hw4 := IntWalk.i64_in a2 (by omega)
      rw [ha1] at H1 hq
      rw [ha2] at H2 hr
      clear ha1 ha2 h
      cases ok
      · rw [if_neg (by decide)]
        go_enter Tryd.func36, Tryd.ntmps36
        go_wp2_with fail
        refine (H1.out _ (HM.out.below ((Below.refl _ _).alloc (Nat.le_refl _) _))).mono ?_
        rintro e w1 ⟨rfl, hb⟩
        have k0 : w1.heap[w.heap.size]? = _ := (hb.block w.heap.size (by simp)).trans (blk_new w _)
        have HB : Hid (Below w.heap.size w w1) := Lib.hid (((Below.refl _ _).alloc (Nat.le_refl _) _).trans (hb.mono (by simp)))
        have hlt := blk_lt k0
        have c0 := blk_cell k0 0
        have c1 := blk_cell k0 1
        have c2 := blk_cell k0 2
        have c3 := blk_cell k0 3
        have f0 := blk_free k0 0
        have f1 := blk_free k0 1
        have f2 := blk_free k0 2
        have f3 := blk_free k0 3
        unfold Ent.v
        clear hb k0
        go_wp2
        refine bodyPost_ret (v := .tuple #[Ent.z.v, .bool false]) (by simp [results, Tryd.results36, go_sem, Ent.v, Ent.z, hlt, c0, c1, c2, c3]) rfl ⟨rfl, ?_⟩
        exact set4a HB.out (Nat.le_refl _) _ _ _ _ _
      · rw [if_pos rfl]
        obtain ⟨⟨⟨pg, pt, pw, pu⟩, pk⟩, hp⟩ : ∃ q, entryA l n og (p % 16) = q := ⟨_, rfl⟩
        have H3 := Lib.hid (fun wx hm => H2.out wx og hm)
        rw [hp] at H3 ⊢
        clear hp H2
        go_enter Tryd.func36, Tryd.ntmps36
        go_wp2_with fail
        refine (H1.out _ (HM.out.below ((Below.refl _ _).alloc (Nat.le_refl _) _))).mono ?_
        rintro e w1 ⟨rfl, hb⟩
        have K0 : Hid (w1.heap[w.heap.size]? = _) := Lib.hid ((hb.block w.heap.size (by simp)).trans (blk_new w _))
        have HB : Hid (Below w.heap.size w w1) := Lib.hid (((Below.refl _ _).alloc (Nat.le_refl _) _).trans (hb.mono (by simp)))
        have hlt := blk_lt K0.out
        unfold Ent.v
        clear hb
        go_wp2_with fail
        refine (H3.out _ (HM.out.below (HB.out.alloc HB.out.size _))).mono ?_
        rintro e w2 ⟨rfl, hb⟩
        have k2 : w2.heap[w.heap.size]? = _ := (hb.block w.heap.size (by simp; omega)).trans (blk_old K0.out _)
        have HB2 : Hid (Below w.heap.size w w2) := Lib.hid ((HB.out.alloc HB.out.size _).trans (hb.mono (by simp; omega)))
        have c0 := blk_cell k2 0
        have c1 := blk_cell k2 1
        have c2 := blk_cell k2 2
        have c3 := blk_cell k2 3
        have f0 := blk_free k2 0
        have f1 := blk_free k2 1
        have f2 := blk_free k2 2
        have f3 := blk_free k2 3
        unfold Ent.v
        clear hb k2
        go_wp2
        refine bodyPost_ret (v := .tuple #[(⟨pg, pt, pw, pu⟩ : Ent).v, .bool pk]) (by simp [results, Tryd.results36, go_sem, Ent.v, c0, c1, c2, c3]) rfl ⟨rfl, ?_⟩
        exact set4 HB2.out (Nat.le_refl _) _ _ _ _

theorem walkA_of (l : List Int) (n : Nat) (root addr : Int) (wr us : Bool) (e : Ent) (ok : Bool) (h : addr < 4096) (hp : pageA l n root (addr / 16) = (e, ok)) :
    walkA l n root addr wr us = if ok = true ∧ (wr = true → e.w = true) ∧ (us = true → e.u = true) ∧ e.f < (n : Int) then (e.f * 16 + addr % 16, true) else (0, false) := by
  unfold walkA
  rw [hp]
  by_cases hc : ok = true ∧ (wr = true → e.w = true) ∧ (us = true → e.u = true) ∧ e.f < (n : Int)
  · rw [if_pos hc, if_pos ⟨h, hc.1, hc.2.1, hc.2.2.1, hc.2.2.2⟩]
  · rw [if_neg hc, if_neg (fun h => hc ⟨h.2.1, h.2.2.1, h.2.2.2.1, h.2.2.2.2⟩)]
def pairV (p : Int × Bool) : Value := .tuple #[.int .i64 p.1, .bool p.2]
end Go.Proofs.YtaoaachgnnengaaDoor

/-
  facaderef1.Mem: New, Read, Write, Frames, over the list of its words.
-/
namespace Go.Proofs.YtaoaachgnnengaaDoor
open Go.RowKit

def MAr (w : World) (b : Nat) (v : Value) (n : Nat) (l : List Int) : Prop := w.heap[b]? = some (.cells #[v] 135 (0, 0)) ∧ w.ownsRow 0 88 1 v (16 * n) (u32s l) ∧ l.length = 16 * n
theorem MAr.not {w : World} {b : Nat} {v : Value} {n : Nat} {l : List Int} (h : MAr w b v n l) : ¬ inRow v b := own_not h.2.1 h.1 (by decide)
theorem MAr.cell {w : World} {b : Nat} {v : Value} {n : Nat} {l : List Int} (h : MAr w b v n l) : w.cell? ⟨b, 0, none⟩ = some v := blk_cell h.1 0
theorem MAr.below {w w' : World} {b : Nat} {v : Value} {n : Nat} {l : List Int} (h : MAr w b v n l) (hb : Below w.heap.size w w') : MAr w' b v n l :=
  ⟨by rw [hb.block b (blk_lt h.1)]; exact h.1, own_frame h.2.1 fun k hk => hb.block k (own_lt h.2.1 hk), h.2.2⟩
theorem MAr.only {F : Nat → Prop} {w w' : World} {b : Nat} {v : Value} {n : Nat} {l : List Int} (h : MAr w b v n l) (ho : Only F w w') (h1 : ¬ F b) (h2 : ∀ k, inRow v k → ¬ F k) : MAr w' b v n l :=
  ⟨ho.blk h.1 h1, own_only h.2.1 ho h2, h.2.2⟩
theorem MAr.slice {w : World} {b : Nat} {v : Value} {n : Nat} {l : List Int} (h : MAr w b v n l) : ∃ ao cap, v = .slice ao (16 * n) cap ∧ AtL w ao (u32s l) := atL_of_own h.2.1
theorem MAr.own {w : World} {b : Nat} {v : Value} {n : Nat} {l : List Int} (h : MAr w b v n l) (hn : 0 < n) : ∃ g cap, v = .slice (some ⟨g, 0, none⟩) (16 * n) cap ∧ 16 * n ≤ cap := by
  rcases own_shape h.2.1 with ⟨-, hz, -⟩ | h
  · omega
  · obtain ⟨g, cap, e1, e2, -⟩ := h
    exact ⟨g, cap, e1, e2⟩

set_option maxRecDepth 100000 in
set_option maxHeartbeats 800000 in
theorem mr_new (n : Nat) (w : World) (h1 : 1 ≤ n) (h2 : n ≤ 1024) :
    Calls Tryd.prog 67 #[.int .i64 n] w fun e w' => ∃ b v, e = .returned (.pointer (some ⟨b, 0, none⟩)) ∧ MAr w' b v n (List.replicate (16 * n) 0) ∧ w.heap.size ≤ b ∧ (∀ k, inRow v k → w.heap.size ≤ k) ∧ Below w.heap.size w w' := by
  obtain ⟨i, hi, hz0, hz1, hz2⟩ := info_parts infoU32
  have hw := IntWalk.i64_in (16 * (n : Int)) (by omega)
  obtain ⟨v, w1, hmk, ho, hg, rfl⟩ : ∃ v w1, (Instr.makeSlice 81 (.int .i64 (16 * (n : Int))) (.int .i64 (16 * (n : Int)))).run Tryd.prog w = .ok v w1 ∧ w1.ownsRow 0 88 1 v (16 * n) (u32s (List.replicate (16 * n) 0)) ∧ w.grownBy w1 none ∧ v = .slice (some ⟨w.heap.size, 0, none⟩) (16 * n) (16 * n) := by
    obtain ⟨w1, e, ho, hg⟩ := run_makeSlice_full (P := Tryd.prog) w 0 81 88 i (.int .u32 0) 1 Tryd.underlying81 hi hz0 hz1 .i64 .i64 (16 * n) (by omega) (by rw [hz2]; omega) (by unfold maxLen; omega) (Nat.zero_le _)
    rw [show ((16 * n : Nat) : Int) = 16 * (n : Int) by omega] at e
    refine ⟨_, w1, e, ?_, hg, rfl⟩
    rw [Nat.mul_one, show (Value.int IntKind.u32 0).cells = #[Value.int IntKind.u32 0] from rfl, toList_madeCells_one] at ho
    simpa [u32s] using ho
  have hb : Below w.heap.size w w1 := (Below.refl _ _).grown hg (Nat.le_refl _) (fun k hk => by cases hk)
  have HM : Hid (MAr (w1.alloc (.cells #[.slice (some ⟨w.heap.size, 0, none⟩) (16 * n) (16 * n)] 135)) w1.heap.size (.slice (some ⟨w.heap.size, 0, none⟩) (16 * n) (16 * n)) n (List.replicate (16 * n) 0)) := Lib.hid ⟨blk_new _ _, ho.alloc _, by simp⟩
  have HB := Lib.hid (hb.alloc hb.size (.cells #[.slice (some ⟨w.heap.size, 0, none⟩) (16 * n) (16 * n)] 135))
  have HS := Lib.hid hb.size
  have HV : Hid (∀ k, inRow (.slice (some ⟨w.heap.size, 0, none⟩) (16 * n) (16 * n)) k → w.heap.size ≤ k) := Lib.hid fun k hk => by simp [inRow, Value.ownBlock] at hk; omega
  clear ho hg hb
  go_enter Tryd.func67, Tryd.ntmps67
  go_wp2
  go_ret
  first | exact ⟨w1.heap.size, _, rfl, HM.out, HS.out, HV.out, HB.out⟩ | exact ⟨w1.heap.size, rfl, _, HM.out, HS.out, HV.out, HB.out⟩ | exact ⟨_, rfl, _, HM.out, HS.out, HV.out, HB.out⟩

set_option maxHeartbeats 800000 in
theorem mr_read (l : List Int) (b n : Nat) (v : Value) (i : Int) (w : World) (h : MAr w b v n l) :
    Calls Tryd.prog 107 #[.pointer (some ⟨b, 0, none⟩), .int .i64 i] w fun e w' => e = .returned (readAns l i) ∧ w = w' := by
  have c := h.cell
  have hlen := h.2.2
  obtain ⟨ao, cap, rfl, hat⟩ := h.slice
  have HAT := Lib.hid hat
  have HLEN := Lib.hid hlen
  clear h hat hlen
  by_cases h0 : i < 0
  · have HC : Hid (readAns l i = .tuple #[.int .u32 0, .bool false]) := Lib.hid (by unfold readAns; rw [if_neg (by omega)])
    go_enter Tryd.func107, Tryd.ntmps107
    go_wp2
    go_ret2
    exact ⟨by rw [HC.out]; rfl, rfl⟩
  · obtain ⟨j, rfl⟩ : ∃ j : Nat, i = (j : Int) := ⟨i.toNat, by omega⟩
    by_cases h1 : j < 16 * n
    · have HC : Hid (readAns l (j : Int) = .tuple #[.int .u32 (l.getD j 0), .bool true]) := Lib.hid (by unfold readAns; rw [if_pos (by have := HLEN.out; omega), Int.toNat_natCast])
      obtain ⟨d, off, rfl, c0, -⟩ := HAT.out j _ (u32s_get l j (by rw [HLEN.out]; exact h1))
      obtain ⟨z, hz⟩ : ∃ z, l.getD j 0 = z := ⟨_, rfl⟩
      rw [hz] at c0 HC
      clear hz
      have hji : (j : Int) < ((16 * n : Nat) : Int) := by omega
      obtain ⟨N, hN⟩ : ∃ N, 16 * n = N := ⟨_, rfl⟩
      rw [hN] at hji c
      clear h1
      go_enter Tryd.func107, Tryd.ntmps107
      clear hN
      go_wp2
      go_ret2
      exact ⟨by rw [HC.out]; rfl, rfl⟩
    · have HC : Hid (readAns l (j : Int) = .tuple #[.int .u32 0, .bool false]) := Lib.hid (by unfold readAns; rw [if_neg (by have := HLEN.out; omega)])
      have hji : ((16 * n : Nat) : Int) ≤ (j : Int) := by omega
      obtain ⟨N, hN⟩ : ∃ N, 16 * n = N := ⟨_, rfl⟩
      rw [hN] at hji c
      clear h1
      go_enter Tryd.func107, Tryd.ntmps107
      clear hN
      go_wp2
      go_ret2
      exact ⟨by rw [HC.out]; rfl, rfl⟩

set_option maxHeartbeats 800000 in
theorem mr_frames (l : List Int) (b n : Nat) (v : Value) (w : World) (h : MAr w b v n l) (hn : n ≤ 1024) :
    Calls Tryd.prog 105 #[.pointer (some ⟨b, 0, none⟩)] w fun e w' => e = .returned (.int .i64 n) ∧ w = w' := by
  have c := h.cell
  obtain ⟨ao, cap, rfl, -⟩ := h.slice
  clear h
  obtain ⟨N, hN⟩ : ∃ N, 16 * n = N := ⟨_, rfl⟩
  have H3 : Hid ((N : Int) / 16 = n) := Lib.hid (by omega)
  have hw := IntWalk.i64_in ((N : Int) / 16) (by omega)
  rw [hN] at c
  clear hN
  go_enter Tryd.func105, Tryd.ntmps105
  go_wp2
  go_ret
  refine ⟨?_, rfl⟩
  show Ending.returned (Value.int .i64 ((N : Int) / 16)) = _
  rw [H3.out]

set_option maxHeartbeats 800000 in
theorem mr_write (l : List Int) (b n : Nat) (v : Value) (i x : Int) (w : World) (h : MAr w b v n l) :
    Calls Tryd.prog 93 #[.pointer (some ⟨b, 0, none⟩), .int .i64 i, .int .u32 x] w fun e w' => e = .returned (.bool (decide (0 ≤ i) && decide (i < l.length))) ∧ MAr w' b v n (writeL l i x) ∧ Only (fun k => inRow v k) w w' := by
  have c := h.cell
  have HM := Lib.hid h
  by_cases h0 : i < 0
  · have HC : Hid (writeL l i x = l) := Lib.hid (by unfold writeL; rw [if_neg (by omega)])
    have HD : Hid ((decide (0 ≤ i) && decide (i < (l.length : Int))) = false) := Lib.hid (by simp; omega)
    rw [HC.out, HD.out]
    clear h
    go_enter Tryd.func93, Tryd.ntmps93
    go_wp2
    go_ret
    exact ⟨rfl, HM.out, Only.refl _ _⟩
  · obtain ⟨j, rfl⟩ : ∃ j : Nat, i = (j : Int) := ⟨i.toNat, by omega⟩
    have hlen := h.2.2
    by_cases h1 : j < 16 * n
    · have HC : Hid (writeL l j x = l.set j x) := Lib.hid (by unfold writeL; rw [if_pos (by omega), Int.toNat_natCast])
      have HD : Hid ((decide (0 ≤ (j : Int)) && decide ((j : Int) < (l.length : Int))) = true) := Lib.hid (by simp; omega)
      rw [HC.out, HD.out]
      obtain ⟨g, cap, rfl, -⟩ := h.own (by omega)
      have g0 := (own_cell h.2.1 j (by omega)).trans (u32s_get l j (by omega))
      have g1 := own_free h.2.1 j
      have hgb : ¬ b = g := fun e => h.not (by subst e; rfl)
      have HS : Hid (MAr (w.setCell ⟨g, j, none⟩ (.int .u32 x)) b (.slice (some ⟨g, 0, none⟩) (16 * n) cap) n (l.set j x)) := Lib.hid ⟨blk_set h.1 (by exact hgb) _, by
        rw [← u32s_set]
        exact (h.2.1.stored j _).1, by rw [List.length_set]; exact hlen⟩
      have HON : Hid (Only (fun k => inRow (.slice (some ⟨g, 0, none⟩) (16 * n) cap) k) w (w.setCell ⟨g, j, none⟩ (.int .u32 x))) := Lib.hid
        (Only.setCell (F := fun k => inRow (.slice (some ⟨g, 0, none⟩) (16 * n) cap) k) (Only.refl _ _) (p := ⟨g, j, none⟩) (.inl rfl) _)
      have hji : (j : Int) < ((16 * n : Nat) : Int) := by omega
      obtain ⟨N, hN⟩ : ∃ N, 16 * n = N := ⟨_, rfl⟩
      rw [hN] at hji c HON HS ⊢
      clear h h1 hgb hlen HM HC
      go_enter Tryd.func93, Tryd.ntmps93
      clear hN
      go_wp2
      go_ret
      exact ⟨rfl, HS.out, HON.out⟩
    · have HC : Hid (writeL l j x = l) := Lib.hid (by unfold writeL; rw [if_neg (by omega)])
      have HD : Hid ((decide (0 ≤ (j : Int)) && decide ((j : Int) < (l.length : Int))) = false) := Lib.hid (by simp; omega)
      rw [HC.out, HD.out]
      obtain ⟨ao, cap, rfl, -⟩ := h.slice
      have hji : ((16 * n : Nat) : Int) ≤ (j : Int) := by omega
      obtain ⟨N, hN⟩ : ∃ N, 16 * n = N := ⟨_, rfl⟩
      rw [hN] at hji c HM ⊢
      clear h h1 hlen
      go_enter Tryd.func93, Tryd.ntmps93
      clear hN
      go_wp2
      go_ret
      exact ⟨rfl, HM.out, Only.refl _ _⟩
end Go.Proofs.YtaoaachgnnengaaDoor

/-
  The document's walk: where an address is, over the list of a memory's words.
-/
namespace Go.Proofs.YtaoaachgnnengaaDoor
open Go.RowKit

/-- an entry's bits, or none -/
def bitsA (e : Ent) : Int × Bool := if entOkB e.f e.t e.w e.u then (entW e.f e.t e.w e.u, true) else (0, false)
def wordV (p : Int × Bool) : Value := .tuple #[.int .u32 p.1, .bool p.2]

theorem bits_any (e : Ent) (w : World) : Calls Tryd.prog 89 #[e.v] w fun x w' => x = .returned (wordV (bitsA e)) ∧ Below w.heap.size w w' := by
  unfold bitsA
  by_cases h : entOkB e.f e.t e.w e.u = true
  · rw [if_pos h]
    exact bits_yes e.f e.t e.w e.u w ((entOkB_iff _ _ _ _).1 h)
  · rw [if_neg h]
    exact bits_no e.f e.t e.w e.u w (fun h' => h ((entOkB_iff _ _ _ _).2 h'))

set_option maxHeartbeats 1000000 in
theorem rbits_any (e : Ent) (w : World) : Calls Tryd.prog 106 #[e.v] w fun x w' => x = .returned (wordV (bitsA e)) ∧ Below w.heap.size w w' := by
  obtain ⟨f, t, wr, u⟩ := e
  by_cases h1 : f < 0
  · have HE : Hid (bitsA ⟨f, t, wr, u⟩ = (0, false)) := Lib.hid (by unfold bitsA; rw [if_neg (by simp [entOkB]; omega)])
    rw [HE.out]
    unfold Ent.v
    go_enter Tryd.func106, Tryd.ntmps106
    go_wp2
    go_ret2
    exact ⟨rfl, (Below.refl _ _).alloc (Nat.le_refl _) _⟩
  · by_cases h2 : 1024 ≤ f
    · have HE : Hid (bitsA ⟨f, t, wr, u⟩ = (0, false)) := Lib.hid (by unfold bitsA; rw [if_neg (by simp [entOkB]; omega)])
      rw [HE.out]
      unfold Ent.v
      go_enter Tryd.func106, Tryd.ntmps106
      go_wp2
      go_ret2
      exact ⟨rfl, (Below.refl _ _).alloc (Nat.le_refl _) _⟩
    · cases t
      · by_cases hf : f = 0
        · subst hf
          cases wr <;> cases u
          all_goals
            first
              | have HE : Hid (bitsA ⟨0, false, false, false⟩ = (0, true)) := Lib.hid (by decide)
                rw [HE.out]
                have hk : True := trivial
              | rw [show bitsA _ = (0, false) by unfold bitsA; rw [if_neg (by simp [entOkB])]]
            unfold Ent.v
            go_enter Tryd.func106, Tryd.ntmps106
            go_wp2
            go_quiet (fail)
            go_wp2
            go_ret2
            exact ⟨rfl, below_drewN ((Below.refl _ _).alloc (Nat.le_refl _) _) _⟩
        · have HE : Hid (bitsA ⟨f, false, wr, u⟩ = (0, false)) := Lib.hid (by unfold bitsA; rw [if_neg (by simp [entOkB, hf])])
          rw [HE.out]
          have hf' : (f == 0) = false := by simp [hf]
          clear hf
          unfold Ent.v
          go_enter Tryd.func106, Tryd.ntmps106
          go_wp2
          go_quiet (fail)
          go_wp2
          go_ret2
          exact ⟨rfl, below_drewN ((Below.refl _ _).alloc (Nat.le_refl _) _) _⟩
      · have HE : Hid (bitsA ⟨f, true, wr, u⟩ = (entW f true wr u, true)) := Lib.hid (by unfold bitsA; rw [if_pos (by simp [entOkB]; omega)])
        rw [HE.out]
        have e0 : bits BinOp.or IntKind.u32 (f * 256) 1 = f * 256 + 1 := or_0 f 1 (by omega) (by omega) (by omega)
        have e1 : bits BinOp.or IntKind.u32 (f * 256 + 1) 2 = f * 256 + 1 + 2 := or_1 f 2 (by omega) (by omega) (by omega)
        have e2 : bits BinOp.or IntKind.u32 (f * 256 + 1) 4 = f * 256 + 1 + 4 := or_1 f 4 (by omega) (by omega) (by omega)
        have e3 := or_3 f (by omega) (by omega)
        have hu := IntWalk.u32_in f (by omega)
        have hu2 := IntWalk.u32_in (f * 256) (by omega)
        unfold Ent.v
        cases wr <;> cases u
        all_goals
          go_enter Tryd.func106, Tryd.ntmps106
          go_wp2
          go_ret2
          refine ⟨?_, (Below.refl _ _).alloc (Nat.le_refl _) _⟩
          show Ending.returned (Value.tuple #[.int .u32 _, .bool true]) = _
          simp only [wordV, entW, b2i]
          congr 4
        all_goals simp
        all_goals omega

theorem flag_ne (x k : Int) : (bits BinOp.and IntKind.u32 x k != 0) = flag x k := by
  have : 0 ≤ bits BinOp.and IntKind.u32 x k := by
    show 0 ≤ IntKind.u32.wrap _
    rw [IntKind.wrap_u32]
    omega
  unfold flag
  by_cases h : bits BinOp.and IntKind.u32 x k = 0
  · rw [h]; rfl
  · have h2 : 0 < bits BinOp.and IntKind.u32 x k := by omega
    rw [decide_eq_true h2]
    simp [h]
theorem ofA_by (x : Int) (y : Int) (ok : Bool) (h : bitsA ⟨x / 256, flag x 1, flag x 2, flag x 4⟩ = (y, ok)) : ofA x = if ok = true ∧ y = x then (⟨x / 256, flag x 1, flag x 2, flag x 4⟩, true) else (Ent.z, false) := by
  unfold ofA isEntB
  unfold bitsA at h
  by_cases hk : entOkB (x / 256) (flag x 1) (flag x 2) (flag x 4) = true
  · rw [if_pos hk] at h
    obtain ⟨rfl, rfl⟩ := Prod.mk.inj h
    rw [hk]
    simp only [Bool.true_and, decide_eq_true_eq, true_and]
  · rw [if_neg hk] at h
    obtain ⟨rfl, rfl⟩ := Prod.mk.inj h
    rw [Bool.not_eq_true] at hk
    rw [hk]
    rfl

set_option maxRecDepth 100000 in
set_option maxHeartbeats 1000000 in
theorem rof_any (x : Int) (w : World) (h : W32 x) :
    Calls Tryd.prog 108 #[.int .u32 x] w fun e w' => e = .returned (.tuple #[(ofA x).1.v, .bool (ofA x).2]) ∧ Below w.heap.size w w' := by
  by_cases h0 : x = 0
  · subst h0
    have HE : Hid (ofA 0 = (⟨0, false, false, false⟩, true)) := Lib.hid (by rw [ofA, if_pos (by decide)]; rfl)
    rw [HE.out]
    go_enter Tryd.func108, Tryd.ntmps108
    go_wp2
    refine bodyPost_ret (v := .tuple #[Ent.z.v, .bool true]) (by simp [results, Tryd.results108, go_sem, Ent.v, Ent.z]) rfl ⟨rfl, ?_⟩
    exact (Below.refl _ _).alloc (Nat.le_refl _) _
  · have h00 : (x == 0) = false := by simp [h0]
    have hx0 : 0 ≤ x := h.1
    have hx1 : x ≤ 4294967295 := h.2
    have HB := Lib.hid (fun wx => rbits_any ⟨x / 256, flag x 1, flag x 2, flag x 4⟩ wx)
    have HO := Lib.hid (ofA_by x)
    have f1 := flag_ne x 1
    have f2 := flag_ne x 2
    have f4 := flag_ne x 4
    have hw := IntWalk.i64_in (x / 256) (by omega)
    obtain ⟨⟨y, ok⟩, hy⟩ : ∃ q, bitsA ⟨x / 256, flag x 1, flag x 2, flag x 4⟩ = q := ⟨_, rfl⟩
    rw [HO.out _ _ hy]
    rw [hy] at HB
    obtain ⟨b1, hb1⟩ : ∃ b, flag x 1 = b := ⟨_, rfl⟩
    obtain ⟨b2, hb2⟩ : ∃ b, flag x 2 = b := ⟨_, rfl⟩
    obtain ⟨b4, hb4⟩ : ∃ b, flag x 4 = b := ⟨_, rfl⟩
    rw [hb1] at f1 HB ⊢
    rw [hb2] at f2 HB ⊢
    rw [hb4] at f4 HB ⊢
    clear hb1 hb2 hb4 hy HO h h0
    unfold Ent.v
    unfold Ent.v at HB
    have hyx : (y != x) = !decide (y = x) := by by_cases e : y = x <;> simp [e]
    obtain ⟨d, hd⟩ : ∃ d, decide (y = x) = d := ⟨_, rfl⟩
    rw [hd] at hyx
    have HI : Hid (ok = true ∧ y = x ↔ ok = true ∧ d = true) := Lib.hid (by rw [← hd]; simp)
    rw [show (if ok = true ∧ y = x then ((⟨x / 256, b1, b2, b4⟩ : Ent), true) else (Ent.z, false)) = (if ok = true ∧ d = true then ((⟨x / 256, b1, b2, b4⟩ : Ent), true) else (Ent.z, false)) by simp only [HI.out]]
    clear hd HI
    go_enter Tryd.func108, Tryd.ntmps108
    go_wp2_with fail
    refine (HB.out _).mono ?_
    rintro e w1 ⟨rfl, hb⟩
    have k0 : w1.heap[w.heap.size]? = _ := (hb.block w.heap.size (by simp; omega)).trans (blk_old (blk_new w _) _)
    have k1 : w1.heap[w.heap.size + 1]? = _ := (hb.block (w.heap.size + 1) (by simp)).trans (show _ = some (.cells #[.int .i64 (x / 256), .bool b1, .bool b2, .bool b4] 68 (0, 0)) by
      have := blk_new (w.alloc (.cells #[.int .i64 0, .bool false, .bool false, .bool false] 68)) (.cells #[.int .i64 (x / 256), .bool b1, .bool b2, .bool b4] 68)
      simpa using this)
    have HB1 : Hid (Below w.heap.size w w1) := Lib.hid ((((Below.refl _ _).alloc (Nat.le_refl _) _).alloc (by simp) _).trans (hb.mono (by simp; omega)))
    have c0 := blk_cell k0 0
    have c1 := blk_cell k0 1
    have c2 := blk_cell k0 2
    have c3 := blk_cell k0 3
    have f0 := blk_free k0 0
    have f1 := blk_free k0 1
    have f2 := blk_free k0 2
    have f3 := blk_free k0 3
    have d0 := blk_cell k1 0
    have d1 := blk_cell k1 1
    have d2 := blk_cell k1 2
    have d3 := blk_cell k1 3
    clear hb k0 k1
    unfold wordV
    cases ok <;> cases d
    all_goals
      go_wp2
    iterate 3
      · refine bodyPost_ret (v := .tuple #[Ent.z.v, .bool false]) (by simp [results, Tryd.results108, go_sem, Ent.v, Ent.z, c0, c1, c2, c3]) rfl ⟨rfl, ?_⟩
        exact set4 HB1.out (Nat.le_refl _) _ _ _ _
    · refine bodyPost_ret (v := .tuple #[(⟨x / 256, b1, b2, b4⟩ : Ent).v, .bool true]) (by simp [results, Tryd.results108, go_sem, Ent.v, c0, c1, c2, c3]) rfl ⟨rfl, ?_⟩
      exact set4 HB1.out (Nat.le_refl _) _ _ _ _

theorem mr_read_at (l : List Int) (b n j : Nat) (v : Value) (w : World) (h : MAr w b v n l) (hj : j < 16 * n) :
    Calls Tryd.prog 107 #[.pointer (some ⟨b, 0, none⟩), .int .i64 j] w fun e w' => e = .returned (.tuple #[.int .u32 (l.getD j 0), .bool true]) ∧ w = w' := by
  have hl := h.2.2
  have e1 : readAns l (j : Int) = .tuple #[.int .u32 (l.getD j 0), .bool true] := by unfold readAns; rw [if_pos (by omega), Int.toNat_natCast]
  have := mr_read l b n v (j : Int) w h
  rw [e1] at this
  exact this

theorem pageA_by (l : List Int) (n r p : Nat) (hr : r < n) (hp : p < 256) (o : Ent) (ok : Bool) (h : ofA (l.getD (16 * r + p / 16) 0) = (o, ok)) : pageA l n (r : Int) (p : Int) = if ok = true ∧ o.t = true then entryA l n o.f (p % 16) else (Ent.z, false) := by
  unfold pageA
  have e1 : entryA l n (r : Int) (p / 16) = if ok = true ∧ o.t = true then (o, true) else (Ent.z, false) := by
    unfold entryA
    rw [Int.toNat_natCast, h]
    by_cases hc : ok = true ∧ o.t = true
    · rw [if_pos hc, if_pos ⟨by omega, by omega, hc⟩]
    · rw [if_neg hc, if_neg (fun h => hc h.2.2)]
  rw [Int.toNat_natCast, e1]
  by_cases hc : ok = true ∧ o.t = true
  · rw [if_pos hc, if_pos hc, if_pos ⟨by omega, by omega, rfl⟩]
  · rw [if_neg hc, if_neg hc, if_neg (fun h => by cases h.2.2)]
theorem entryA_by (l : List Int) (n : Nat) (f : Int) (i : Nat) (h0 : 0 ≤ f) (h1 : f < (n : Int)) (o : Ent) (ok : Bool) (h : ofA (l.getD (16 * f.toNat + i) 0) = (o, ok)) : entryA l n f i = if ok = true ∧ o.t = true then (o, true) else (Ent.z, false) := by
  unfold entryA
  rw [h]
  by_cases hc : ok = true ∧ o.t = true
  · rw [if_pos hc, if_pos ⟨h0, h1, hc⟩]
  · rw [if_neg hc, if_neg (fun h => hc h.2.2)]
end Go.Proofs.YtaoaachgnnengaaDoor

/-
  mem.Fill: a frame's words.
-/
namespace Go.Proofs.YtaoaachgnnengaaDoor
open Go.RowKit

def setL : List Int → Nat → List Int → List Int
  | l, _, [] => l
  | l, o, x :: xs => setL (l.set o x) (o + 1) xs
theorem setL_len : ∀ (xs l : List Int) (o : Nat), (setL l o xs).length = l.length
  | [], l, o => rfl
  | x :: xs, l, o => by rw [setL, setL_len xs]; simp
theorem setL_get : ∀ (xs l : List Int) (o j : Nat), o + xs.length ≤ l.length → (setL l o xs).getD j 0 = if o ≤ j ∧ j < o + xs.length then xs.getD (j - o) 0 else l.getD j 0
  | [], l, o, j, h => by
    rw [setL, if_neg (by simp)]
  | x :: xs, l, o, j, h => by
    have h' : o + 1 + xs.length ≤ l.length := by simp at h; omega
    rw [setL, setL_get xs (l.set o x) (o + 1) j (by simp; omega)]
    by_cases h1 : o = j
    · subst h1
      rw [if_neg (by omega), if_pos (by simp)]
      simp [List.getD_eq_getElem?_getD, show o < l.length by omega]
    · by_cases h2 : o + 1 ≤ j ∧ j < o + 1 + xs.length
      · rw [if_pos h2, if_pos (by simp; omega)]
        obtain ⟨d, rfl⟩ : ∃ d, j = o + 1 + d := ⟨j - (o + 1), by omega⟩
        rw [show o + 1 + d - (o + 1) = d by omega, show o + 1 + d - o = d + 1 by omega]
        simp
      · rw [if_neg h2, if_neg (by simp; omega)]
        simp [List.getD_eq_getElem?_getD, List.getElem?_set_ne h1]
theorem setCells_at {b n g cap : Nat} : ∀ (xs : List Int) (o : Nat) (l : List Int) (w : World), MAt w b (.slice (some ⟨g, 0, none⟩) (16 * n) cap) n l → MAt (w.setCells g o (u32s xs)) b (.slice (some ⟨g, 0, none⟩) (16 * n) cap) n (setL l o xs) ∧ Only (fun k => inRow (.slice (some ⟨g, 0, none⟩) (16 * n) cap) k) w (w.setCells g o (u32s xs))
  | [], o, l, w, h => ⟨h, Only.refl _ _⟩
  | x :: xs, o, l, w, h => by
    have hgb : ¬ b = g := fun e => h.not (by subst e; rfl)
    have h1 : MAt (w.setCell ⟨g, o, none⟩ (.int .u32 x)) b (.slice (some ⟨g, 0, none⟩) (16 * n) cap) n (l.set o x) := ⟨blk_set h.1 (by exact hgb) _, by
      rw [← u32s_set]
      exact (h.2.1.stored o _).1, by rw [List.length_set]; exact h.2.2⟩
    have h2 : Only (fun k => inRow (.slice (some ⟨g, 0, none⟩) (16 * n) cap) k) w (w.setCell ⟨g, o, none⟩ (.int .u32 x)) :=
      Only.setCell (F := fun k => inRow (.slice (some ⟨g, 0, none⟩) (16 * n) cap) k) (Only.refl _ _) (p := ⟨g, o, none⟩) (.inl rfl) _
    obtain ⟨h3, h4⟩ := setCells_at xs (o + 1) _ _ h1
    exact ⟨h3, h2.trans h4⟩

def zeros16 : List Int := List.replicate 16 0
def fillL (l : List Int) (f : Nat) (xs : List Int) : List Int := setL (setL l (16 * f) zeros16) (16 * f) xs
theorem fillL_len (l : List Int) (f : Nat) (xs : List Int) : (fillL l f xs).length = l.length := by unfold fillL; rw [setL_len, setL_len]
theorem fillL_get (l : List Int) (n f : Nat) (xs : List Int) (j : Nat) (hl : l.length = 16 * n) (hf : f < n) (hx : xs.length ≤ 16) : (fillL l f xs).getD j 0 = if 16 * f ≤ j ∧ j < 16 * f + 16 then xs.getD (j - 16 * f) 0 else l.getD j 0 := by
  have hz : zeros16.length = 16 := rfl
  unfold fillL
  rw [setL_get xs _ _ _ (by rw [setL_len]; omega), setL_get zeros16 _ _ _ (by rw [hz]; omega), hz]
  by_cases h1 : 16 * f ≤ j ∧ j < 16 * f + 16
  · rw [if_pos h1, if_pos h1]
    by_cases h2 : j < 16 * f + xs.length
    · rw [if_pos ⟨h1.1, h2⟩]
    · rw [if_neg (by omega)]
      have e1 : xs.getD (j - 16 * f) 0 = 0 := by simp [List.getD_eq_getElem?_getD, List.getElem?_eq_none (show xs.length ≤ j - 16 * f by omega)]
      rw [e1]
      simp only [zeros16, List.getD_eq_getElem?_getD, List.getElem?_replicate]
      split <;> rfl
  · rw [if_neg (by omega), if_neg h1, if_neg h1]

theorem infoMm4 : (Tryd.prog.info? 88).map (·.size) = some 1 := by kernel_rfl
theorem zeroU32 : ∀ w, (zeroValue 88).run Tryd.prog w = .ok (.int .u32 0) w := fun _ => by kernel_rfl

set_option maxHeartbeats 800000 in
theorem mm_fill_no (l : List Int) (b n m c1 : Nat) (ao : Option Addr) (v : Value) (f : Int) (w : World) (h : MAt w b v n l) (hn : n ≤ 1024) (hno : f < 0 ∨ (n : Int) ≤ f ∨ 16 < m) :
    Calls Tryd.prog 64 #[.pointer (some ⟨b, 0, none⟩), .int .i64 f, .slice ao m c1] w fun e w' => e = .returned (.bool false) ∧ w = w' := by
  have HM := Lib.hid h
  clear h
  by_cases h0 : f < 0
  · clear hno
    go_enter Tryd.func64, Tryd.ntmps64
    go_wp2
    go_ret
    exact ⟨rfl, rfl⟩
  · by_cases h1 : (n : Int) ≤ f
    · clear hno
      go_enter Tryd.func64, Tryd.ntmps64
      go_wp2_with fail
      refine (mm_frames l b n v _ HM.out hn).mono ?_
      rintro e w1 ⟨rfl, rfl⟩
      go_wp2
      go_ret
      exact ⟨rfl, rfl⟩
    · have h2 : (16 : Int) < (m : Int) := by omega
      clear hno
      go_enter Tryd.func64, Tryd.ntmps64
      go_wp2_with fail
      refine (mm_frames l b n v _ HM.out hn).mono ?_
      rintro e w1 ⟨rfl, rfl⟩
      go_wp2
      go_ret
      exact ⟨rfl, rfl⟩

set_option maxRecDepth 100000 in
set_option maxHeartbeats 1600000 in
theorem mm_fill_ok (l xs : List Int) (b n f m c1 : Nat) (ao : Option Addr) (v : Value) (w : World) (h : MAt w b v n l) (hn : n ≤ 1024) (hf : f < n) (hs : AtL w ao (u32s xs)) (hm : xs.length = m) (hx : m ≤ 16) (hap : ∀ a, 0 < m → ao = some a → ¬ inRow v a.block) :
    Calls Tryd.prog 64 #[.pointer (some ⟨b, 0, none⟩), .int .i64 f, .slice ao m c1] w fun e w' => e = .returned (.bool true) ∧ MAt w' b v n (fillL l f xs) ∧ Only (fun k => inRow v k) w w' := by
  have c := h.cell
  have HM := Lib.hid h
  obtain ⟨g, cap, rfl, hcap⟩ := h.own (by omega)
  have hcl : ∀ j, j < 16 * n → w.cell? ⟨g, j, none⟩ = some (.int .u32 (l.getD j 0)) := fun j hj => (own_cell h.2.1 j (by omega)).trans (u32s_get l j (by have := h.2.2; omega))
  have hfz : ∀ j, w.frozen? ⟨g, j, none⟩ = false := fun j => own_free h.2.1 j
  have hz : u32s zeros16 = List.replicate 16 (.int .u32 0) := rfl
  have hu := Tryd.underlying81
  obtain ⟨W1, hW1⟩ : ∃ W1, W1 = w.setCells g (16 * f) (u32s zeros16) := ⟨_, rfl⟩
  have hclr : ∀ ty, (Builtin.clear_ #[81] ty #[.slice (some ⟨g, 16 * f, none⟩) 16 (cap - 16 * f)]).run Tryd.prog w = .ok (.tuple #[]) W1 := fun ty => by
    rw [hW1, hz]
    exact Lib.run_clear_slice w 81 88 ty (.int .u32 0) hu zeroU32 rfl rfl g (16 * f) 16 _ (by decide) (fun j hj => by rw [hcl _ (by omega)]; rfl) (fun j _ => hfz _)
  obtain ⟨m1, o1⟩ := setCells_at zeros16 (16 * f) l w h
  rw [← hW1] at m1 o1
  obtain ⟨m2, o2⟩ := setCells_at xs (16 * f) _ W1 m1
  obtain ⟨W2, hW2⟩ : ∃ W2, W2 = W1.setCells g (16 * f) (u32s xs) := ⟨_, rfl⟩
  rw [← hW2] at m2 o2
  have hcp : ∀ ty, (Builtin.copy_ #[81, 81] ty #[.slice (some ⟨g, 16 * f, none⟩) 16 (cap - 16 * f), .slice ao m c1]).run Tryd.prog W1 = .ok (goInt m) W2 := fun ty => by
    by_cases h0 : m = 0
    · obtain rfl : xs = [] := List.eq_nil_of_length_eq_zero (by omega)
      subst h0
      rw [hW2]
      exact run_copy_none W1 81 81 ty 88 _ _ _ _ _ _ hu infoMm4 (by simp)
    · obtain ⟨sb, so, rfl, -, -⟩ := hs 0 _ (u32s_get xs 0 (by omega))
      have hne : sb ≠ g := fun e => hap _ (by omega) rfl (by subst e; rfl)
      have hl : (u32s xs).length = m := by rw [u32s, List.length_map, hm]
      rw [hW2, show (goInt m) = goInt (u32s xs).length by rw [hl]]
      refine run_copy_cells W1 81 81 ty 88 g (16 * f) 16 (cap - 16 * f) ⟨sb, so, none⟩ m c1 (u32s xs) hu infoMm4 (by rw [hl]; exact (Nat.min_eq_left hx).symm) (fun j u hj => ?_) (fun j hj => ?_) (fun j _ => own_free m1.2.1 _) (u32s_one xs)
      · obtain ⟨b2, o2, e, hc2, -⟩ := hs j u hj
        obtain ⟨rfl, rfl⟩ : sb = b2 ∧ so = o2 := by simpa using e
        rw [Addr.add_lit, hW1, World.cell?_setCells_out g _ _ _ _ (fun e _ => (hne e).elim)]
        exact hc2
      · rw [own_cell m1.2.1 (16 * f + j) (by omega), u32s_get _ _ (by rw [m1.2.2]; omega)]
        rfl
  have HM2 := Lib.hid m2
  have HO2 := Lib.hid (o1.trans o2)
  have h1 := IntWalk.i64_in ((f : Int) * 16) (by omega)
  have h2 := IntWalk.i64_in ((f : Int) + 1) (by omega)
  have h3 := IntWalk.i64_in (((f : Int) + 1) * 16) (by omega)
  have hfi : (f : Int) < (n : Int) := by omega
  have e1 : ((f : Int) * 16).toNat = 16 * f := by omega
  have e2 : (((f : Int) + 1) * 16).toNat = 16 * f + 16 := by omega
  have g1 : (0 : Int) ≤ (f : Int) * 16 := by omega
  have g2 : (f : Int) * 16 ≤ ((f : Int) + 1) * 16 := by omega
  have g3 : ((f : Int) + 1) * 16 ≤ (cap : Int) := by omega
  have g4 : (m : Int) ≤ 16 := by omega
  have HN := Lib.hid hn
  clear h hcl hfz hz hu hW1 m1 o1 m2 o2 hW2 hs hap hm hx hcap hf hn
  go_enter Tryd.func64, Tryd.ntmps64
  go_wp2_with fail
  refine (mm_frames l b n _ _ HM.out HN.out).mono ?_
  rintro e w1 ⟨rfl, rfl⟩
  go_wp2
  go_ret
  exact ⟨rfl, HM2.out, HO2.out⟩
end Go.Proofs.YtaoaachgnnengaaDoor

/-
  Rows of records: a list of records laid out cell by cell; plain facts.
-/
namespace Go.Proofs.YtaoaachgnnengaaDoor
open Go.RowKit

theorem rec_len {α V : Type} (f : α → List V) (n : Nat) (hf : ∀ x, (f x).length = n) (l : List α) : (l.flatMap f).length = l.length * n := by
  induction l with
  | nil => simp
  | cons x l ih => rw [List.flatMap_cons, List.length_append, ih, hf, List.length_cons, Nat.succ_mul, Nat.add_comm]
theorem rec_get {α V : Type} [Inhabited α] (f : α → List V) (n : Nat) (hf : ∀ x, (f x).length = n) (l : List α) (i j : Nat) (hi : i < l.length) (hj : j < n) : (l.flatMap f)[i * n + j]? = (f (l.getD i default))[j]? := by
  induction l generalizing i with
  | nil => simp at hi
  | cons x l ih =>
    cases i with
    | zero => rw [List.flatMap_cons, List.getElem?_append_left (by rw [hf]; omega)]; simp
    | succ i =>
      rw [List.flatMap_cons, List.getElem?_append_right (by rw [hf, Nat.succ_mul]; omega), hf, List.getD_cons_succ, ← ih i (by simpa using hi)]
      congr 1
      rw [Nat.succ_mul]
      omega
theorem rec_set {α V : Type} [Inhabited α] (f : α → List V) (n : Nat) (hf : ∀ x, (f x).length = n) (l : List α) (i j : Nat) (hi : i < l.length) (hj : j < n) (y : α) (v : V) (h : f y = (f (l.getD i default)).set j v) : (l.flatMap f).set (i * n + j) v = (l.set i y).flatMap f := by
  induction l generalizing i with
  | nil => simp at hi
  | cons x l ih =>
    cases i with
    | zero =>
      simp only [List.getD_cons_zero] at h
      rw [List.flatMap_cons, List.set_append_left _ _ (by rw [hf]; omega), List.set_cons_zero, List.flatMap_cons, h]
      simp
    | succ i =>
      rw [List.flatMap_cons, List.set_append_right _ _ (by rw [hf, Nat.succ_mul]; omega), List.set_cons_succ, List.flatMap_cons, ← ih i (by simpa using hi) h]
      congr 2
      rw [hf, Nat.succ_mul]
      omega
theorem rec_ext {α V : Type} [Inhabited α] (f : α → List V) (n : Nat) (hf : ∀ x, (f x).length = n) (l : List α) (i : Nat) (hi : i < l.length) : ((l.flatMap f).drop (i * n)).take n = f (l.getD i default) := by
  induction l generalizing i with
  | nil => simp at hi
  | cons x l ih =>
    cases i with
    | zero =>
      rw [List.flatMap_cons, Nat.zero_mul, List.drop_zero]
      rw [show n = (f x).length from (hf x).symm, List.take_left]
      simp
    | succ i =>
      rw [List.flatMap_cons, Nat.succ_mul, Nat.add_comm, ← List.drop_drop, show n = (f x).length from (hf x).symm, List.drop_left, hf, List.getD_cons_succ, ih i (by simpa using hi)]
/-- a part of the whole, of m records from record i on -/
theorem rec_part {α V : Type} (f : α → List V) (n : Nat) (hf : ∀ x, (f x).length = n) (l : List α) (i m : Nat) : ((l.flatMap f).drop (i * n)).take (m * n) = ((l.drop i).take m).flatMap f := by
  induction l generalizing i m with
  | nil => simp
  | cons x l ih =>
    cases i with
    | zero =>
      cases m with
      | zero => simp
      | succ m =>
        have := ih 0 m
        rw [Nat.zero_mul, List.drop_zero, List.drop_zero] at this
        rw [Nat.zero_mul, List.drop_zero, List.drop_zero, List.take_succ_cons, List.flatMap_cons, List.flatMap_cons, ← this, Nat.succ_mul, Nat.add_comm, List.take_append, hf, List.take_of_length_le (by rw [hf]; omega)]
        congr 2
        omega
    | succ i =>
      rw [List.flatMap_cons, Nat.succ_mul, Nat.add_comm, ← List.drop_drop, show n = (f x).length from (hf x).symm, List.drop_left, hf, List.drop_succ_cons, ih i m]

/-- block b holds the records l, each of n cells -/
def RecAt {α : Type} (f : α → List Value) (T : TypeId) (w : World) (b : Nat) (l : List α) : Prop := w.heap[b]? = some (.cells (l.flatMap f).toArray T (0, 0))
theorem RecAt.below {α : Type} {f : α → List Value} {T : TypeId} {w w' : World} {b : Nat} {l : List α} (h : RecAt f T w b l) (hb : Below w.heap.size w w') : RecAt f T w' b l := by
  unfold RecAt at h ⊢
  rw [hb.block b (blk_lt h)]
  exact h
theorem RecAt.only {α : Type} {F : Nat → Prop} {f : α → List Value} {T : TypeId} {w w' : World} {b : Nat} {l : List α} (h : RecAt f T w b l) (hb : Only F w w') (hF : ¬ F b) : RecAt f T w' b l := hb.blk h hF
theorem RecAt.cell {α : Type} [Inhabited α] {f : α → List Value} {n : Nat} (hf : ∀ x, (f x).length = n) {T : TypeId} {w : World} {b : Nat} {l : List α} (h : RecAt f T w b l) (i j : Nat) (hi : i < l.length) (hj : j < n) : w.cell? ⟨b, i * n + j, none⟩ = (f (l.getD i default))[j]? := by
  rw [blk_cell h, List.getElem?_toArray, rec_get f n hf l i j hi hj]
theorem RecAt.free {α : Type} {f : α → List Value} {T : TypeId} {w : World} {b : Nat} {l : List α} (h : RecAt f T w b l) (o : Nat) : w.frozen? ⟨b, o, none⟩ = false := blk_free h o
theorem RecAt.put {α : Type} [Inhabited α] {f : α → List Value} {n : Nat} (hf : ∀ x, (f x).length = n) {T : TypeId} {w : World} {b : Nat} {l : List α} (h : RecAt f T w b l) (i j : Nat) (hi : i < l.length) (hj : j < n) (y : α) (v : Value) (hy : f y = (f (l.getD i default)).set j v) :
    RecAt f T (w.setCell ⟨b, i * n + j, none⟩ v) b (l.set i y) := by
  have := blk_put h (i * n + j) v
  unfold RecAt
  rw [this, ← rec_set f n hf l i j hi hj y v hy]
  simp
end Go.Proofs.YtaoaachgnnengaaDoor

