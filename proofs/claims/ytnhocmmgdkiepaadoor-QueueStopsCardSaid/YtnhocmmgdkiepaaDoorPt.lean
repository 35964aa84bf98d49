/-
  pt.Tables: its cells; page, write, entry.
-/
import Derived.Test.YtnhocmmgdkiepaaDoorWkr
import Derived.Test.YtnhocmmgdkiepaaDoorMm4
import Derived.Test.YtnhocmmgdkiepaaDoorFrAlloc
import Derived.Test.YtnhocmmgdkiepaaDoorFrDo
import Derived.Test.YtnhocmmgdkiepaaDoorPmRef2
import Derived.Test.YtnhocmmgdkiepaaDoorLdA
namespace Go.Proofs.YtnhocmmgdkiepaaDoor
open Go.RowKit

/-- tables: memory, frames, the guest's frames -/
structure Ts where
  n : Nat
  M : List Int
  F : List Fr
  P : List Int
  who : Int
/-- where tables lie -/
structure Pl where
  tb : Nat
  mb : Nat
  fb : Nat
  fg : Nat
  pb : Nat
  mv : Value
  pv : Value
  lv : Value
/-- the blocks that no operation writes; memory's words; frames; the map -/
def Pl.z0 (p : Pl) (k : Nat) : Prop := k = p.tb ∨ k = p.mb ∨ k = p.fb ∨ inRow p.lv k
def Pl.z1 (p : Pl) (k : Nat) : Prop := inRow p.mv k
def Pl.z2 (p : Pl) (k : Nat) : Prop := k = p.fg
def Pl.z3 (p : Pl) (k : Nat) : Prop := k = p.pb ∨ inRow p.pv k
structure Pl.Apart (p : Pl) : Prop where
  a01 : ∀ k, p.z0 k → ¬ p.z1 k
  a02 : ∀ k, p.z0 k → ¬ p.z2 k
  a03 : ∀ k, p.z0 k → ¬ p.z3 k
  a12 : ∀ k, p.z1 k → ¬ p.z2 k
  a13 : ∀ k, p.z1 k → ¬ p.z3 k
  a23 : ∀ k, p.z2 k → ¬ p.z3 k
def ptCells (p : Pl) (who : Int) : Array Value := #[.pointer (some ⟨p.mb, 0, none⟩), .pointer (some ⟨p.fb, 0, none⟩), .int .i64 who, .pointer (some ⟨p.pb, 0, none⟩), p.lv]
structure PtAt (w : World) (p : Pl) (s : Ts) : Prop where
  row : w.heap[p.tb]? = some (.cells (ptCells p s.who) 133 (0, 0))
  mem : MAt w p.mb p.mv s.n s.M
  fr : FrAt 128 126 w p.fb p.fg s.n s.F
  pm : PAt w p.pb p.pv s.P
  tl : w.ownsRow 0 3 1 p.lv 17 (ints (s.P.take 17))
  apart : p.Apart
theorem PtAt.keep {F : Nat → Prop} {w w' : World} {p : Pl} {s : Ts} (h : PtAt w p s) (ho : Only F w w') (h0 : ∀ k, p.z0 k → ¬ F k) (h1 : ∀ k, p.z1 k → ¬ F k) (h2 : ∀ k, p.z2 k → ¬ F k) (h3 : ∀ k, p.z3 k → ¬ F k) : PtAt w' p s :=
  ⟨ho.blk h.row (h0 _ (.inl rfl)), h.mem.only ho (h0 _ (.inr (.inl rfl))) h1, h.fr.only ho (h0 _ (.inr (.inr (.inl rfl)))) (h2 _ rfl), h.pm.only ho (h3 _ (.inl rfl)) (fun k hk => h3 k (.inr hk)), own_only h.tl ho (fun k hk => h0 k (.inr (.inr (.inr hk)))), h.apart⟩
theorem PtAt.below {w w' : World} {p : Pl} {s : Ts} (h : PtAt w p s) (hb : Below w.heap.size w w') : PtAt w' p s :=
  h.keep (F := fun _ => False) (Only.of_below hb) (fun _ _ h => h) (fun _ _ h => h) (fun _ _ h => h) (fun _ _ h => h)
theorem PtAt.mem' {w w' : World} {p : Pl} {s : Ts} {M : List Int} (h : PtAt w p s) (ho : Only (fun k => inRow p.mv k) w w') (hm : MAt w' p.mb p.mv s.n M) : PtAt w' p { s with M := M } :=
  ⟨ho.blk h.row (h.apart.a01 _ (.inl rfl)), hm, h.fr.only ho (h.apart.a01 _ (.inr (.inr (.inl rfl)))) (fun h' => h.apart.a12 _ h' rfl), h.pm.only ho (fun h' => h.apart.a13 _ h' (.inl rfl)) (fun k hk h' => h.apart.a13 _ h' (.inr hk)), own_only h.tl ho (fun k hk => h.apart.a01 k (.inr (.inr (.inr hk)))), h.apart⟩
theorem PtAt.fr' {w w' : World} {p : Pl} {s : Ts} {F : List Fr} (h : PtAt w p s) (ho : Only (fun k => k = p.fg) w w') (hm : FrAt 128 126 w' p.fb p.fg s.n F) : PtAt w' p { s with F := F } :=
  ⟨ho.blk h.row (h.apart.a02 _ (.inl rfl)), h.mem.only ho (h.apart.a02 _ (.inr (.inl rfl))) (fun k hk h' => h.apart.a12 _ hk h'), hm, h.pm.only ho (fun h' => h.apart.a23 _ h' (.inl rfl)) (fun k hk h' => h.apart.a23 _ h' (.inr hk)), own_only h.tl ho (fun k hk => h.apart.a02 k (.inr (.inr (.inr hk)))), h.apart⟩
theorem PtAt.cells {w : World} {p : Pl} {s : Ts} (h : PtAt w p s) : w.cell? ⟨p.tb, 0, none⟩ = some (.pointer (some ⟨p.mb, 0, none⟩)) ∧ w.cell? ⟨p.tb, 1, none⟩ = some (.pointer (some ⟨p.fb, 0, none⟩)) ∧ w.cell? ⟨p.tb, 2, none⟩ = some (.int .i64 s.who) ∧ w.cell? ⟨p.tb, 3, none⟩ = some (.pointer (some ⟨p.pb, 0, none⟩)) ∧ w.cell? ⟨p.tb, 4, none⟩ = some p.lv :=
  ⟨blk_cell h.row 0, blk_cell h.row 1, blk_cell h.row 2, blk_cell h.row 3, blk_cell h.row 4⟩
theorem take_getD (l : List Int) (k m : Nat) (h : k < m) : (l.take m).getD k 0 = l.getD k 0 := by
  rw [List.getD_eq_getElem?_getD, List.getD_eq_getElem?_getD, List.getElem?_take_of_lt h]
theorem ints_get' (l : List Int) (k : Nat) (h : k < l.length) : (ints l)[k]? = some (.int .i64 (l.getD k 0)) := by
  rw [ints, List.getElem?_map, List.getElem?_eq_getElem h, List.getD_eq_getElem?_getD, List.getElem?_eq_getElem h]
  rfl
/-- the list of the tables' frames -/
theorem PtAt.list {w : World} {p : Pl} {s : Ts} (h : PtAt w p s) (hP : 17 ≤ s.P.length) : ∃ g cap, p.lv = .slice (some ⟨g, 0, none⟩) 17 cap ∧ g < w.heap.size ∧ ∀ k, k < 17 → w.cell? ⟨g, k, none⟩ = some (.int .i64 (s.P.getD k 0)) := by
  rcases own_shape h.tl with ⟨-, hz, -⟩ | hs
  · omega
  · obtain ⟨g, cap, e1, -⟩ := hs
    have ht := h.tl
    rw [e1] at ht
    refine ⟨g, cap, e1, own_lt ht (show inRow _ g from rfl), fun k hk => ?_⟩
    rw [own_cell ht k (by omega), ints_get' _ k (by rw [List.length_take]; omega), take_getD _ _ _ hk]

/-- where a page's entry stands -/
def tWord (s : Ts) (page : Nat) : Nat := 16 * (s.P.getD (1 + page / 16) 0).toNat + page % 16
/-- a page's entry, as it stands -/
def tEnt (s : Ts) (page : Int) : Ent := if 0 ≤ page ∧ page < 256 ∧ (ofA (s.M.getD (tWord s page.toNat) 0)).1.t = true then (ofA (s.M.getD (tWord s page.toNat) 0)).1 else Ent.z
/-- tables as they are -/
structure TInv (m : Int) (s : Ts) : Prop where
  n1 : s.n ≤ 1024
  lm : s.M.length = 16 * s.n
  lf : s.F.length = s.n
  w32 : ∀ j, W32 (s.M.getD j 0)
  fok : FrOk m s.F
  p17 : 17 ≤ s.P.length
  p512 : s.P.length ≤ 512
  pin : ∀ i, i < s.P.length → 0 ≤ s.P.getD i 0 ∧ s.P.getD i 0 < (s.n : Int) ∧ (s.F.getD (s.P.getD i 0).toNat default).owner ≠ -1
  pne : ∀ i j, i < s.P.length → j < s.P.length → s.P.getD i 0 = s.P.getD j 0 → i = j
  root : ∀ k, k < 16 → s.M.getD (16 * (s.P.getD 0 0).toNat + k) 0 = entW (s.P.getD (k + 1) 0) true true true

theorem tEnt_page {m : Int} {s : Ts} (h : TInv m s) (page : Int) : pageA s.M s.n (s.P.getD 0 0) page = (tEnt s page, (tEnt s page).t) := by
  unfold tEnt
  by_cases hp : 0 ≤ page ∧ page < 256
  · obtain ⟨j, rfl⟩ : ∃ j : Nat, page = (j : Int) := ⟨page.toNat, by omega⟩
    have h0 := h.pin 0 (by have := h.p17; omega)
    have h1 := h.pin (j / 16 + 1) (by have := h.p17; omega)
    have hn := h.n1
    have hr := h.root (j / 16) (by omega)
    have hk : entOk (s.P.getD (j / 16 + 1) 0) true true true := ⟨h1.1, by omega, fun h => by cases h⟩
    have e1 := ofA_ent'' hk
    rw [← hr] at e1
    obtain ⟨r, hr0⟩ : ∃ r : Nat, s.P.getD 0 0 = (r : Int) := ⟨(s.P.getD 0 0).toNat, by omega⟩
    rw [hr0] at e1 h0 ⊢
    rw [Int.toNat_natCast] at e1
    have hpg := pageA_by s.M s.n r j (by omega) (by omega) ⟨s.P.getD (j / 16 + 1) 0, true, true, true⟩ true e1
    rw [if_pos ⟨rfl, rfl⟩] at hpg
    rw [hpg]
    obtain ⟨⟨e, b⟩, ho⟩ : ∃ q, ofA (s.M.getD (tWord s j) 0) = q := ⟨_, rfl⟩
    have hw : 16 * (s.P.getD (j / 16 + 1) 0).toNat + j % 16 = tWord s j := by
      unfold tWord
      rw [Nat.add_comm 1]
    rw [entryA_by s.M s.n (s.P.getD (j / 16 + 1) 0) (j % 16) h1.1 h1.2.1 e b (by rw [hw]; exact ho)]
    rw [Int.toNat_natCast, ho]
    have hb : e.t = true → b = true := fun ht => by
      unfold ofA at ho
      split at ho
      · exact (Prod.mk.inj ho).2.symm
      · obtain ⟨rfl, rfl⟩ := Prod.mk.inj ho
        cases ht
    by_cases ht : e.t = true
    · rw [if_pos ⟨hb ht, ht⟩, if_pos ⟨hp.1, hp.2, ht⟩, ht]
    · rw [if_neg (fun hh => ht hh.2), if_neg (fun hh => ht hh.2.2)]
      rfl
  · unfold pageA
    rw [if_neg (fun hh => hp ⟨hh.1, hh.2.1⟩), if_neg (fun hh => hp ⟨hh.1, hh.2.1⟩)]
    rfl

/-- a page's number -/
def isPage (n : Int) : Bool := decide (0 ≤ n) && decide (n < 256)
set_option maxHeartbeats 400000 in
theorem tpage_any (n : Int) (w : World) : Calls Tryd.prog 105 #[.int .i64 n] w fun e w' => e = .returned (.bool (isPage n)) ∧ w = w' := by
  have hc : (¬ 0 ≤ n ∧ isPage n = false) ∨ (0 ≤ n ∧ ¬ n < 256 ∧ isPage n = false) ∨ (0 ≤ n ∧ n < 256 ∧ isPage n = true) := by
    unfold isPage
    by_cases h : 0 ≤ n
    · by_cases h2 : n < 256
      · exact .inr (.inr ⟨h, h2, by simp; omega⟩)
      · exact .inr (.inl ⟨h, h2, by simp; omega⟩)
    · exact .inl ⟨h, by simp; omega⟩
  rcases hc with ⟨h1, hp⟩ | ⟨h1, h2, hp⟩ | ⟨h1, h2, hp⟩
  all_goals
    rw [hp]
    clear hp
    go_enter Tryd.func105, Tryd.ntmps105
    go_wp2
    go_ret
    exact ⟨rfl, rfl⟩

/-- a word of an entry, if it has one, put -/
def putE (l : List Int) (f i : Int) (e : Ent) : List Int := if (bitsA e).2 then writeL l (f * 16 + i) (bitsA e).1 else l
set_option maxRecDepth 100000 in
set_option maxHeartbeats 1600000 in
theorem twrite_any (l : List Int) (b n : Nat) (v : Value) (f i : Int) (e : Ent) (w : World) (h : MAt w b v n l) (hf : 0 ≤ f ∧ f < 1024) (hi : 0 ≤ i ∧ i < 16) :
    Calls Tryd.prog 71 #[.pointer (some ⟨b, 0, none⟩), .int .i64 f, .int .i64 i, e.v] w fun y w' => y = .returned (.tuple #[]) ∧ MAt w' b v n (putE l f i e) ∧ Only (fun k => inRow v k) w w' := by
  have hb0 : Below w.heap.size w (w.alloc (.cells #[.int .i64 e.f, .bool e.t, .bool e.w, .bool e.u] 42)) := (Below.refl _ _).alloc (Nat.le_refl _) _
  have HB0 := Lib.hid hb0
  have HBT := Lib.hid (fun wx => bits_any e wx)
  have HM : Hid (∀ wx, Below w.heap.size w wx → MAt wx b v n l) := Lib.hid fun wx hx => h.below hx
  have w1 := IntWalk.i64_in (f * 16) (by omega)
  have w2 := IntWalk.i64_in (f * 16 + i) (by omega)
  unfold putE
  obtain ⟨⟨x, q⟩, hx⟩ : ∃ r, bitsA e = r := ⟨_, rfl⟩
  rw [hx] at HBT ⊢
  unfold wordV at HBT
  obtain ⟨ef, et, ew, eu⟩ := e
  unfold Ent.v at HBT ⊢
  dsimp only at HBT HB0 ⊢
  clear h hb0 hx
  cases q
  · go_enter Tryd.func71, Tryd.ntmps71
    go_wp2_with fail
    refine (HBT.out _).mono ?_
    rintro y w3 ⟨rfl, hb3⟩
    have HB3 := Lib.hid (HB0.out.trans (hb3.mono HB0.out.size))
    clear hb3
    go_wp2
    go_end0
    exact ⟨rfl, HM.out _ HB3.out, Only.of_below HB3.out⟩
  · go_enter Tryd.func71, Tryd.ntmps71
    go_wp2_with fail
    refine (HBT.out _).mono ?_
    rintro y w3 ⟨rfl, hb3⟩
    have HB3 := Lib.hid (HB0.out.trans (hb3.mono HB0.out.size))
    clear hb3
    go_wp2_with fail
    refine (mm_write l b n v (f * 16 + i) x _ (HM.out _ HB3.out)).mono ?_
    rintro y w4 ⟨rfl, hm4, ho4⟩
    have HM4 := Lib.hid hm4
    have HO4 := Lib.hid ((Only.of_below HB3.out).trans ho4)
    clear hm4 ho4
    go_wp2
    go_end0
    exact ⟨rfl, HM4.out, HO4.out⟩
end Go.Proofs.YtnhocmmgdkiepaaDoor
