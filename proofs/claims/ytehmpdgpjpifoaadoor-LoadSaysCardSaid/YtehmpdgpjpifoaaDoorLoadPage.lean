/-
  load.Page: a page's words, or none.
-/
import Derived.Test.YtehmpdgpjpifoaaDoorLoadPg
namespace Go.Proofs.YtehmpdgpjpifoaaDoor
open Go.RowKit

theorem infoU32p : (Tryd.prog.info? 24).map (·.size) = some 1 := by kernel_rfl

def z16 : Array Value := #[.int .u32 0, .int .u32 0, .int .u32 0, .int .u32 0, .int .u32 0, .int .u32 0, .int .u32 0, .int .u32 0, .int .u32 0, .int .u32 0, .int .u32 0, .int .u32 0, .int .u32 0, .int .u32 0, .int .u32 0, .int .u32 0]
theorem made16 : ∀ w, (Instr.makeSlice 25 (.int .i64 16) (.int .i64 16)).run Tryd.prog w = .ok (.slice (some ⟨w.heap.size, 0, none⟩) 16 16) (w.alloc (.cells z16 24)) := fun _ => by kernel_rfl

theorem blk_new' (w : World) (x y : Obj) : ((w.alloc x).alloc y).heap[w.heap.size + 1]? = some y := by have := blk_new (w.alloc x) y; simpa using this
theorem splice_rep (n : Nat) (z : Value) (cs : List Value) : splice (List.replicate n z) 0 cs = cs ++ List.replicate (n - cs.length) z := by simp [splice]
theorem words16 (l : List Int) (k : Nat) (h : k * 16 < l.length) : splice z16.toList 0 (u32s ((l.drop (k * 16)).take 16)) = u32s (pageWords l k) := by
  have e : z16.toList = List.replicate 16 (Value.int .u32 0) := rfl
  rw [e, splice_rep]
  simp [pageWords, u32s]

set_option maxRecDepth 100000 in
set_option maxHeartbeats 1000000 in
theorem page_low (l : List Int) (at_ : Nat) (e : Int) (b off : Nat) (ac : Option Addr) (cap m cap2 : Nat) (rv pv sv : Value) (w : World) (hn : l.length ≤ 100000) (ha : at_ < pg l.length) (ha2 : at_ < 128) (hcap : l.length ≤ cap)
    (hc : ∀ j u, (u32s l)[j]? = some u → w.cell? ⟨b, off + j, none⟩ = some u) :
    Calls Tryd.prog 21 #[.agg #[.int .u32 e, .slice (some ⟨b, off, none⟩) l.length cap, .slice ac m cap2, rv, pv, sv], .int .i64 (at_ : Nat)] w fun e w' =>
      ∃ g, e = .returned (.tuple #[.slice (some ⟨g, 0, none⟩) 16 16, .bool true]) ∧ w.heap.size ≤ g ∧ Below w.heap.size w w' ∧ w'.heap[g]? = some (.cells (u32s (pageWords l at_)).toArray 24 (0, 0)) := by
  have HC := Lib.hid hc
  have h16 : at_ * 16 < l.length := by unfold pg at ha; omega
  have hx0 : (at_ : Int) < (pg l.length : Nat) := by omega
  have hx1 := IntWalk.i64_in ((at_ : Int) * 16) (by omega)
  have hx2 : (0 : Int) ≤ (at_ : Int) * 16 := by omega
  have hx3 : (at_ : Int) * 16 ≤ (l.length : Int) := by omega
  have hx4 : ((at_ : Int) * 16).toNat = at_ * 16 := by omega
  have hx5 : (at_ : Int) < 128 := by omega
  have hx6 : ¬ cap = at_ * 16 := by omega
  obtain ⟨cs, hcs⟩ : ∃ cs, cs = u32s ((l.drop (at_ * 16)).take 16) := ⟨_, rfl⟩
  have hlen : cs.length = Nat.min (l.length - at_ * 16) 16 := by rw [hcs, u32s_len, Nat.mul_one, List.length_take, List.length_drop]; exact Nat.min_comm _ _
  have hone : ∀ v ∈ cs, v.oneCell' = true := by rw [hcs]; exact u32s_one _
  have hsrc : ∀ j v, cs[j]? = some v → w.cell? ⟨b, off + (at_ * 16 + j), none⟩ = some v := fun j v hj => hc _ _ (by
    rw [hcs] at hj
    have hj16 : j < 16 := by
      have := (List.getElem?_eq_some_iff.mp hj).1
      rw [u32s_len, Nat.mul_one, List.length_take] at this
      omega
    rw [← hj]
    simp only [u32s, List.getElem?_map, List.getElem?_take, List.getElem?_drop, if_pos hj16])
  have hfit : 0 + cs.length ≤ z16.toList.length := by
    have : z16.toList.length = 16 := rfl
    rw [this, hlen]
    have : Nat.min (l.length - at_ * 16) 16 ≤ 16 := Nat.min_le_right _ _
    omega
  have hsrc2 : ∀ (X Y : Obj) (j : Nat) (v : Value), cs[j]? = some v → ((w.alloc X).alloc Y).cell? (Addr.add ⟨b, off + at_ * 16, none⟩ j) = some v := fun X Y j v hj => by
    rw [Addr.add_lit, Nat.add_assoc]
    have h := hsrc j v hj
    have hb := World.block_lt_of_cell? w _ h
    exact (((Below.refl _ _).alloc (Nat.le_refl _) X).alloc (by simp) Y).cell (p := ⟨b, off + (at_ * 16 + j), none⟩) hb |>.trans h
  have hb2 : ∀ (X Y : Obj), Below w.heap.size w ((w.alloc X).alloc Y) := fun X Y => ((Below.refl _ _).alloc (Nat.le_refl _) X).alloc (by simp) Y
  have hg2 : ∀ (X : Obj), w.heap.size ≤ (w.alloc X).heap.size := fun X => by simp
  have HFIT := Lib.hid hfit
  have HSRC2 := Lib.hid hsrc2
  have HB2 := Lib.hid hb2
  have HG2 := Lib.hid hg2
  have HCS := Lib.hid hcs
  have HLEN := Lib.hid hlen
  have HONE := Lib.hid hone
  clear hc hcs hlen hone hsrc hcap hfit hsrc2 hb2 hg2
  go_enter Tryd.func21, Tryd.ntmps21
  go_wp2_with fail
  refine (pages_any _ _ _ _ hn).mono ?_
  rintro e w1 ⟨rfl, rfl⟩
  have hmk := made16
  go_wp2_with (refine wpList_copy_splice rfl (.tmp 27) (.tmp 31) 25 25 rfl 24 Tryd.underlying25 infoU32p (some ⟨w.heap.size + 1, 0, none⟩) (some ⟨b, off + at_ * 16, none⟩) 16 16 (l.length - at_ * 16) (cap - at_ * 16) rfl rfl (w.heap.size + 1) 0 z16.toList 24 (blk_new' _ _ _) cs HLEN.out (fun _ => ⟨rfl, _, rfl, HSRC2.out _ _⟩) HFIT.out HONE.out w.heap.size w (HB2.out _ _) (Nat.le_succ _) ?_)
  intro w2 hg hb2
  go_wp2
  go_ret2
  refine ⟨_, rfl, Nat.le_succ _, hb2, ?_⟩
  have := hg.out
  rw [HCS.out, words16 l at_ h16] at this
  exact this
set_option maxRecDepth 100000 in
set_option maxHeartbeats 1000000 in
theorem page_high (l : List Int) (at_ : Nat) (e page : Int) (b off : Nat) (ac : Option Addr) (cap m cap2 : Nat) (rv pv sv : Value) (w : World) (hn : l.length ≤ 100000) (ha : at_ < pg l.length) (ha2 : page = (at_ : Int) + 128) (hcap : l.length ≤ cap)
    (hc : ∀ j u, (u32s l)[j]? = some u → w.cell? ⟨b, off + j, none⟩ = some u) :
    Calls Tryd.prog 21 #[.agg #[.int .u32 e, .slice ac m cap2, .slice (some ⟨b, off, none⟩) l.length cap, rv, pv, sv], .int .i64 page] w fun e w' =>
      ∃ g, e = .returned (.tuple #[.slice (some ⟨g, 0, none⟩) 16 16, .bool true]) ∧ w.heap.size ≤ g ∧ Below w.heap.size w w' ∧ w'.heap[g]? = some (.cells (u32s (pageWords l at_)).toArray 24 (0, 0)) := by
  have HC := Lib.hid hc
  have h16 : at_ * 16 < l.length := by unfold pg at ha; omega
  have hp := IntWalk.i64_in (page - 128) (by omega)
  have hx0 : page - 128 < (pg l.length : Nat) := by omega
  have hx1 := IntWalk.i64_in ((page - 128) * 16) (by omega)
  have hx2 : (0 : Int) ≤ (page - 128) * 16 := by omega
  have hx3 : (page - 128) * 16 ≤ (l.length : Int) := by omega
  have hx4 : ((page - 128) * 16).toNat = at_ * 16 := by omega
  have hx5 : 128 ≤ page := by omega
  have hx7 : 0 ≤ page - 128 := by omega
  have hx6 : ¬ cap = at_ * 16 := by omega
  obtain ⟨cs, hcs⟩ : ∃ cs, cs = u32s ((l.drop (at_ * 16)).take 16) := ⟨_, rfl⟩
  have hlen : cs.length = Nat.min (l.length - at_ * 16) 16 := by rw [hcs, u32s_len, Nat.mul_one, List.length_take, List.length_drop]; exact Nat.min_comm _ _
  have hone : ∀ v ∈ cs, v.oneCell' = true := by rw [hcs]; exact u32s_one _
  have hsrc : ∀ j v, cs[j]? = some v → w.cell? ⟨b, off + (at_ * 16 + j), none⟩ = some v := fun j v hj => hc _ _ (by
    rw [hcs] at hj
    have hj16 : j < 16 := by
      have := (List.getElem?_eq_some_iff.mp hj).1
      rw [u32s_len, Nat.mul_one, List.length_take] at this
      omega
    rw [← hj]
    simp only [u32s, List.getElem?_map, List.getElem?_take, List.getElem?_drop, if_pos hj16])
  have hfit : 0 + cs.length ≤ z16.toList.length := by
    have : z16.toList.length = 16 := rfl
    rw [this, hlen]
    have : Nat.min (l.length - at_ * 16) 16 ≤ 16 := Nat.min_le_right _ _
    omega
  have hsrc2 : ∀ (X Y : Obj) (j : Nat) (v : Value), cs[j]? = some v → ((w.alloc X).alloc Y).cell? (Addr.add ⟨b, off + at_ * 16, none⟩ j) = some v := fun X Y j v hj => by
    rw [Addr.add_lit, Nat.add_assoc]
    have h := hsrc j v hj
    have hb := World.block_lt_of_cell? w _ h
    exact (((Below.refl _ _).alloc (Nat.le_refl _) X).alloc (by simp) Y).cell (p := ⟨b, off + (at_ * 16 + j), none⟩) hb |>.trans h
  have hb2 : ∀ (X Y : Obj), Below w.heap.size w ((w.alloc X).alloc Y) := fun X Y => ((Below.refl _ _).alloc (Nat.le_refl _) X).alloc (by simp) Y
  have hg2 : ∀ (X : Obj), w.heap.size ≤ (w.alloc X).heap.size := fun X => by simp
  have HFIT := Lib.hid hfit
  have HSRC2 := Lib.hid hsrc2
  have HB2 := Lib.hid hb2
  have HG2 := Lib.hid hg2
  have HCS := Lib.hid hcs
  have HLEN := Lib.hid hlen
  have HONE := Lib.hid hone
  clear ha2 hc hcs hlen hone hsrc hcap hfit hsrc2 hb2 hg2
  go_enter Tryd.func21, Tryd.ntmps21
  go_wp2_with fail
  refine (pages_any _ _ _ _ hn).mono ?_
  rintro e w1 ⟨rfl, rfl⟩
  have hmk := made16
  go_wp2_with (refine wpList_copy_splice rfl (.tmp 27) (.tmp 31) 25 25 rfl 24 Tryd.underlying25 infoU32p (some ⟨w.heap.size + 1, 0, none⟩) (some ⟨b, off + at_ * 16, none⟩) 16 16 (l.length - at_ * 16) (cap - at_ * 16) rfl rfl (w.heap.size + 1) 0 z16.toList 24 (blk_new' _ _ _) cs HLEN.out (fun _ => ⟨rfl, _, rfl, HSRC2.out _ _⟩) HFIT.out HONE.out w.heap.size w (HB2.out _ _) (Nat.le_succ _) ?_)
  intro w2 hg hb2
  go_wp2
  go_ret2
  refine ⟨_, rfl, Nat.le_succ _, hb2, ?_⟩
  have := hg.out
  rw [HCS.out, words16 l at_ h16] at this
  exact this

set_option maxRecDepth 100000 in
set_option maxHeartbeats 1000000 in
theorem page_low_none (n : Nat) (e page : Int) (ao ac : Option Addr) (cap m cap2 : Nat) (rv pv sv : Value) (w : World) (hn : n ≤ 100000) (ha : page < 0 ∨ (pg n : Int) ≤ page) (ha2 : page < 128) :
    Calls Tryd.prog 21 #[.agg #[.int .u32 e, .slice ao n cap, .slice ac m cap2, rv, pv, sv], .int .i64 page] w fun e w' => e = .returned (.tuple #[.slice none 0 0, .bool false]) ∧ Below w.heap.size w w' := by
  by_cases h0 : page < 0
  · clear ha
    go_enter Tryd.func21, Tryd.ntmps21
    go_wp2
    go_ret2
    exact ⟨rfl, by repeat (first | exact Below.refl _ _ | refine Below.alloc ?_ (by simp) _)⟩
  · have h1 : (pg n : Int) ≤ page := by omega
    clear ha
    go_enter Tryd.func21, Tryd.ntmps21
    go_wp2_with fail
    refine (pages_any _ _ _ _ hn).mono ?_
    rintro e w1 ⟨rfl, rfl⟩
    go_wp2
    go_ret2
    exact ⟨rfl, by repeat (first | exact Below.refl _ _ | refine Below.alloc ?_ (by simp) _)⟩

set_option maxRecDepth 100000 in
set_option maxHeartbeats 1000000 in
theorem page_high_none (n : Nat) (e page : Int) (ao ac : Option Addr) (cap m cap2 : Nat) (rv pv sv : Value) (w : World) (hn : n ≤ 100000) (ha : (pg n : Int) + 128 ≤ page) (hi : page ≤ 9223372036854775807) :
    Calls Tryd.prog 21 #[.agg #[.int .u32 e, .slice ac m cap2, .slice ao n cap, rv, pv, sv], .int .i64 page] w fun e w' => e = .returned (.tuple #[.slice none 0 0, .bool false]) ∧ Below w.heap.size w w' := by
  have hp := IntWalk.i64_in (page - 128) (by omega)
  have h1 : (pg n : Int) ≤ page - 128 := by omega
  have h2 : 0 ≤ page - 128 := by omega
  have h3 : 128 ≤ page := by omega
  clear ha
  go_enter Tryd.func21, Tryd.ntmps21
  go_wp2_with fail
  refine (pages_any _ _ _ _ hn).mono ?_
  rintro e w1 ⟨rfl, rfl⟩
  go_wp2
  go_ret2
  exact ⟨rfl, by repeat (first | exact Below.refl _ _ | refine Below.alloc ?_ (by simp) _)⟩
end Go.Proofs.YtehmpdgpjpifoaaDoor
