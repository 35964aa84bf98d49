/-
  facadelaw3: the memory with some words, the document's beside it; an entry that came in.
-/
import Derived.Test.YtpaijiamcjbbcaaDoorWkrW
import Derived.Test.YtpaijiamcjbbcaaDoorFields
namespace Go.Proofs.YtpaijiamcjbbcaaDoor
open Go.ChangeShapes Go.WideShapes Go.ChangeAt Go.RowKit Go.Joins

theorem cellsEnt : Tryd.prog.cellsOf 32 = 4 := by kernel_rfl
theorem open_entry {H : Type} {enc : TypeId × Value → H} {W : World} {v : Value} {d : DataW H} {p : List MemPlace} {r : Reach} {b0 : Nat}
    (hv : Value.okWide Tryd.prog W r b0 32 v) (h : DataW.Trod enc Tryd.prog W 0 (fun _ => true) true 32 v d p) : ∃ e : Ent, v = e.v ∧ True := by
  obtain ⟨c0, c1, c2, c3, y0, y1, y2, y3, m, rfl, -, -, hy0, hy1, hy2, hy3⟩ := open_agg4 Tryd.underlying32 (by kernel_rfl) cellsEnt hv h
  obtain ⟨f, e0, -, wf⟩ := DataW.trod_int Tryd.underlying3 hy0
  obtain ⟨t1, e1, -⟩ := DataW.trod_bool Tryd.underlying4 hy1
  obtain ⟨w1, e2, -⟩ := DataW.trod_bool Tryd.underlying4 hy2
  obtain ⟨u1, e3, -⟩ := DataW.trod_bool Tryd.underlying4 hy3
  simp only [List.cons.injEq, and_true] at e0 e1 e2 e3
  subst e0 e1 e2 e3
  exact ⟨⟨f, t1, w1, u1⟩, rfl, trivial⟩

theorem same_ent (e : Ent) (w : World) : Calls Tryd.prog 19 #[e.v, e.v] w fun x w' => x = .returned (.bool true) ∧ Below w.heap.size w w' := same_refl e.f e.t e.w e.u w

/-- so many words lie in both -/
def MemTo (w : World) (b xb : Nat) (v xv : Value) (xs : List Int) (i : Value) (wr : World) : Prop :=
  ∃ (k : Nat) (l : List Int), k ≤ xs.length ∧ i = .int .i64 (k : Int) ∧ MAt wr b v 20 l ∧ MAr wr xb xv 20 l ∧ (∀ j, l.getD j 0 = if j < k then xs.getD j 0 else 0) ∧ Below w.heap.size w wr

theorem mr_write_at (l : List Int) (b n j : Nat) (v : Value) (x : Int) (w : World) (h : MAr w b v n l) (hj : j < 16 * n) :
    Calls Tryd.prog 22 #[.pointer (some ⟨b, 0, none⟩), .int .i64 j, .int .u32 x] w fun e w' => e = .returned (.bool true) ∧ MAr w' b v n (l.set j x) ∧ Only (fun k => inRow v k) w w' := by
  have hl := h.2.2
  have e1 : writeL l (j : Int) x = l.set j x := by unfold writeL; rw [if_pos (by omega), Int.toNat_natCast]
  have e2 : (decide (0 ≤ (j : Int)) && decide ((j : Int) < (l.length : Int))) = true := by simp; omega
  have := mr_write l b n v (j : Int) x w h
  rw [e1, e2] at this
  exact this

set_option maxRecDepth 100000 in
set_option maxHeartbeats 1600000 in
theorem memory_any (xs : List Int) (ao : Option Addr) (c1 : Nat) (w : World) (hr : AtL w ao (u32s xs)) (hn : xs.length ≤ 320) :
    Calls Tryd.prog 9 #[.slice ao xs.length c1] w fun e w' => ∃ b v xb xv l, e = .returned (.tuple #[.pointer (some ⟨b, 0, none⟩), .pointer (some ⟨xb, 0, none⟩)]) ∧ MAt w' b v 20 l ∧ MAr w' xb xv 20 l ∧ (∀ j, l.getD j 0 = xs.getD j 0) ∧ (∀ k, inRow v k → w.heap.size ≤ k) ∧ Below w.heap.size w w' := by
  have HR := Lib.hid hr
  clear hr
  go_enter Tryd.func9, Tryd.ntmps9
  go_wp2_with fail
  refine (mm_new 20 _ (by decide) (by decide)).mono ?_
  rintro e w1 ⟨b, v, rfl, hm, hmb, hmv, hb1⟩
  have HM := Lib.hid hm
  have HV : Hid (∀ k, inRow v k → w.heap.size ≤ k) := Lib.hid hmv
  have HB1 := Lib.hid hb1
  clear hm hmb hmv hb1
  go_wp2_with fail
  refine (mr_new 20 _ (by decide) (by decide)).mono ?_
  rintro e w2 ⟨xb, xv, rfl, hx, hxb, hxv, hb2⟩
  have HST : Hid (MemTo w b xb v xv xs (.int .i64 0) w2) := Lib.hid ⟨0, _, Nat.zero_le _, rfl, HM.out.below hb2, hx, fun j => by rw [repD_get, if_neg (by omega)], HB1.out.trans (hb2.mono HB1.out.size)⟩
  have HXV : Hid (∀ k, inRow xv k → w.heap.size ≤ k) := Lib.hid fun k hk => Nat.le_trans HB1.out.size (hxv k hk)
  have HSP : Hid ((∀ k, inRow v k → k ≠ xb ∧ ¬ inRow xv k) ∧ ∀ k, inRow xv k → k ≠ b ∧ ¬ inRow v k) := Lib.hid ⟨fun k hk => by
      have g1 := own_lt HM.out.2.1 hk
      exact ⟨by omega, fun e => by have := hxv k e; omega⟩, fun k hk => by
      have g1 := hxv k hk
      have g2 := blk_lt HM.out.1
      exact ⟨by omega, fun e => by have := own_lt HM.out.2.1 e; omega⟩⟩
  clear hx hxb hxv hb2 HM HB1
  go_wp2_with fail
  go_loopw [7] (fun i wr => MemTo w b xb v xv xs i wr) (fun i _ => xs.length - (intOf i).toNat)
  case atStart => exact HST.out
  case round =>
    obtain ⟨k, l, hk, rfl, hm, hx, hl, hb⟩ := hrel
    have HM := Lib.hid hm
    have HX := Lib.hid hx
    have HL := Lib.hid hl
    have HB := Lib.hid hb
    clear hm hx hl hb HST
    by_cases hlt : k < xs.length
    · have hki : (k : Int) < (xs.length : Int) := by omega
      have hw1 := IntWalk.i64_in ((k : Int) + 1) (by omega)
      obtain ⟨sb, so, rfl, q0, hql⟩ := HR.out k _ (u32s_get xs k hlt)
      have q1 : wr.cell? ⟨sb, so + k, none⟩ = some (.int .u32 (xs.getD k 0)) := (HB.out.cell (p := ⟨sb, so + k, none⟩) hql).trans q0
      obtain ⟨z, hz⟩ : ∃ z, xs.getD k 0 = z := ⟨_, rfl⟩
      rw [hz] at q1
      have HZ := Lib.hid hz
      have HQL := Lib.hid hql
      have H20 : Hid (k < 16 * 20) := Lib.hid (by omega)
      clear hz q0 hql
      go_wp2_with fail
      refine (mm_write_at l b 20 k v z _ HM.out H20.out).mono ?_
      rintro e w3 ⟨rfl, hm3, ho3⟩
      have HM3 := Lib.hid hm3
      have HX3 := Lib.hid (HX.out.only ho3 (fun e => (HSP.out.1 _ e).1 rfl) (fun k hk e => (HSP.out.1 k e).2 hk))
      have hb3 : Below w.heap.size w w3 := HB.out.trans (ho3.below HB.out.size HV.out)
      have HB3 := Lib.hid hb3
      have q2 : w3.cell? ⟨sb, so + k, none⟩ = some (.int .u32 z) := by
        rw [← q1]
        exact (hb3.cell (p := ⟨sb, so + k, none⟩) HQL.out).trans (HB.out.cell (p := ⟨sb, so + k, none⟩) HQL.out).symm
      clear hm3 ho3 hb3 q1
      go_wp2_with fail
      refine (mr_write_at l xb 20 k xv z _ HX3.out H20.out).mono ?_
      rintro e w4 ⟨rfl, hx4, ho4⟩
      have HN : Hid (MemTo w b xb v xv xs (.int .i64 ((k : Int) + 1)) w4) := Lib.hid ⟨k + 1, l.set k z, by omega, by go_num, HM3.out.only ho4 (fun e => (HSP.out.2 _ e).1 rfl) (fun k hk e => (HSP.out.2 k e).2 hk), hx4, fun j => by
        rw [setD_get l k j z (by have := HM.out.2.2; have := H20.out; omega), HL.out j]
        by_cases e : j = k
        · subst e
          rw [if_pos rfl, if_pos (by omega), HZ.out]
        · rw [if_neg e]
          by_cases h1 : j < k
          · rw [if_pos h1, if_pos (by omega)]
          · rw [if_neg h1, if_neg (by omega)], HB3.out.trans (ho4.below HB3.out.size HXV.out)⟩
      clear hx4 ho4
      go_wp2
      go_roundw
      case rel => exact HN.out
      case measure => simp [intOf]; omega
    · obtain rfl : k = xs.length := by omega
      have HE : Hid (∀ j, l.getD j 0 = xs.getD j 0) := Lib.hid fun j => by
        rw [HL.out j]
        by_cases h1 : j < xs.length
        · rw [if_pos h1]
        · rw [if_neg h1]
          simp [List.getD_eq_getElem?_getD, List.getElem?_eq_none (show xs.length ≤ j by omega)]
      go_wp2
      go_ret2
      first | exact ⟨b, v, xb, xv, l, rfl, HM.out, HX.out, HE.out, HV.out, HB.out⟩ | exact ⟨b, xb, rfl, v, xv, l, HM.out, HX.out, HE.out, HV.out, HB.out⟩
end Go.Proofs.YtpaijiamcjbbcaaDoor
