/-
  facadesee: an error with a place around it as a fault; is it this one?
-/
import Derived.Test.YtpmbbbgmaipmbaaDoorSee
namespace Go.Proofs.YtpmbbbgmaipmbaaDoor
open Go.RowKit

theorem placed_any (c i : Int) (w : World) (hc : c ≠ 0) : Calls Tryd.prog 35 #[.int .i64 c, .int .i64 i] w fun e w' => e = .returned (.agg #[.int .i64 c, .bool true, .int .i64 i]) ∧ Below w.heap.size w w' := by
  have hb : (c == 0) = false := by simp [hc]
  clear hc
  go_enter Tryd.func35, Tryd.ntmps35
  go_wp2
  refine bodyPost_ret (v := .agg #[.int .i64 c, .bool true, .int .i64 i]) (by simp [results, Tryd.results35, go_sem]) rfl ⟨rfl, ?_⟩
  repeat (first | exact Below.refl _ _ | refine Below.setCell ?_ (by first | (simp; done) | (simp; omega)) _ | refine Below.alloc ?_ (by first | (simp; done) | (simp; omega)) _)

/-- a fault as plain data -/
def fltV (c : Int) (b : Bool) (p : Int) : Value := .agg #[.int .i64 c, .bool b, .int .i64 p]
set_option maxHeartbeats 800000 in
theorem sameFault_gen (c d p q : Int) (a b : Bool) (w : World) : Calls Tryd.prog 55 #[.agg #[.int .i64 c, .bool a, .int .i64 p], .agg #[.int .i64 d, .bool b, .int .i64 q]] w fun e w' => e = .returned (.bool (decide (c = d) && (a == b) && decide (p = q))) ∧ Below w.heap.size w w' := by
  by_cases h : c = d
  · subst h
    by_cases h2 : a = b
    · subst h2
      by_cases h3 : p = q
      · subst h3
        cases a
        all_goals
          go_enter Tryd.func55, Tryd.ntmps55
          go_wp2
          go_ret
          exact ⟨ret_bool (by simp), by repeat (first | exact Below.refl _ _ | refine Below.alloc ?_ (by simp) _)⟩
      · have hb : (p == q) = false := by simp [h3]
        have H := Lib.hid h3
        clear h3
        cases a
        all_goals
          go_enter Tryd.func55, Tryd.ntmps55
          go_wp2
          go_ret
          exact ⟨ret_bool (by simp [H.out, hb]), by repeat (first | exact Below.refl _ _ | refine Below.alloc ?_ (by simp) _)⟩
    · cases a <;> cases b
      all_goals first | exact absurd rfl h2 | skip
      all_goals
        clear h2
        go_enter Tryd.func55, Tryd.ntmps55
        go_wp2
        go_ret
        exact ⟨ret_bool (by simp), by repeat (first | exact Below.refl _ _ | refine Below.alloc ?_ (by simp) _)⟩
  · have hb : (c == d) = false := by simp [h]
    have H := Lib.hid h
    clear h
    go_enter Tryd.func55, Tryd.ntmps55
    go_wp2
    go_ret
    exact ⟨ret_bool (by simp [H.out]), by repeat (first | exact Below.refl _ _ | refine Below.alloc ?_ (by simp) _)⟩

set_option maxRecDepth 100000 in
set_option maxHeartbeats 800000 in
theorem fault_at (E : Nat → Addr) (k p : Nat) (i : Int) (hk : k < 16) (w : World) (hE : ErrsAt errT gOf w E all16) (hp : w.heap[p]? = some (.cells #[.int .i64 i, errV (E k)] 34 (0, 0))) :
    Calls Tryd.prog 56 #[.iface 32 (.pointer (some ⟨p, 0, none⟩))] w fun e w' => e = .returned (.agg #[.int .i64 ((101 + k : Nat) : Int), .bool true, .int .i64 i]) ∧ Below w.heap.size w w' := by
  have hb0 : Below w.heap.size w (w.alloc (.cells #[.int .i64 0, .bool false, .int .i64 0] 80)) := (Below.refl _ _).alloc (Nat.le_refl _) _
  have HB0 := Lib.hid hb0
  have HE := Lib.hid (hE.mono hb0)
  have HP := Lib.hid (blk_old hp (.cells #[.int .i64 0, .bool false, .int .i64 0] 80))
  have hpb := HP.out
  have p0 := blk_cell hpb 0
  have p1 := blk_cell hpb 1
  have hlp := blk_lt hp
  have hlp1 := blk_lt hpb
  have hta : ∀ wx, (Instr.typeAssert (.iface 32 (.pointer (some ⟨p, 0, none⟩))) 27 32 true).run Tryd.prog wx = .ok (.tuple #[.pointer (some ⟨p, 0, none⟩), .bool true]) wx := fun _ => by kernel_rfl
  have p0 : (w.alloc (.cells #[.int .i64 0, .bool false, .int .i64 0] 80)).cell? ⟨p, 0, none⟩ = some (.int .i64 i) := p0
  have p1 : (w.alloc (.cells #[.int .i64 0, .bool false, .int .i64 0] 80)).cell? ⟨p, 1, none⟩ = some (errV (E k)) := p1
  clear hE hb0 hpb
  go_enter Tryd.func56, Tryd.ntmps56
  go_wp2_with fail
  have hbD : Below (w.heap.size + 1) (w.alloc (.cells #[.int .i64 0, .bool false, .int .i64 0] 80)) (w.alloc (.cells #[.int .i64 0, .bool false, .int .i64 0] 80)).drew := (Below.refl _ _).drew
  have hbW : Below w.heap.size (w.alloc (.cells #[.int .i64 0, .bool false, .int .i64 0] 80)) (w.alloc (.cells #[.int .i64 0, .bool false, .int .i64 0] 80)).drew := (Below.refl _ _).drew
  have HK : Hid (∀ wx, Below w.heap.size (w.alloc (.cells #[.int .i64 0, .bool false, .int .i64 0] 80)) wx → (wx.cell? ⟨p, 0, none⟩ = some (.int .i64 i) ∧ wx.cell? ⟨p, 1, none⟩ = some (errV (E k)))) := Lib.hid fun wx hwx => by
    have h2 : wx.heap[p]? = some (.cells #[.int .i64 i, errV (E k)] 34 (0, 0)) := by rw [hwx.block _ hlp]; exact HP.out
    exact ⟨blk_cell h2 0, blk_cell h2 1⟩
  go_region_held3 (fun wx => wx.cell? ⟨p, 0, none⟩ = some (.int .i64 i) ∧ wx.cell? ⟨p, 1, none⟩ = some (errV (E k))) (first | exact HK.out _ hbW3S | exact HK.out _ (by assumption))
    (first
      | (go_at_call 63; refine (sentinel_any E k hk _ (HE.out.mono (hbD.mono (by simp)))).mono ?_; rintro e w2 ⟨rfl, hb2⟩; have hbS : Below (w.heap.size + 1) (w.alloc (.cells #[.int .i64 0, .bool false, .int .i64 0] 80)) w2 := hbD.trans (hb2.mono (by simp)); have hbWS : Below w.heap.size (w.alloc (.cells #[.int .i64 0, .bool false, .int .i64 0] 80)) w2 := hbS.mono (by omega))
      | (go_at_call 35; refine (placed_any _ _ _ (by omega)).mono ?_; rintro e w1 ⟨rfl, hb3⟩; have hb1 : Below (w.heap.size + 1) (w.alloc (.cells #[.int .i64 0, .bool false, .int .i64 0] 80)) w1 := hbS.trans (hb3.mono (by have := hbS.size; simp at this; omega)); have hbW3 : Below w.heap.size (w.alloc (.cells #[.int .i64 0, .bool false, .int .i64 0] 80)) w1 := hb1.mono (by omega); have hblk := flt_cells (w := w) hb1; have c0 := blk_cell hblk 0; have c1 := blk_cell hblk 1; have c2 := blk_cell hblk 2; have f0 := blk_free hblk 0; have f1 := blk_free hblk 1; have f2 := blk_free hblk 2; have hlt := blk_lt hblk; have hbW3S := ((hbW3.setCell (p := ⟨w.heap.size, 0, none⟩) (Nat.le_refl _) (.int .i64 ((101 + k : Nat) : Int))).setCell (p := ⟨w.heap.size, 1, none⟩) (Nat.le_refl _) (.bool true)).setCell (p := ⟨w.heap.size, 2, none⟩) (Nat.le_refl _) (.int .i64 i)))
  all_goals
    have HB := Lib.hid (show Below w.heap.size w w1 from HB0.out.trans (hb1.mono (by omega)))
    clear hb1 hblk hbW3S hbW3
    go_wp2
    exact bodyPost_ret (v := .agg #[.int .i64 ((101 + k : Nat) : Int), .bool true, .int .i64 i]) (by simp [results, Tryd.results56, go_sem, c0, c1, c2, f0, f1, f2, hlt]) rfl ⟨rfl, ((HB.out.setCell (Nat.le_refl _) _).setCell (Nat.le_refl _) _).setCell (Nat.le_refl _) _⟩

/-- an error as a fault: none, a sentinel, a sentinel with a place around it -/
def errFlt (E : Nat → Addr) (w : World) (v : Value) (c : Int) (b : Bool) (p : Int) : Prop := (errNum v E c ∧ b = false ∧ p = 0) ∨ ∃ k q, k < 16 ∧ v = .iface 32 (.pointer (some ⟨q, 0, none⟩)) ∧ w.heap[q]? = some (.cells #[.int .i64 p, errV (E k)] 34 (0, 0)) ∧ c = ((101 + k : Nat) : Int) ∧ b = true
theorem errFlt.below {E : Nat → Addr} {w w' : World} {v : Value} {c : Int} {b : Bool} {p : Int} (h : errFlt E w v c b p) (hb : Below w.heap.size w w') : errFlt E w' v c b p := by
  rcases h with h | ⟨k, q, h1, h2, h3, h4, h5⟩
  · exact .inl h
  · exact .inr ⟨k, q, h1, h2, (hb.block q (blk_lt h3)).trans h3, h4, h5⟩
theorem fault_gen (E : Nat → Addr) (v : Value) (c : Int) (b : Bool) (p : Int) (w : World) (hv : errFlt E w v c b p) (hE : ErrsAt errT gOf w E all16) :
    Calls Tryd.prog 56 #[v] w fun e w' => e = .returned (.agg #[.int .i64 c, .bool b, .int .i64 p]) ∧ Below w.heap.size w w' := by
  rcases hv with ⟨h, rfl, rfl⟩ | ⟨k, q, h1, rfl, h3, rfl, rfl⟩
  · exact fault_any E v c h w hE
  · exact fault_at E k q p h1 w hE h3
set_option maxHeartbeats 800000 in
theorem same_gen (E : Nat → Addr) (v : Value) (c d p q : Int) (a b : Bool) (w : World) (hv : errFlt E w v c a p) (hE : ErrsAt errT gOf w E all16) :
    Calls Tryd.prog 34 #[v, .agg #[.int .i64 d, .bool b, .int .i64 q]] w fun e w' => e = .returned (.bool (decide (c = d) && (a == b) && decide (p = q))) ∧ Below w.heap.size w w' := by
  have hb0 : Below w.heap.size w (w.alloc (.cells #[.int .i64 d, .bool b, .int .i64 q] 80)) := (Below.refl _ _).alloc (Nat.le_refl _) _
  have HF : Hid (∀ wx, Below (w.heap.size + 1) (w.alloc (.cells #[.int .i64 d, .bool b, .int .i64 q] 80)) wx → ErrsAt errT gOf wx E all16) := Lib.hid fun wx hwx => hE.mono (hb0.trans (hwx.mono (by omega)))
  have hblk := blk_new w (.cells #[.int .i64 d, .bool b, .int .i64 q] 80)
  have HB0 := Lib.hid hb0
  have HBK := Lib.hid hblk
  have HV : Hid (∀ wx, Below (w.heap.size + 1) (w.alloc (.cells #[.int .i64 d, .bool b, .int .i64 q] 80)) wx → errFlt E wx v c a p) := Lib.hid fun wx hwx => hv.below (hb0.trans (hwx.mono (by omega)))
  clear hE hb0 hblk hv
  go_enter Tryd.func34, Tryd.ntmps34
  have HK : Hid (∀ wx, Below (w.heap.size + 1) (w.alloc (.cells #[.int .i64 d, .bool b, .int .i64 q] 80)) wx → (Below (w.heap.size + 1) (w.alloc (.cells #[.int .i64 d, .bool b, .int .i64 q] 80)) wx ∧ wx.cell? ⟨w.heap.size, 0, none⟩ = some (.int .i64 d) ∧ wx.cell? ⟨w.heap.size, 1, none⟩ = some (.bool b) ∧ wx.cell? ⟨w.heap.size, 2, none⟩ = some (.int .i64 q))) := Lib.hid fun wx hwx => by
    have h : wx.heap[w.heap.size]? = some (.cells #[.int .i64 d, .bool b, .int .i64 q] 80 (0, 0)) := by rw [hwx.block _ (by omega)]; exact HBK.out
    exact ⟨hwx, blk_cell h 0, blk_cell h 1, blk_cell h 2⟩
  have hbD : Below (w.heap.size + 1) (w.alloc (.cells #[.int .i64 d, .bool b, .int .i64 q] 80)) (w.alloc (.cells #[.int .i64 d, .bool b, .int .i64 q] 80)).drew := (Below.refl _ _).drew
  go_wp2_with fail
  go_region_held3 (fun wx => Below (w.heap.size + 1) (w.alloc (.cells #[.int .i64 d, .bool b, .int .i64 q] 80)) wx ∧ wx.cell? ⟨w.heap.size, 0, none⟩ = some (.int .i64 d) ∧ wx.cell? ⟨w.heap.size, 1, none⟩ = some (.bool b) ∧ wx.cell? ⟨w.heap.size, 2, none⟩ = some (.int .i64 q)) (exact HK.out _ (by assumption))
    (first
      | (go_at_call 56; refine (fault_gen E v c a p _ (HV.out _ hbD) (HF.out _ hbD)).mono ?_; rintro e w2 ⟨rfl, hb2⟩; have hbS : Below (w.heap.size + 1) (w.alloc (.cells #[.int .i64 d, .bool b, .int .i64 q] 80)) w2 := hbD.trans (hb2.mono (by simp)))
      | (go_at_call 55; refine (sameFault_gen c d p q a b _).mono ?_; rintro e w3 ⟨rfl, hb3⟩; have hbS3 : Below (w.heap.size + 1) (w.alloc (.cells #[.int .i64 d, .bool b, .int .i64 q] 80)) w3 := hbS.trans (hb3.mono (by have := hbS.size; simp at this; omega))))
  all_goals
    go_wp2
    go_ret
    exact ⟨rfl, HB0.out.trans (hbS3.mono (by omega))⟩
end Go.Proofs.YtpmbbbgmaipmbaaDoor
