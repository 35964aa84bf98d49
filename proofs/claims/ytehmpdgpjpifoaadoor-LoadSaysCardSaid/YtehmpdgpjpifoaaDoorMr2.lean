/-
  facaderef1.Mem and mem.Mem: Fill; every function for every number.
-/
import Derived.Test.YtehmpdgpjpifoaaDoorMr
namespace Go.Proofs.YtehmpdgpjpifoaaDoor
open Go.RowKit

set_option maxHeartbeats 800000 in
theorem mr_fill_no (l : List Int) (b n m c1 : Nat) (ao : Option Addr) (v : Value) (f : Int) (w : World) (h : MAr w b v n l) (hn : n ≤ 1024) (hno : f < 0 ∨ (n : Int) ≤ f ∨ 16 < m) :
    Calls Tryd.prog 42 #[.pointer (some ⟨b, 0, none⟩), .int .i64 f, .slice ao m c1] w fun e w' => e = .returned (.bool false) ∧ w = w' := by
  have HM := Lib.hid h
  clear h
  by_cases h0 : f < 0
  · clear hno
    go_enter Tryd.func42, Tryd.ntmps42
    go_wp2
    go_ret
    exact ⟨rfl, rfl⟩
  · by_cases h1 : (n : Int) ≤ f
    · clear hno
      go_enter Tryd.func42, Tryd.ntmps42
      go_wp2_with fail
      refine (mr_frames l b n v _ HM.out hn).mono ?_
      rintro e w1 ⟨rfl, rfl⟩
      go_wp2
      go_ret
      exact ⟨rfl, rfl⟩
    · have h2 : (16 : Int) < (m : Int) := by omega
      clear hno
      go_enter Tryd.func42, Tryd.ntmps42
      go_wp2_with fail
      refine (mr_frames l b n v _ HM.out hn).mono ?_
      rintro e w1 ⟨rfl, rfl⟩
      go_wp2
      go_ret
      exact ⟨rfl, rfl⟩

theorem MAr.set {w : World} {b n g cap : Nat} {l : List Int} (h : MAr w b (.slice (some ⟨g, 0, none⟩) (16 * n) cap) n l) (j : Nat) (x : Int) :
    MAr (w.setCell ⟨g, j, none⟩ (.int .u32 x)) b (.slice (some ⟨g, 0, none⟩) (16 * n) cap) n (l.set j x) ∧ Only (fun k => inRow (.slice (some ⟨g, 0, none⟩) (16 * n) cap) k) w (w.setCell ⟨g, j, none⟩ (.int .u32 x)) := by
  have hgb : ¬ b = g := fun e => h.not (by subst e; rfl)
  exact ⟨⟨blk_set h.1 (by exact hgb) _, by rw [← u32s_set]; exact (h.2.1.stored j _).1, by rw [List.length_set]; exact h.2.2⟩,
    Only.setCell (F := fun k => inRow (.slice (some ⟨g, 0, none⟩) (16 * n) cap) k) (Only.refl _ _) (p := ⟨g, j, none⟩) (.inl rfl) _⟩
/-- the first k words are written -/
def FillsTo (w : World) (b : Nat) (v : Value) (n f : Nat) (l xs : List Int) (i : Value) (wr : World) : Prop :=
  ∃ (k : Nat) (l' : List Int), k ≤ 16 ∧ i = .int .i64 (k : Int) ∧ MAr wr b v n l' ∧ (∀ j, l'.getD j 0 = if 16 * f ≤ j ∧ j < 16 * f + k then xs.getD (j - 16 * f) 0 else l.getD j 0) ∧ Only (fun k => inRow v k) w wr

set_option maxRecDepth 100000 in
set_option maxHeartbeats 1600000 in
theorem mr_fill_ok (l xs : List Int) (b n f m c1 : Nat) (ao : Option Addr) (v : Value) (w : World) (h : MAr w b v n l) (hn : n ≤ 1024) (hf : f < n) (hs : AtL w ao (u32s xs)) (hm : xs.length = m) (hx : m ≤ 16) (hap : ∀ a, 0 < m → ao = some a → ¬ inRow v a.block) :
    Calls Tryd.prog 42 #[.pointer (some ⟨b, 0, none⟩), .int .i64 f, .slice ao m c1] w fun e w' => e = .returned (.bool true) ∧ MAr w' b v n (fillL l f xs) ∧ Only (fun k => inRow v k) w w' := by
  have HM := Lib.hid h
  have HS := Lib.hid hs
  have HAP := Lib.hid hap
  obtain ⟨g, cap, rfl, hcap⟩ := h.own (by omega)
  subst hm
  have hfi : (f : Int) < (n : Int) := by omega
  have hf0 : (0 : Int) ≤ (f : Int) := by omega
  have g4 : (xs.length : Int) ≤ 16 := by omega
  have hw1 := IntWalk.i64_in (16 * (f : Int)) (by omega)
  have HLL : Hid (l.length = 16 * n) := Lib.hid h.2.2
  have HF := Lib.hid hf
  have HN := Lib.hid hn
  clear h hs hap
  go_enter Tryd.func42, Tryd.ntmps42
  go_wp2_with fail
  refine (mr_frames l b n _ _ HM.out hn).mono ?_
  rintro e w1 ⟨rfl, rfl⟩
  go_wp2_with fail
  go_loopw [7] (fun i wr => FillsTo w b (.slice (some ⟨g, 0, none⟩) (16 * n) cap) n f l xs i wr) (fun i _ => 16 - (intOf i).toNat)
  case atStart => exact ⟨0, l, Nat.zero_le _, rfl, HM.out, fun j => by rw [if_neg (by omega)], Only.refl _ _⟩
  case round =>
    obtain ⟨k, l', hk, rfl, hm, hg, ho⟩ := hrel
    have HMR := Lib.hid hm
    have HG := Lib.hid hg
    have HO := Lib.hid ho
    clear hm hg ho
    by_cases hlt : k < 16
    · have hki : (k : Int) < 16 := by omega
      have hk0 : (0 : Int) ≤ (k : Int) := by omega
      have HST := Lib.hid (HMR.out.set (16 * f + k))
      have HGN : Hid (∀ z, z = xs.getD k 0 → ∀ j, (l'.set (16 * f + k) z).getD j 0 = if 16 * f ≤ j ∧ j < 16 * f + (k + 1) then xs.getD (j - 16 * f) 0 else l.getD j 0) := Lib.hid fun z hz j => by
        rw [set_getD l' (16 * f + k) j z (by have := HMR.out.2.2; omega), HG.out j]
        by_cases e : j = 16 * f + k
        · subst e
          rw [if_pos rfl, if_pos ⟨by omega, by omega⟩, hz]
          congr 1
          omega
        · rw [if_neg e]
          by_cases h1 : 16 * f ≤ j ∧ j < 16 * f + k
          · rw [if_pos h1, if_pos ⟨h1.1, by omega⟩]
          · rw [if_neg h1, if_neg (by omega)]
      have g0 := (own_cell HMR.out.2.1 (16 * f + k) (by omega)).trans (u32s_get l' (16 * f + k) (by have := HMR.out.2.2; omega))
      have g1 := own_free HMR.out.2.1 (16 * f + k)
      have cm := HMR.out.cell
      have hpi : 16 * (f : Int) + (k : Int) < ((16 * n : Nat) : Int) := by omega
      have hw2 := IntWalk.i64_in (16 * (f : Int) + (k : Int)) (by omega)
      obtain ⟨p, hp⟩ : ∃ p, 16 * f + k = p := ⟨_, rfl⟩
      have hpe : 16 * (f : Int) + (k : Int) = (p : Int) := by omega
      rw [hpe] at hpi
      rw [hp] at HST HGN g0 g1
      obtain ⟨N, hN⟩ : ∃ N, 16 * n = N := ⟨_, rfl⟩
      rw [hN] at hpi HST cm
      have HNN := Lib.hid hN
      clear hp hlt hN
      have hw3 := IntWalk.i64_in ((k : Int) + 1) (by omega)
      by_cases hkx : k < xs.length
      · have hkxi : (k : Int) < (xs.length : Int) := by omega
        obtain ⟨sb, so, rfl, q0, hql⟩ := HS.out k _ (u32s_get xs k hkx)
        have q1 : wr.cell? ⟨sb, so + k, none⟩ = some (.int .u32 (xs.getD k 0)) := by
          rw [← q0]
          exact World.cell?_of_block (HO.out.block sb hql (HAP.out _ (by omega) rfl))
        obtain ⟨z, hz⟩ : ∃ z, xs.getD k 0 = z := ⟨_, rfl⟩
        have HZ := Lib.hid hz
        rw [hz] at q1
        clear hz q0 hql
        go_wp2
        go_roundw
        case rel => exact ⟨k + 1, _, by omega, by go_num, by rw [HNN.out]; exact (HST.out z).1, HGN.out z HZ.out.symm, by rw [HNN.out] at HO ⊢; exact HO.out.trans (HST.out z).2⟩
        case measure => simp [intOf]; omega
      · have hkxi : ¬ (k : Int) < (xs.length : Int) := by omega
        have HZ : Hid (xs.getD k 0 = 0) := Lib.hid (by simp [List.getD_eq_getElem?_getD, List.getElem?_eq_none (show xs.length ≤ k by omega)])
        clear hkx
        go_wp2
        go_roundw
        case rel => exact ⟨k + 1, _, by omega, by go_num, by rw [HNN.out]; exact (HST.out 0).1, HGN.out 0 HZ.out.symm, by rw [HNN.out] at HO ⊢; exact HO.out.trans (HST.out 0).2⟩
        case measure => simp [intOf]; omega
    · obtain rfl : k = 16 := by omega
      have HE : Hid (l' = fillL l f xs) := Lib.hid (by
        refine ext_getD (by rw [HMR.out.2.2, fillL_len, HLL.out]) fun j _ => ?_
        rw [HG.out j, fillL_get l n f xs j HLL.out HF.out hx])
      go_wp2
      go_ret
      exact ⟨rfl, HE.out ▸ HMR.out, HO.out⟩

theorem mr_frame_any (l : List Int) (b n f : Nat) (v : Value) (w : World) (h : MAr w b v n l) (hn : n ≤ 1024) :
    Calls Tryd.prog 48 #[.pointer (some ⟨b, 0, none⟩), .int .i64 f] w fun e w' => ∃ av cap, e = .returned (.tuple #[.slice av (fw l n f).length cap, .bool (decide (f < n))]) ∧ AtL w' av (u32s (fw l n f)) ∧ Below w.heap.size w w' := by
  by_cases hf : f < n
  · refine (mr_frame l b n f v w h hn hf).mono ?_
    rintro e w' ⟨v', rfl, ho, -, hb⟩
    obtain ⟨av, cap, rfl, hat⟩ := atL_of_own ho
    have e1 : fw l n f = frameW l f := by unfold fw; rw [if_pos hf]
    rw [e1, frameW_len l n f h.2.2 hf, decide_eq_true hf]
    exact ⟨av, cap, rfl, hat, hb⟩
  · refine (mr_frame_none l b n v f w h hn (.inr (by omega))).mono ?_
    rintro e w' ⟨rfl, rfl⟩
    have e1 : fw l n f = [] := by unfold fw; rw [if_neg hf]
    rw [e1, decide_eq_false hf]
    exact ⟨none, 0, rfl, atL_nil _ _, Below.refl _ _⟩

def fillB (n : Nat) (f : Int) (m : Nat) : Bool := decide (0 ≤ f ∧ f < n ∧ m ≤ 16)
def fillA (l : List Int) (n : Nat) (f : Int) (xs : List Int) : List Int := if 0 ≤ f ∧ f < n ∧ xs.length ≤ 16 then fillL l f.toNat xs else l
def fwI (l : List Int) (n : Nat) (f : Int) : List Int := if 0 ≤ f then fw l n f.toNat else []
def inI (n : Nat) (f : Int) : Bool := decide (0 ≤ f ∧ f < n)

theorem mm_fill_any (l xs : List Int) (b n m c1 : Nat) (f : Int) (ao : Option Addr) (v : Value) (w : World) (h : MAt w b v n l) (hn : n ≤ 1024) (hs : AtL w ao (u32s xs)) (hm : xs.length = m) (hap : ∀ a, 0 < m → ao = some a → ¬ inRow v a.block) :
    Calls Tryd.prog 52 #[.pointer (some ⟨b, 0, none⟩), .int .i64 f, .slice ao m c1] w fun e w' => e = .returned (.bool (fillB n f m)) ∧ MAt w' b v n (fillA l n f xs) ∧ Only (fun k => inRow v k) w w' := by
  subst hm
  by_cases hc : 0 ≤ f ∧ f < (n : Int) ∧ xs.length ≤ 16
  · obtain ⟨k, rfl⟩ : ∃ k : Nat, f = (k : Int) := ⟨f.toNat, by omega⟩
    have e1 : fillB n (k : Int) xs.length = true := decide_eq_true hc
    have e2 : fillA l n (k : Int) xs = fillL l k xs := by unfold fillA; rw [if_pos hc, Int.toNat_natCast]
    rw [e1, e2]
    exact mm_fill_ok l xs b n k xs.length c1 ao v w h hn (by omega) hs rfl hc.2.2 hap
  · have e1 : fillB n f xs.length = false := decide_eq_false hc
    have e2 : fillA l n f xs = l := by unfold fillA; rw [if_neg hc]
    rw [e1, e2]
    refine (mm_fill_no l b n xs.length c1 ao v f w h hn (by omega)).mono ?_
    rintro e w' ⟨rfl, rfl⟩
    exact ⟨rfl, h, Only.refl _ _⟩
theorem mm_frame_int (l : List Int) (b n : Nat) (v : Value) (f : Int) (w : World) (h : MAt w b v n l) (hn : n ≤ 1024) :
    Calls Tryd.prog 47 #[.pointer (some ⟨b, 0, none⟩), .int .i64 f] w fun e w' => ∃ av cap, e = .returned (.tuple #[.slice av (fwI l n f).length cap, .bool (inI n f)]) ∧ AtL w' av (u32s (fwI l n f)) ∧ Below w.heap.size w w' := by
  by_cases h0 : 0 ≤ f
  · obtain ⟨k, rfl⟩ : ∃ k : Nat, f = (k : Int) := ⟨f.toNat, by omega⟩
    have e1 : fwI l n (k : Int) = fw l n k := by unfold fwI; rw [if_pos h0, Int.toNat_natCast]
    have e2 : inI n (k : Int) = decide (k < n) := by unfold inI; simp
    rw [e1, e2]
    exact mm_frame_any l b n k v w h hn
  · have e1 : fwI l n f = [] := by unfold fwI; rw [if_neg h0]
    have e2 : inI n f = false := decide_eq_false (by omega)
    rw [e1, e2]
    refine (mm_frame_none l b n v f w h hn (.inl (by omega))).mono ?_
    rintro e w' ⟨rfl, rfl⟩
    exact ⟨none, 0, rfl, atL_nil _ _, Below.refl _ _⟩

theorem mr_fill_any (l xs : List Int) (b n m c1 : Nat) (f : Int) (ao : Option Addr) (v : Value) (w : World) (h : MAr w b v n l) (hn : n ≤ 1024) (hs : AtL w ao (u32s xs)) (hm : xs.length = m) (hap : ∀ a, 0 < m → ao = some a → ¬ inRow v a.block) :
    Calls Tryd.prog 42 #[.pointer (some ⟨b, 0, none⟩), .int .i64 f, .slice ao m c1] w fun e w' => e = .returned (.bool (fillB n f m)) ∧ MAr w' b v n (fillA l n f xs) ∧ Only (fun k => inRow v k) w w' := by
  subst hm
  by_cases hc : 0 ≤ f ∧ f < (n : Int) ∧ xs.length ≤ 16
  · obtain ⟨k, rfl⟩ : ∃ k : Nat, f = (k : Int) := ⟨f.toNat, by omega⟩
    have e1 : fillB n (k : Int) xs.length = true := decide_eq_true hc
    have e2 : fillA l n (k : Int) xs = fillL l k xs := by unfold fillA; rw [if_pos hc, Int.toNat_natCast]
    rw [e1, e2]
    exact mr_fill_ok l xs b n k xs.length c1 ao v w h hn (by omega) hs rfl hc.2.2 hap
  · have e1 : fillB n f xs.length = false := decide_eq_false hc
    have e2 : fillA l n f xs = l := by unfold fillA; rw [if_neg hc]
    rw [e1, e2]
    refine (mr_fill_no l b n xs.length c1 ao v f w h hn (by omega)).mono ?_
    rintro e w' ⟨rfl, rfl⟩
    exact ⟨rfl, h, Only.refl _ _⟩
theorem mr_frame_int (l : List Int) (b n : Nat) (v : Value) (f : Int) (w : World) (h : MAr w b v n l) (hn : n ≤ 1024) :
    Calls Tryd.prog 48 #[.pointer (some ⟨b, 0, none⟩), .int .i64 f] w fun e w' => ∃ av cap, e = .returned (.tuple #[.slice av (fwI l n f).length cap, .bool (inI n f)]) ∧ AtL w' av (u32s (fwI l n f)) ∧ Below w.heap.size w w' := by
  by_cases h0 : 0 ≤ f
  · obtain ⟨k, rfl⟩ : ∃ k : Nat, f = (k : Int) := ⟨f.toNat, by omega⟩
    have e1 : fwI l n (k : Int) = fw l n k := by unfold fwI; rw [if_pos h0, Int.toNat_natCast]
    have e2 : inI n (k : Int) = decide (k < n) := by unfold inI; simp
    rw [e1, e2]
    exact mr_frame_any l b n k v w h hn
  · have e1 : fwI l n f = [] := by unfold fwI; rw [if_neg h0]
    have e2 : inI n f = false := decide_eq_false (by omega)
    rw [e1, e2]
    refine (mr_frame_none l b n v f w h hn (.inl (by omega))).mono ?_
    rintro e w' ⟨rfl, rfl⟩
    exact ⟨none, 0, rfl, atL_nil _ _, Below.refl _ _⟩

set_option maxHeartbeats 800000 in
theorem mm_new_err (E : Nat → Addr) (f : Int) (w : World) (hE : ErrsAt errT gOf w E all16) (h : f < 1 ∨ 1024 < f) :
    Calls Tryd.prog 31 #[.int .i64 f] w fun e w' => e = .returned (.tuple #[.pointer none, errV (E 2)]) ∧ Below w.heap.size w w' := by
  have c2 : w.cell? ⟨1, 0, none⟩ = some (errV (E 2)) := (hE.1 2 (by decide)).1
  clear hE
  by_cases h1 : f < 1
  · clear h
    go_enter Tryd.func31, Tryd.ntmps31
    go_wp2
    go_quiet (fail)
    go_wp2
    go_ret2
    exact ⟨rfl, below_drewN (Below.refl _ _) _⟩
  · have h2 : 1024 < f := by omega
    clear h
    go_enter Tryd.func31, Tryd.ntmps31
    go_wp2
    go_quiet (fail)
    go_wp2
    go_ret2
    exact ⟨rfl, below_drewN (Below.refl _ _) _⟩
end Go.Proofs.YtehmpdgpjpifoaaDoor
