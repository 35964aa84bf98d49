/-
  MapOnce: for every list of things told the call returns true; nothing that was there is turned. Given where the sentinels lie.
-/
import Derived.Test.YtfbicbdfmcdadaaDoorPmPut
import Derived.Test.YtfbicbdfmcdadaaDoorStructs
import Derived.Test.YtfbicbdfmcdadaaDoorFields
import Derived.Deep.RegionHeld3
namespace Go.Proofs.YtfbicbdfmcdadaaDoor
open Go.ChangeShapes Go.WideShapes Go.ChangeAt Go.RowKit Go.Joins Go.Deep

structure Do3 where
  kind : Int
  a : Int
  b : Int
deriving Inhabited
def doCells (l : List Do3) : List Value := l.flatMap fun x => [.int .i64 x.kind, .int .i64 x.a, .int .i64 x.b]
theorem doCells_cons (x : Do3) (l : List Do3) : doCells (x :: l) = [.int .i64 x.kind, .int .i64 x.a, .int .i64 x.b] ++ doCells l := rfl
theorem doCells_at (l : List Do3) (k : Nat) (h : k < l.length) : (doCells l)[k * 3]? = some (.int .i64 (l.getD k default).kind) ∧ (doCells l)[k * 3 + 1]? = some (.int .i64 (l.getD k default).a) ∧ (doCells l)[k * 3 + 2]? = some (.int .i64 (l.getD k default).b) := by
  induction l generalizing k with
  | nil => simp at h
  | cons x l ih =>
    cases k with
    | zero => simp [doCells_cons]
    | succ k =>
      have := ih k (by simpa using h)
      rw [doCells_cons, List.getD_cons_succ]
      have e3 : (k + 1) * 3 = 3 + k * 3 := by omega
      rw [e3]
      simp only [List.getElem?_append, List.length_cons, List.length_nil]
      rw [if_neg (by omega), if_neg (by omega), if_neg (by omega), show 3 + k * 3 - (0 + 1 + 1 + 1) = k * 3 from by omega, show 3 + k * 3 + 1 - (0 + 1 + 1 + 1) = k * 3 + 1 from by omega, show 3 + k * 3 + 2 - (0 + 1 + 1 + 1) = k * 3 + 2 from by omega]
      exact this
def AtDo (w : World) (ao : Option Addr) (l : List Do3) : Prop := ∀ k, k < l.length → ∃ b off, ao = some ⟨b, off, none⟩ ∧
  w.cell? ⟨b, off + k * 3, none⟩ = some (.int .i64 (l.getD k default).kind) ∧ w.cell? ⟨b, off + k * 3 + 1, none⟩ = some (.int .i64 (l.getD k default).a) ∧ w.cell? ⟨b, off + k * 3 + 2, none⟩ = some (.int .i64 (l.getD k default).b)
theorem AtDo.of {w : World} {ao : Option Addr} {l : List Do3} (h : AtL w ao (doCells l)) : AtDo w ao l := fun k hk => by
  obtain ⟨h0, h1, h2⟩ := doCells_at l k hk
  obtain ⟨b, off, e, c0, hl⟩ := h _ _ h0
  obtain ⟨b1, off1, e1, c1, -⟩ := h _ _ h1
  obtain ⟨b2, off2, e2, c2, -⟩ := h _ _ h2
  subst e
  cases e1
  cases e2
  exact ⟨b, off, rfl, c0, by rw [Nat.add_assoc]; exact c1, by rw [Nat.add_assoc]; exact c2⟩

set_option maxRecDepth 100000 in
theorem open_do3 {H : Type} {enc : TypeId × Value → H} {W : World} {v : Value} {d : DataW H} {p : List MemPlace} {r : Reach} {b0 : Nat}
    (hv : Value.okWide Tryd.prog W r b0 55 v) (h : DataW.Trod enc Tryd.prog W 0 (fun _ => true) true 55 v d p) :
    ∃ (ao : Option Addr) (cap : Nat) (l : List Do3), v = .slice ao l.length cap ∧ l.length ≤ maxLen ∧ (∀ x ∈ l, True) ∧ AtL W ao (doCells l) ∧ l.length ≤ cap := by
  refine open_structs (C := 3) Tryd.underlying55 (by kernel_rfl) (by decide) (fun x : Do3 => [.int .i64 x.kind, .int .i64 x.a, .int .i64 x.b]) (fun _ => True) hv h ?_
  intro n cs y hl hd
  obtain ⟨xs, n', -, -, hl2, hx, hi⟩ := DataW.trod_struct Tryd.underlying57 hd
  have hx3 : xs.length = 3 := hx
  have get : ∀ i, i < 3 → ∃ y, xs[i]? = some y := fun i hi => ⟨_, List.getElem?_eq_getElem (by omega)⟩
  obtain ⟨y0, g0⟩ := get 0 (by omega)
  obtain ⟨y1, g1⟩ := get 1 (by omega)
  obtain ⟨y2, g2⟩ := get 2 (by omega)
  obtain ⟨s, e0, w0⟩ := fld_int Tryd.underlying3 (by kernel_rfl) ((hi 0 _ rfl).trans g0)
  obtain ⟨t, e1, w1⟩ := fld_int Tryd.underlying3 (by kernel_rfl) ((hi 1 _ rfl).trans g1)
  obtain ⟨b, e2, w2⟩ := fld_int Tryd.underlying3 (by kernel_rfl) ((hi 2 _ rfl).trans g2)
  refine ⟨⟨s, t, b⟩, ?_, trivial⟩
  match cs, hl with
  | [a, c, f], _ =>
    have q0 : some a = some (Value.int .i64 s) := e0
    have q1 : some c = some (Value.int .i64 t) := e1
    have q2 : some f = some (Value.int .i64 b) := e2
    cases q0
    cases q1
    cases q2
    rfl

set_option maxHeartbeats 800000 in
theorem pm_first (w : World) : Calls Tryd.prog 26 #[] w fun e w' => e = .returned (.bool true) ∧ Below w.heap.size w w' := by
  have HP := Lib.hid (PAt.new w)
  have HI : Hid (∀ r, IdxIs [7] 7 r → r = 0) := Lib.hid fun r hr => by
    rcases hr with ⟨-, hr⟩ | ⟨k, hk, rfl, -, -⟩
    · exact (hr 0 (by decide) rfl).elim
    · simp at hk
      omega
  have HB0 : Hid (Below w.heap.size w (w.alloc (.cells #[.slice none 0 0] 47))) := Lib.hid ((Below.refl _ _).alloc (Nat.le_refl _) _)
  go_enter Tryd.func26, Tryd.ntmps26
  go_wp2_with fail
  refine (add_ok [] w.heap.size _ 7 _ HP.out (by decide) (by simp) (by decide)).mono ?_
  rintro e w1 ⟨rfl, v1, hp, ho, hs⟩
  have HP1 := Lib.hid hp
  have HB1 : Hid (Below w.heap.size w w1) := Lib.hid (HB0.out.trans (ho.below HB0.out.size (fun k hk => by
    rcases hk with h | h
    · omega
    · simp [inRow, Value.ownBlock] at h)))
  clear hp ho hs
  go_wp2_with fail
  refine (pm_of [7] w.heap.size _ 7 _ HP1.out (by decide)).mono ?_
  rintro e w2 ⟨⟨r, rfl, hr⟩, rfl⟩
  obtain rfl := HI.out r hr
  clear hr
  go_wp2
  go_ret
  exact ⟨rfl, HB1.out⟩

theorem Kept.drew {b : Nat} {v : Value} {w w' : World} {e : Ending} (h : Kept b v w.drew e w') : Kept b v w e w' := by
  obtain ⟨hu, v', l', hp, hg, ho, hs⟩ := h
  exact ⟨hu, v', l', hp, hg, ⟨ho.os, ho.tape, ho.output, ho.size, ho.block⟩, hs⟩
def OnceTo (n : Nat) (w : World) (b : Nat) (i : Value) (wr : World) : Prop :=
  ∃ j : Nat, ∃ v l, j ≤ n ∧ i = .int .i64 (j : Int) ∧ PAt wr b v l ∧ PGood l ∧ (∀ k, inRow v k → w.heap.size ≤ k) ∧ Below w.heap.size w wr

set_option maxHeartbeats 1000000 in
theorem once_many (n : Nat) (ao : Option Addr) (c1 : Nat) (w : World) (h : 100 < n) :
    Calls Tryd.prog 6 #[.slice ao n c1] w fun e w' => e = .returned (.bool true) ∧ Below w.heap.size w w' := by
  have h2 : (100 : Int) < (n : Int) := by omega
  clear h
  go_enter Tryd.func6, Tryd.ntmps6
  go_wp2_with fail
  refine (pm_first _).mono ?_
  rintro e w1 ⟨rfl, hb1⟩
  go_wp2
  go_ret
  exact ⟨rfl, hb1⟩

set_option maxRecDepth 100000 in
set_option maxHeartbeats 3000000 in
theorem once_some (E : Nat → Addr) (l : List Do3) (ao : Option Addr) (c1 : Nat) (w : World) (hE : ErrsAt errT gOf w E p4) (hl : AtL w ao (doCells l)) (hn : l.length ≤ 100) :
    Calls Tryd.prog 6 #[.slice ao l.length c1] w fun e w' => e = .returned (.bool true) ∧ Below w.heap.size w w' := by
  have HX : Hid (∀ wx, Below w.heap.size w wx → ErrsAt errT gOf wx E p4) := Lib.hid fun wx h => hE.mono h
  have HL := Lib.hid hl
  have hn2 : (l.length : Int) ≤ 100 := by omega
  clear hE hl
  go_enter Tryd.func6, Tryd.ntmps6
  go_wp2_with fail
  refine (pm_first _).mono ?_
  rintro e w1 ⟨rfl, hb1⟩
  have HP := Lib.hid (PAt.new w1)
  have HB0 : Hid (Below w.heap.size w (w1.alloc (.cells #[.slice none 0 0] 47))) := Lib.hid (hb1.alloc hb1.size _)
  have hs1 := hb1.size
  obtain ⟨b, hb⟩ : ∃ b, w1.heap.size = b := ⟨_, rfl⟩
  rw [hb] at HP hs1
  have HBB := Lib.hid hb
  clear hb1 hb
  go_wp2_with fail
  rw [HBB.out]
  go_loopw [5] (fun i wr => OnceTo l.length w b i wr) (fun i _ => l.length - (intOf i).toNat)
  case atStart => exact ⟨0, _, _, Nat.zero_le _, rfl, HP.out, PGood.nil, fun k hk => by simp [inRow, Value.ownBlock] at hk, HB0.out⟩
  case round =>
    obtain ⟨j, v, m, hj, rfl, hp, hg, hv, hbw⟩ := hrel
    have HPm := Lib.hid hp
    have HGm := Lib.hid hg
    have HV := Lib.hid hv
    have HW := Lib.hid hbw
    clear hp hg hv hbw HP HB0
    by_cases hlt : j < l.length
    · obtain ⟨d, off, rfl, x0, x1, x2⟩ := (AtDo.of (HL.out.mono HW.out)) j hlt
      have hji : (j : Int) < (l.length : Int) := by omega
      have hj0 : (0 : Int) ≤ (j : Int) := by omega
      obtain ⟨⟨kd, a, q⟩, hx⟩ : ∃ x, l.getD j default = x := ⟨_, rfl⟩
      rw [hx] at x0 x1 x2
      have y0 : wr.cell? ⟨d, off + j * 3, none⟩ = some (.int .i64 kd) := x0
      have y1 : wr.cell? ⟨d, off + j * 3 + 1, none⟩ = some (.int .i64 a) := x1
      have y2 : wr.cell? ⟨d, off + j * 3 + 2, none⟩ = some (.int .i64 q) := x2
      clear hx x0 x1 x2
      have HKEEP : Hid (∀ u w', Kept b v wr (.returned u) w' → OnceTo l.length w b (.int .i64 ((j : Int) + 1)) w') := Lib.hid fun u w' hk => by
        obtain ⟨-, v', l', hp', hg', ho', hs'⟩ := hk
        refine ⟨j + 1, v', l', by omega, by go_num, hp', hg', fun k hk => ?_, HW.out.trans (ho'.below HW.out.size (fun k hk => ?_))⟩
        · rcases hs' k hk with h | h
          · exact HV.out k h
          · exact Nat.le_trans HW.out.size h
        · rcases hk with h | h
          · omega
          · exact HV.out k h
      have HADD := Lib.hid (add_keeps E m b v a wr (HX.out _ HW.out) HPm.out HGm.out)
      have HPUT := Lib.hid (put_keeps E m b v a q wr.drew (show ErrsAt errT gOf wr E p4 from HX.out _ HW.out) (show PAt wr b v m from HPm.out) HGm.out)
      have hw1 := IntWalk.i64_in ((j : Int) + 1) (by omega)
      by_cases hk : kd = 1
      · have hk1 : (kd == 1) = true := by simp [hk]
        clear hk
        go_wp2_with fail
        refine HADD.out.mono ?_
        rintro e w4 hk
        obtain ⟨u, rfl⟩ := hk.1
        have HK4 := Lib.hid hk
        clear hk
        go_wp2
        go_roundw
        case rel => exact HKEEP.out _ _ HK4.out
        case measure => simp [intOf]; omega
      · have hk1 : (kd == 1) = false := by simp [hk]
        clear hk
        go_wp2_with fail
        go_region_with (first | (go_at_call 28; refine HPUT.out.mono ?_; rintro e w4 hk; obtain ⟨u, rfl⟩ := hk.1; have HK4 := Lib.hid hk; clear hk))
        all_goals
          go_wp2
          go_roundw
          case rel => exact HKEEP.out _ _ HK4.out.drew
          case measure => simp [intOf]; omega
    · have hfew := HGm.out.few
      go_wp2_with fail
      refine (pm_all m b v _ HPm.out (by omega)).mono ?_
      rintro e w4 ⟨av, rfl, ha, haf, hb4⟩
      obtain ⟨aa, ac, rfl, hat⟩ := atL_of_own ha
      have HAT := Lib.hid hat
      have HW4 := Lib.hid (HW.out.trans (hb4.mono HW.out.size))
      have HP4 := Lib.hid (HPm.out.below hb4)
      clear ha haf hb4 hat
      go_wp2_with fail
      go_loop [7] (fun i => UpToN m.length i) (fun i => m.length - (intOf i).toNat)
      case atStart => exact ⟨0, Nat.zero_le _, rfl⟩
      case round =>
        obtain ⟨q, hq, rfl⟩ := hrel
        by_cases hqt : q < m.length
        · obtain ⟨d, off, rfl, c0, -⟩ := HAT.out q _ (ints_get m q hqt)
          have hqi : (q : Int) < (m.length : Int) := by omega
          have HI : Hid (∀ r, IdxIs m (m.getD q 0) r → r = q) := Lib.hid fun r hr => HGm.out.idx hqt hr
          have hfr := HGm.out.fair q hqt
          have HGA : Hid (getAns m (q : Int) = .tuple #[.int .i64 (m.getD q 0), .bool true]) := Lib.hid (by unfold getAns; rw [if_pos (by omega), Int.toNat_natCast])
          obtain ⟨z, hz⟩ : ∃ z, m.getD q 0 = z := ⟨_, rfl⟩
          rw [hz] at c0 HI hfr HGA
          have hz0 : 0 ≤ z := by simp [fairP] at hfr; exact hfr.1
          have hz1 : z < 1024 := by simp [fairP] at hfr; exact hfr.2
          clear hz hfr
          go_wp2_with fail
          refine (pm_of m b v z _ HP4.out (by omega)).mono ?_
          rintro e w5 ⟨⟨r, rfl, hr⟩, rfl⟩
          obtain rfl := HI.out r hr
          have HMX : Hid (max (q : Int) 0 = (q : Int)) := Lib.hid (by omega)
          have HDD : Hid (decide (0 ≤ (q : Int)) = true) := Lib.hid (by simp)
          rw [HMX.out, HDD.out]
          clear hr
          go_wp2_with fail
          refine (pm_get m b v q _ HP4.out).mono ?_
          rintro e w5 ⟨rfl, rfl⟩
          rw [HGA.out]
          go_wp2
          go_round
          case rel => exact ⟨q + 1, by omega, by go_num⟩
          case measure => simp [intOf]; omega
        · go_wp2_with fail
          refine (pm_len m b v _ HP4.out).mono ?_
          rintro e w5 ⟨rfl, rfl⟩
          go_wp2
          go_ret
          exact ⟨ret_bool (by simp), HW4.out⟩

theorem once_walk (E : Nat → Addr) (l : List Do3) (ao : Option Addr) (c1 : Nat) (w : World) (hE : ErrsAt errT gOf w E p4) (hl : AtL w ao (doCells l)) :
    Calls Tryd.prog 6 #[.slice ao l.length c1] w fun e w' => e = .returned (.bool true) ∧ Below w.heap.size w w' := by
  by_cases h : 100 < l.length
  · exact once_many _ _ _ _ h
  · exact once_some E l ao c1 w hE hl (by omega)
end Go.Proofs.YtfbicbdfmcdadaaDoor
