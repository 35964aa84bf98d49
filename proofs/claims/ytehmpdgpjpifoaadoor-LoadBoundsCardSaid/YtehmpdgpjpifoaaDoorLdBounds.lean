/-
  LoadBounds: for every two numbers the call returns true. Given where the sentinels lie.
-/
import Derived.Test.YtehmpdgpjpifoaaDoorLdBare3
import Derived.Test.YtehmpdgpjpifoaaDoorNumber
import Derived.Deep.DeepCutAuto
namespace Go.Proofs.YtehmpdgpjpifoaaDoor
open Go.RowKit

theorem infoU32d : (Tryd.prog.info? 24).map (fun i => (i.zero, i.size, i.bytes)) = some (some (.int .u32 0), 1, 4) := by kernel_rfl
theorem made_u32d (n : Nat) (h : n ≤ 5000) : ∃ Z : Array Value, Z.toList = u32s (List.replicate n 0) ∧ ∀ w : World, (Instr.makeSlice 25 (.int .i64 (n : Int)) (.int .i64 (n : Int))).run Tryd.prog w = .ok (.slice (some ⟨w.heap.size, 0, none⟩) n n) (w.alloc (.cells Z 24)) := by
  obtain ⟨i, hi, hz0, hz1, hz2⟩ := info_parts infoU32d
  refine ⟨(u32s (List.replicate n 0)).toArray, rfl, fun w => ?_⟩
  have e := run_make (P := Tryd.prog) w 25 24 i (.int .u32 0) Tryd.underlying25 hi hz0 .i64 .i64 n n (by omega) (by omega) (by rw [hz2]; omega) (by omega)
  rw [e, hz1, Int.toNat_natCast, Nat.mul_one]
  have : madeCells (Value.int IntKind.u32 0).cells n = (u32s (List.replicate n 0)).toArray := by
    apply Array.toList_inj.1
    rw [show (Value.int IntKind.u32 0).cells = #[Value.int IntKind.u32 0] from rfl, toList_madeCells_one]
    simp [u32s]
  rw [this]
theorem atL_blkd {w : World} {b : Nat} {vs : List Value} {cs : Array Value} {t : TypeId} {fr : Nat × Nat} (h : w.heap[b]? = some (.cells cs t fr)) (e : cs.toList = vs) : AtL w (some ⟨b, 0, none⟩) vs := fun k u hk => by
  refine ⟨b, 0, rfl, ?_, blk_lt h⟩
  rw [Nat.zero_add, blk_cell h k, ← Array.getElem?_toList, e]
  exact hk
theorem blk_new2 (w : World) (o p : Obj) (c : Array Value) (t : TypeId) : (((w.alloc o).alloc p).alloc (.cells c t)).drew.heap[w.heap.size + 1 + 1]? = some (.cells c t (0, 0)) := by
  have := blk_new ((w.alloc o).alloc p) (.cells c t)
  simp only [World.size_alloc] at this
  exact this
theorem al0 (w : World) (a b c : Obj) : (((w.alloc a).alloc b).alloc c).drew.heap[w.heap.size]? = some a := blk_old (blk_old (blk_new w a) b) c
theorem al1 (w : World) (a b c : Obj) : (((w.alloc a).alloc b).alloc c).drew.heap[w.heap.size + 1]? = some b := by
  have := blk_new (w.alloc a) b
  simp only [World.size_alloc] at this
  exact blk_old this c
theorem al2 (w : World) (a b c : Obj) : (((w.alloc a).alloc b).alloc c).drew.heap[w.heap.size + 1 + 1]? = some c := by
  have := blk_new ((w.alloc a).alloc b) c
  simp only [World.size_alloc] at this
  exact this
theorem al_below {w w7 : World} (h : Below w.heap.size w w7) (a b c : Obj) : Below w.heap.size w (((w7.alloc a).alloc b).alloc c).drew :=
  (((h.alloc h.size a).alloc (by have := h.size; simp; omega) b).alloc (by have := h.size; simp; omega) c).drew
/-- what the first two answers are -/
def LbAns (E : Nat → Addr) (n : Nat) (v : Value) (c : Int) : Prop := (n = 2049 ∧ v = errV (E 3) ∧ c = 104) ∨ (n ≤ 2048 ∧ v = .nilIface ∧ c = 0)
theorem valid_is (E : Nat → Addr) (e : Int) (a1 a2 : Option Addr) (d c k1 k2 : Nat) (rv pv sv v : Value) (w : World) (hE : ErrsAt errT gOf w E two23) (he : 0 ≤ e ∧ e ≤ 4294967295) (hc : c ≤ 1000000) (hv : errNo E (validC e d c) = v) :
    Calls Tryd.prog 8 #[.agg #[.int .u32 e, .slice a1 d k1, .slice a2 c k2, rv, pv, sv]] w fun x w' => x = .returned v ∧ Below w.heap.size w w' := by
  subst hv
  exact valid_any E e a1 a2 d c k1 k2 rv pv sv w hE he hc
theorem validC_lb (E : Nat → Addr) (n d c : Nat) (v : Value) (x : Int) (h : LbAns E n v x) (hd : (d = n ∧ c = 1) ∨ (d = 0 ∧ c = n ∧ 1 ≤ n)) : errNo E (validC 2048 d c) = v := by
  rcases h with ⟨h1, rfl, -⟩ | ⟨h1, rfl, -⟩
  · have hv : validC 2048 d c = 104 := by unfold validC; rw [if_pos (show 2048 < d ∨ 2048 < c by omega)]
    rw [hv]
    rfl
  · have hv : validC 2048 d c = 0 := by unfold validC; rw [if_neg (show ¬ (2048 < d ∨ 2048 < c) by omega), if_neg (by omega)]
    rw [hv]
    rfl
theorem validC_no (E : Nat → Addr) (e : Int) (c : Nat) (h : e < 2048 ∨ 2048 + (c : Int) ≤ e) (hc : c ≤ 2048) : errNo E (validC e 0 c) = errV (E 2) := by
  have hv : validC e 0 c = 103 := by unfold validC; rw [if_neg (show ¬ (2048 < 0 ∨ 2048 < c) by omega), if_pos h]
  rw [hv]
  rfl

set_option maxRecDepth 100000 in
set_option maxHeartbeats 16000000 in
theorem loadBounds_walk (E : Nat → Addr) (x0 x1 : Int) (w : World) (hE : ErrsAt errT gOf w E all16) (h0 : -9223372036854775808 ≤ x0 ∧ x0 ≤ 9223372036854775807) (h1 : -9223372036854775808 ≤ x1 ∧ x1 ≤ 9223372036854775807) :
    Calls Tryd.prog 3 #[.int .i64 x0, .int .i64 x1] w fun e w' => e = .returned (.bool true) ∧ Below w.heap.size w w' := by
  have HN0 := Lib.hid (fun wx => number_any x0 4 wx h0.1 h0.2 (by decide) (by decide))
  have HN1 := Lib.hid (fun wx => number_any x1 4 wx h1.1 h1.2 (by decide) (by decide))
  obtain ⟨a, ha⟩ : ∃ g : Nat, x0 % 4 = (g : Int) := ⟨(x0 % 4).toNat, by omega⟩
  have ha4 : a < 4 := by omega
  rw [ha] at HN0
  obtain ⟨k, hk⟩ : ∃ g : Nat, x1 % 4 = (g : Int) := ⟨(x1 % 4).toNat, by omega⟩
  have hk4 : k < 4 := by omega
  rw [hk] at HN1
  clear ha hk h0 h1
  obtain ⟨n, hn⟩ : ∃ n : Nat, n = a + 2046 := ⟨_, rfl⟩
  obtain ⟨m, hm⟩ : ∃ m : Nat, m = 16 * k := ⟨_, rfl⟩
  have HNI : Hid ((a : Int) + 2046 = (n : Int)) := Lib.hid (by omega)
  have HMI : Hid ((16 : Int) * (k : Int) = (m : Int)) := Lib.hid (by omega)
  have wa := IntWalk.i64_in ((a : Int) + 2046) (by omega)
  have wm := IntWalk.i64_in ((16 : Int) * (k : Int)) (by omega)
  have w16 := IntWalk.i64_in ((16 : Int) + (k : Int)) (by omega)
  have w17 := IntWalk.i64_in ((17 : Int) + (k : Int)) (by omega)
  obtain ⟨Z1, -, hz1⟩ := made_u32d 1 (by decide)
  obtain ⟨Z9, he9, hz9⟩ := made_u32d 9 (by decide)
  obtain ⟨Zn, -, hzn⟩ := made_u32d n (by omega)
  obtain ⟨Zm, hem, hzm⟩ := made_u32d m (by omega)
  have HE9 := Lib.hid he9
  have HEM := Lib.hid hem
  have HEK : Hid (∀ wx, Below w.heap.size w wx → ErrsAt errT gOf wx E all16) := Lib.hid fun wx h => hE.mono h
  obtain ⟨av, ac, HANS⟩ : ∃ v c, Hid (LbAns E n v c) := by
    by_cases g1 : n ≤ 2048
    · exact ⟨_, _, Lib.hid (.inr ⟨g1, rfl, rfl⟩)⟩
    · exact ⟨_, _, Lib.hid (.inl ⟨by omega, rfl, rfl⟩)⟩
  have hpg : pg m = k := by unfold pg; omega
  have hvc : validC 2048 m 9 = 0 := by unfold validC; rw [if_neg (by omega), if_neg (by omega)]
  have HBR : Hid (∀ wx g1 g2, Below w.heap.size w wx → ∀ x : Int, x < 17 + (k : Int) ∨ 256 < x → Calls Tryd.prog 9 #[.agg #[.int .u32 2048, .slice (some ⟨g1, 0, none⟩) m m, .slice (some ⟨g2, 0, none⟩) 9 9, .slice none 0 0, .slice none 0 0, .slice none 0 0], .int .i64 x] wx fun y w' => y = .returned (.tuple #[.pointer none, errV (E 2)]) ∧ Below wx.heap.size wx w') := Lib.hid fun wx g1 g2 hb x hx => by
    have := bare_range E 2048 (List.replicate m 0) (List.replicate 9 0) (some ⟨g1, 0, none⟩) (some ⟨g2, 0, none⟩) m 9 (.slice none 0 0) (.slice none 0 0) (.slice none 0 0) x wx (errs23 (HEK.out _ hb)) (by decide) (by rw [List.length_replicate]; omega) (by decide) (by rw [List.length_replicate, List.length_replicate]; exact hvc) (by rw [List.length_replicate, hpg]; exact hx)
    unfold imgV at this
    rw [List.length_replicate, List.length_replicate] at this
    exact this
  have HBO : Hid (∀ wx g1 g2, Below w.heap.size w wx → wx.heap[g1]? = some (.cells Zm 24 (0, 0)) → wx.heap[g2]? = some (.cells Z9 24 (0, 0)) → Calls Tryd.prog 9 #[.agg #[.int .u32 2048, .slice (some ⟨g1, 0, none⟩) m m, .slice (some ⟨g2, 0, none⟩) 9 9, .slice none 0 0, .slice none 0 0, .slice none 0 0], .int .i64 (17 + (k : Int))] wx fun y w' => ∃ bb, y = .returned (.tuple #[.pointer (some ⟨bb, 0, none⟩), .nilIface]) ∧ Below wx.heap.size wx w') := Lib.hid fun wx g1 g2 hb hh1 hh2 => by
    have := bare_ok E 2048 (List.replicate m 0) (List.replicate 9 0) (some ⟨g1, 0, none⟩) (some ⟨g2, 0, none⟩) m 9 (.slice none 0 0) (.slice none 0 0) (.slice none 0 0) (17 + k) wx (errs23 (HEK.out _ hb)) (by decide) (by rw [List.length_replicate]; omega) (by decide) (by rw [List.length_replicate, List.length_replicate]; exact hvc) (by rw [List.length_replicate, hpg]; exact Nat.le_refl _) (by omega) (by simp) (by simp) (atL_blkd hh1 HEM.out) (atL_blkd hh2 HE9.out)
    unfold imgV at this
    rw [List.length_replicate, List.length_replicate, show ((17 + k : Nat) : Int) = 17 + (k : Int) by omega] at this
    refine this.mono ?_
    rintro y w' ⟨bb, mb, mv, rfl, -, -, -, -, -, -, hbw⟩
    exact ⟨bb, rfl, hbw⟩
  have HV1 : Hid (∀ wx g1 g2, Below w.heap.size w wx → Calls Tryd.prog 8 #[.agg #[.int .u32 2048, .slice (some ⟨g1, 0, none⟩) n n, .slice (some ⟨g2, 0, none⟩) 1 1, .slice none 0 0, .slice none 0 0, .slice none 0 0]] wx fun x w' => x = .returned av ∧ Below wx.heap.size wx w') := Lib.hid fun wx g1 g2 hb =>
    valid_is E _ _ _ _ _ _ _ _ _ _ _ wx (errs23 (HEK.out _ hb)) (by decide) (by decide) (validC_lb E n n 1 av ac HANS.out (.inl ⟨rfl, rfl⟩))
  have HV2 : Hid (∀ wx g2, Below w.heap.size w wx → Calls Tryd.prog 8 #[.agg #[.int .u32 2048, .slice none 0 0, .slice (some ⟨g2, 0, none⟩) n n, .slice none 0 0, .slice none 0 0, .slice none 0 0]] wx fun x w' => x = .returned av ∧ Below wx.heap.size wx w') := Lib.hid fun wx g2 hb =>
    valid_is E _ _ _ _ _ _ _ _ _ _ _ wx (errs23 (HEK.out _ hb)) (by decide) (by omega) (validC_lb E n 0 n av ac HANS.out (.inr ⟨rfl, rfl, by omega⟩))
  have HV3 : Hid (∀ wx g2, Below w.heap.size w wx → Calls Tryd.prog 8 #[.agg #[.int .u32 2047, .slice none 0 0, .slice (some ⟨g2, 0, none⟩) 9 9, .slice none 0 0, .slice none 0 0, .slice none 0 0]] wx fun x w' => x = .returned (errV (E 2)) ∧ Below wx.heap.size wx w') := Lib.hid fun wx g2 hb =>
    valid_is E _ _ _ _ _ _ _ _ _ _ _ wx (errs23 (HEK.out _ hb)) (by decide) (by decide) (validC_no E _ _ (.inl (by decide)) (by decide))
  have HV4 : Hid (∀ wx g2, Below w.heap.size w wx → Calls Tryd.prog 8 #[.agg #[.int .u32 2057, .slice none 0 0, .slice (some ⟨g2, 0, none⟩) 9 9, .slice none 0 0, .slice none 0 0, .slice none 0 0]] wx fun x w' => x = .returned (errV (E 2)) ∧ Below wx.heap.size wx w') := Lib.hid fun wx g2 hb =>
    valid_is E _ _ _ _ _ _ _ _ _ _ _ wx (errs23 (HEK.out _ hb)) (by decide) (by decide) (validC_no E _ _ (.inr (by decide)) (by decide))
  have HV5 : Hid (∀ wx, Below w.heap.size w wx → Calls Tryd.prog 8 #[.agg #[.int .u32 2048, .slice none 0 0, .slice none 0 0, .slice none 0 0, .slice none 0 0, .slice none 0 0]] wx fun x w' => x = .returned (errV (E 2)) ∧ Below wx.heap.size wx w') := Lib.hid fun wx hb =>
    valid_is E _ _ _ _ _ _ _ _ _ _ _ wx (errs23 (HEK.out _ hb)) (by decide) (by decide) (validC_no E _ _ (.inr (by decide)) (by decide))
  have hz1' : ∀ w : World, (Instr.makeSlice 25 (.int .i64 1) (.int .i64 1)).run Tryd.prog w = .ok (.slice (some ⟨w.heap.size, 0, none⟩) 1 1) (w.alloc (.cells Z1 24)) := hz1
  have hz9' : ∀ w : World, (Instr.makeSlice 25 (.int .i64 9) (.int .i64 9)).run Tryd.prog w = .ok (.slice (some ⟨w.heap.size, 0, none⟩) 9 9) (w.alloc (.cells Z9 24)) := hz9
  rw [← HMI.out] at hzm
  clear hE hn hm he9 hem hpg hvc hz1 hz9
  go_enter Tryd.func3, Tryd.ntmps3
  go_wp2_with fail
  refine (first_true _).mono ?_
  rintro y w1 ⟨rfl, hb1⟩
  have HB1 := Lib.hid hb1
  clear hb1
  go_wp2_with fail
  refine (HN0.out _).mono ?_
  rintro y w2 ⟨rfl, rfl⟩
  go_wp2_with fail
  rw [HNI.out]
  refine (HN1.out _).mono ?_
  rintro y w2 ⟨rfl, rfl⟩
  go_upto_region 6 with fail
  go_cut [6] from 20 to 128 (fun s6 wx => ∃ g g1 g2 : Nat, s6 = .pointer (some ⟨g, 0, none⟩) ∧ wx.heap[g]? = some (.cells #[.int .u32 2048, .slice (some ⟨g1, 0, none⟩) n n, .slice (some ⟨g2, 0, none⟩) 1 1, .slice none 0 0, .slice none 0 0, .slice none 0 0] 28 (0, 0)) ∧ Below w.heap.size w wx)
  case first =>
    go_region
    all_goals
      go_wp2_with fail
      go_meet
      first
      | exact ⟨_, _, _, rfl, (blk_new2 _ _ _ _ _), (((HB1.out.alloc HB1.out.size _).alloc (by have := HB1.out.size; simp; omega) _).alloc (by have := HB1.out.size; simp; omega) _).drew⟩
      | exact ⟨_, _, _, rfl, blk_old (blk_new1 _ _ _ _) _, (((HB1.out.alloc HB1.out.size _).alloc (by have := HB1.out.size; simp; omega) _).alloc (by have := HB1.out.size; simp; omega) _).drew⟩
      | exact ⟨_, _, _, rfl, blk_old (blk_old (blk_new _ _) _) _, (((HB1.out.alloc HB1.out.size _).alloc (by have := HB1.out.size; simp; omega) _).alloc (by have := HB1.out.size; simp; omega) _).drew⟩
      | (trace_state; sorry)
  case rest =>
    obtain ⟨g, g1, g2, rfl, himg, hb⟩ := hcut
    have HB2 := Lib.hid hb
    obtain ⟨c0, c1, c2, c3, c4, c5⟩ := img_cells himg
    clear hb
    go_wp2_with fail
    refine (HV1.out _ _ _ HB2.out).mono ?_
    rintro y w3 ⟨rfl, hb⟩
    have HB3 := Lib.hid (HB2.out.trans (hb.mono HB2.out.size))
    clear hb c0 c1 c2 c3 c4 c5 himg
    have HB3a : Hid (Below w.heap.size w (w3.alloc (.cells Zn 24))) := Lib.hid (HB3.out.alloc HB3.out.size _)
    go_wp2_with fail
    refine (HV2.out _ _ HB3a.out).mono ?_
    rintro y w4 ⟨rfl, hb⟩
    have HB4 := Lib.hid (HB3a.out.trans (hb.mono HB3a.out.size))
    clear hb
    have HB4a : Hid (Below w.heap.size w (w4.alloc (.cells Z9 24))) := Lib.hid (HB4.out.alloc HB4.out.size _)
    go_wp2_with fail
    refine (HV3.out _ _ HB4a.out).mono ?_
    rintro y w5 ⟨rfl, hb⟩
    have HB5 := Lib.hid (HB4a.out.trans (hb.mono HB4a.out.size))
    clear hb
    have HB5a : Hid (Below w.heap.size w (w5.alloc (.cells Z9 24))) := Lib.hid (HB5.out.alloc HB5.out.size _)
    go_wp2_with fail
    refine (HV4.out _ _ HB5a.out).mono ?_
    rintro y w6 ⟨rfl, hb⟩
    have HB6 := Lib.hid (HB5a.out.trans (hb.mono HB5a.out.size))
    clear hb
    go_wp2_with fail
    refine (HV5.out _ HB6.out).mono ?_
    rintro y w7 ⟨rfl, hb⟩
    have HB7 := Lib.hid (HB6.out.trans (hb.mono HB6.out.size))
    clear hb
    go_upto_region 12 with fail
    go_cut [12] from 20 to 128 (fun s12 wx => ∃ g g1 g2 : Nat, s12 = .pointer (some ⟨g, 0, none⟩) ∧ wx.heap[g]? = some (.cells #[.int .u32 2048, .slice (some ⟨g1, 0, none⟩) m m, .slice (some ⟨g2, 0, none⟩) 9 9, .slice none 0 0, .slice none 0 0, .slice none 0 0] 28 (0, 0)) ∧ wx.heap[g1]? = some (.cells Zm 24 (0, 0)) ∧ wx.heap[g2]? = some (.cells Z9 24 (0, 0)) ∧ Below w.heap.size w wx)
    case first =>
      go_region
      all_goals
        go_wp2_with fail
        go_meet
        first
        | exact ⟨_, _, _, rfl, al2 _ _ _ _, al1 _ _ _ _, al0 _ _ _ _, al_below HB7.out _ _ _⟩
        | exact ⟨_, _, _, rfl, al2 _ _ _ _, al0 _ _ _ _, al1 _ _ _ _, al_below HB7.out _ _ _⟩
        | exact ⟨_, _, _, rfl, al1 _ _ _ _, al2 _ _ _ _, al0 _ _ _ _, al_below HB7.out _ _ _⟩
        | exact ⟨_, _, _, rfl, al1 _ _ _ _, al0 _ _ _ _, al2 _ _ _ _, al_below HB7.out _ _ _⟩
        | exact ⟨_, _, _, rfl, al0 _ _ _ _, al2 _ _ _ _, al1 _ _ _ _, al_below HB7.out _ _ _⟩
        | exact ⟨_, _, _, rfl, al0 _ _ _ _, al1 _ _ _ _, al2 _ _ _ _, al_below HB7.out _ _ _⟩
    case rest =>
      obtain ⟨g, g1, g2, rfl, himg, hm1, hm2, hb⟩ := hcut
      have HB8 := Lib.hid hb
      have HIM : Hid (∀ wx, Below wc.heap.size wc wx → wx.heap[g]? = some (.cells #[.int .u32 2048, .slice (some ⟨g1, 0, none⟩) m m, .slice (some ⟨g2, 0, none⟩) 9 9, .slice none 0 0, .slice none 0 0, .slice none 0 0] 28 (0, 0)) ∧ wx.heap[g1]? = some (.cells Zm 24 (0, 0)) ∧ wx.heap[g2]? = some (.cells Z9 24 (0, 0))) := Lib.hid fun wx hx => ⟨blk_below himg hx (blk_lt himg), blk_below hm1 hx (blk_lt hm1), blk_below hm2 hx (blk_lt hm2)⟩
      obtain ⟨c0, c1, c2, c3, c4, c5⟩ := img_cells himg
      clear hb himg hm1 hm2
      go_wp2_with fail
      refine (HBR.out _ g1 g2 HB8.out (16 + (k : Int)) (.inl (by omega))).mono ?_
      rintro y w9 ⟨rfl, hb⟩
      have HC9 := Lib.hid hb
      have HB9 := Lib.hid (HB8.out.trans (hb.mono HB8.out.size))
      clear c0 c1 c2 c3 c4 c5
      obtain ⟨c0, c1, c2, c3, c4, c5⟩ := img_cells (HIM.out _ hb).1
      clear hb
      go_wp2_with fail
      refine (HBO.out _ g1 g2 HB9.out (HIM.out _ HC9.out).2.1 (HIM.out _ HC9.out).2.2).mono ?_
      rintro y w10 ⟨bb, rfl, hb⟩
      have HC10 := Lib.hid (HC9.out.trans (hb.mono HC9.out.size))
      have HB10 := Lib.hid (HB9.out.trans (hb.mono HB9.out.size))
      clear c0 c1 c2 c3 c4 c5 hb
      obtain ⟨c0, c1, c2, c3, c4, c5⟩ := img_cells (HIM.out _ HC10.out).1
      go_wp2_with fail
      refine (HBR.out _ g1 g2 HB10.out 257 (.inr (by decide))).mono ?_
      rintro y w11 ⟨rfl, hb⟩
      have HB11 := Lib.hid (HB10.out.trans (hb.mono HB10.out.size))
      clear c0 c1 c2 c3 c4 c5 hb
      have HIS : Hid (∀ wx, Below w.heap.size w wx → Calls Tryd.prog 10 #[errV (E 2), .int .i64 103] wx fun e w' => e = .returned (.bool true) ∧ Below wx.heap.size wx w') := Lib.hid fun wx hb => is_any E (errV (E 2)) 103 103 (.inr ⟨2, by decide, rfl, rfl⟩) wx (HEK.out _ hb)
      have HIA : Hid (∀ wx, Below w.heap.size w wx → Calls Tryd.prog 10 #[errV (E 3), .int .i64 104] wx fun e w' => e = .returned (.bool true) ∧ Below wx.heap.size wx w') := Lib.hid fun wx hb => is_any E (errV (E 3)) 104 104 (.inr ⟨3, by decide, rfl, rfl⟩) wx (HEK.out _ hb)
      rcases HANS.out with ⟨gn, rfl, rfl⟩ | ⟨gn, rfl, rfl⟩
      · have gi : (2048 : Int) < (n : Int) := by omega
        go_wp2_with fail
        refine (HIA.out _ HB11.out).mono ?_
        rintro y w12 ⟨rfl, hb⟩
        have HB12 := Lib.hid (HB11.out.trans (hb.mono HB11.out.size))
        clear hb
        go_wp2_with fail
        refine (HIS.out _ HB12.out).mono ?_
        rintro y w13 ⟨rfl, hb⟩
        have HB13 := Lib.hid (HB12.out.trans (hb.mono HB12.out.size))
        clear hb
        go_wp2_with fail
        refine (HIS.out _ HB13.out).mono ?_
        rintro y w14 ⟨rfl, hb⟩
        have HB14 := Lib.hid (HB13.out.trans (hb.mono HB13.out.size))
        clear hb
        go_wp2_with fail
        refine (HIS.out _ HB14.out).mono ?_
        rintro y w15 ⟨rfl, hb⟩
        have HB15 := Lib.hid (HB14.out.trans (hb.mono HB14.out.size))
        clear hb
        go_wp2_with fail
        refine (HIS.out _ HB15.out).mono ?_
        rintro y w16 ⟨rfl, hb⟩
        have HB16 := Lib.hid (HB15.out.trans (hb.mono HB15.out.size))
        clear hb
        go_wp2_with fail
        refine (HIS.out _ HB16.out).mono ?_
        rintro y w17 ⟨rfl, hb⟩
        have HB17 := Lib.hid (HB16.out.trans (hb.mono HB16.out.size))
        clear hb
        go_wp2
        go_ret
        exact ⟨rfl, HB17.out⟩
      · have gi : ¬ (2048 : Int) < (n : Int) := by omega
        go_wp2_with fail
        refine (HIS.out _ HB11.out).mono ?_
        rintro y w12 ⟨rfl, hb⟩
        have HB12 := Lib.hid (HB11.out.trans (hb.mono HB11.out.size))
        clear hb
        go_wp2_with fail
        refine (HIS.out _ HB12.out).mono ?_
        rintro y w13 ⟨rfl, hb⟩
        have HB13 := Lib.hid (HB12.out.trans (hb.mono HB12.out.size))
        clear hb
        go_wp2_with fail
        refine (HIS.out _ HB13.out).mono ?_
        rintro y w14 ⟨rfl, hb⟩
        have HB14 := Lib.hid (HB13.out.trans (hb.mono HB13.out.size))
        clear hb
        go_wp2_with fail
        refine (HIS.out _ HB14.out).mono ?_
        rintro y w15 ⟨rfl, hb⟩
        have HB15 := Lib.hid (HB14.out.trans (hb.mono HB14.out.size))
        clear hb
        go_wp2_with fail
        refine (HIS.out _ HB15.out).mono ?_
        rintro y w16 ⟨rfl, hb⟩
        have HB16 := Lib.hid (HB15.out.trans (hb.mono HB15.out.size))
        clear hb
        go_wp2
        go_ret
        exact ⟨rfl, HB16.out⟩
end Go.Proofs.YtehmpdgpjpifoaaDoor
