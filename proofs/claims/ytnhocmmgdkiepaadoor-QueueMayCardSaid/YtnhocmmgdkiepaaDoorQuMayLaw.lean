/-
  QueueMay: the walk. Given where the nine sentinels lie.
-/
import Derived.Test.YtnhocmmgdkiepaaDoorQuFirst
import Derived.Test.YtnhocmmgdkiepaaDoorQuMay
import Derived.Test.YtnhocmmgdkiepaaDoorCloneUps
import Derived.Deep.DeepCutAuto
namespace Go.Proofs.YtnhocmmgdkiepaaDoor
open Go.RowKit

set_option maxHeartbeats 800000 in
theorem qall_none (b : Nat) (w : World) (h : QuAt w b (.slice none 0 0) []) :
    Calls Tryd.prog 31 #[.pointer (some ⟨b, 0, none⟩)] w fun e w' => ∃ v', e = .returned v' ∧ w'.ownsRow 0 48 2 v' 0 [] ∧ Below w.heap.size w w' := by
  have c := h.cell
  have HC := Lib.hid (cloneUps (.slice none 0 0) 0 [] w (own_reads h.2) (by decide) rfl (fun u hu => by cases hu))
  clear h
  go_enter Tryd.func31, Tryd.ntmps31
  go_wp2_with fail
  refine HC.out.mono ?_
  rintro y w1 ⟨v', rfl, ho, -, hb⟩
  have HF := Lib.hid (And.intro ho hb)
  obtain ⟨ao, cap, rfl⟩ := own_slice ho
  clear ho hb
  go_wp2
  go_ret
  exact ⟨_, rfl, HF.out⟩
theorem may_bits {page quota : Int} {e : Ent} {b : Int} (h : bitsA e = (b, true)) : mayB page (ofA b) quota = mayB page (e, true) quota := by
  obtain ⟨f, t, w, u⟩ := e
  unfold bitsA at h
  split at h
  · rename_i hok
    obtain ⟨rfl, -⟩ := Prod.mk.inj h
    rw [ofA_ent'' ((entOkB_iff _ _ _ _).1 hok)]
  · exact absurd (Prod.mk.inj h).2 (by decide)

set_option maxRecDepth 100000 in
set_option maxHeartbeats 32000000 in
theorem queueMay_walk (E : Nat → Addr) (x0 ef x2 x3 : Int) (et ew eu : Bool) (w : World) (hE : ErrsAt errT gOf w E nine) (hx2 : 0 ≤ x2 ∧ x2 ≤ 4294967295) :
    Calls Tryd.prog 5 #[.int .i64 x0, .agg #[.int .i64 ef, .bool et, .bool ew, .bool eu], .int .u32 x2, .int .i64 x3] w fun y w' => y = .returned (.bool true) ∧ Below w.heap.size w w' := by
  have hb0 : Below w.heap.size w (w.alloc (.cells #[.int .i64 ef, .bool et, .bool ew, .bool eu] 42)) := (Below.refl _ _).alloc (Nat.le_refl _) _
  have HF1 := Lib.hid (qfirst_true E _ (hE.mono hb0))
  have HB0 := Lib.hid hb0
  have HNW := Lib.hid (blk_new w (.cells #[.int .i64 ef, .bool et, .bool ew, .bool eu] 42))
  have HKE : Hid (∀ wx, Below (w.alloc (.cells #[.int .i64 ef, .bool et, .bool ew, .bool eu] 42)).heap.size (w.alloc (.cells #[.int .i64 ef, .bool et, .bool ew, .bool eu] 42)) wx → Below w.heap.size w wx ∧ wx.cell? ⟨w.heap.size, 0, none⟩ = some (.int .i64 ef) ∧ wx.cell? ⟨w.heap.size, 1, none⟩ = some (.bool et) ∧ wx.cell? ⟨w.heap.size, 2, none⟩ = some (.bool ew) ∧ wx.cell? ⟨w.heap.size, 3, none⟩ = some (.bool eu)) := Lib.hid fun wx h => by
    have := blk_below HNW.out h (blk_lt HNW.out)
    exact ⟨HB0.out.trans (h.mono HB0.out.size), blk_cell this 0, blk_cell this 1, blk_cell this 2, blk_cell this 3⟩
  have HBT := Lib.hid (fun wx => rbits_any ⟨ef, et, ew, eu⟩ wx)
  have HOF := Lib.hid (fun wx => rof_any x2 wx (show W32 x2 from ⟨hx2.1, by omega⟩))
  have HM2 := Lib.hid (fun wx => qmay_any x0 x2 x3 wx (show W32 x2 from ⟨hx2.1, by omega⟩))
  have HM1 : Hid (∀ b, bitsA ⟨ef, et, ew, eu⟩ = (b, true) → ∀ wx, Calls Tryd.prog 26 #[.agg #[.int .i64 x0, .int .u32 b], .int .i64 x3] wx fun e w' => e = .returned (.bool (mayB x0 (⟨ef, et, ew, eu⟩, true) x3)) ∧ Below wx.heap.size wx w') := Lib.hid fun b hb wx => by
    have h32 := bitsA_w32 ⟨ef, et, ew, eu⟩
    rw [hb] at h32
    have := qmay_any x0 b x3 wx h32
    rw [may_bits hb] at this
    exact this
  obtain ⟨⟨b, ib⟩, hbe⟩ : ∃ r, bitsA ⟨ef, et, ew, eu⟩ = r := ⟨_, rfl⟩
  rw [hbe] at HBT HM1
  obtain ⟨⟨⟨of, ot, ow, ou⟩, ok⟩, hoe⟩ : ∃ r, ofA x2 = r := ⟨_, rfl⟩
  rw [hoe] at HOF HM2
  unfold Ent.v at HBT HOF
  unfold wordV at HBT
  dsimp only at HBT HOF
  have HMW := Lib.hid (may_ways x0 ef x3 et ew eu ib)
  have HMW2 := Lib.hid (may_ways x0 of x3 ot ow ou ok)
  obtain ⟨c0, c1, c2, c3⟩ := (HKE.out _ (Below.refl _ _)).2
  clear hE hb0 hx2 hbe hoe
  go_enter Tryd.func5, Tryd.ntmps5
  go_wp2_with fail
  refine HF1.out.mono ?_
  rintro y w1 ⟨rfl, hb1⟩
  have HC1 := Lib.hid hb1
  obtain ⟨-, d0, d1, d2, d3⟩ := HKE.out _ hb1
  clear hb1 c0 c1 c2 c3
  go_wp2_with fail
  refine (HBT.out _).mono ?_
  rintro y w2 ⟨rfl, hb2⟩
  have HC2 := Lib.hid (HC1.out.trans (hb2.mono HC1.out.size))
  obtain ⟨-, c0, c1, c2, c3⟩ := HKE.out _ HC2.out
  clear hb2 d0 d1 d2 d3
  cases ib with
  | false =>
    go_upto_region 5 with fail
    go_cut [12] from 25 to 50 (fun s12 wx => s12 = .bool (mayB x0 (⟨ef, et, ew, eu⟩, false) x3) ∧ w2 = wx)
    case first =>
      rcases HMW.out with ⟨h1, hm⟩ | ⟨h1, h2, hm⟩ | ⟨h1, h2, h3, hm⟩ | ⟨h1, h2, h3, h4, hm⟩ | ⟨h1, h2, h3, h4, h5, hm⟩ | ⟨h1, h2, h3, h4, h5, h6, hm⟩ | ⟨h1, h2, h3, h4, h5, h6, hm⟩
      all_goals
        first
        | exact absurd h3 (by decide)
        | (try clear h3
           try subst h4
           have HMM := Lib.hid hm
           clear hm
           go_wp2_with fail
           go_meet
           refine ⟨?_, rfl⟩
           rw [HMM.out]
           try (first | rfl | exact congrArg Value.bool (decide_eq_true (by omega)) | exact congrArg Value.bool (decide_eq_false (by omega))))
    case rest =>
      obtain ⟨rfl, rfl⟩ := hcut
      have HC3 := Lib.hid HC2.out
      have HB3 := Lib.hid (HB0.out.trans (HC3.out.mono HB0.out.size))
      clear c0 c1 c2 c3
      go_wp2_with fail
      refine (HOF.out _).mono ?_
      rintro y w4 ⟨rfl, hb4⟩
      have HB4 := Lib.hid (HB3.out.trans (hb4.mono HB3.out.size))
      obtain ⟨w5, hw5⟩ : ∃ w5, w4.alloc (.cells #[.int .i64 of, .bool ot, .bool ow, .bool ou] 42) = w5 := ⟨_, rfl⟩
      have hn5 := blk_new w4 (.cells #[.int .i64 of, .bool ot, .bool ow, .bool ou] 42)
      rw [hw5] at hn5
      have e0 := blk_cell hn5 0
      have e1 := blk_cell hn5 1
      have HB5 : Hid (Below w.heap.size w w5) := Lib.hid (hw5 ▸ HB4.out.alloc HB4.out.size _)
      have HW5 := Lib.hid hw5
      clear hb4 hw5 hn5
      cases ok with
      | false =>
        go_upto_region 9 with fail
        rw [HW5.out]
        go_cut [15] from 65 to 89 (fun s15 wx => s15 = .bool (mayB x0 (⟨of, ot, ow, ou⟩, false) x3) ∧ w5 = wx)
        case first =>
          rcases HMW2.out with ⟨h1, hm⟩ | ⟨h1, h2, hm⟩ | ⟨h1, h2, h3, hm⟩ | ⟨h1, h2, h3, h4, hm⟩ | ⟨h1, h2, h3, h4, h5, hm⟩ | ⟨h1, h2, h3, h4, h5, h6, hm⟩ | ⟨h1, h2, h3, h4, h5, h6, hm⟩
          all_goals
            first
            | exact absurd h3 (by decide)
            | (try clear h3
               try subst h4
               have HMM := Lib.hid hm
               clear hm
               go_wp2_with fail
               go_meet
               refine ⟨?_, rfl⟩
               rw [HMM.out]
               try (first | rfl | exact congrArg Value.bool (decide_eq_true (by omega)) | exact congrArg Value.bool (decide_eq_false (by omega))))
        case rest =>
          obtain ⟨rfl, rfl⟩ := hcut
          obtain ⟨g2, hg2⟩ : ∃ g, mayB x0 (⟨of, ot, ow, ou⟩, false) x3 = g := ⟨_, rfl⟩
          rw [hg2] at HM2 ⊢
          have HQ0 := Lib.hid (QuAt.new w5)
          have HB6 : Hid (Below w.heap.size w (w5.alloc (.cells #[.slice none 0 0] 53))) := Lib.hid (HB5.out.alloc HB5.out.size _)
          clear e0 e1 hg2
          go_wp2_with fail
          refine (qput_ok [] w5.heap.size _ x0 x2 _ HQ0.out (by decide)).mono ?_
          rintro y w7 ⟨rfl, qv, hq7, ho7, -⟩
          have HQ7 := Lib.hid hq7
          have HB7 : Hid (Below w.heap.size w w7) := Lib.hid (HB6.out.trans (ho7.below (B := w.heap.size) HB6.out.size fun k hk => by
            rcases hk with hk | hk
            · rw [hk]; exact HB5.out.size
            · cases hk))
          have HS7 : Hid (w.heap.size ≤ w5.heap.size) := Lib.hid HB5.out.size
          clear hq7 ho7
          go_wp2_with fail
          refine (qclear_any _ _ _ _ HQ7.out).mono ?_
          rintro y w8 ⟨rfl, hq8, ho8⟩
          have HQ8 := Lib.hid hq8
          have HB8 : Hid (Below w.heap.size w w8) := Lib.hid (HB7.out.trans (ho8.below (B := w.heap.size) HB7.out.size fun k hk => by rw [hk]; exact HS7.out))
          clear hq8 ho8
          go_wp2_with fail
          refine (HM2.out _).mono ?_
          rintro y w9 ⟨rfl, hb9⟩
          have HQ9 := Lib.hid (HQ8.out.below hb9)
          have HB9 := Lib.hid (HB8.out.trans (hb9.mono HB8.out.size))
          clear hb9
          go_wp2_with fail
          refine (qlen_any _ _ _ _ HQ9.out).mono ?_
          rintro y wa ⟨rfl, rfl⟩
          go_wp2_with fail
          refine (qall_none _ _ HQ9.out).mono ?_
          rintro y wb ⟨v', rfl, ho', hb'⟩
          have HBB := Lib.hid (HB9.out.trans (hb'.mono HB9.out.size))
          obtain ⟨ao, cap, rfl⟩ := own_slice ho'
          clear ho' hb'
          go_wp2
          go_ret
          exact ⟨rfl, HBB.out⟩
      | true =>
        go_upto_region 9 with fail
        rw [HW5.out]
        go_cut [15] from 65 to 89 (fun s15 wx => s15 = .bool (mayB x0 (⟨of, ot, ow, ou⟩, true) x3) ∧ w5 = wx)
        case first =>
          rcases HMW2.out with ⟨h1, hm⟩ | ⟨h1, h2, hm⟩ | ⟨h1, h2, h3, hm⟩ | ⟨h1, h2, h3, h4, hm⟩ | ⟨h1, h2, h3, h4, h5, hm⟩ | ⟨h1, h2, h3, h4, h5, h6, hm⟩ | ⟨h1, h2, h3, h4, h5, h6, hm⟩
          all_goals
            first
            | exact absurd h3 (by decide)
            | (try clear h3
               try subst h4
               have HMM := Lib.hid hm
               clear hm
               go_wp2_with fail
               go_meet
               refine ⟨?_, rfl⟩
               rw [HMM.out]
               try (first | rfl | exact congrArg Value.bool (decide_eq_true (by omega)) | exact congrArg Value.bool (decide_eq_false (by omega))))
        case rest =>
          obtain ⟨rfl, rfl⟩ := hcut
          obtain ⟨g2, hg2⟩ : ∃ g, mayB x0 (⟨of, ot, ow, ou⟩, true) x3 = g := ⟨_, rfl⟩
          rw [hg2] at HM2 ⊢
          have HQ0 := Lib.hid (QuAt.new w5)
          have HB6 : Hid (Below w.heap.size w (w5.alloc (.cells #[.slice none 0 0] 53))) := Lib.hid (HB5.out.alloc HB5.out.size _)
          clear e0 e1 hg2
          go_wp2_with fail
          refine (qput_ok [] w5.heap.size _ x0 x2 _ HQ0.out (by decide)).mono ?_
          rintro y w7 ⟨rfl, qv, hq7, ho7, -⟩
          have HQ7 := Lib.hid hq7
          have HB7 : Hid (Below w.heap.size w w7) := Lib.hid (HB6.out.trans (ho7.below (B := w.heap.size) HB6.out.size fun k hk => by
            rcases hk with hk | hk
            · rw [hk]; exact HB5.out.size
            · cases hk))
          have HS7 : Hid (w.heap.size ≤ w5.heap.size) := Lib.hid HB5.out.size
          clear hq7 ho7
          go_wp2_with fail
          refine (qclear_any _ _ _ _ HQ7.out).mono ?_
          rintro y w8 ⟨rfl, hq8, ho8⟩
          have HQ8 := Lib.hid hq8
          have HB8 : Hid (Below w.heap.size w w8) := Lib.hid (HB7.out.trans (ho8.below (B := w.heap.size) HB7.out.size fun k hk => by rw [hk]; exact HS7.out))
          clear hq8 ho8
          go_wp2_with fail
          refine (HM2.out _).mono ?_
          rintro y w9 ⟨rfl, hb9⟩
          have HQ9 := Lib.hid (HQ8.out.below hb9)
          have HB9 := Lib.hid (HB8.out.trans (hb9.mono HB8.out.size))
          clear hb9
          go_wp2_with fail
          refine (qlen_any _ _ _ _ HQ9.out).mono ?_
          rintro y wa ⟨rfl, rfl⟩
          go_wp2_with fail
          refine (qall_none _ _ HQ9.out).mono ?_
          rintro y wb ⟨v', rfl, ho', hb'⟩
          have HBB := Lib.hid (HB9.out.trans (hb'.mono HB9.out.size))
          obtain ⟨ao, cap, rfl⟩ := own_slice ho'
          clear ho' hb'
          go_wp2
          go_ret
          exact ⟨rfl, HBB.out⟩
  | true =>
    go_upto_region 5 with fail
    go_cut [12] from 25 to 50 (fun s12 wx => s12 = .bool (mayB x0 (⟨ef, et, ew, eu⟩, true) x3) ∧ w2 = wx)
    case first =>
      rcases HMW.out with ⟨h1, hm⟩ | ⟨h1, h2, hm⟩ | ⟨h1, h2, h3, hm⟩ | ⟨h1, h2, h3, h4, hm⟩ | ⟨h1, h2, h3, h4, h5, hm⟩ | ⟨h1, h2, h3, h4, h5, h6, hm⟩ | ⟨h1, h2, h3, h4, h5, h6, hm⟩
      all_goals
        first
        | exact absurd h3 (by decide)
        | (try clear h3
           try subst h4
           have HMM := Lib.hid hm
           clear hm
           go_wp2_with fail
           go_meet
           refine ⟨?_, rfl⟩
           rw [HMM.out]
           try (first | rfl | exact congrArg Value.bool (decide_eq_true (by omega)) | exact congrArg Value.bool (decide_eq_false (by omega))))
    case rest =>
      obtain ⟨rfl, rfl⟩ := hcut
      obtain ⟨g1, hg1⟩ : ∃ g, mayB x0 (⟨ef, et, ew, eu⟩, true) x3 = g := ⟨_, rfl⟩
      rw [hg1] at HM1 ⊢
      clear hg1
      go_wp2_with fail
      refine (HM1.out b rfl _).mono ?_
      rintro y w3 ⟨rfl, hb3⟩
      have HC3 := Lib.hid (HC2.out.trans (hb3.mono HC2.out.size))
      clear hb3
      have HB3 := Lib.hid (HB0.out.trans (HC3.out.mono HB0.out.size))
      clear c0 c1 c2 c3
      go_wp2_with fail
      refine (HOF.out _).mono ?_
      rintro y w4 ⟨rfl, hb4⟩
      have HB4 := Lib.hid (HB3.out.trans (hb4.mono HB3.out.size))
      obtain ⟨w5, hw5⟩ : ∃ w5, w4.alloc (.cells #[.int .i64 of, .bool ot, .bool ow, .bool ou] 42) = w5 := ⟨_, rfl⟩
      have hn5 := blk_new w4 (.cells #[.int .i64 of, .bool ot, .bool ow, .bool ou] 42)
      rw [hw5] at hn5
      have e0 := blk_cell hn5 0
      have e1 := blk_cell hn5 1
      have HB5 : Hid (Below w.heap.size w w5) := Lib.hid (hw5 ▸ HB4.out.alloc HB4.out.size _)
      have HW5 := Lib.hid hw5
      clear hb4 hw5 hn5
      cases ok with
      | false =>
        go_upto_region 9 with fail
        rw [HW5.out]
        go_cut [15] from 65 to 89 (fun s15 wx => s15 = .bool (mayB x0 (⟨of, ot, ow, ou⟩, false) x3) ∧ w5 = wx)
        case first =>
          rcases HMW2.out with ⟨h1, hm⟩ | ⟨h1, h2, hm⟩ | ⟨h1, h2, h3, hm⟩ | ⟨h1, h2, h3, h4, hm⟩ | ⟨h1, h2, h3, h4, h5, hm⟩ | ⟨h1, h2, h3, h4, h5, h6, hm⟩ | ⟨h1, h2, h3, h4, h5, h6, hm⟩
          all_goals
            first
            | exact absurd h3 (by decide)
            | (try clear h3
               try subst h4
               have HMM := Lib.hid hm
               clear hm
               go_wp2_with fail
               go_meet
               refine ⟨?_, rfl⟩
               rw [HMM.out]
               try (first | rfl | exact congrArg Value.bool (decide_eq_true (by omega)) | exact congrArg Value.bool (decide_eq_false (by omega))))
        case rest =>
          obtain ⟨rfl, rfl⟩ := hcut
          obtain ⟨g2, hg2⟩ : ∃ g, mayB x0 (⟨of, ot, ow, ou⟩, false) x3 = g := ⟨_, rfl⟩
          rw [hg2] at HM2 ⊢
          have HQ0 := Lib.hid (QuAt.new w5)
          have HB6 : Hid (Below w.heap.size w (w5.alloc (.cells #[.slice none 0 0] 53))) := Lib.hid (HB5.out.alloc HB5.out.size _)
          clear e0 e1 hg2
          go_wp2_with fail
          refine (qput_ok [] w5.heap.size _ x0 x2 _ HQ0.out (by decide)).mono ?_
          rintro y w7 ⟨rfl, qv, hq7, ho7, -⟩
          have HQ7 := Lib.hid hq7
          have HB7 : Hid (Below w.heap.size w w7) := Lib.hid (HB6.out.trans (ho7.below (B := w.heap.size) HB6.out.size fun k hk => by
            rcases hk with hk | hk
            · rw [hk]; exact HB5.out.size
            · cases hk))
          have HS7 : Hid (w.heap.size ≤ w5.heap.size) := Lib.hid HB5.out.size
          clear hq7 ho7
          go_wp2_with fail
          refine (qclear_any _ _ _ _ HQ7.out).mono ?_
          rintro y w8 ⟨rfl, hq8, ho8⟩
          have HQ8 := Lib.hid hq8
          have HB8 : Hid (Below w.heap.size w w8) := Lib.hid (HB7.out.trans (ho8.below (B := w.heap.size) HB7.out.size fun k hk => by rw [hk]; exact HS7.out))
          clear hq8 ho8
          go_wp2_with fail
          refine (HM2.out _).mono ?_
          rintro y w9 ⟨rfl, hb9⟩
          have HQ9 := Lib.hid (HQ8.out.below hb9)
          have HB9 := Lib.hid (HB8.out.trans (hb9.mono HB8.out.size))
          clear hb9
          go_wp2_with fail
          refine (qlen_any _ _ _ _ HQ9.out).mono ?_
          rintro y wa ⟨rfl, rfl⟩
          go_wp2_with fail
          refine (qall_none _ _ HQ9.out).mono ?_
          rintro y wb ⟨v', rfl, ho', hb'⟩
          have HBB := Lib.hid (HB9.out.trans (hb'.mono HB9.out.size))
          obtain ⟨ao, cap, rfl⟩ := own_slice ho'
          clear ho' hb'
          go_wp2
          go_ret
          exact ⟨rfl, HBB.out⟩
      | true =>
        go_upto_region 9 with fail
        rw [HW5.out]
        go_cut [15] from 65 to 89 (fun s15 wx => s15 = .bool (mayB x0 (⟨of, ot, ow, ou⟩, true) x3) ∧ w5 = wx)
        case first =>
          rcases HMW2.out with ⟨h1, hm⟩ | ⟨h1, h2, hm⟩ | ⟨h1, h2, h3, hm⟩ | ⟨h1, h2, h3, h4, hm⟩ | ⟨h1, h2, h3, h4, h5, hm⟩ | ⟨h1, h2, h3, h4, h5, h6, hm⟩ | ⟨h1, h2, h3, h4, h5, h6, hm⟩
          all_goals
            first
            | exact absurd h3 (by decide)
            | (try clear h3
               try subst h4
               have HMM := Lib.hid hm
               clear hm
               go_wp2_with fail
               go_meet
               refine ⟨?_, rfl⟩
               rw [HMM.out]
               try (first | rfl | exact congrArg Value.bool (decide_eq_true (by omega)) | exact congrArg Value.bool (decide_eq_false (by omega))))
        case rest =>
          obtain ⟨rfl, rfl⟩ := hcut
          obtain ⟨g2, hg2⟩ : ∃ g, mayB x0 (⟨of, ot, ow, ou⟩, true) x3 = g := ⟨_, rfl⟩
          rw [hg2] at HM2 ⊢
          have HQ0 := Lib.hid (QuAt.new w5)
          have HB6 : Hid (Below w.heap.size w (w5.alloc (.cells #[.slice none 0 0] 53))) := Lib.hid (HB5.out.alloc HB5.out.size _)
          clear e0 e1 hg2
          go_wp2_with fail
          refine (qput_ok [] w5.heap.size _ x0 x2 _ HQ0.out (by decide)).mono ?_
          rintro y w7 ⟨rfl, qv, hq7, ho7, -⟩
          have HQ7 := Lib.hid hq7
          have HB7 : Hid (Below w.heap.size w w7) := Lib.hid (HB6.out.trans (ho7.below (B := w.heap.size) HB6.out.size fun k hk => by
            rcases hk with hk | hk
            · rw [hk]; exact HB5.out.size
            · cases hk))
          have HS7 : Hid (w.heap.size ≤ w5.heap.size) := Lib.hid HB5.out.size
          clear hq7 ho7
          go_wp2_with fail
          refine (qclear_any _ _ _ _ HQ7.out).mono ?_
          rintro y w8 ⟨rfl, hq8, ho8⟩
          have HQ8 := Lib.hid hq8
          have HB8 : Hid (Below w.heap.size w w8) := Lib.hid (HB7.out.trans (ho8.below (B := w.heap.size) HB7.out.size fun k hk => by rw [hk]; exact HS7.out))
          clear hq8 ho8
          go_wp2_with fail
          refine (HM2.out _).mono ?_
          rintro y w9 ⟨rfl, hb9⟩
          have HQ9 := Lib.hid (HQ8.out.below hb9)
          have HB9 := Lib.hid (HB8.out.trans (hb9.mono HB8.out.size))
          clear hb9
          go_wp2_with fail
          refine (qlen_any _ _ _ _ HQ9.out).mono ?_
          rintro y wa ⟨rfl, rfl⟩
          go_wp2_with fail
          refine (qall_none _ _ HQ9.out).mono ?_
          rintro y wb ⟨v', rfl, ho', hb'⟩
          have HBB := Lib.hid (HB9.out.trans (hb'.mono HB9.out.size))
          obtain ⟨ao, cap, rfl⟩ := own_slice ho'
          clear ho' hb'
          go_wp2
          go_ret
          exact ⟨rfl, HBB.out⟩
end Go.Proofs.YtnhocmmgdkiepaaDoor
