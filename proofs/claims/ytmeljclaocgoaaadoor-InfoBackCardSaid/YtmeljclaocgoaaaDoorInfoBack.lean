/-
  InfoBack: for every info, words and number the call returns true.
-/
import Derived.Test.YtmeljclaocgoaaaDoorInf5
import Derived.Test.YtmeljclaocgoaaaDoorInfOpen
import Derived.Test.YtmeljclaocgoaaaDoorNumber
import Derived.Test.YtmeljclaocgoaaaDoorWords
import Derived.Deep.RegionHeld3
namespace Go.Proofs.YtmeljclaocgoaaaDoor
open Go.RowKit

set_option linter.unusedSimpArgs false
set_option maxRecDepth 100000 in
set_option maxHeartbeats 1600000 in
theorem of_len (a : Addr) (n c : Nat) (ao : Option Addr) (w : World) (hE : w.cell? ⟨0, 0, none⟩ = some (errV a)) (h16 : n ≠ 16) :
    Calls Tryd.prog 16 #[.slice ao n c] w fun e w' => e = .returned (.tuple #[infV infZ, errV a]) ∧ Below w.heap.size w w' := by
  have hb : ((n : Int) != 16) = true := by rw [bne_iff_ne]; omega
  clear h16
  go_enter Tryd.func16, Tryd.ntmps16
  go_wp2_with fail
  go_region_held3 (fun wx => wx.cell? ⟨0, 0, none⟩ = some (errV a)) (go_keep) (first | fail)
  go_wp2
  refine bodyPost_ret (v := .tuple #[infV infZ, errV a]) (by simp [results, Tryd.results16, go_sem, infZ, inf_put_0, inf_put_1, inf_put_2, inf_put_3, inf_put_4, inf_put_5]) rfl ⟨rfl, ?_⟩
  exact inf_blk w 1

/-- what a guest may be told -/
structure InfIn (y : InfS) : Prop where
  p : 0 ≤ y.p ∧ y.p ≤ 4294967295
  m : 0 ≤ y.m ∧ y.m ≤ 4294967295
  t : 0 ≤ y.t ∧ y.t ≤ 1099511627775
  q : 0 ≤ y.q ∧ y.q ≤ 256
  f : 0 ≤ y.f ∧ y.f ≤ 256
theorem infW_in {y : InfS} (h : InfIn y) : ∀ z ∈ infW y, 0 ≤ z ∧ z ≤ 4294967295 := by
  obtain ⟨p, m, t, on, q, f⟩ := y
  obtain ⟨h1, h2, h3, h4, h5⟩ := h
  dsimp only at h1 h2 h3 h4 h5
  intro z hz
  simp only [infW, List.mem_cons, List.not_mem_nil, or_false] at hz
  rcases hz with rfl | rfl | rfl | rfl | rfl | rfl | rfl | rfl | rfl | rfl | rfl | rfl | rfl | rfl | rfl | rfl
  all_goals first | omega | (cases on <;> decide)
theorem infW_T {t : Int} (h : 0 ≤ t ∧ t ≤ 1099511627775) : t % 4294967296 + t / 4294967296 % 4294967296 * 4294967296 = t := by omega
theorem infW_ok {y : InfS} (h : InfIn y) : infOK (infW y) = true := by
  obtain ⟨p, m, t, on, q, f⟩ := y
  obtain ⟨h1, h2, h3, h4, h5⟩ := h
  dsimp only at h1 h2 h3 h4 h5
  refine ok_all rfl ?_ rfl ?_ ?_ ?_
  · show ¬ 1 < bl on
    cases on <;> decide
  · show ¬ 256 < q % 4294967296
    omega
  · show ¬ 256 < f % 4294967296
    omega
  · show ¬ 1099511627776 < t % 4294967296 + t / 4294967296 % 4294967296 * 4294967296
    rw [infW_T h3]
    omega
theorem infW_of {y : InfS} (h : InfIn y) : infOf (infW y) = y := by
  rw [infOf_ok (infW_ok h)]
  obtain ⟨p, m, t, on, q, f⟩ := y
  obtain ⟨h1, h2, h3, h4, h5⟩ := h
  dsimp only at h1 h2 h3 h4 h5
  show (⟨p, m, t % 4294967296 + t / 4294967296 % 4294967296 * 4294967296, bl on == 1, q % 4294967296, f % 4294967296⟩ : InfS) = _
  rw [infW_T h3, Int.emod_eq_of_lt h4.1 (by omega), Int.emod_eq_of_lt h5.1 (by omega)]
  cases on <;> rfl
theorem infW_bent (y : InfS) (k : Nat) (h : k ≤ 8) : infOK ((infW y).set (7 + k) 1) = false := by
  have hk : k = 0 ∨ k = 1 ∨ k = 2 ∨ k = 3 ∨ k = 4 ∨ k = 5 ∨ k = 6 ∨ k = 7 ∨ k = 8 := by omega
  rcases hk with rfl | rfl | rfl | rfl | rfl | rfl | rfl | rfl | rfl
  all_goals exact ok_nz rfl
theorem infOf_back {xs : List Int} (hr : ∀ z ∈ xs, 0 ≤ z ∧ z ≤ 4294967295) (hok : infOK xs = true) : infW (infOf xs) = xs := by
  rw [infOf_ok hok]
  simp only [infOK, Bool.and_eq_true, decide_eq_true_eq, Bool.not_eq_true'] at hok
  obtain ⟨⟨⟨⟨⟨h16, h4⟩, h7⟩, h5⟩, h6⟩, ht⟩ := hok
  match xs, h16 with
  | [x0, x1, x2, x3, x4, x5, x6, x7, x8, x9, x10, x11, x12, x13, x14, x15], _ =>
    have r2 := hr x2 (by simp)
    have r3 := hr x3 (by simp)
    have r4 := hr x4 (by simp)
    have r5 := hr x5 (by simp)
    have r6 := hr x6 (by simp)
    simp only [nzIs, List.drop_succ_cons, List.drop_zero, List.any_cons, List.any_nil, Bool.or_eq_false_iff, bne_eq_false_iff_eq] at h7
    obtain ⟨rfl, rfl, rfl, rfl, rfl, rfl, rfl, rfl, rfl, -⟩ := h7
    have e4 : bl (x4 == 1) = x4 := by
      have h4' : x4 ≤ 1 := h4
      have : x4 = 0 ∨ x4 = 1 := by omega
      rcases this with rfl | rfl <;> rfl
    show [x0, x1, (x2 + x3 * 4294967296) % 4294967296, (x2 + x3 * 4294967296) / 4294967296 % 4294967296, bl (x4 == 1), x5 % 4294967296, x6 % 4294967296, 0, 0, 0, 0, 0, 0, 0, 0, 0] = _
    rw [e4, show (x2 + x3 * 4294967296) % 4294967296 = x2 by omega, show (x2 + x3 * 4294967296) / 4294967296 % 4294967296 = x3 by omega, show x5 % 4294967296 = x5 by omega, show x6 % 4294967296 = x6 by omega]
theorem own_cells {w : World} {e : TypeId} {size : Nat} {g n cap : Nat} {xs : List Value} (h : w.ownsRow 0 e size (.slice (some ⟨g, 0, none⟩) n cap) n xs) : ∃ cur, w.heap[g]? = some (.cells cur e (0, 0)) := by
  rcases h.2 with ⟨h, -⟩ | ⟨g', cap', cur, h, -, hh, -⟩
  · cases h
  · cases h
    exact ⟨cur, hh⟩
theorem cell_two_new (w : World) (x : Obj) (u : Value) (T : TypeId) : ∀ j v, [u][j]? = some v → ((w.alloc x).alloc (.cells #[u] T)).cell? ((⟨w.heap.size + 1, 0, none⟩ : Addr).add j) = some v := fun j v hj => by
  obtain rfl : j = 0 := by have := (List.getElem?_eq_some_iff.1 hj).1; simp at this; omega
  simp at hj
  subst hj
  rw [Addr.add_lit]
  exact new2_cell w x #[u] T 0
theorem set_u32s (l : List Int) (k : Nat) (x : Int) : (u32s l).set k (.int .u32 x) = u32s (l.set k x) := by simp [u32s, List.map_set]

set_option maxRecDepth 100000 in
set_option maxHeartbeats 4000000 in
theorem infoBack_good (p m t : Int) (on : Bool) (q f ax : Int) (xs : List Int) (c1 : Nat) (ao : Option Addr) (a : Addr) (w : World) (hE : SentAt errT w 0 a) (hr : AtL w ao (u32s xs)) (hz : ∀ z ∈ xs, 0 ≤ z ∧ z ≤ 4294967295) (hn : xs.length = 16) (hc1 : 16 ≤ c1) (hx : infoOk ⟨p, m, t, on, q, f⟩) (hax : -9223372036854775808 ≤ ax ∧ ax ≤ 9223372036854775807) (hok : infOK xs = true) :
    Calls Tryd.prog 4 #[infV ⟨p, m, t, on, q, f⟩, .slice ao 16 c1, .int .i64 ax] w fun e w' => e = .returned (.bool true) ∧ Below w.heap.size w w' := by
  obtain ⟨hp, hm, ht, hq, hf⟩ := hx
  dsimp only at hp hm ht hq hf
  obtain ⟨uu, hu⟩ : ∃ uu, IntKind.u64.wrap t = uu := ⟨_, rfl⟩
  have hu2 : 0 ≤ uu ∧ uu < 18446744073709551616 := by
    have e : IntKind.u64.wrap t = t % 18446744073709551616 := rfl
    rw [← hu, e]
    omega
  obtain ⟨tt, htt⟩ : ∃ tt, uu.tmod 1099511627776 = tt := ⟨_, rfl⟩
  have ht2 : 0 ≤ tt ∧ tt ≤ 1099511627775 := by
    rw [← htt, Int.tmod_eq_emod_of_nonneg hu2.1]
    omega
  have htw := IntWalk.wrap64_in tt (by omega)
  obtain ⟨qq, hqq⟩ : ∃ qq, q % 257 = qq := ⟨_, rfl⟩
  obtain ⟨ff, hff⟩ : ∃ ff, f % 257 = ff := ⟨_, rfl⟩
  have hY : InfIn ⟨p, m, tt, on, qq, ff⟩ := ⟨hp, hm, ht2, by dsimp only; omega, by dsimp only; omega⟩
  obtain ⟨k, hk⟩ : ∃ k : Nat, ax % 9 = (k : Int) := ⟨(ax % 9).toNat, by omega⟩
  have hk8 : k ≤ 8 := by omega
  have hkw := IntWalk.i64_in (7 + (k : Int)) (by omega)
  have hk0 : (0 : Int) ≤ 7 + (k : Int) := by omega
  have hk1 : 7 + (k : Int) < 16 := by omega
  have hk2 : (7 + (k : Int)).toNat = 7 + k := by omega
  have HQQ := Lib.hid hqq
  have HFF := Lib.hid hff
  have HAX := Lib.hid hk
  have HRY := Lib.hid (infW_in hY)
  have HOKY := Lib.hid (infW_ok hY)
  have HOFY := Lib.hid (infW_of hY)
  have HBENT := Lib.hid (infW_bent ⟨p, m, tt, on, qq, ff⟩ k hk8)
  have HR := Lib.hid hr
  have HZ := Lib.hid hz
  have HN := Lib.hid hn
  have HOK := Lib.hid hok
  have HE := Lib.hid hE
  obtain ⟨⟨ap, am, at_, ao_, aq, af⟩, hans⟩ : ∃ r, infOf xs = r := ⟨_, rfl⟩
  have HANS : Hid (infOf xs = ⟨ap, am, at_, ao_, aq, af⟩) := Lib.hid hans
  have HSM : Hid (decide (infW ⟨ap, am, at_, ao_, aq, af⟩ = xs) = true) := Lib.hid (decide_eq_true (by rw [← hans]; exact infOf_back hz hok))
  clear hr hz hn hok hans hE hqq hff hk hY hu2 ht2 hp hm ht hk8
  go_enter Tryd.func4, Tryd.ntmps4
  go_wp2_with fail
  refine (inf_first _).mono ?_
  rintro e w1 ⟨rfl, hb1⟩
  have hbk : w1.heap[w.heap.size]? = some (.cells #[.int .u32 p, .int .u32 m, .int .i64 t, .bool on, .int .i64 q, .int .i64 f] 24 (0, 0)) := by
    rw [hb1.block _ (by simp)]
    exact blk_new w _
  have HBK := Lib.hid hbk
  have HB1 : Hid (Below w.heap.size w w1) := Lib.hid (((Below.refl _ _).alloc (Nat.le_refl _) (.cells #[.int .u32 p, .int .u32 m, .int .i64 t, .bool on, .int .i64 q, .int .i64 f] 24)).trans (hb1.mono (by simp)))
  have p0 := blk_cell hbk 0
  have p1 := blk_cell hbk 1
  have p2 := blk_cell hbk 2
  have p3 := blk_cell hbk 3
  have p4 := blk_cell hbk 4
  have p5 := blk_cell hbk 5
  have f2 := blk_free hbk 2
  have f4 := blk_free hbk 4
  have f5 := blk_free hbk 5
  clear hb1 hbk
  go_wp2_with fail
  refine (number_any q 257 _ hq.1 hq.2 (by decide) (by decide)).mono ?_
  rintro e w2 ⟨rfl, rfl⟩
  rw [HQQ.out]
  go_wp2_with fail
  refine (number_any f 257 _ hf.1 hf.2 (by decide) (by decide)).mono ?_
  rintro e w2 ⟨rfl, rfl⟩
  rw [HFF.out]
  have HBK6 : Hid ((((w1.setCell ⟨w.heap.size, 2, none⟩ (.int .i64 tt)).setCell ⟨w.heap.size, 4, none⟩ (.int .i64 qq)).setCell ⟨w.heap.size, 5, none⟩ (.int .i64 ff)).heap[w.heap.size]? = some (.cells #[.int .u32 p, .int .u32 m, .int .i64 tt, .bool on, .int .i64 qq, .int .i64 ff] 24 (0, 0))) := Lib.hid (blk_put (blk_put (blk_put HBK.out 2 _) 4 _) 5 _)
  have HB6 : Hid (Below w.heap.size w (((w1.setCell ⟨w.heap.size, 2, none⟩ (.int .i64 tt)).setCell ⟨w.heap.size, 4, none⟩ (.int .i64 qq)).setCell ⟨w.heap.size, 5, none⟩ (.int .i64 ff))) := Lib.hid (((HB1.out.setCell (p := ⟨w.heap.size, 2, none⟩) (Nat.le_refl _) _).setCell (p := ⟨w.heap.size, 4, none⟩) (Nat.le_refl _) _).setCell (p := ⟨w.heap.size, 5, none⟩) (Nat.le_refl _) _)
  go_wp2_with fail
  refine (inf_words ⟨p, m, tt, on, qq, ff⟩ _).mono ?_
  rintro e w2 ⟨g, c, rfl, ho, hg, hb2⟩
  have HO := Lib.hid ho
  have HG : Hid (w.heap.size < g) := Lib.hid (Nat.lt_of_lt_of_le (blk_lt HBK6.out) hg)
  have HB2 : Hid (Below w.heap.size w w2) := Lib.hid (HB6.out.trans (hb2.mono HB6.out.size))
  have HBK2 : Hid (w2.heap[w.heap.size]? = some (.cells #[.int .u32 p, .int .u32 m, .int .i64 tt, .bool on, .int .i64 qq, .int .i64 ff] 24 (0, 0))) := Lib.hid (by rw [hb2.block _ (blk_lt HBK6.out)]; exact HBK6.out)
  have hcap : 16 ≤ c := by
    rcases own_shape ho with ⟨h, -⟩ | ⟨g', cap, h, h1, -⟩
    · cases h
    · cases h
      exact h1
  clear ho hg hb2 HBK HBK6 HB6 HB1 p0 p1 p2 p3 p4 p5 f2 f4 f5
  go_wp2_with fail
  refine (of_good (infW ⟨p, m, tt, on, qq, ff⟩) c _ _ (own_at HO.out) hcap HRY.out HOKY.out).mono ?_
  rintro e w3 ⟨rfl, hb3⟩
  rw [HOFY.out]
  have HB3 : Hid (Below w.heap.size w w3) := Lib.hid (HB2.out.trans (hb3.mono HB2.out.size))
  have HO3 := Lib.hid (own_frame HO.out fun k hk => hb3.block k (own_lt HO.out hk))
  have HBK3 : Hid (w3.heap[w.heap.size]? = some (.cells #[.int .u32 p, .int .u32 m, .int .i64 tt, .bool on, .int .i64 qq, .int .i64 ff] 24 (0, 0))) := Lib.hid (by rw [hb3.block _ (blk_lt HBK2.out)]; exact HBK2.out)
  have HW7 : Hid (Below w.heap.size w (w3.alloc (.cells #[.int .u32 p, .int .u32 m, .int .i64 tt, .bool on, .int .i64 qq, .int .i64 ff] 24))) := Lib.hid (HB3.out.alloc HB3.out.size _)
  have HO7 := Lib.hid (HO3.out.alloc (.cells #[.int .u32 p, .int .u32 m, .int .i64 tt, .bool on, .int .i64 qq, .int .i64 ff] 24))
  have HK : Hid (∀ wx, Below (w3.alloc (.cells #[.int .u32 p, .int .u32 m, .int .i64 tt, .bool on, .int .i64 qq, .int .i64 ff] 24)).heap.size (w3.alloc (.cells #[.int .u32 p, .int .u32 m, .int .i64 tt, .bool on, .int .i64 qq, .int .i64 ff] 24)) wx → Below (w3.alloc (.cells #[.int .u32 p, .int .u32 m, .int .i64 tt, .bool on, .int .i64 qq, .int .i64 ff] 24)).heap.size (w3.alloc (.cells #[.int .u32 p, .int .u32 m, .int .i64 tt, .bool on, .int .i64 qq, .int .i64 ff] 24)) wx ∧ wx.cell? ⟨w.heap.size, 0, none⟩ = some (.int .u32 p) ∧ wx.cell? ⟨w.heap.size, 1, none⟩ = some (.int .u32 m) ∧ wx.cell? ⟨w.heap.size, 2, none⟩ = some (.int .i64 tt) ∧ wx.cell? ⟨w.heap.size, 3, none⟩ = some (.bool on) ∧ wx.cell? ⟨w.heap.size, 4, none⟩ = some (.int .i64 qq) ∧ wx.cell? ⟨w.heap.size, 5, none⟩ = some (.int .i64 ff) ∧ wx.cell? ⟨w3.heap.size, 0, none⟩ = some (.int .u32 p) ∧ wx.cell? ⟨w3.heap.size, 1, none⟩ = some (.int .u32 m) ∧ wx.cell? ⟨w3.heap.size, 2, none⟩ = some (.int .i64 tt) ∧ wx.cell? ⟨w3.heap.size, 3, none⟩ = some (.bool on) ∧ wx.cell? ⟨w3.heap.size, 4, none⟩ = some (.int .i64 qq) ∧ wx.cell? ⟨w3.heap.size, 5, none⟩ = some (.int .i64 ff)) := Lib.hid fun wx h => by
    have h1 : wx.heap[w.heap.size]? = some (.cells #[.int .u32 p, .int .u32 m, .int .i64 tt, .bool on, .int .i64 qq, .int .i64 ff] 24 (0, 0)) := by
      rw [h.block _ (by have := blk_lt HBK3.out; simp; omega), ((Below.refl w3.heap.size w3).alloc (Nat.le_refl _) (.cells #[.int .u32 p, .int .u32 m, .int .i64 tt, .bool on, .int .i64 qq, .int .i64 ff] 24)).block _ (blk_lt HBK3.out)]
      exact HBK3.out
    have h2 : wx.heap[w3.heap.size]? = some (.cells #[.int .u32 p, .int .u32 m, .int .i64 tt, .bool on, .int .i64 qq, .int .i64 ff] 24 (0, 0)) := by
      rw [h.block _ (by simp)]
      exact blk_new w3 _
    exact ⟨h, blk_cell h1 0, blk_cell h1 1, blk_cell h1 2, blk_cell h1 3, blk_cell h1 4, blk_cell h1 5, blk_cell h2 0, blk_cell h2 1, blk_cell h2 2, blk_cell h2 3, blk_cell h2 4, blk_cell h2 5⟩
  have HOT : Hid (∀ wx, Below (w3.alloc (.cells #[.int .u32 p, .int .u32 m, .int .i64 tt, .bool on, .int .i64 qq, .int .i64 ff] 24)).heap.size (w3.alloc (.cells #[.int .u32 p, .int .u32 m, .int .i64 tt, .bool on, .int .i64 qq, .int .i64 ff] 24)) wx → Calls Tryd.prog 21 #[infV ⟨p, m, tt, on, qq, ff⟩] wx fun e w' => e = .returned (infV ⟨p, m, tt, on, qq, ff⟩) ∧ Below (w3.alloc (.cells #[.int .u32 p, .int .u32 m, .int .i64 tt, .bool on, .int .i64 qq, .int .i64 ff] 24)).heap.size (w3.alloc (.cells #[.int .u32 p, .int .u32 m, .int .i64 tt, .bool on, .int .i64 qq, .int .i64 ff] 24)) w') := Lib.hid fun wx h =>
    (other_any ⟨p, m, tt, on, qq, ff⟩ wx).mono fun e w' ⟨he, hb⟩ => ⟨he, h.trans (hb.mono h.size)⟩
  have HSA : Hid (∀ wx, Below (w3.alloc (.cells #[.int .u32 p, .int .u32 m, .int .i64 tt, .bool on, .int .i64 qq, .int .i64 ff] 24)).heap.size (w3.alloc (.cells #[.int .u32 p, .int .u32 m, .int .i64 tt, .bool on, .int .i64 qq, .int .i64 ff] 24)) wx → Calls Tryd.prog 22 #[infV ⟨p, m, tt, on, qq, ff⟩, infV ⟨p, m, tt, on, qq, ff⟩] wx fun e w' => e = .returned (.bool true) ∧ Below (w3.alloc (.cells #[.int .u32 p, .int .u32 m, .int .i64 tt, .bool on, .int .i64 qq, .int .i64 ff] 24)).heap.size (w3.alloc (.cells #[.int .u32 p, .int .u32 m, .int .i64 tt, .bool on, .int .i64 qq, .int .i64 ff] 24)) w') := Lib.hid fun wx h =>
    (same_refl ⟨p, m, tt, on, qq, ff⟩ wx).mono fun e w' ⟨he, hb⟩ => ⟨he, h.trans (hb.mono h.size)⟩
  have hbd : Below (w3.alloc (.cells #[.int .u32 p, .int .u32 m, .int .i64 tt, .bool on, .int .i64 qq, .int .i64 ff] 24)).heap.size (w3.alloc (.cells #[.int .u32 p, .int .u32 m, .int .i64 tt, .bool on, .int .i64 qq, .int .i64 ff] 24)) (w3.alloc (.cells #[.int .u32 p, .int .u32 m, .int .i64 tt, .bool on, .int .i64 qq, .int .i64 ff] 24)).drew := (Below.refl _ _).drew
  clear hb3 HB2 HBK2
  go_wp2_with fail
  go_region_held3 (fun wx => Below (w3.alloc (.cells #[.int .u32 p, .int .u32 m, .int .i64 tt, .bool on, .int .i64 qq, .int .i64 ff] 24)).heap.size (w3.alloc (.cells #[.int .u32 p, .int .u32 m, .int .i64 tt, .bool on, .int .i64 qq, .int .i64 ff] 24)) wx ∧ wx.cell? ⟨w.heap.size, 0, none⟩ = some (.int .u32 p) ∧ wx.cell? ⟨w.heap.size, 1, none⟩ = some (.int .u32 m) ∧ wx.cell? ⟨w.heap.size, 2, none⟩ = some (.int .i64 tt) ∧ wx.cell? ⟨w.heap.size, 3, none⟩ = some (.bool on) ∧ wx.cell? ⟨w.heap.size, 4, none⟩ = some (.int .i64 qq) ∧ wx.cell? ⟨w.heap.size, 5, none⟩ = some (.int .i64 ff) ∧ wx.cell? ⟨w3.heap.size, 0, none⟩ = some (.int .u32 p) ∧ wx.cell? ⟨w3.heap.size, 1, none⟩ = some (.int .u32 m) ∧ wx.cell? ⟨w3.heap.size, 2, none⟩ = some (.int .i64 tt) ∧ wx.cell? ⟨w3.heap.size, 3, none⟩ = some (.bool on) ∧ wx.cell? ⟨w3.heap.size, 4, none⟩ = some (.int .i64 qq) ∧ wx.cell? ⟨w3.heap.size, 5, none⟩ = some (.int .i64 ff)) (exact HK.out _ (by assumption))
    (first
      | (go_at_call 21; refine (HOT.out _ (by assumption)).mono ?_; rintro e wb ⟨rfl, hbb⟩)
      | (go_at_call 22; refine (HSA.out _ (by assumption)).mono ?_; rintro e we ⟨rfl, hbe⟩))
  all_goals
    have HB8 : Hid (Below w.heap.size w we) := Lib.hid (HW7.out.trans (hbe.mono HW7.out.size))
    have HO8 := Lib.hid (own_frame HO7.out fun k hk => hbe.block k (own_lt HO7.out hk))
    clear hbe HK HOT HSA hbd HO3 HO7 HBK3 HW7 HB3
    go_wp2_with fail
    refine (of_good xs c1 ao _ (HR.out.mono HB8.out) hc1 HZ.out HOK.out).mono ?_
    rintro e w9 ⟨rfl, hb9⟩
    rw [HANS.out]
    have HB9 : Hid (Below w.heap.size w w9) := Lib.hid (HB8.out.trans (hb9.mono HB8.out.size))
    have HO9 := Lib.hid (own_frame HO8.out fun k hk => hb9.block k (own_lt HO8.out hk))
    have HB10 : Hid (Below w.heap.size w (w9.alloc (.cells #[.int .u32 ap, .int .u32 am, .int .i64 at_, .bool ao_, .int .i64 aq, .int .i64 af] 24))) := Lib.hid (HB9.out.alloc HB9.out.size _)
    have HO10 := Lib.hid (HO9.out.alloc (.cells #[.int .u32 ap, .int .u32 am, .int .i64 at_, .bool ao_, .int .i64 aq, .int .i64 af] 24))
    clear hb9
    go_wp2_with fail
    refine (inf_words ⟨ap, am, at_, ao_, aq, af⟩ _).mono ?_
    rintro e w11 ⟨g2, d2, rfl, ho2, -, hb11⟩
    have HB11 : Hid (Below w.heap.size w w11) := Lib.hid (HB10.out.trans (hb11.mono HB10.out.size))
    have HO11 := Lib.hid (own_frame HO10.out fun k hk => hb11.block k (own_lt HO10.out hk))
    have HA2 := Lib.hid (own_at ho2)
    clear ho2 hb11
    go_wp2_with fail
    refine (sameWords_n (infW ⟨ap, am, at_, ao_, aq, af⟩) xs 16 16 rfl HN.out _ _ _ _ _ HA2.out (HR.out.mono HB11.out) (by decide) (by decide)).mono ?_
    rintro e w12 ⟨rfl, dn, hw12⟩
    rw [HSM.out]
    have HB12 : Hid (Below w.heap.size w w12) := Lib.hid (by rw [hw12]; exact below_drewN HB11.out dn)
    have HO12 : Hid (w12.ownsRow 0 22 1 (.slice (some ⟨g, 0, none⟩) 16 c) 16 (u32s (infW ⟨p, m, tt, on, qq, ff⟩))) := Lib.hid (own_frame HO11.out fun k hk => by rw [hw12]; exact (below_drewN (Below.refl w11.heap.size w11) dn).block k (own_lt HO11.out hk))
    clear hw12
    go_wp2_with fail
    refine (words_any _ (infW ⟨p, m, tt, on, qq, ff⟩) _ (own_reads HO12.out) (by show 16 * 4 ≤ _; decide)).mono ?_
    rintro e w13 ⟨v', rfl, hob, hgb, hb13⟩
    obtain ⟨gb, cb, rfl, hcb⟩ : ∃ gb cb, v' = .slice (some ⟨gb, 0, none⟩) 16 cb ∧ 16 ≤ cb := by
      rcases own_shape hob with ⟨-, h, -⟩ | ⟨g', cap, h, h1, -⟩
      · cases h
      · exact ⟨g', cap, h, h1⟩
    have hgb' := hgb gb (by simp [inRow, Value.ownBlock])
    have HGB : Hid (w.heap.size ≤ gb) := Lib.hid (Nat.le_trans HB12.out.size hgb')
    have HOB := Lib.hid hob
    have HB13 : Hid (Below w.heap.size w w13) := Lib.hid (HB12.out.trans (hb13.mono HB12.out.size))
    have HO13 := Lib.hid (own_frame HO12.out fun k hk => hb13.block k (own_lt HO12.out hk))
    have HAP : Hid (gb ≠ g) := Lib.hid (by have := own_lt HO12.out (k := g) (by simp [inRow, Value.ownBlock]); omega)
    obtain ⟨b', off', eb, hcur, -⟩ := own_at hob (7 + k) _ (u32s_get _ (7 + k) (by show 7 + k < 16; omega))
    cases eb
    rw [Nat.zero_add] at hcur
    obtain ⟨cur, hbl⟩ := own_cells hob
    have hfr := blk_free hbl (7 + k)
    clear hbl
    clear hob hgb hgb' hb13
    go_wp2_with fail
    refine (number_any ax 9 _ hax.1 hax.2 (by decide) (by decide)).mono ?_
    rintro e w14 ⟨rfl, rfl⟩
    rw [HAX.out]
    have HOS : Hid ((w13.setCell ⟨gb, 7 + k, none⟩ (.int .u32 1)).ownsRow 0 22 1 (.slice (some ⟨gb, 0, none⟩) 16 cb) 16 (u32s ((infW ⟨p, m, tt, on, qq, ff⟩).set (7 + k) 1))) := Lib.hid (by rw [← set_u32s]; exact (HOB.out.stored (7 + k) _).1)
    have HB14 : Hid (Below w.heap.size w (w13.setCell ⟨gb, 7 + k, none⟩ (.int .u32 1))) := Lib.hid (HB13.out.setCell (p := ⟨gb, 7 + k, none⟩) HGB.out _)
    have HO14 : Hid ((w13.setCell ⟨gb, 7 + k, none⟩ (.int .u32 1)).ownsRow 0 22 1 (.slice (some ⟨g, 0, none⟩) 16 c) 16 (u32s (infW ⟨p, m, tt, on, qq, ff⟩))) := Lib.hid
      (own_only HO13.out (Only.setCell (F := fun j => j = gb) (Only.refl _ _) (p := ⟨gb, 7 + k, none⟩) (.inl rfl) _) (fun j hj e => HAP.out (by
        have e2 : g = j := by simpa [inRow, Value.ownBlock] using hj
        omega)))
    clear HOB HO13 HB13 HO12 HB12 HAP HGB
    go_wp2_with fail
    refine (of_bad a _ 16 cb _ _ (HE.out.mono HB14.out).1 (own_at HOS.out) hcb (fun z hz => by rcases List.mem_or_eq_of_mem_set hz with h | rfl; exact HRY.out z h; decide) (by rw [List.length_set]; rfl) HBENT.out).mono ?_
    rintro e w15 ⟨rfl, hb15⟩
    have HB15 : Hid (Below w.heap.size w w15) := Lib.hid (HB14.out.trans (hb15.mono HB14.out.size))
    have HO15 := Lib.hid (own_frame HO14.out fun j hj => hb15.block j (own_lt HO14.out hj))
    have h15 : 15 ≤ c := by omega
    have h15' : (15 : Int) ≤ (c : Int) := by omega
    obtain ⟨i0, hi, hz0, hz1, hz2⟩ := info_parts infoU32
    clear hb15 HOS HO14 HB14 hcur hfr
    go_wp2_with (at_builtin; refine wpList_append_sep _ rfl _ _ 25 rfl 22 i0 (.int .u32 0) 1 4 Tryd.underlying25 hi hz0 hz1 hz2 rfl (by decide) _ _ _ rfl ((HO15.out.alloc _).alloc _) ⟨w15.heap.size + 1, 0, none⟩ 1 1 [.int .u32 0] rfl rfl (cell_two_new _ _ _ _) (by simp [Value.oneCell']) (by unfold maxLen; omega) (by omega) ?_)
    intro v' w17 ho hg _
    obtain ⟨ao', c', rfl⟩ := own_slice ho
    have HB17 : Hid (Below w.heap.size w w17) := Lib.hid (((HB15.out.alloc HB15.out.size _).alloc (by have := HB15.out.size; simp; omega) _).grown hg (by have := HB15.out.size; simp; omega) (fun j hj => by
      have e2 : g = j := by simpa [Value.ownBlock] using hj
      have := HG.out
      omega))
    clear ho hg
    go_wp2_with fail
    refine (of_len a _ _ _ _ (HE.out.mono HB17.out).1 (by decide)).mono ?_
    rintro e w18 ⟨rfl, hb18⟩
    have HB18 : Hid (Below w.heap.size w w18) := Lib.hid (HB17.out.trans (hb18.mono HB17.out.size))
    have HB18' : Hid (∀ o : Obj, Below w.heap.size w (w18.alloc o)) := Lib.hid fun o => HB18.out.alloc HB18.out.size o
    clear hb18
    go_wp2_with fail
    refine (of_len a _ _ _ _ (HE.out.mono (HB18'.out _)).1 (by decide)).mono ?_
    rintro e w19 ⟨rfl, hb19⟩
    have HB19 : Hid (Below w.heap.size w w19) := Lib.hid ((HB18'.out _).trans (hb19.mono (HB18'.out _).size))
    clear hb19
    go_wp2
    go_ret
    exact ⟨rfl, HB19.out.alloc HB19.out.size _⟩

set_option maxRecDepth 100000 in
set_option maxHeartbeats 4000000 in
theorem infoBack_bad (p m t : Int) (on : Bool) (q f ax : Int) (xs : List Int) (n : Nat) (c1 : Nat) (ao : Option Addr) (a : Addr) (w : World) (hE : SentAt errT w 0 a) (hr : AtL w ao (u32s xs)) (hz : ∀ z ∈ xs, 0 ≤ z ∧ z ≤ 4294967295) (hn : xs.length = n) (hc1 : n ≤ c1) (h20 : n ≤ 20) (hx : infoOk ⟨p, m, t, on, q, f⟩) (hax : -9223372036854775808 ≤ ax ∧ ax ≤ 9223372036854775807) (hok : infOK xs = false) :
    Calls Tryd.prog 4 #[infV ⟨p, m, t, on, q, f⟩, .slice ao n c1, .int .i64 ax] w fun e w' => e = .returned (.bool true) ∧ Below w.heap.size w w' := by
  obtain ⟨hp, hm, ht, hq, hf⟩ := hx
  dsimp only at hp hm ht hq hf
  obtain ⟨uu, hu⟩ : ∃ uu, IntKind.u64.wrap t = uu := ⟨_, rfl⟩
  have hu2 : 0 ≤ uu ∧ uu < 18446744073709551616 := by
    have e : IntKind.u64.wrap t = t % 18446744073709551616 := rfl
    rw [← hu, e]
    omega
  obtain ⟨tt, htt⟩ : ∃ tt, uu.tmod 1099511627776 = tt := ⟨_, rfl⟩
  have ht2 : 0 ≤ tt ∧ tt ≤ 1099511627775 := by
    rw [← htt, Int.tmod_eq_emod_of_nonneg hu2.1]
    omega
  have htw := IntWalk.wrap64_in tt (by omega)
  obtain ⟨qq, hqq⟩ : ∃ qq, q % 257 = qq := ⟨_, rfl⟩
  obtain ⟨ff, hff⟩ : ∃ ff, f % 257 = ff := ⟨_, rfl⟩
  have hY : InfIn ⟨p, m, tt, on, qq, ff⟩ := ⟨hp, hm, ht2, by dsimp only; omega, by dsimp only; omega⟩
  obtain ⟨k, hk⟩ : ∃ k : Nat, ax % 9 = (k : Int) := ⟨(ax % 9).toNat, by omega⟩
  have hk8 : k ≤ 8 := by omega
  have hkw := IntWalk.i64_in (7 + (k : Int)) (by omega)
  have hk0 : (0 : Int) ≤ 7 + (k : Int) := by omega
  have hk1 : 7 + (k : Int) < 16 := by omega
  have hk2 : (7 + (k : Int)).toNat = 7 + k := by omega
  have HQQ := Lib.hid hqq
  have HFF := Lib.hid hff
  have HAX := Lib.hid hk
  have HRY := Lib.hid (infW_in hY)
  have HOKY := Lib.hid (infW_ok hY)
  have HOFY := Lib.hid (infW_of hY)
  have HBENT := Lib.hid (infW_bent ⟨p, m, tt, on, qq, ff⟩ k hk8)
  have HR := Lib.hid hr
  have HZ := Lib.hid hz
  have HN := Lib.hid hn
  have HOK := Lib.hid hok
  have HE := Lib.hid hE
  obtain ⟨⟨ap, am, at_, ao_, aq, af⟩, hans⟩ : ∃ r, infOf xs = r := ⟨_, rfl⟩
  rw [infOf_no hok] at hans
  have HANS : Hid (infZ = ⟨ap, am, at_, ao_, aq, af⟩) := Lib.hid hans
  have h20' : ¬ (20 : Int) < (n : Int) := by omega
  clear hr hz hn hok hans hE hqq hff hk hY hu2 ht2 hp hm ht hk8 h20
  go_enter Tryd.func4, Tryd.ntmps4
  go_wp2_with fail
  refine (inf_first _).mono ?_
  rintro e w1 ⟨rfl, hb1⟩
  have hbk : w1.heap[w.heap.size]? = some (.cells #[.int .u32 p, .int .u32 m, .int .i64 t, .bool on, .int .i64 q, .int .i64 f] 24 (0, 0)) := by
    rw [hb1.block _ (by simp)]
    exact blk_new w _
  have HBK := Lib.hid hbk
  have HB1 : Hid (Below w.heap.size w w1) := Lib.hid (((Below.refl _ _).alloc (Nat.le_refl _) (.cells #[.int .u32 p, .int .u32 m, .int .i64 t, .bool on, .int .i64 q, .int .i64 f] 24)).trans (hb1.mono (by simp)))
  have p0 := blk_cell hbk 0
  have p1 := blk_cell hbk 1
  have p2 := blk_cell hbk 2
  have p3 := blk_cell hbk 3
  have p4 := blk_cell hbk 4
  have p5 := blk_cell hbk 5
  have f2 := blk_free hbk 2
  have f4 := blk_free hbk 4
  have f5 := blk_free hbk 5
  clear hb1 hbk
  go_wp2_with fail
  refine (number_any q 257 _ hq.1 hq.2 (by decide) (by decide)).mono ?_
  rintro e w2 ⟨rfl, rfl⟩
  rw [HQQ.out]
  go_wp2_with fail
  refine (number_any f 257 _ hf.1 hf.2 (by decide) (by decide)).mono ?_
  rintro e w2 ⟨rfl, rfl⟩
  rw [HFF.out]
  have HBK6 : Hid ((((w1.setCell ⟨w.heap.size, 2, none⟩ (.int .i64 tt)).setCell ⟨w.heap.size, 4, none⟩ (.int .i64 qq)).setCell ⟨w.heap.size, 5, none⟩ (.int .i64 ff)).heap[w.heap.size]? = some (.cells #[.int .u32 p, .int .u32 m, .int .i64 tt, .bool on, .int .i64 qq, .int .i64 ff] 24 (0, 0))) := Lib.hid (blk_put (blk_put (blk_put HBK.out 2 _) 4 _) 5 _)
  have HB6 : Hid (Below w.heap.size w (((w1.setCell ⟨w.heap.size, 2, none⟩ (.int .i64 tt)).setCell ⟨w.heap.size, 4, none⟩ (.int .i64 qq)).setCell ⟨w.heap.size, 5, none⟩ (.int .i64 ff))) := Lib.hid (((HB1.out.setCell (p := ⟨w.heap.size, 2, none⟩) (Nat.le_refl _) _).setCell (p := ⟨w.heap.size, 4, none⟩) (Nat.le_refl _) _).setCell (p := ⟨w.heap.size, 5, none⟩) (Nat.le_refl _) _)
  go_wp2_with fail
  refine (inf_words ⟨p, m, tt, on, qq, ff⟩ _).mono ?_
  rintro e w2 ⟨g, c, rfl, ho, hg, hb2⟩
  have HO := Lib.hid ho
  have HG : Hid (w.heap.size < g) := Lib.hid (Nat.lt_of_lt_of_le (blk_lt HBK6.out) hg)
  have HB2 : Hid (Below w.heap.size w w2) := Lib.hid (HB6.out.trans (hb2.mono HB6.out.size))
  have HBK2 : Hid (w2.heap[w.heap.size]? = some (.cells #[.int .u32 p, .int .u32 m, .int .i64 tt, .bool on, .int .i64 qq, .int .i64 ff] 24 (0, 0))) := Lib.hid (by rw [hb2.block _ (blk_lt HBK6.out)]; exact HBK6.out)
  have hcap : 16 ≤ c := by
    rcases own_shape ho with ⟨h, -⟩ | ⟨g', cap, h, h1, -⟩
    · cases h
    · cases h
      exact h1
  clear ho hg hb2 HBK HBK6 HB6 HB1 p0 p1 p2 p3 p4 p5 f2 f4 f5
  go_wp2_with fail
  refine (of_good (infW ⟨p, m, tt, on, qq, ff⟩) c _ _ (own_at HO.out) hcap HRY.out HOKY.out).mono ?_
  rintro e w3 ⟨rfl, hb3⟩
  rw [HOFY.out]
  have HB3 : Hid (Below w.heap.size w w3) := Lib.hid (HB2.out.trans (hb3.mono HB2.out.size))
  have HO3 := Lib.hid (own_frame HO.out fun k hk => hb3.block k (own_lt HO.out hk))
  have HBK3 : Hid (w3.heap[w.heap.size]? = some (.cells #[.int .u32 p, .int .u32 m, .int .i64 tt, .bool on, .int .i64 qq, .int .i64 ff] 24 (0, 0))) := Lib.hid (by rw [hb3.block _ (blk_lt HBK2.out)]; exact HBK2.out)
  have HW7 : Hid (Below w.heap.size w (w3.alloc (.cells #[.int .u32 p, .int .u32 m, .int .i64 tt, .bool on, .int .i64 qq, .int .i64 ff] 24))) := Lib.hid (HB3.out.alloc HB3.out.size _)
  have HO7 := Lib.hid (HO3.out.alloc (.cells #[.int .u32 p, .int .u32 m, .int .i64 tt, .bool on, .int .i64 qq, .int .i64 ff] 24))
  have HK : Hid (∀ wx, Below (w3.alloc (.cells #[.int .u32 p, .int .u32 m, .int .i64 tt, .bool on, .int .i64 qq, .int .i64 ff] 24)).heap.size (w3.alloc (.cells #[.int .u32 p, .int .u32 m, .int .i64 tt, .bool on, .int .i64 qq, .int .i64 ff] 24)) wx → Below (w3.alloc (.cells #[.int .u32 p, .int .u32 m, .int .i64 tt, .bool on, .int .i64 qq, .int .i64 ff] 24)).heap.size (w3.alloc (.cells #[.int .u32 p, .int .u32 m, .int .i64 tt, .bool on, .int .i64 qq, .int .i64 ff] 24)) wx ∧ wx.cell? ⟨w.heap.size, 0, none⟩ = some (.int .u32 p) ∧ wx.cell? ⟨w.heap.size, 1, none⟩ = some (.int .u32 m) ∧ wx.cell? ⟨w.heap.size, 2, none⟩ = some (.int .i64 tt) ∧ wx.cell? ⟨w.heap.size, 3, none⟩ = some (.bool on) ∧ wx.cell? ⟨w.heap.size, 4, none⟩ = some (.int .i64 qq) ∧ wx.cell? ⟨w.heap.size, 5, none⟩ = some (.int .i64 ff) ∧ wx.cell? ⟨w3.heap.size, 0, none⟩ = some (.int .u32 p) ∧ wx.cell? ⟨w3.heap.size, 1, none⟩ = some (.int .u32 m) ∧ wx.cell? ⟨w3.heap.size, 2, none⟩ = some (.int .i64 tt) ∧ wx.cell? ⟨w3.heap.size, 3, none⟩ = some (.bool on) ∧ wx.cell? ⟨w3.heap.size, 4, none⟩ = some (.int .i64 qq) ∧ wx.cell? ⟨w3.heap.size, 5, none⟩ = some (.int .i64 ff)) := Lib.hid fun wx h => by
    have h1 : wx.heap[w.heap.size]? = some (.cells #[.int .u32 p, .int .u32 m, .int .i64 tt, .bool on, .int .i64 qq, .int .i64 ff] 24 (0, 0)) := by
      rw [h.block _ (by have := blk_lt HBK3.out; simp; omega), ((Below.refl w3.heap.size w3).alloc (Nat.le_refl _) (.cells #[.int .u32 p, .int .u32 m, .int .i64 tt, .bool on, .int .i64 qq, .int .i64 ff] 24)).block _ (blk_lt HBK3.out)]
      exact HBK3.out
    have h2 : wx.heap[w3.heap.size]? = some (.cells #[.int .u32 p, .int .u32 m, .int .i64 tt, .bool on, .int .i64 qq, .int .i64 ff] 24 (0, 0)) := by
      rw [h.block _ (by simp)]
      exact blk_new w3 _
    exact ⟨h, blk_cell h1 0, blk_cell h1 1, blk_cell h1 2, blk_cell h1 3, blk_cell h1 4, blk_cell h1 5, blk_cell h2 0, blk_cell h2 1, blk_cell h2 2, blk_cell h2 3, blk_cell h2 4, blk_cell h2 5⟩
  have HOT : Hid (∀ wx, Below (w3.alloc (.cells #[.int .u32 p, .int .u32 m, .int .i64 tt, .bool on, .int .i64 qq, .int .i64 ff] 24)).heap.size (w3.alloc (.cells #[.int .u32 p, .int .u32 m, .int .i64 tt, .bool on, .int .i64 qq, .int .i64 ff] 24)) wx → Calls Tryd.prog 21 #[infV ⟨p, m, tt, on, qq, ff⟩] wx fun e w' => e = .returned (infV ⟨p, m, tt, on, qq, ff⟩) ∧ Below (w3.alloc (.cells #[.int .u32 p, .int .u32 m, .int .i64 tt, .bool on, .int .i64 qq, .int .i64 ff] 24)).heap.size (w3.alloc (.cells #[.int .u32 p, .int .u32 m, .int .i64 tt, .bool on, .int .i64 qq, .int .i64 ff] 24)) w') := Lib.hid fun wx h =>
    (other_any ⟨p, m, tt, on, qq, ff⟩ wx).mono fun e w' ⟨he, hb⟩ => ⟨he, h.trans (hb.mono h.size)⟩
  have HSA : Hid (∀ wx, Below (w3.alloc (.cells #[.int .u32 p, .int .u32 m, .int .i64 tt, .bool on, .int .i64 qq, .int .i64 ff] 24)).heap.size (w3.alloc (.cells #[.int .u32 p, .int .u32 m, .int .i64 tt, .bool on, .int .i64 qq, .int .i64 ff] 24)) wx → Calls Tryd.prog 22 #[infV ⟨p, m, tt, on, qq, ff⟩, infV ⟨p, m, tt, on, qq, ff⟩] wx fun e w' => e = .returned (.bool true) ∧ Below (w3.alloc (.cells #[.int .u32 p, .int .u32 m, .int .i64 tt, .bool on, .int .i64 qq, .int .i64 ff] 24)).heap.size (w3.alloc (.cells #[.int .u32 p, .int .u32 m, .int .i64 tt, .bool on, .int .i64 qq, .int .i64 ff] 24)) w') := Lib.hid fun wx h =>
    (same_refl ⟨p, m, tt, on, qq, ff⟩ wx).mono fun e w' ⟨he, hb⟩ => ⟨he, h.trans (hb.mono h.size)⟩
  have hbd : Below (w3.alloc (.cells #[.int .u32 p, .int .u32 m, .int .i64 tt, .bool on, .int .i64 qq, .int .i64 ff] 24)).heap.size (w3.alloc (.cells #[.int .u32 p, .int .u32 m, .int .i64 tt, .bool on, .int .i64 qq, .int .i64 ff] 24)) (w3.alloc (.cells #[.int .u32 p, .int .u32 m, .int .i64 tt, .bool on, .int .i64 qq, .int .i64 ff] 24)).drew := (Below.refl _ _).drew
  clear hb3 HB2 HBK2
  go_wp2_with fail
  go_region_held3 (fun wx => Below (w3.alloc (.cells #[.int .u32 p, .int .u32 m, .int .i64 tt, .bool on, .int .i64 qq, .int .i64 ff] 24)).heap.size (w3.alloc (.cells #[.int .u32 p, .int .u32 m, .int .i64 tt, .bool on, .int .i64 qq, .int .i64 ff] 24)) wx ∧ wx.cell? ⟨w.heap.size, 0, none⟩ = some (.int .u32 p) ∧ wx.cell? ⟨w.heap.size, 1, none⟩ = some (.int .u32 m) ∧ wx.cell? ⟨w.heap.size, 2, none⟩ = some (.int .i64 tt) ∧ wx.cell? ⟨w.heap.size, 3, none⟩ = some (.bool on) ∧ wx.cell? ⟨w.heap.size, 4, none⟩ = some (.int .i64 qq) ∧ wx.cell? ⟨w.heap.size, 5, none⟩ = some (.int .i64 ff) ∧ wx.cell? ⟨w3.heap.size, 0, none⟩ = some (.int .u32 p) ∧ wx.cell? ⟨w3.heap.size, 1, none⟩ = some (.int .u32 m) ∧ wx.cell? ⟨w3.heap.size, 2, none⟩ = some (.int .i64 tt) ∧ wx.cell? ⟨w3.heap.size, 3, none⟩ = some (.bool on) ∧ wx.cell? ⟨w3.heap.size, 4, none⟩ = some (.int .i64 qq) ∧ wx.cell? ⟨w3.heap.size, 5, none⟩ = some (.int .i64 ff)) (exact HK.out _ (by assumption))
    (first
      | (go_at_call 21; refine (HOT.out _ (by assumption)).mono ?_; rintro e wb ⟨rfl, hbb⟩)
      | (go_at_call 22; refine (HSA.out _ (by assumption)).mono ?_; rintro e we ⟨rfl, hbe⟩))
  all_goals
    have HB8 : Hid (Below w.heap.size w we) := Lib.hid (HW7.out.trans (hbe.mono HW7.out.size))
    have HO8 := Lib.hid (own_frame HO7.out fun k hk => hbe.block k (own_lt HO7.out hk))
    clear hbe HK HOT HSA hbd HO3 HO7 HBK3 HW7 HB3
    go_wp2_with fail
    refine (of_bad a xs n c1 ao _ (HE.out.mono HB8.out).1 (HR.out.mono HB8.out) hc1 HZ.out HN.out HOK.out).mono ?_
    rintro e w9 ⟨rfl, hb9⟩
    rw [HANS.out]
    have HB9 : Hid (Below w.heap.size w w9) := Lib.hid (HB8.out.trans (hb9.mono HB8.out.size))
    have HO9 := Lib.hid (own_frame HO8.out fun k hk => hb9.block k (own_lt HO8.out hk))
    have HB10 : Hid (Below w.heap.size w (w9.alloc (.cells #[.int .u32 ap, .int .u32 am, .int .i64 at_, .bool ao_, .int .i64 aq, .int .i64 af] 24))) := Lib.hid (HB9.out.alloc HB9.out.size _)
    have HO10 := Lib.hid (HO9.out.alloc (.cells #[.int .u32 ap, .int .u32 am, .int .i64 at_, .bool ao_, .int .i64 aq, .int .i64 af] 24))
    clear hb9
    go_wp2_with fail
    have HB12 := Lib.hid HB10.out
    have HO12 := Lib.hid HO10.out
    refine (words_any _ (infW ⟨p, m, tt, on, qq, ff⟩) _ (own_reads HO12.out) (by show 16 * 4 ≤ _; decide)).mono ?_
    rintro e w13 ⟨v', rfl, hob, hgb, hb13⟩
    obtain ⟨gb, cb, rfl, hcb⟩ : ∃ gb cb, v' = .slice (some ⟨gb, 0, none⟩) 16 cb ∧ 16 ≤ cb := by
      rcases own_shape hob with ⟨-, h, -⟩ | ⟨g', cap, h, h1, -⟩
      · cases h
      · exact ⟨g', cap, h, h1⟩
    have hgb' := hgb gb (by simp [inRow, Value.ownBlock])
    have HGB : Hid (w.heap.size ≤ gb) := Lib.hid (Nat.le_trans HB12.out.size hgb')
    have HOB := Lib.hid hob
    have HB13 : Hid (Below w.heap.size w w13) := Lib.hid (HB12.out.trans (hb13.mono HB12.out.size))
    have HO13 := Lib.hid (own_frame HO12.out fun k hk => hb13.block k (own_lt HO12.out hk))
    have HAP : Hid (gb ≠ g) := Lib.hid (by have := own_lt HO12.out (k := g) (by simp [inRow, Value.ownBlock]); omega)
    obtain ⟨b', off', eb, hcur, -⟩ := own_at hob (7 + k) _ (u32s_get _ (7 + k) (by show 7 + k < 16; omega))
    cases eb
    rw [Nat.zero_add] at hcur
    obtain ⟨cur, hbl⟩ := own_cells hob
    have hfr := blk_free hbl (7 + k)
    clear hbl
    clear hob hgb hgb' hb13
    go_wp2_with fail
    refine (number_any ax 9 _ hax.1 hax.2 (by decide) (by decide)).mono ?_
    rintro e w14 ⟨rfl, rfl⟩
    rw [HAX.out]
    have HOS : Hid ((w13.setCell ⟨gb, 7 + k, none⟩ (.int .u32 1)).ownsRow 0 22 1 (.slice (some ⟨gb, 0, none⟩) 16 cb) 16 (u32s ((infW ⟨p, m, tt, on, qq, ff⟩).set (7 + k) 1))) := Lib.hid (by rw [← set_u32s]; exact (HOB.out.stored (7 + k) _).1)
    have HB14 : Hid (Below w.heap.size w (w13.setCell ⟨gb, 7 + k, none⟩ (.int .u32 1))) := Lib.hid (HB13.out.setCell (p := ⟨gb, 7 + k, none⟩) HGB.out _)
    have HO14 : Hid ((w13.setCell ⟨gb, 7 + k, none⟩ (.int .u32 1)).ownsRow 0 22 1 (.slice (some ⟨g, 0, none⟩) 16 c) 16 (u32s (infW ⟨p, m, tt, on, qq, ff⟩))) := Lib.hid
      (own_only HO13.out (Only.setCell (F := fun j => j = gb) (Only.refl _ _) (p := ⟨gb, 7 + k, none⟩) (.inl rfl) _) (fun j hj e => HAP.out (by
        have e2 : g = j := by simpa [inRow, Value.ownBlock] using hj
        omega)))
    clear HOB HO13 HB13 HO12 HB12 HAP HGB
    go_wp2_with fail
    refine (of_bad a _ 16 cb _ _ (HE.out.mono HB14.out).1 (own_at HOS.out) hcb (fun z hz => by rcases List.mem_or_eq_of_mem_set hz with h | rfl; exact HRY.out z h; decide) (by rw [List.length_set]; rfl) HBENT.out).mono ?_
    rintro e w15 ⟨rfl, hb15⟩
    have HB15 : Hid (Below w.heap.size w w15) := Lib.hid (HB14.out.trans (hb15.mono HB14.out.size))
    have HO15 := Lib.hid (own_frame HO14.out fun j hj => hb15.block j (own_lt HO14.out hj))
    have h15 : 15 ≤ c := by omega
    have h15' : (15 : Int) ≤ (c : Int) := by omega
    obtain ⟨i0, hi, hz0, hz1, hz2⟩ := info_parts infoU32
    clear hb15 HOS HO14 HB14 hcur hfr
    go_wp2_with (at_builtin; refine wpList_append_sep _ rfl _ _ 25 rfl 22 i0 (.int .u32 0) 1 4 Tryd.underlying25 hi hz0 hz1 hz2 rfl (by decide) _ _ _ rfl ((HO15.out.alloc _).alloc _) ⟨w15.heap.size + 1, 0, none⟩ 1 1 [.int .u32 0] rfl rfl (cell_two_new _ _ _ _) (by simp [Value.oneCell']) (by unfold maxLen; omega) (by omega) ?_)
    intro v' w17 ho hg _
    obtain ⟨ao', c', rfl⟩ := own_slice ho
    have HB17 : Hid (Below w.heap.size w w17) := Lib.hid (((HB15.out.alloc HB15.out.size _).alloc (by have := HB15.out.size; simp; omega) _).grown hg (by have := HB15.out.size; simp; omega) (fun j hj => by
      have e2 : g = j := by simpa [Value.ownBlock] using hj
      have := HG.out
      omega))
    clear ho hg
    go_wp2_with fail
    refine (of_len a _ _ _ _ (HE.out.mono HB17.out).1 (by decide)).mono ?_
    rintro e w18 ⟨rfl, hb18⟩
    have HB18 : Hid (Below w.heap.size w w18) := Lib.hid (HB17.out.trans (hb18.mono HB17.out.size))
    have HB18' : Hid (∀ o : Obj, Below w.heap.size w (w18.alloc o)) := Lib.hid fun o => HB18.out.alloc HB18.out.size o
    clear hb18
    go_wp2_with fail
    refine (of_len a _ _ _ _ (HE.out.mono (HB18'.out _)).1 (by decide)).mono ?_
    rintro e w19 ⟨rfl, hb19⟩
    have HB19 : Hid (Below w.heap.size w w19) := Lib.hid ((HB18'.out _).trans (hb19.mono (HB18'.out _).size))
    clear hb19
    go_wp2
    go_ret
    exact ⟨rfl, HB19.out.alloc HB19.out.size _⟩

set_option maxRecDepth 100000 in
set_option maxHeartbeats 1600000 in
theorem infoBack_walk (x : InfS) (xs : List Int) (ax : Int) (c1 : Nat) (ao : Option Addr) (a : Addr) (w : World) (hE : SentAt errT w 0 a) (hx : infoOk x) (hz : ∀ z ∈ xs, 0 ≤ z ∧ z ≤ 4294967295) (hr : AtL w ao (u32s xs)) (hc1 : xs.length ≤ c1) (hax : -9223372036854775808 ≤ ax ∧ ax ≤ 9223372036854775807) :
    Calls Tryd.prog 4 #[infV x, .slice ao xs.length c1, .int .i64 ax] w fun e w' => e = .returned (.bool true) ∧ Below w.heap.size w w' := by
  obtain ⟨p, m, t, on, q, f⟩ := x
  by_cases h20 : xs.length ≤ 20
  · cases hok : infOK xs
    · exact infoBack_bad p m t on q f ax xs xs.length c1 ao a w hE hr hz rfl hc1 h20 hx hax hok
    · have h16 : xs.length = 16 := by
        unfold infOK at hok
        simp only [Bool.and_eq_true, decide_eq_true_eq] at hok
        exact hok.1.1.1.1.1
      rw [h16] at hc1 ⊢
      exact infoBack_good p m t on q f ax xs c1 ao a w hE hr hz h16 hc1 hx hax hok
  · have h20' : (20 : Int) < (xs.length : Int) := by omega
    clear hr hz hE hx hax
    go_enter Tryd.func4, Tryd.ntmps4
    go_wp2_with fail
    refine (inf_first _).mono ?_
    rintro e w1 ⟨rfl, hb1⟩
    have HB : Hid (Below w.heap.size w w1) := Lib.hid (((Below.refl _ _).alloc (Nat.le_refl _) (.cells #[.int .u32 p, .int .u32 m, .int .i64 t, .bool on, .int .i64 q, .int .i64 f] 24)).trans (hb1.mono (by simp)))
    clear hb1
    go_wp2
    go_ret
    exact ⟨rfl, HB.out⟩
end Go.Proofs.YtmeljclaocgoaaaDoor
