/-
  RelaxMany: for every two numbers the call returns true. No conditions.
-/
import Derived.Test.YtakhpibolhijoaaRxTools
import Derived.Deep.Cut
import Derived.Test.YtakhpibolhijoaaSameInts
namespace Go.Proofs.Ytakhpibolhijoaa
open Go.RowKit

def nIt : Rx.It := ⟨0, 0, false⟩
theorem made_its (n : Nat) : (madeCells #[Value.int .i64 0, .int .i64 0, .bool false] (n * 3)).toList = itCells (List.replicate n nIt) := by
  apply List.ext_getElem?
  intro j
  by_cases hj : j < n * 3
  · obtain ⟨c0, c1, c2⟩ := itCells_at (List.replicate n nIt) (j / 3) (by rw [List.length_replicate]; omega)
    rw [List.getD_eq_getElem?_getD, List.getElem?_replicate, if_pos (show j / 3 < n by omega)] at c0 c1 c2
    have hm : j % 3 = 0 ∨ j % 3 = 1 ∨ j % 3 = 2 := by omega
    rcases hm with h | h | h
    · rw [show j / 3 * 3 = j by omega] at c0
      rw [c0]
      simp [madeCells, hj, h, nIt]
    · rw [show j / 3 * 3 + 1 = j by omega] at c1
      rw [c1]
      simp [madeCells, hj, h, nIt]
    · rw [show j / 3 * 3 + 2 = j by omega] at c2
      rw [c2]
      simp [madeCells, hj, h, nIt]
  · rw [List.getElem?_eq_none (by simp [madeCells]; omega), List.getElem?_eq_none (by rw [itCells_len, List.length_replicate]; omega)]
theorem rep_fair (n : Nat) : fairB (List.replicate n nIt) = true := by
  rw [fair_iff]
  intro j hj
  rw [List.length_replicate] at hj
  rw [List.getD_eq_getElem?_getD, List.getElem?_replicate, if_pos hj]
  simp [nIt]
theorem atIt_get {w : World} {b : Nat} {l : List Rx.It} (h : AtIt w (some ⟨b, 0, none⟩) l) {n : Nat} (hn : l.length = n) (c : Nat) (hc : c < n) :
    w.cell? ⟨b, c * 3, none⟩ = some (.int .i64 (l.getD c default).size) ∧ w.cell? ⟨b, c * 3 + 1, none⟩ = some (.int .i64 (l.getD c default).to_) ∧ w.cell? ⟨b, c * 3 + 2, none⟩ = some (.bool (l.getD c default).br) := by
  subst hn
  obtain ⟨b', off, he, -, x0, x1, x2⟩ := h c hc
  cases he
  rw [Nat.zero_add] at x0 x1 x2
  exact ⟨x0, x1, x2⟩
def badItems : List Rx.It := [⟨-1, 0, false⟩, ⟨2049, 0, false⟩, ⟨0, 2, true⟩, ⟨0, -1, true⟩]
theorem bad_none : ∀ c, c < 4 → fairB [badItems.getD c default] = false := by decide +kernel

set_option maxRecDepth 100000 in
set_option maxHeartbeats 300000 in
theorem many_walk (n k : Int) (w : World) (h : -9223372036854775808 ≤ n ∧ n ≤ 9223372036854775807) (hk : -9223372036854775808 ≤ k ∧ k ≤ 9223372036854775807) :
    Calls Try.prog 5 #[.int .i64 n, .int .i64 k] w fun e w' => e = .returned (.bool true) ∧ Below w.heap.size w w' := by
  obtain ⟨i0, hi, hz0, hz1, hz2⟩ := info_parts infoIt
  have h1 := h.1
  have h2 := h.2
  have h3 := hk.1
  have h4 := hk.2
  clear h hk
  go_enter Try.func5, Try.ntmps5
  go_wp2_with fail
  refine (first_true _).mono ?_
  rintro e w1 ⟨rfl, hb1⟩
  have HB1 := Lib.hid hb1
  clear hb1
  go_wp2_with fail
  refine (number_any n 4 _ h1 h2 (by decide) (by decide)).mono ?_
  rintro e w2 ⟨rfl, rfl⟩
  obtain ⟨c, hc⟩ : ∃ c : Nat, n % 4 = (c : Int) := ⟨(n % 4).toNat, by omega⟩
  have hc4 : c < 4 := by omega
  rw [hc]
  clear hc h1 h2
  have ha : IntKind.i64.wrap ((c : Int) + 4094) = ((c + 4094 : Nat) : Int) := (IntWalk.i64_in _ (by omega)).trans (by omega)
  obtain ⟨m, hm⟩ : ∃ m, c + 4094 = m := ⟨_, rfl⟩
  rw [hm] at ha
  have hm1 : 4094 ≤ m := by omega
  have hm2 : m ≤ 4097 := by omega
  clear hm hc4
  go_wp2_with (refine wpList_make_full _ rfl _ _ 22 rfl 0 29 i0 (.agg #[.int .i64 0, .int .i64 0, .bool false]) 3 Try.underlying22 hi hz0 hz1 _ _ _ _ m rfl rfl rfl rfl (by rw [hz2]; omega) (by unfold maxLen; omega) (Nat.zero_le _) ?_)
  intro w3 ho hg
  obtain ⟨i1, hi1, hy0, hy1, hy2⟩ := info_parts infoBool
  rw [made_its] at ho
  obtain ⟨ao1, cap1, he, hm0⟩ := atL_of_own ho
  cases he
  have HW3 := Lib.hid (show Below w.heap.size w w3 from HB1.out.grown hg HB1.out.size (fun k hk => by cases hk))
  have HA := Lib.hid hm0
  have HL : Hid ((List.replicate m nIt).length = m) := Lib.hid (by simp)
  have HGL := Lib.hid (own_lt (k := w1.heap.size) ho rfl)
  obtain ⟨g, hg1⟩ : ∃ g, w1.heap.size = g := ⟨_, rfl⟩
  rw [hg1] at HA HGL ⊢
  clear ho hg hm0 hg1 HB1
  go_wp2_with fail
  have hdo : Calls Try.prog 10 #[.slice (some ⟨g, 0, none⟩) m m] w3 fun e w' => ∃ v r, e = .returned (.tuple #[v, .int .i64 (r : Nat), .bool (decide (m ≤ 4096))]) ∧ Below w3.heap.size w3 w' := by
    by_cases h : m ≤ 4096
    · refine (do_n (List.replicate m nIt) m _ _ _ HA.out HL.out h).mono ?_
      rintro e w' ⟨-, hd⟩
      obtain ⟨v, a, r, rfl, -, -, -, hb⟩ := hd (rep_fair m)
      exact ⟨v, r, by rw [decide_eq_true h], hb⟩
    · refine (do_many [] m _ _ _ (by omega) (by omega)).mono ?_
      rintro e w' ⟨rfl, hb⟩
      exact ⟨_, 0, by rw [decide_eq_false h]; rfl, hb⟩
  refine hdo.mono ?_
  clear hdo
  rintro e w4 ⟨v, r, rfl, hb⟩
  have HB4 := Lib.hid hb
  have HW4 := Lib.hid (HW3.out.trans (hb.mono HW3.out.size))
  obtain ⟨is, his⟩ : ∃ is, decide (m ≤ 4096) = is := ⟨_, rfl⟩
  rw [his]
  have HIS : Hid (decide ((m : Int) ≤ 4096) = is) := Lib.hid (by rw [← his]; simp; omega)
  clear hb his
  have hblk := blk_new w4 (.cells #[.int .i64 (-1), .int .i64 0, .bool false, .int .i64 2049, .int .i64 0, .bool false, .int .i64 0, .int .i64 2, .bool true, .int .i64 0, .int .i64 (-1), .bool true] 29)
  have HBAD := Lib.hid (AtIt.of (atL_blk (vs := itCells badItems) hblk rfl))
  have HB5 : Hid (Below w4.heap.size w4 (w4.alloc (.cells #[.int .i64 (-1), .int .i64 0, .bool false, .int .i64 2049, .int .i64 0, .bool false, .int .i64 0, .int .i64 2, .bool true, .int .i64 0, .int .i64 (-1), .bool true] 29))) := Lib.hid ((Below.refl _ _).alloc (Nat.le_refl _) _)
  clear hblk
  go_upto_region 9 with (fail)
  refine (number_any k 4 _ h3 h4 (by decide) (by decide)).mono ?_
  rintro e w5 ⟨rfl, hw5⟩
  rw [hw5] at HBAD HB5
  clear hw5
  obtain ⟨c, hc⟩ : ∃ c : Nat, k % 4 = (c : Int) := ⟨(k % 4).toNat, by omega⟩
  have hc4 : c < 4 := by omega
  rw [hc]
  clear hc h3 h4
  obtain ⟨x0, x1, x2⟩ := atIt_get HBAD.out rfl c hc4
  have HX := Lib.hid (bad_none c hc4)
  obtain ⟨⟨s, t, q⟩, hx⟩ : ∃ x, badItems.getD c default = x := ⟨_, rfl⟩
  rw [hx] at x0 x1 x2 HX
  dsimp only at x0 x1 x2
  have hci : (c : Int) < 4 := by omega
  clear hx
  have hblk := blk_new w5 (.cells #[.int .i64 s, .int .i64 t, .bool q] 29)
  have HONE := Lib.hid (atL_blk (vs := itCells [⟨s, t, q⟩]) hblk rfl)
  have HB5' := Lib.hid (HB5.out.alloc HB5.out.size (.cells #[.int .i64 s, .int .i64 t, .bool q] 29))
  clear hblk HB5
  go_wp2_with fail
  refine (do_n [⟨s, t, q⟩] 1 _ _ _ HONE.out rfl (by decide)).mono ?_
  rintro e w6 ⟨hd, -⟩
  obtain ⟨rfl, hb6⟩ := hd HX.out
  have HB6 := Lib.hid (HB5'.out.trans (hb6.mono HB5'.out.size))
  clear hb6 hd x0 x1 x2
  have hblk := blk_new w6 (.cells #[.int .i64 2048, .int .i64 0, .bool false, .int .i64 1, .int .i64 2, .bool true, .int .i64 0, .int .i64 (-5), .bool false] 29)
  have HFIN := Lib.hid (atL_blk (vs := itCells [⟨2048, 0, false⟩, ⟨1, 2, true⟩, ⟨0, -5, false⟩]) hblk rfl)
  have HB6a := Lib.hid (HB6.out.alloc HB6.out.size (.cells #[.int .i64 2048, .int .i64 0, .bool false, .int .i64 1, .int .i64 2, .bool true, .int .i64 0, .int .i64 (-5), .bool false] 29))
  clear hblk HB6
  go_upto_region 10 with (fail)
  refine (do_n [⟨2048, 0, false⟩, ⟨1, 2, true⟩, ⟨0, -5, false⟩] 3 _ _ _ HFIN.out rfl (by decide)).mono ?_
  rintro e w7 ⟨-, hd⟩
  obtain ⟨v7, a7, r7, rfl, -, -, -, hb7⟩ := hd (by decide +kernel)
  have HB7 := Lib.hid (HB6a.out.trans (hb7.mono HB6a.out.size))
  clear hb7 hd
  have HA7 := Lib.hid ((HA.out.mono HB4.out).mono HB7.out)
  have HTK : Hid ((itCells (List.replicate m nIt)).take 6 = itCells [nIt, nIt]) := Lib.hid (by
    obtain ⟨z, hz⟩ : ∃ z, m = z + 1 + 1 := ⟨m - 2, by omega⟩
    rw [hz, List.replicate_succ, List.replicate_succ, itCells_cons, itCells_cons]
    rfl)
  have HA2 := Lib.hid (show AtL w7 (some ⟨g, 0, none⟩) (itCells [nIt, nIt]) by rw [← HTK.out]; exact HA7.out.take 6)
  have hm2' : ¬ m = 2 := by omega
  have h2m : (2 : Int) ≤ (m : Int) := by omega
  clear HA7 HTK HA HBAD HFIN HX
  have hblk := blk_new w7 (.cells #[.bool true, .bool false] 4)
  have HTF := Lib.hid (atL_blk (vs := bls [true, false]) hblk rfl)
  have HBT : Hid (Below w7.heap.size w7 (w7.alloc (.cells #[.bool true, .bool false] 4))) := Lib.hid ((Below.refl _ _).alloc (Nat.le_refl _) _)
  clear hblk
  have hbi : (is == decide ((m : Int) ≤ 4096)) = true := by rw [HIS.out]; simp
  go_wp2_with fail
  refine (places_n [nIt, nIt] [true, false] 2 2 _ _ _ _ _ (HA2.out.mono HBT.out) HTF.out rfl rfl rfl ((fair_iff _).1 (by decide +kernel)) (by decide)).mono ?_
  rintro e w8 ⟨pv, rfl, hpo, hpf, hb8⟩
  obtain ⟨ap, cp, rfl, hap⟩ := atL_of_own hpo
  have hblk := blk_new w8 (.cells #[.int .i64 0, .int .i64 1, .int .i64 1] 3)
  have HL3 := Lib.hid (atL_blk (vs := ints [0, 1, 1]) hblk rfl)
  have hba : Below w8.heap.size w8 (w8.alloc (.cells #[.int .i64 0, .int .i64 1, .int .i64 1] 3)) := (Below.refl _ _).alloc (Nat.le_refl _) _
  have HAP := Lib.hid (show AtL (w8.alloc (.cells #[.int .i64 0, .int .i64 1, .int .i64 1] 3)) ap (ints [0, 1, 1]) from hap.mono hba)
  have HB8 := Lib.hid ((HBT.out.trans (hb8.mono HBT.out.size)).trans (hba.mono (Nat.le_trans HBT.out.size hb8.size)))
  have HB8w := Lib.hid (HB7.out.trans (HB8.out.mono HB7.out.size))
  have HW8 := Lib.hid (HW4.out.trans (HB8w.out.mono HW4.out.size))
  clear hblk hpo hpf hb8 hap hba HB7 HB8 HBT HTF HA2 HB8w
  have hsi := sameInts_any [0, 1, 1] [0, 1, 1] ap (some ⟨w8.heap.size, 0, none⟩) cp 3 _ HAP.out HL3.out (by decide) (by decide)
  have HSI := Lib.hid hsi
  clear hsi HAP HL3
  go_wp2_with fail
  refine HSI.out.mono ?_
  rintro e w9 ⟨rfl, nq, rfl⟩
  have HW9 := Lib.hid (below_drewN HW8.out nq)
  go_wp2_with fail
  refine (places_none 2 1 _ _ _ _ _ (by decide)).mono ?_
  rintro e w10 ⟨rfl, hb10⟩
  have HW10 := Lib.hid ((HW9.out.alloc HW9.out.size (.cells #[.bool true] 4)).trans (hb10.mono (by have := HW9.out.size; simp; simp at this; omega)))
  clear hb10
  go_wp2
  go_ret
  exact ⟨rfl, HW10.out⟩
end Go.Proofs.Ytakhpibolhijoaa
