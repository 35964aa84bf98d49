/-
  HcallCodes: for every number the call returns true; nothing that was there is turned. Given where the sentinels lie.
-/
import Derived.Test.YtpmbbbgmaipmbaaDoorHcCode
namespace Go.Proofs.YtpmbbbgmaipmbaaDoor
open Go.RowKit

set_option maxRecDepth 100000 in
set_option maxHeartbeats 4000000 in
theorem hcallCodes_walk (E : Nat → Addr) (x0 x1 x2 : Int) (w : World) (hE : ErrsAt errT gOf w E all16) (h0 : -9223372036854775808 ≤ x0 ∧ x0 ≤ 9223372036854775807) (h2 : 0 ≤ x2 ∧ x2 ≤ 4294967295) :
    Calls Tryd.prog 3 #[.int .i64 x0, .int .i64 x1, .int .u32 x2] w fun e w' => e = .returned (.bool true) ∧ Below w.heap.size w w' := by
  have HN0 := Lib.hid (fun wx => number_any x0 16 wx h0.1 h0.2 (by decide) (by decide))
  obtain ⟨i, hiq⟩ : ∃ g : Nat, x0 % 16 = (g : Int) := ⟨(x0 % 16).toNat, by omega⟩
  have hi : i < 16 := by omega
  have hii : (i : Int) < 16 := by omega
  rw [hiq] at HN0
  have hwi := IntWalk.u32_in ((i : Int) + 1) (by omega)
  have HE := Lib.hid hE
  have HEK : Hid (∀ wx, Below w.heap.size w wx → ErrsAt errT gOf wx E all16) := Lib.hid fun wx h => HE.out.mono h
  clear hiq h0 hE
  have hc : x2 = 0 ∨ (∃ k : Nat, k < 16 ∧ x2 = (k : Int) + 1) ∨ 16 < x2 := by
    by_cases a : x2 = 0
    · exact .inl a
    · by_cases b : x2 ≤ 16
      · exact .inr (.inl ⟨(x2 - 1).toNat, by omega, by omega⟩)
      · exact .inr (.inr (by omega))
  rcases hc with rfl | ⟨k, hk, rfl⟩ | hfar
  · go_enter Tryd.func3, Tryd.ntmps3
    go_wp2_with fail
    refine (hc_first E _ HE.out).mono ?_
    rintro e w1 ⟨rfl, hb1⟩
    have HB1 := Lib.hid hb1
    clear hb1
    go_wp2_with fail
    refine (hAll_at E _ (HEK.out _ HB1.out)).mono ?_
    rintro e w2 ⟨b, rfl, hblk, hb2⟩
    have HB2 := Lib.hid (HB1.out.trans (hb2.mono HB1.out.size))
    have HBK := Lib.hid hblk
    clear hb2 hblk
    go_wp2_with fail
    refine (herr_none E _ (HEK.out _ HB2.out)).mono ?_
    rintro e w4 ⟨rfl, hb4⟩
    have HBK4 := Lib.hid (blk_below HBK.out hb4 (blk_lt HBK.out))
    have HB4 := Lib.hid (HB2.out.trans (hb4.mono HB2.out.size))
    clear hb4
    go_wp2_with fail
    refine (code_nil _).mono ?_
    rintro e w5 ⟨rfl, rfl⟩
    go_wp2_with fail
    refine (HN0.out _).mono ?_
    rintro e w6 ⟨rfl, rfl⟩
    have ci := (blk_cell HBK4.out i).trans (errArr_get E i hi)
    go_wp2_with fail
    refine (code_any E errT (E i) i hi _ (HEK.out _ HB4.out) (isK_bare E i hi _ (HEK.out _ HB4.out))).mono ?_
    rintro e w7 ⟨rfl, hb7⟩
    have HBK7 := Lib.hid (blk_below HBK4.out hb7 (blk_lt HBK4.out))
    have HB7 := Lib.hid (HB4.out.trans (hb7.mono HB4.out.size))
    clear hb7 ci
    rw [show ((i + 1 : Nat) : Int) = (i : Int) + 1 by omega]
    have ci := (blk_cell HBK7.out i).trans (errArr_get E i hi)
    have HA8 : Hid (Below w.heap.size w (w7.alloc (.cells #[.int .i64 x1, errV (E i)] 34))) := Lib.hid (HB7.out.alloc HB7.out.size _)
    have HK8 : Hid (IsK (atV w7.heap.size) E i (w7.alloc (.cells #[.int .i64 x1, errV (E i)] 34))) := Lib.hid (isK_at E i _ hi _ (HEK.out _ HA8.out) (blk_cell (blk_new w7 (.cells #[.int .i64 x1, errV (E i)] 34)) 1))
    have HBK8 : Hid ((w7.alloc (.cells #[.int .i64 x1, errV (E i)] 34)).heap[b]? = some (.cells (errArr E) 27 (0, 0))) := Lib.hid (blk_old HBK7.out _)
    go_wp2_with fail
    refine (code_any E 32 ⟨w7.heap.size, 0, none⟩ i hi _ (HEK.out _ HA8.out) HK8.out).mono ?_
    rintro e w9 ⟨rfl, hb9⟩
    have HBK9 := Lib.hid (blk_below HBK8.out hb9 (blk_lt HBK8.out))
    have HB9 := Lib.hid (HA8.out.trans (hb9.mono HA8.out.size))
    clear hb9 ci
    rw [show ((i + 1 : Nat) : Int) = (i : Int) + 1 by omega]
    have ci := (blk_cell HBK9.out i).trans (errArr_get E i hi)
    have HA10 : Hid (Below w.heap.size w ((w9.alloc (.cells #[.int .i64 x1, errV (E i)] 34)).alloc (.cells #[.int .i64 1, atV w9.heap.size] 34))) := Lib.hid ((HB9.out.alloc HB9.out.size _).alloc (HB9.out.alloc HB9.out.size _).size _)
    have HK10 : Hid (IsK (atV (w9.heap.size + 1)) E i ((w9.alloc (.cells #[.int .i64 x1, errV (E i)] 34)).alloc (.cells #[.int .i64 1, atV w9.heap.size] 34))) := Lib.hid (isK_at2 E i _ w9.heap.size hi _ (HEK.out _ HA10.out)
      (by
        simp)
      (blk_cell (blk_old (blk_new w9 (.cells #[.int .i64 x1, errV (E i)] 34)) _) 1))
    go_wp2_with fail
    refine (code_any E 32 ⟨w9.heap.size + 1, 0, none⟩ i hi _ (HEK.out _ HA10.out) HK10.out).mono ?_
    rintro e w11 ⟨rfl, hb11⟩
    have HB11 := Lib.hid (HA10.out.trans (hb11.mono HA10.out.size))
    clear hb11
    rw [show ((i + 1 : Nat) : Int) = (i : Int) + 1 by omega]
    go_wp2
    go_ret
    exact ⟨rfl, HB11.out⟩
  · have hk' : (k : Int) < 16 := by omega
    have hle : (k : Int) + 1 ≤ 16 := by omega
    go_enter Tryd.func3, Tryd.ntmps3
    go_wp2_with fail
    refine (hc_first E _ HE.out).mono ?_
    rintro e w1 ⟨rfl, hb1⟩
    have HB1 := Lib.hid hb1
    clear hb1
    go_wp2_with fail
    refine (hAll_at E _ (HEK.out _ HB1.out)).mono ?_
    rintro e w2 ⟨b, rfl, hblk, hb2⟩
    have HB2 := Lib.hid (HB1.out.trans (hb2.mono HB1.out.size))
    have HBK := Lib.hid hblk
    clear hb2 hblk
    go_wp2_with fail
    refine (herr_some E k hk _ (HEK.out _ HB2.out)).mono ?_
    rintro e w3 ⟨rfl, hb3⟩
    have HBK3 := Lib.hid (blk_below HBK.out hb3 (blk_lt HBK.out))
    have HB3 := Lib.hid (HB2.out.trans (hb3.mono HB2.out.size))
    clear hb3
    go_wp2_with fail
    refine (code_any E errT (E k) k hk _ (HEK.out _ HB3.out) (isK_bare E k hk _ (HEK.out _ HB3.out))).mono ?_
    rintro e w4 ⟨rfl, hb4⟩
    have HBK4 := Lib.hid (blk_below HBK3.out hb4 (blk_lt HBK3.out))
    have HB4 := Lib.hid (HB3.out.trans (hb4.mono HB3.out.size))
    clear hb4
    rw [show ((k + 1 : Nat) : Int) = (k : Int) + 1 by omega]
    go_wp2_with fail
    refine (HN0.out _).mono ?_
    rintro e w6 ⟨rfl, rfl⟩
    have ci := (blk_cell HBK4.out i).trans (errArr_get E i hi)
    go_wp2_with fail
    refine (code_any E errT (E i) i hi _ (HEK.out _ HB4.out) (isK_bare E i hi _ (HEK.out _ HB4.out))).mono ?_
    rintro e w7 ⟨rfl, hb7⟩
    have HBK7 := Lib.hid (blk_below HBK4.out hb7 (blk_lt HBK4.out))
    have HB7 := Lib.hid (HB4.out.trans (hb7.mono HB4.out.size))
    clear hb7 ci
    rw [show ((i + 1 : Nat) : Int) = (i : Int) + 1 by omega]
    have ci := (blk_cell HBK7.out i).trans (errArr_get E i hi)
    have HA8 : Hid (Below w.heap.size w (w7.alloc (.cells #[.int .i64 x1, errV (E i)] 34))) := Lib.hid (HB7.out.alloc HB7.out.size _)
    have HK8 : Hid (IsK (atV w7.heap.size) E i (w7.alloc (.cells #[.int .i64 x1, errV (E i)] 34))) := Lib.hid (isK_at E i _ hi _ (HEK.out _ HA8.out) (blk_cell (blk_new w7 (.cells #[.int .i64 x1, errV (E i)] 34)) 1))
    have HBK8 : Hid ((w7.alloc (.cells #[.int .i64 x1, errV (E i)] 34)).heap[b]? = some (.cells (errArr E) 27 (0, 0))) := Lib.hid (blk_old HBK7.out _)
    go_wp2_with fail
    refine (code_any E 32 ⟨w7.heap.size, 0, none⟩ i hi _ (HEK.out _ HA8.out) HK8.out).mono ?_
    rintro e w9 ⟨rfl, hb9⟩
    have HBK9 := Lib.hid (blk_below HBK8.out hb9 (blk_lt HBK8.out))
    have HB9 := Lib.hid (HA8.out.trans (hb9.mono HA8.out.size))
    clear hb9 ci
    rw [show ((i + 1 : Nat) : Int) = (i : Int) + 1 by omega]
    have ci := (blk_cell HBK9.out i).trans (errArr_get E i hi)
    have HA10 : Hid (Below w.heap.size w ((w9.alloc (.cells #[.int .i64 x1, errV (E i)] 34)).alloc (.cells #[.int .i64 1, atV w9.heap.size] 34))) := Lib.hid ((HB9.out.alloc HB9.out.size _).alloc (HB9.out.alloc HB9.out.size _).size _)
    have HK10 : Hid (IsK (atV (w9.heap.size + 1)) E i ((w9.alloc (.cells #[.int .i64 x1, errV (E i)] 34)).alloc (.cells #[.int .i64 1, atV w9.heap.size] 34))) := Lib.hid (isK_at2 E i _ w9.heap.size hi _ (HEK.out _ HA10.out)
      (by
        simp)
      (blk_cell (blk_old (blk_new w9 (.cells #[.int .i64 x1, errV (E i)] 34)) _) 1))
    go_wp2_with fail
    refine (code_any E 32 ⟨w9.heap.size + 1, 0, none⟩ i hi _ (HEK.out _ HA10.out) HK10.out).mono ?_
    rintro e w11 ⟨rfl, hb11⟩
    have HB11 := Lib.hid (HA10.out.trans (hb11.mono HA10.out.size))
    clear hb11
    rw [show ((i + 1 : Nat) : Int) = (i : Int) + 1 by omega]
    go_wp2
    go_ret
    exact ⟨rfl, HB11.out⟩
  · have hle : ¬ x2 ≤ 16 := by omega
    go_enter Tryd.func3, Tryd.ntmps3
    go_wp2_with fail
    refine (hc_first E _ HE.out).mono ?_
    rintro e w1 ⟨rfl, hb1⟩
    have HB1 := Lib.hid hb1
    clear hb1
    go_wp2_with fail
    refine (hAll_at E _ (HEK.out _ HB1.out)).mono ?_
    rintro e w2 ⟨b, rfl, hblk, hb2⟩
    have HB2 := Lib.hid (HB1.out.trans (hb2.mono HB1.out.size))
    have HBK := Lib.hid hblk
    clear hb2 hblk
    go_wp2_with fail
    refine (herr_far E x2 _ (HEK.out _ HB2.out) hfar).mono ?_
    rintro e w4 ⟨rfl, hb4⟩
    have HBK4 := Lib.hid (blk_below HBK.out hb4 (blk_lt HBK.out))
    have HB4 := Lib.hid (HB2.out.trans (hb4.mono HB2.out.size))
    clear hb4
    go_wp2_with fail
    refine (HN0.out _).mono ?_
    rintro e w6 ⟨rfl, rfl⟩
    have ci := (blk_cell HBK4.out i).trans (errArr_get E i hi)
    go_wp2_with fail
    refine (code_any E errT (E i) i hi _ (HEK.out _ HB4.out) (isK_bare E i hi _ (HEK.out _ HB4.out))).mono ?_
    rintro e w7 ⟨rfl, hb7⟩
    have HBK7 := Lib.hid (blk_below HBK4.out hb7 (blk_lt HBK4.out))
    have HB7 := Lib.hid (HB4.out.trans (hb7.mono HB4.out.size))
    clear hb7 ci
    rw [show ((i + 1 : Nat) : Int) = (i : Int) + 1 by omega]
    have ci := (blk_cell HBK7.out i).trans (errArr_get E i hi)
    have HA8 : Hid (Below w.heap.size w (w7.alloc (.cells #[.int .i64 x1, errV (E i)] 34))) := Lib.hid (HB7.out.alloc HB7.out.size _)
    have HK8 : Hid (IsK (atV w7.heap.size) E i (w7.alloc (.cells #[.int .i64 x1, errV (E i)] 34))) := Lib.hid (isK_at E i _ hi _ (HEK.out _ HA8.out) (blk_cell (blk_new w7 (.cells #[.int .i64 x1, errV (E i)] 34)) 1))
    have HBK8 : Hid ((w7.alloc (.cells #[.int .i64 x1, errV (E i)] 34)).heap[b]? = some (.cells (errArr E) 27 (0, 0))) := Lib.hid (blk_old HBK7.out _)
    go_wp2_with fail
    refine (code_any E 32 ⟨w7.heap.size, 0, none⟩ i hi _ (HEK.out _ HA8.out) HK8.out).mono ?_
    rintro e w9 ⟨rfl, hb9⟩
    have HBK9 := Lib.hid (blk_below HBK8.out hb9 (blk_lt HBK8.out))
    have HB9 := Lib.hid (HA8.out.trans (hb9.mono HA8.out.size))
    clear hb9 ci
    rw [show ((i + 1 : Nat) : Int) = (i : Int) + 1 by omega]
    have ci := (blk_cell HBK9.out i).trans (errArr_get E i hi)
    have HA10 : Hid (Below w.heap.size w ((w9.alloc (.cells #[.int .i64 x1, errV (E i)] 34)).alloc (.cells #[.int .i64 1, atV w9.heap.size] 34))) := Lib.hid ((HB9.out.alloc HB9.out.size _).alloc (HB9.out.alloc HB9.out.size _).size _)
    have HK10 : Hid (IsK (atV (w9.heap.size + 1)) E i ((w9.alloc (.cells #[.int .i64 x1, errV (E i)] 34)).alloc (.cells #[.int .i64 1, atV w9.heap.size] 34))) := Lib.hid (isK_at2 E i _ w9.heap.size hi _ (HEK.out _ HA10.out)
      (by
        simp)
      (blk_cell (blk_old (blk_new w9 (.cells #[.int .i64 x1, errV (E i)] 34)) _) 1))
    go_wp2_with fail
    refine (code_any E 32 ⟨w9.heap.size + 1, 0, none⟩ i hi _ (HEK.out _ HA10.out) HK10.out).mono ?_
    rintro e w11 ⟨rfl, hb11⟩
    have HB11 := Lib.hid (HA10.out.trans (hb11.mono HA10.out.size))
    clear hb11
    rw [show ((i + 1 : Nat) : Int) = (i : Int) + 1 by omega]
    go_wp2
    go_ret
    exact ⟨rfl, HB11.out⟩
end Go.Proofs.YtpmbbbgmaipmbaaDoor
