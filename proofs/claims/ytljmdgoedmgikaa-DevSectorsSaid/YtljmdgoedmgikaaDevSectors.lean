/-
  DevSectors: for every list of words and every sector the call returns true; nothing that was there is turned. No conditions.
-/
import Derived.Test.YtljmdgoedmgikaaDevFirst
import Derived.Test.YtljmdgoedmgikaaSameSeens
import Derived.Test.YtljmdgoedmgikaaLaw
import Derived.BigQuiet
import Derived.Deep.RegionHeld3
namespace Go.Proofs.Ytljmdgoedmgikaa
open Go.RowKit

theorem and15 (x : Int) (h : 0 ≤ x) (h2 : x ≤ 4294967295) : bits BinOp.and IntKind.u32 x 15 = x % 16 := by
  obtain ⟨n, rfl⟩ := Int.eq_ofNat_of_zero_le h
  have := and_nat n 15 (by omega) (by omega)
  have e : n &&& 15 = n % 16 := Nat.and_two_pow_sub_one_eq_mod n 4
  rw [e] at this
  exact_mod_cast this

theorem cell_below {w w' : World} {p : Addr} {v : Value} (hb : Below w.heap.size w w') (h : w.cell? p = some v) : w'.cell? p = some v :=
  (hb.cell (World.block_lt_of_cell? w p h)).trans h
theorem reads_under {w w' : World} {v : Value} {n : Nat} {xs : List Value} (h : Reads w v n xs) (hb : Below w.heap.size w w') : Reads w' v n xs := by
  rcases h with h | ⟨a, cap, e, hc⟩
  · exact .inl h
  · exact .inr ⟨a, cap, e, fun j u hj => cell_below hb (hc j u hj)⟩
def secArr (l : List Int) : Array Value := (u32s l).toArray
theorem secArr_get (l : List Int) (i : Nat) (h : i < l.length) : (secArr l)[i]? = some (.int .u32 (l.getD i 0)) := by simp [secArr, u32s, h]
theorem secArr_set (l : List Int) (i : Nat) (x : Int) : (secArr l).setIfInBounds i (.int .u32 x) = secArr (l.set i x) := by simp [secArr, u32s, List.map_set]

/-- the sectors, what is seen, behind k writes -/
def secOf (zs : List Int) : Nat → List Int
  | 0 => List.replicate 16 0
  | k + 1 => (secOf zs k).set ((zs.getD (2 * k) 0).toNat % 16) (zs.getD (2 * k + 1) 0)
def seenOf (zs : List Int) : Nat → List (Int × Int × Int)
  | 0 => []
  | k + 1 => seenOf zs k ++ [(2, zs.getD (2 * k) 0 % 16, zs.getD (2 * k + 1) 0)]
theorem secOf_len (zs : List Int) (k : Nat) : (secOf zs k).length = 16 := by
  induction k with
  | zero => rfl
  | succ k ih => simp [secOf, ih]
theorem seenOf_len (zs : List Int) (k : Nat) : (seenOf zs k).length = k := by
  induction k with
  | zero => rfl
  | succ k ih => simp [seenOf, ih]
theorem seenOf_at (zs : List Int) (k j : Nat) (h : j < k) : (seenOf zs k)[j]? = some (2, zs.getD (2 * j) 0 % 16, zs.getD (2 * j + 1) 0) := by
  induction k with
  | zero => omega
  | succ k ih =>
    rw [seenOf]
    by_cases hj : j < k
    · rw [List.getElem?_append_left (by rw [seenOf_len]; exact hj)]
      exact ih hj
    · obtain rfl : j = k := by omega
      rw [List.getElem?_append_right (by rw [seenOf_len]; exact Nat.le_refl _), seenOf_len]
      simp

def Wrote (zs : List Int) (w : World) (B : Nat) (v : Value) (wr : World) : Prop :=
  ∃ i : Nat, i ≤ zs.length ∧ i % 2 = 0 ∧ v = .int .i64 i ∧ DevAt wr B { sec := secOf zs (i / 2), seen := seenOf zs (i / 2) } (fun k => B ≤ k ∧ k ≠ B + 1) ∧
    wr.heap[B + 1]? = some (.cells (secArr (secOf zs (i / 2))) 25 (0, 0)) ∧ Below w.heap.size w wr ∧ w.heap.size ≤ B

set_option maxRecDepth 100000 in
set_option maxHeartbeats 2000000 in
theorem sectors_some (zs : List Int) (ask : Int) (ao : Option Addr) (cap : Nat) (w : World) (hz : ∀ z ∈ zs, 0 ≤ z ∧ z ≤ 4294967295) (ha0 : 0 ≤ ask) (ha1 : ask ≤ 4294967295) (h30 : zs.length ≤ 30)
    (hc : ∀ j, j < zs.length → ∃ b off, ao = some ⟨b, off, none⟩ ∧ w.cell? ⟨b, off + j, none⟩ = some (.int .u32 (zs.getD j 0)) ∧ b < w.heap.size) :
    Calls Try.prog 5 #[.slice ao zs.length cap, .int .u32 ask] w fun e w' => e = .returned (.bool true) ∧ Below w.heap.size w w' := by
  have HC := Lib.hid hc
  have HZ := Lib.hid hz
  clear hc hz
  go_enter Try.func5, Try.ntmps5
  go_wp2_with fail
  refine (first_true _).mono ?_
  rintro e w1 ⟨rfl, hbw⟩
  have hD0 : DevAt ((w1.alloc (.cells (devCells (.slice none 0 0) (List.replicate 16 0) false 0 (.slice none 0 0)) 28)).alloc (.cells (secArr (List.replicate 16 0)) 25)) w1.heap.size {} (fun k => w1.heap.size ≤ k ∧ k ≠ w1.heap.size + 1) := by
    refine ⟨_, _, ⟨blk_old (blk_new _ _) _, rfl, own_nil _ _ _, own_nil _ _ _⟩, ?_⟩
    rintro k (rfl | h | h)
    · exact ⟨Nat.le_refl _, by omega⟩
    · simp [inRow, Value.ownBlock] at h
    · simp [inRow, Value.ownBlock] at h
  have bA := blk_new (w1.alloc (.cells (devCells (.slice none 0 0) (List.replicate 16 0) false 0 (.slice none 0 0)) 28)) (.cells (secArr (List.replicate 16 0)) 25)
  have hB0 := (hbw.alloc hbw.size (.cells (devCells (.slice none 0 0) (List.replicate 16 0) false 0 (.slice none 0 0)) 28)).alloc (Nat.le_trans hbw.size (by simp)) (.cells (secArr (List.replicate 16 0)) 25)
  simp only [World.size_alloc] at bA
  have HD0 := Lib.hid hD0
  have HA := Lib.hid bA
  have HB0 := Lib.hid hB0
  have hw1 := hbw.size
  clear hD0 bA hB0 hbw
  go_wp2_with fail
  go_loopw [8] (fun v wr => Wrote zs w w1.heap.size v wr) (fun i _ => zs.length - (intOf i).toNat)
  case atStart => exact ⟨0, Nat.zero_le _, rfl, rfl, HD0.out, HA.out, HB0.out, hw1⟩
  case round =>
    obtain ⟨i, hi, hi2, rfl, hD, hA, hB, -⟩ := hrel
    have HDr := Lib.hid hD
    have HAr := Lib.hid hA
    have HBr := Lib.hid hB
    have hAlt := blk_lt hA
    clear hD hA hB HD0 HA HB0
    by_cases hlt : i + 1 < zs.length
    · obtain ⟨b, off, rfl, hx, hb⟩ := HC.out i (by omega)
      obtain ⟨b', off', he', hy, -⟩ := HC.out (i + 1) hlt
      cases he'
      obtain ⟨x, ex⟩ : ∃ x, zs.getD i 0 = x := ⟨_, rfl⟩
      obtain ⟨y, ey⟩ : ∃ y, zs.getD (i + 1) 0 = y := ⟨_, rfl⟩
      rw [ex] at hx
      rw [ey] at hy
      have HX : Hid (∀ wx, Below w.heap.size w wx → wx.cell? ⟨b, off + i, none⟩ = some (.int .u32 x) ∧ wx.cell? ⟨b, off + (i + 1), none⟩ = some (.int .u32 y)) := Lib.hid fun wx hwx => ⟨(hwx.cell (p := ⟨b, off + i, none⟩) hb).trans hx, (hwx.cell (p := ⟨b, off + (i + 1), none⟩) hb).trans hy⟩
      have hx0 : 0 ≤ x ∧ x ≤ 4294967295 := by
        rw [← ex]; exact HZ.out _ (by rw [List.getD_eq_getElem?_getD, List.getElem?_eq_getElem (by omega)]; exact List.getElem_mem _)
      have hx1 := hx0.1
      have hx2 := hx0.2
      obtain ⟨xn, rfl⟩ := Int.eq_ofNat_of_zero_le hx1
      have HEX := Lib.hid ex
      have HEY := Lib.hid ey
      have HK : Hid (∀ wx, Below w.heap.size w wx → (Below w.heap.size w wx ∧ wx.cell? ⟨b, off + i, none⟩ = some (.int .u32 (xn : Int)) ∧ wx.cell? ⟨b, off + (i + 1), none⟩ = some (.int .u32 y))) := Lib.hid fun wx hwx => ⟨hwx, HX.out wx hwx⟩
      have HL : Hid ((seenOf zs (i / 2)).length < 100000) := Lib.hid (by rw [seenOf_len]; omega)
      have hBd : Below w.heap.size w wr.drew := HBr.out.drew
      have HH := Lib.hid hw1
      clear hx hy ex ey hx0
      go_wp2_with fail
      have hs1 := IntWalk.i64_in ((i : Int) + 1) (by omega)
      have hs2 : (0 : Int) ≤ (i : Int) + 1 := by omega
      have hs3 : ((i : Int) + 1).toNat = i + 1 := by omega
      have hs4 : (i : Int) + 1 < (zs.length : Int) := by omega
      have hs5 : (i : Int) < (zs.length : Int) := by omega
      go_region_held3 (fun w' => Below w.heap.size w w' ∧ w'.cell? ⟨b, off + i, none⟩ = some (.int .u32 (xn : Int)) ∧ w'.cell? ⟨b, off + (i + 1), none⟩ = some (.int .u32 y)) (exact HK.out _ (by assumption))
        (first | (go_at_call 16; refine (put_any _ _ _ _ (DevAt.below HDr.out (Below.drew (Below.refl _ _))) xn y hx1 hx2 HL.out).mono ?_; rintro e w2 ⟨rfl, hd, ho⟩; have hBp : Below w.heap.size w w2 := HBr.out.drew.trans (ho.below HBr.out.size (fun k hk => Nat.le_trans HH.out hk.1))))
      have hA2 := ho.blk (by exact HAr.out) (fun h => h.2 rfl)
      have HD2 := Lib.hid (hd.mono (G := fun k => w1.heap.size ≤ k ∧ k ≠ w1.heap.size + 1) (fun k hk => by
        rcases hk with h | h
        · exact h
        · have h' : wr.heap.size ≤ k := h
          exact ⟨by omega, by omega⟩))
      have hl16 : xn % 16 < (secOf zs (i / 2)).length := by rw [secOf_len]; exact Nat.mod_lt _ (by omega)
      have cA2 := (blk_cell hA2 (xn % 16)).trans (secArr_get _ _ hl16)
      have fA2 := blk_free hA2 (xn % 16)
      have hA3 := blk_put hA2 (xn % 16) (.int .u32 y)
      rw [secArr_set] at hA3
      have HA3 := Lib.hid hA3
      have HB3 := Lib.hid hBp
      have HO3 := Lib.hid ho
      obtain ⟨sv, hsv⟩ : ∃ sv, (secOf zs (i / 2)).getD (xn % 16) 0 = sv := ⟨_, rfl⟩
      rw [hsv] at cA2
      have h15 := and15 (xn : Int) hx1 hx2
      have hBpd : Below w.heap.size w w2.drew := hBp.drew
      have hm0 : (0 : Int) ≤ (xn : Int) % 16 := by omega
      have hm1 : (xn : Int) % 16 < 16 := by omega
      have hm2 : ((xn : Int) % 16).toNat = xn % 16 := by omega
      clear hA2 hA3 hd ho hl16 hsv hBd hBp
      go_wp2_with fail
      go_region_held3 (fun w' => Below w.heap.size w w' ∧ w'.cell? ⟨b, off + i, none⟩ = some (.int .u32 (xn : Int)) ∧ w'.cell? ⟨b, off + (i + 1), none⟩ = some (.int .u32 y)) (first | exact HK.out _ (by assumption) | exact HK.out _ (Below.setCell (by assumption) (Nat.le_trans HH.out (Nat.le_succ _)) _)) (first | fail)
      go_wp2_with fail
      go_roundw
      case rel =>
        have e1 : (i + 2) / 2 = i / 2 + 1 := by omega
        have e2 : 2 * (i / 2) = i := by omega
        have hexo := HEX.out
        have heyo := HEY.out
        refine ⟨i + 2, by omega, by omega, by simp, ?_, ?_, ?_, hw1⟩
        · rw [e1]
          show DevAt _ _ { sec := secOf zs (i / 2 + 1), seen := seenOf zs (i / 2 + 1) } _
          rw [secOf, seenOf, e2, hexo, heyo]
          refine (HD2.out.only (G := fun k => k = w1.heap.size + 1) ?_ (fun k hk _ => hk.2))
          exact ((Only.refl (fun k => k = w1.heap.size + 1) _).setCell (p := ⟨w1.heap.size + 1, xn % 16, none⟩) (Or.inl rfl) _).drew
        · rw [e1, secOf, e2, hexo, heyo]
          exact HA3.out
        · exact (HB3.out.setCell (show w.heap.size ≤ w1.heap.size + 1 by omega) _).drew
      · simp only [intOf]
        omega
    · have ei : i / 2 = zs.length / 2 := by omega
      rw [ei] at HDr HAr
      have HH := Lib.hid hw1
      go_wp2_with fail
      refine (seen_any _ _ _ _ HDr.out.tight (by simp only [seenOf_len]; omega)).mono ?_
      rintro e w2 ⟨sv, rfl, ho, hs, hb⟩
      simp only [seenOf_len] at ho
      obtain ⟨ao1, cap1, rfl⟩ := own_slice ho
      have hA2 := blk_below HAr.out hb hAlt
      have HA2 := Lib.hid hA2
      have HD2 := Lib.hid (HDr.out.tight.below hb)
      have HO1 := Lib.hid ho
      have HS1 := Lib.hid hs
      have HB2 := Lib.hid hb
      have HZ2 := Lib.hid (show w.heap.size ≤ w2.heap.size from Nat.le_trans HBr.out.size hb.size)
      have HBw : Hid (Below w.heap.size w w2) := Lib.hid (HBr.out.trans (hb.mono HBr.out.size))
      clear hA2 ho hs hb
      go_wp2_with fail
      clear HAr HDr HH HBr hAlt ei
      obtain ⟨m, hm⟩ : ∃ m, m = zs.length / 2 := ⟨_, rfl⟩
      rw [← hm] at HO1 HD2 HA2 HS1 ⊢
      have hm2 : 2 * m ≤ zs.length ∧ zs.length ≤ 2 * m + 1 := by omega
      clear hm
      go_loopw [10] (fun i wr => SeenTo m w2 i wr) (fun i _ => m - (intOf i).toNat)
      case atStart => exact ⟨0, Nat.zero_le _, rfl, Below.refl _ _⟩
      case round =>
        obtain ⟨k, hk, rfl, hB⟩ := hrel
        by_cases hlt : k < m
        · clear HA2 HD2 HS1
          obtain ⟨s0, s1, s2⟩ := seenCells_at _ k _ _ _ (seenOf_at zs m k hlt)
          obtain ⟨ao, cap', he, hcs⟩ := reads_cells (own_reads HO1.out)
          cases he
          obtain ⟨b, o, rfl, p0, hb⟩ := hcs _ _ s0
          obtain ⟨b', o', he', p1, -⟩ := hcs _ _ s1
          cases he'
          obtain ⟨b', o', he', p2, -⟩ := hcs _ _ s2
          cases he'
          obtain ⟨b0, o0, rfl, q0, hb0⟩ := HC.out (2 * k) (by omega)
          obtain ⟨b', o', he', q1, -⟩ := HC.out (2 * k + 1) (by omega)
          cases he'
          have hx0 : 0 ≤ zs.getD (2 * k) 0 ∧ zs.getD (2 * k) 0 ≤ 4294967295 :=
            HZ.out _ (by rw [List.getD_eq_getElem?_getD, List.getElem?_eq_getElem (by omega)]; exact List.getElem_mem _)
          obtain ⟨x, ex⟩ : ∃ x, zs.getD (2 * k) 0 = x := ⟨_, rfl⟩
          obtain ⟨y, ey⟩ : ∃ y, zs.getD (2 * k + 1) 0 = y := ⟨_, rfl⟩
          rw [ex] at hx0 p1 q0
          rw [ey] at p2 q1
          have h15 := and15 x hx0.1 hx0.2
          have q0' := (HBw.out.cell (p := ⟨b0, o0 + 2 * k, none⟩) hb0).trans q0
          have q1' := (HBw.out.cell (p := ⟨b0, o0 + (2 * k + 1), none⟩) hb0).trans q1
          replace q0 := (hB.cell (p := ⟨b0, o0 + 2 * k, none⟩) (Nat.lt_of_lt_of_le hb0 HZ2.out)).trans q0'
          replace q1 := (hB.cell (p := ⟨b0, o0 + (2 * k + 1), none⟩) (Nat.lt_of_lt_of_le hb0 HZ2.out)).trans q1'
          replace p0 := (hB.cell (p := ⟨b, o + k * 3, none⟩) hb).trans p0
          replace p1 := (hB.cell (p := ⟨b, o + (k * 3 + 1), none⟩) hb).trans p1
          replace p2 := (hB.cell (p := ⟨b, o + (k * 3 + 2), none⟩) hb).trans p2
          rw [← Nat.add_assoc] at p1 p2
          have HB3 := Lib.hid hB
          have hs1 := IntWalk.i64_in (2 * (k : Int)) (by omega)
          have hs2 := IntWalk.i64_in (2 * (k : Int) + 1) (by omega)
          have hs3 : (0 : Int) ≤ 2 * (k : Int) := by omega
          have hs4 : (0 : Int) ≤ 2 * (k : Int) + 1 := by omega
          have hs5 : (2 * (k : Int)).toNat = 2 * k := by omega
          have hs6 : (2 * (k : Int) + 1).toNat = 2 * k + 1 := by omega
          have hs7 : 2 * (k : Int) < (zs.length : Int) := by omega
          have hs9 : (k : Int) < (m : Int) := by omega
          have hs8 : 2 * (k : Int) + 1 < (zs.length : Int) := by omega
          clear ex ey hcs s0 s1 s2 q0' q1' hb hb0 hB
          go_wp2_with fail
          go_quiet (fail)
          go_wp2_with fail
          go_roundw
          case rel => exact ⟨k + 1, hlt, rfl, below_drewN HB3.out _⟩
          · simp only [intOf]
            omega
        · have HB3 := Lib.hid hB
          clear hB
          go_wp2_with fail
          refine (end_other _ _ _ _ (HD2.out.below HB3.out) _ _ rfl rfl).mono ?_
          rintro e w3 ⟨rfl, rfl⟩
          go_wp2_with fail
          refine (end_halt _ _ _ _ (HD2.out.below HB3.out) _ (by simp only [seenOf_len]; omega)).mono ?_
          rintro e w4 ⟨rfl, hd4, ho4⟩
          have HD4 := Lib.hid hd4
          have HO4 := Lib.hid ho4
          clear hd4 ho4
          go_wp2_with fail
          refine (end_fault _ _ _ _ HD4.out _ (by simp only [List.length_append, List.length_cons, List.length_nil, seenOf_len]; omega)).mono ?_
          rintro e w5 ⟨rfl, hd5, ho5⟩
          have HD5 := Lib.hid hd5
          have HO5 := Lib.hid ho5
          clear hd5 ho5
          go_wp2_with fail
          refine (seen_any _ _ _ _ HD5.out (by simp only [List.length_append, List.length_cons, List.length_nil, seenOf_len]; omega)).mono ?_
          rintro e w6 ⟨ev, rfl, ho6, -, hb6⟩
          simp only [List.length_append, List.length_cons, List.length_nil, seenOf_len] at ho6
          rw [show m + (0 + 1) + (0 + 1) = m + 2 from rfl] at ho6
          obtain ⟨a1, hz5⟩ : ∃ a1 : Nat, a1 = 0 := ⟨0, rfl⟩
          have hA3 := blk_below HA2.out HB3.out (blk_lt HA2.out)
          have hA4 := HO4.out.blk hA3 (fun h => h.1.2 rfl)
          have hA5 := HO5.out.blk hA4 (fun h => by
            rcases h with h | h
            · exact h.1.2 rfl
            · exact absurd (blk_lt hA3) (Nat.not_lt.mpr h))
          have hA6 := blk_below hA5 hb6 (blk_lt hA5)
          have hO3 := own_frame HO1.out (fun k hk => HB3.out.block k (own_lt HO1.out hk))
          have hO4 := own_only hO3 HO4.out (fun k hk h => absurd (HS1.out k hk) (Nat.not_le.mpr h.2))
          have hO5 := own_only hO4 HO5.out (fun k hk h => by
            rcases h with h | h
            · exact absurd (HS1.out k hk) (Nat.not_le.mpr h.2)
            · exact absurd (own_lt hO3 hk) (Nat.not_lt.mpr h))
          have hO6 := own_frame hO5 (fun k hk => hb6.block k (own_lt hO5 hk))
          have hR6 := Lib.hid (own_reads hO6)
          have hl16 : ask.toNat % 16 < (secOf zs m).length := by rw [secOf_len]; exact Nat.mod_lt _ (by omega)
          have cA6 := (blk_cell hA6 (ask.toNat % 16)).trans (secArr_get _ _ hl16)
          have hG := fun wx (hwx : Below w6.heap.size w6 wx) => get_any _ wx _ _ ((HD5.out.below hb6).below hwx) ask ha0 ha1
          dsimp only at hG
          obtain ⟨gv, hgv⟩ : ∃ gv, (secOf zs m).getD (ask.toNat % 16) 0 = gv := ⟨_, rfl⟩
          rw [hgv] at cA6
          simp only [hgv] at hG
          have HG := Lib.hid hG
          have h15 := and15 ask ha0 ha1
          have hm0 : (0 : Int) ≤ ask % 16 := by omega
          have hm1 : ask % 16 < 16 := by omega
          have hm2' : (ask % 16).toNat = ask.toNat % 16 := by omega
          rcases own_shape ho6 with ⟨-, h, -⟩ | ⟨g2, cap2, rfl, hcap, hcap2⟩
          · simp at h
          have e0 := seenCells_at ((seenOf zs m ++ [(3, 0, 6)]) ++ [(4, 7, 0)]) m 3 0 6 (by
            rw [List.append_assoc, List.getElem?_append_right (by rw [seenOf_len]; exact Nat.le_refl _), seenOf_len]
            simp)
          have e1 := seenCells_at ((seenOf zs m ++ [(3, 0, 6)]) ++ [(4, 7, 0)]) (m + 1) 4 7 0 (by
            rw [List.append_assoc, List.getElem?_append_right (by rw [seenOf_len]; omega), seenOf_len]
            simp)
          have x0 := (own_cell ho6 (m * 3) (by omega)).trans e0.1
          have x1 := (own_cell ho6 (m * 3 + 1) (by omega)).trans e0.2.1
          have x2 := (own_cell ho6 (m * 3 + 2) (by omega)).trans e0.2.2
          have y1 := (own_cell ho6 ((m + 1) * 3 + 1) (by omega)).trans e1.2.1
          have y2 := (own_cell ho6 ((m + 1) * 3 + 2) (by omega)).trans e1.2.2
          have hRe : Hid (Reads w6 (.slice (some ⟨g2, 0, none⟩) m cap2) m (seenCells (seenOf zs m))) := Lib.hid (.inr ⟨_, _, rfl, fun j u hj => by
            have hj' : j < (seenCells (seenOf zs m)).length := (List.getElem?_eq_some_iff.mp hj).1
            rw [Addr.add_lit, Nat.zero_add]
            refine (own_cell ho6 j (by rw [seenCells_len, seenOf_len] at hj'; omega)).trans ?_
            rw [seenCells_snoc, seenCells_snoc, List.append_assoc, List.getElem?_append_left hj']
            exact hj⟩)
          have hi0 := IntWalk.i64_in ((m : Int) + 1) (by omega)
          have hi1 := IntWalk.i64_in ((m : Int) + 2) (by omega)
          have hi2 : (0 : Int) ≤ (m : Int) + 1 := by omega
          have hi3 : ((m : Int) + 1).toNat = m + 1 := by omega
          have hi4 : (m : Int) + 1 < (m : Int) + 2 := by omega
          have hi5 : (m : Int) < (m : Int) + 2 := by omega
          have hi6 : (m : Int) ≤ (cap2 : Int) := by omega
          have HB6 : Hid (Below w.heap.size w w6) := Lib.hid (by
            refine (HBw.out.trans (HB3.out.mono HZ2.out)).trans (((HO4.out.trans' HO5.out (fun k hk => hk)).below' hb6).below (Nat.le_trans HZ2.out HB3.out.size) (fun k hk => Nat.le_trans hw1 hk.1.1)))
          clear ho6 hO3 hO4 hO5 hO6 hA3 hA4 hA5 hA6 hl16 hgv hG e0 e1 hb6 hcap hcap2 hz5
          have HK : Hid (∀ wx, Below w6.heap.size w6 wx → (Below w6.heap.size w6 wx ∧ wx.cell? ⟨w1.heap.size + 1, ask.toNat % 16, none⟩ = some (.int .u32 gv) ∧ wx.cell? ⟨g2, m * 3, none⟩ = some (.int .i64 3) ∧ wx.cell? ⟨g2, m * 3 + 1, none⟩ = some (.int .u32 0) ∧ wx.cell? ⟨g2, m * 3 + 2, none⟩ = some (.int .u32 6) ∧ wx.cell? ⟨g2, (m + 1) * 3 + 1, none⟩ = some (.int .u32 7) ∧ wx.cell? ⟨g2, (m + 1) * 3 + 2, none⟩ = some (.int .u32 0))) :=
            Lib.hid fun wx h => ⟨h, cell_below h cA6, cell_below h x0, cell_below h x1, cell_below h x2, cell_below h y1, cell_below h y2⟩
          have HS : Hid (∀ wx, Below w6.heap.size w6 wx → Calls Try.prog 19 #[.slice (some ⟨g2, 0, none⟩) m cap2, .slice ao1 m cap1] wx fun e w' => e = .returned (.bool true) ∧ Below w6.heap.size w6 w') :=
            Lib.hid fun wx h => (by
              have := seens_refl (.slice (some ⟨g2, 0, none⟩) m cap2) (.slice ao1 m cap1) (seenOf zs m) wx (by rw [seenOf_len]; omega) (by rw [seenOf_len]; exact reads_under hRe.out h) (by rw [seenOf_len]; exact reads_under hR6.out h)
              exact this.mono fun e w' hp => ⟨hp.1, h.trans (hp.2.mono h.size)⟩)
          go_wp2_with fail
          have hBd : Below w6.heap.size w6 w6.drew := (Below.refl _ _).drew
          simp only [List.append]
          go_region_held3 (fun wx => Below w6.heap.size w6 wx ∧ wx.cell? ⟨w1.heap.size + 1, ask.toNat % 16, none⟩ = some (.int .u32 gv) ∧ wx.cell? ⟨g2, m * 3, none⟩ = some (.int .i64 3) ∧ wx.cell? ⟨g2, m * 3 + 1, none⟩ = some (.int .u32 0) ∧ wx.cell? ⟨g2, m * 3 + 2, none⟩ = some (.int .u32 6) ∧ wx.cell? ⟨g2, (m + 1) * 3 + 1, none⟩ = some (.int .u32 7) ∧ wx.cell? ⟨g2, (m + 1) * 3 + 2, none⟩ = some (.int .u32 0)) (exact HK.out _ (by assumption))
            (first
              | (go_at_call 18; refine (HG.out _ (by assumption)).mono ?_; rintro e w7 ⟨rfl, rfl⟩)
              | (go_at_call 19; refine (HS.out _ (by assumption)).mono ?_; rintro e w8 ⟨rfl, hb8⟩))
          go_wp2
          go_ret
          refine ⟨rfl, ?_⟩
          first
            | exact HB6.out.trans (hb8.mono HB6.out.size)
            | exact (HB6.out.trans (hb8.mono HB6.out.size)).drew

set_option maxRecDepth 100000 in
set_option maxHeartbeats 400000 in
theorem sectors_none (n : Nat) (ask : Int) (ao : Option Addr) (cap : Nat) (w : World) (h30 : ¬ n ≤ 30) :
    Calls Try.prog 5 #[.slice ao n cap, .int .u32 ask] w fun e w' => e = .returned (.bool true) ∧ Below w.heap.size w w' := by
  go_enter Try.func5, Try.ntmps5
  go_wp2_with fail
  refine (first_true _).mono ?_
  rintro e w1 ⟨rfl, hbw⟩
  have h30' : (30 : Int) < (n : Int) := by omega
  go_wp2
  go_ret
  exact ⟨rfl, hbw⟩

theorem sectors_any (zs : List Int) (ask : Int) (v : Value) (w : World) (hr : Reads w v zs.length (u32s zs)) (hz : ∀ z ∈ zs, 0 ≤ z ∧ z ≤ 4294967295) (ha : 0 ≤ ask ∧ ask ≤ 4294967295) :
    Calls Try.prog 5 #[v, .int .u32 ask] w fun e w' => e = .returned (.bool true) ∧ Below w.heap.size w w' := by
  obtain ⟨ao, cap, rfl, hc⟩ := reads_cells hr
  by_cases h30 : zs.length ≤ 30
  · exact sectors_some zs ask ao cap w hz ha.1 ha.2 h30 (fun j hj => hc j _ (by simp [u32s, hj]))
  · exact sectors_none zs.length ask ao cap w h30
end Go.Proofs.Ytljmdgoedmgikaa
