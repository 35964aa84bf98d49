/-
  AluShifts: for every registers and numbers the call returns true.
-/
import Derived.Test.YtikioeddilgbpaaAlu8
import Derived.Test.YtikioeddilgbpaaAluOpen
namespace Go.Proofs.Ytikioeddilgbpaa
open Go.RowKit

set_option linter.unusedSimpArgs false
def rS (a b : Int) : List Int := [0, a, b, 0, 0, 0, 0, 0, 0, 0, 0, 0, 0, 0, 0, 0]
theorem rS_u32 {a b : Int} (ha : U32 a) (hb : U32 b) : ∀ z ∈ rS a b, U32 z := fun z hz => by
  simp only [rS, List.mem_cons, List.not_mem_nil, or_false] at hz
  rcases hz with rfl | rfl | rfl | rfl | rfl | rfl | rfl | rfl | rfl | rfl | rfl | rfl | rfl | rfl | rfl | rfl
  all_goals first | exact ha | exact hb | (unfold U32; omega)
theorem wok_shl : wok ⟨8, 3, 1, 2, 0⟩ = true := by decide
theorem wok_shr : wok ⟨9, 3, 1, 2, 0⟩ = true := by decide
set_option maxRecDepth 100000 in
set_option maxHeartbeats 1600000 in
theorem shift_8 (a b : Int) (ha : U32 a) (hb : U32 b) (w : World) : Calls Try.prog 9 #[.int .i64 8, .int .u32 a, .int .u32 b] w fun e w' => e = .returned (.int .u32 (shlV a b)) ∧ Below w.heap.size w w' := by
  obtain ⟨x, hx⟩ : ∃ x, shlV a b = x := ⟨_, rfl⟩
  rw [hx]
  have HD : Hid (∀ wx, Calls Try.prog 10 #[insV ⟨8, 3, 1, 2, 0⟩, .agg (regCells (rS a b))] wx fun e w' => e = .returned (.tuple #[.agg (regCells ((rS a b).set 3 x)), .bool true]) ∧ Below wx.heap.size wx w') := Lib.hid fun wx =>
    (do_any ⟨8, 3, 1, 2, 0⟩ (rS a b) rfl (rS_u32 ha hb) wx).mono fun e w' ⟨he, hb⟩ => ⟨by rw [he]; unfold aluV; rw [show aluR ⟨8, 3, 1, 2, 0⟩ (rS a b) = ((rS a b).set 3 x, true) by rw [← hx]; exact aluR_fn (ia := 3) (ib := 1) (ic := 2) wok_shl (by decide)], hb⟩
  have hz : (regCells (rS a b)).size = 16 := rfl
  have hz2 : (regCells ((rS a b).set 3 x)).size = 16 := rfl
  have hz3 : (regCells ((rS a b).set 3 x))[3]? = some (.int .u32 x) := rfl
  have hz4 : ∀ h : 3 < (regCells ((rS a b).set 3 x)).size, (regCells ((rS a b).set 3 x))[3] = .int .u32 x := fun _ => rfl
  clear ha hb hx
  go_enter Try.func9, Try.ntmps9
  go_wp2_with fail
  refine (HD.out _).mono ?_
  rintro e w1 ⟨rfl, hb1⟩
  have HB : Hid (∀ o : Obj, Below w.heap.size w (w1.alloc o)) := Lib.hid fun o => by
    have := ((Below.refl w.heap.size w).alloc (Nat.le_refl _) (.cells (regCells (rS a b)) 24)).trans (hb1.mono (by simp))
    exact this.alloc this.size o
  clear hb1
  go_wp2
  go_ret
  exact ⟨rfl, HB.out _⟩
set_option maxRecDepth 100000 in
set_option maxHeartbeats 1600000 in
theorem shift_9 (a b : Int) (ha : U32 a) (hb : U32 b) (w : World) : Calls Try.prog 9 #[.int .i64 9, .int .u32 a, .int .u32 b] w fun e w' => e = .returned (.int .u32 (shrV a b)) ∧ Below w.heap.size w w' := by
  obtain ⟨x, hx⟩ : ∃ x, shrV a b = x := ⟨_, rfl⟩
  rw [hx]
  have HD : Hid (∀ wx, Calls Try.prog 10 #[insV ⟨9, 3, 1, 2, 0⟩, .agg (regCells (rS a b))] wx fun e w' => e = .returned (.tuple #[.agg (regCells ((rS a b).set 3 x)), .bool true]) ∧ Below wx.heap.size wx w') := Lib.hid fun wx =>
    (do_any ⟨9, 3, 1, 2, 0⟩ (rS a b) rfl (rS_u32 ha hb) wx).mono fun e w' ⟨he, hb⟩ => ⟨by rw [he]; unfold aluV; rw [show aluR ⟨9, 3, 1, 2, 0⟩ (rS a b) = ((rS a b).set 3 x, true) by rw [← hx]; exact aluR_fn (ia := 3) (ib := 1) (ic := 2) wok_shr (by decide)], hb⟩
  have hz : (regCells (rS a b)).size = 16 := rfl
  have hz2 : (regCells ((rS a b).set 3 x)).size = 16 := rfl
  have hz3 : (regCells ((rS a b).set 3 x))[3]? = some (.int .u32 x) := rfl
  have hz4 : ∀ h : 3 < (regCells ((rS a b).set 3 x)).size, (regCells ((rS a b).set 3 x))[3] = .int .u32 x := fun _ => rfl
  clear ha hb hx
  go_enter Try.func9, Try.ntmps9
  go_wp2_with fail
  refine (HD.out _).mono ?_
  rintro e w1 ⟨rfl, hb1⟩
  have HB : Hid (∀ o : Obj, Below w.heap.size w (w1.alloc o)) := Lib.hid fun o => by
    have := ((Below.refl w.heap.size w).alloc (Nat.le_refl _) (.cells (regCells (rS a b)) 24)).trans (hb1.mono (by simp))
    exact this.alloc this.size o
  clear hb1
  go_wp2
  go_ret
  exact ⟨rfl, HB.out _⟩

theorem wrapM_u32 (x : Int) : IntKind.u32.wrap x = x % 4294967296 := rfl
theorem shl_eq (a c : Int) (h : 0 ≤ c ∧ c < 32) : shlV a c = a * 2 ^ c.toNat % 4294967296 := by
  unfold shlV
  rw [Int.emod_eq_of_lt h.1 h.2, wrapM_u32]
theorem shr_eq (a c : Int) (ha : 0 ≤ a) (h : 0 ≤ c ∧ c < 32) : shrV a c = a / 2 ^ c.toNat := by
  unfold shrV
  rw [Int.emod_eq_of_lt h.1 h.2]
  exact Int.fdiv_eq_ediv_of_nonneg _ (Int.le_of_lt (Int.pow_pos (by decide)))
theorem shl_shl (a n m : Int) (hn : 0 ≤ n ∧ n ≤ 15) (hm : 0 ≤ m ∧ m ≤ 15) : shlV a (n + m) = shlV (shlV a n) m := by
  rw [shl_eq a (n + m) (by omega), shl_eq a n (by omega), shl_eq _ m (by omega), Int.mul_emod (a * 2 ^ n.toNat % 4294967296), Int.emod_emod_of_dvd _ (Int.dvd_refl _), ← Int.mul_emod, Int.mul_assoc, ← Int.pow_add, show (n + m).toNat = n.toNat + m.toNat by omega]
theorem shr_in (a c : Int) (ha : U32 a) (h : 0 ≤ c ∧ c < 32) : U32 (shrV a c) := by
  rw [shr_eq a c ha.1 h]
  exact ⟨Int.ediv_nonneg ha.1 (Int.le_of_lt (Int.pow_pos (by decide))), Int.le_trans (Int.ediv_le_self _ ha.1) ha.2⟩
theorem shl_in (a c : Int) (h : 0 ≤ c ∧ c < 32) : U32 (shlV a c) := by
  rw [shl_eq a c h]
  unfold U32
  omega
theorem shr_shr (a n m : Int) (ha : U32 a) (hn : 0 ≤ n ∧ n ≤ 15) (hm : 0 ≤ m ∧ m ≤ 15) : shrV a (n + m) = shrV (shrV a n) m := by
  rw [shr_eq _ m (shr_in a n ha (by omega)).1 (by omega), shr_eq a (n + m) ha.1 (by omega), shr_eq a n ha.1 (by omega), Int.ediv_ediv_of_nonneg (Int.le_of_lt (Int.pow_pos (by decide))), ← Int.pow_add, show (n + m).toNat = n.toNat + m.toNat by omega]
theorem shl_32 (a n : Int) : shlV a (32 + n) = shlV a n := by
  unfold shlV
  rw [show (32 + n) % 32 = n % 32 by omega]
theorem shr_64 (a n : Int) : shrV a (64 + n) = shrV a n := by
  unfold shrV
  rw [show (64 + n) % 32 = n % 32 by omega]
theorem shl_1 (a : Int) : shlV a 1 = (a + a) % 4294967296 := by
  rw [shl_eq a 1 (by decide)]
  congr 1
  show a * 2 = a + a
  omega
theorem shr_0 (a : Int) (ha : U32 a) : shrV a 0 = a := by
  rw [shr_eq a 0 ha.1 (by decide)]
  show a / 1 = a
  exact Int.ediv_one a

set_option maxRecDepth 100000 in
set_option maxHeartbeats 4000000 in
theorem shifts_walk (r : List Int) (n m : Int) (w : World) (hr : regsOk r) (hn : U32 n) (hm : U32 m) :
    Calls Try.prog 3 #[.agg (regCells r), .int .u32 n, .int .u32 m] w fun e w' => e = .returned (.bool true) ∧ Below w.heap.size w w' := by
  obtain ⟨x1, hx1⟩ : ∃ x, r.getD 1 0 = x := ⟨_, rfl⟩
  have hu : U32 x1 := by rw [← hx1]; exact getD_u32 hr.2 1
  obtain ⟨nn, hnn⟩ : ∃ x, n.tmod 16 = x := ⟨_, rfl⟩
  obtain ⟨mm, hmm⟩ : ∃ x, m.tmod 16 = x := ⟨_, rfl⟩
  have n15 : 0 ≤ nn ∧ nn ≤ 15 := by rw [← hnn, Int.tmod_eq_emod_of_nonneg hn.1]; omega
  have m15 : 0 ≤ mm ∧ mm ≤ 15 := by rw [← hmm, Int.tmod_eq_emod_of_nonneg hm.1]; omega
  have s1 : (nn + mm) % 4294967296 = nn + mm := by omega
  have s2 : (32 + nn) % 4294967296 = 32 + nn := by omega
  have s3 : (64 + mm) % 4294967296 = 64 + mm := by omega
  obtain ⟨C, hC⟩ : ∃ x, shlV x1 nn = x := ⟨_, rfl⟩
  obtain ⟨A, hA⟩ : ∃ x, shlV C mm = x := ⟨_, rfl⟩
  obtain ⟨D, hD⟩ : ∃ x, shrV x1 nn = x := ⟨_, rfl⟩
  obtain ⟨B, hB⟩ : ∃ x, shrV D mm = x := ⟨_, rfl⟩
  obtain ⟨E, hE⟩ : ∃ x, shrV x1 mm = x := ⟨_, rfl⟩
  obtain ⟨G, hG'⟩ : ∃ x, (x1 + x1) % 4294967296 = x := ⟨_, rfl⟩
  have hA2 : shlV x1 (nn + mm) = A := by rw [shl_shl x1 nn mm n15 m15, hC, hA]
  have hB2 : shrV x1 (nn + mm) = B := by rw [shr_shr x1 nn mm hu n15 m15, hD, hB]
  have hC2 : shlV x1 (32 + nn) = C := by rw [shl_32, hC]
  have hE2 : shrV x1 (64 + mm) = E := by rw [shr_64, hE]
  have hG : shlV x1 1 = G := by rw [shl_1, hG']
  have hH : shrV x1 0 = x1 := shr_0 x1 hu
  have HUC : Hid (U32 C) := Lib.hid (by rw [← hC]; exact shl_in x1 nn (by omega))
  have HUD : Hid (U32 D) := Lib.hid (by rw [← hD]; exact shr_in x1 nn hu (by omega))
  have HUN : Hid (U32 nn) := Lib.hid (by unfold U32; omega)
  have HUM : Hid (U32 mm) := Lib.hid (by unfold U32; omega)
  have HUS : Hid (U32 (nn + mm)) := Lib.hid (by unfold U32; omega)
  have HU32 : Hid (U32 (32 + nn)) := Lib.hid (by unfold U32; omega)
  have HU64 : Hid (U32 (64 + mm)) := Lib.hid (by unfold U32; omega)
  have HU := Lib.hid hu
  have HR1 : Hid ((regCells r)[1]? = some (.int .u32 x1)) := Lib.hid (regs_at r hr.1 1 x1 (by decide) hx1)
  have hsz := regs_size r hr.1
  have HC' := Lib.hid hC
  have HA' := Lib.hid hA
  have HD' := Lib.hid hD
  have HB' := Lib.hid hB
  have HE' := Lib.hid hE
  have HA2' := Lib.hid hA2
  have HB2' := Lib.hid hB2
  have HC2' := Lib.hid hC2
  have HE2' := Lib.hid hE2
  have HG' := Lib.hid hG
  have HH' := Lib.hid hH
  clear hC hA hD hB hE hA2 hB2 hC2 hE2 hG hH hu hx1 hr hn hm n15 m15
  go_enter Try.func3, Try.ntmps3
  go_wp2_with fail
  refine (alu_first _).mono ?_
  rintro e w1 ⟨rfl, hb1⟩
  have hk : w1.heap[w.heap.size]? = some (.cells (regCells r) 24 (0, 0)) := (hb1.block _ (by simp)).trans (blk_new _ _)
  have c1 := (blk_cell hk 1).trans HR1.out
  have HB0 : Hid (Below w.heap.size w w1) := Lib.hid (((Below.refl w.heap.size w).alloc (Nat.le_refl _) (.cells (regCells r) 24)).trans (hb1.mono (by simp)))
  clear hb1 hk
  go_wp2_with fail
  refine (shift_8 x1 nn HU.out HUN.out _).mono ?_
  rintro e v0 ⟨rfl, hb⟩
  rw [HC'.out]
  have HB1 : Hid (Below w.heap.size w v0) := Lib.hid (HB0.out.trans (hb.mono HB0.out.size))
  clear hb HB0
  go_wp2_with fail
  refine (shift_8 C mm HUC.out HUM.out _).mono ?_
  rintro e v1 ⟨rfl, hb⟩
  rw [HA'.out]
  have HB2 : Hid (Below w.heap.size w v1) := Lib.hid (HB1.out.trans (hb.mono HB1.out.size))
  clear hb HB1
  go_wp2_with fail
  refine (shift_9 x1 nn HU.out HUN.out _).mono ?_
  rintro e v2 ⟨rfl, hb⟩
  rw [HD'.out]
  have HB3 : Hid (Below w.heap.size w v2) := Lib.hid (HB2.out.trans (hb.mono HB2.out.size))
  clear hb HB2
  go_wp2_with fail
  refine (shift_9 D mm HUD.out HUM.out _).mono ?_
  rintro e v3 ⟨rfl, hb⟩
  rw [HB'.out]
  have HB4 : Hid (Below w.heap.size w v3) := Lib.hid (HB3.out.trans (hb.mono HB3.out.size))
  clear hb HB3
  go_wp2_with fail
  refine (shift_8 x1 (nn + mm) HU.out HUS.out _).mono ?_
  rintro e v4 ⟨rfl, hb⟩
  rw [HA2'.out]
  have HB5 : Hid (Below w.heap.size w v4) := Lib.hid (HB4.out.trans (hb.mono HB4.out.size))
  clear hb HB4
  go_wp2_with fail
  refine (shift_9 x1 (nn + mm) HU.out HUS.out _).mono ?_
  rintro e v5 ⟨rfl, hb⟩
  rw [HB2'.out]
  have HB6 : Hid (Below w.heap.size w v5) := Lib.hid (HB5.out.trans (hb.mono HB5.out.size))
  clear hb HB5
  go_wp2_with fail
  refine (shift_8 x1 (32 + nn) HU.out HU32.out _).mono ?_
  rintro e v6 ⟨rfl, hb⟩
  rw [HC2'.out]
  have HB7 : Hid (Below w.heap.size w v6) := Lib.hid (HB6.out.trans (hb.mono HB6.out.size))
  clear hb HB6
  go_wp2_with fail
  refine (shift_8 x1 nn HU.out HUN.out _).mono ?_
  rintro e v7 ⟨rfl, hb⟩
  rw [HC'.out]
  have HB8 : Hid (Below w.heap.size w v7) := Lib.hid (HB7.out.trans (hb.mono HB7.out.size))
  clear hb HB7
  go_wp2_with fail
  refine (shift_9 x1 (64 + mm) HU.out HU64.out _).mono ?_
  rintro e v8 ⟨rfl, hb⟩
  rw [HE2'.out]
  have HB9 : Hid (Below w.heap.size w v8) := Lib.hid (HB8.out.trans (hb.mono HB8.out.size))
  clear hb HB8
  go_wp2_with fail
  refine (shift_9 x1 mm HU.out HUM.out _).mono ?_
  rintro e v9 ⟨rfl, hb⟩
  rw [HE'.out]
  have HB10 : Hid (Below w.heap.size w v9) := Lib.hid (HB9.out.trans (hb.mono HB9.out.size))
  clear hb HB9
  go_wp2_with fail
  refine (shift_8 x1 1 HU.out (by unfold U32; omega) _).mono ?_
  rintro e v10 ⟨rfl, hb⟩
  rw [HG'.out]
  have HB11 : Hid (Below w.heap.size w v10) := Lib.hid (HB10.out.trans (hb.mono HB10.out.size))
  clear hb HB10
  go_wp2_with fail
  refine (shift_9 x1 0 HU.out (by unfold U32; omega) _).mono ?_
  rintro e v11 ⟨rfl, hb⟩
  rw [HH'.out]
  have HB12 : Hid (Below w.heap.size w v11) := Lib.hid (HB11.out.trans (hb.mono HB11.out.size))
  clear hb HB11
  go_wp2
  go_ret
  exact ⟨rfl, HB12.out⟩
end Go.Proofs.Ytikioeddilgbpaa
