/-
  The document's walk: where an address is, over the list of a memory's words.
-/
import Derived.Test.YtnhocmmgdkiepaaDoorWk
import Derived.Test.YtnhocmmgdkiepaaDoorMrB
import Derived.BigQuiet
namespace Go.Proofs.YtnhocmmgdkiepaaDoor
open Go.RowKit

/-- an entry's bits, or none -/
def bitsA (e : Ent) : Int × Bool := if entOkB e.f e.t e.w e.u then (entW e.f e.t e.w e.u, true) else (0, false)
def wordV (p : Int × Bool) : Value := .tuple #[.int .u32 p.1, .bool p.2]

theorem bits_any (e : Ent) (w : World) : Calls Tryd.prog 95 #[e.v] w fun x w' => x = .returned (wordV (bitsA e)) ∧ Below w.heap.size w w' := by
  unfold bitsA
  by_cases h : entOkB e.f e.t e.w e.u = true
  · rw [if_pos h]
    exact bits_yes e.f e.t e.w e.u w ((entOkB_iff _ _ _ _).1 h)
  · rw [if_neg h]
    exact bits_no e.f e.t e.w e.u w (fun h' => h ((entOkB_iff _ _ _ _).2 h'))

set_option maxHeartbeats 1000000 in
theorem rbits_any (e : Ent) (w : World) : Calls Tryd.prog 25 #[e.v] w fun x w' => x = .returned (wordV (bitsA e)) ∧ Below w.heap.size w w' := by
  obtain ⟨f, t, wr, u⟩ := e
  by_cases h1 : f < 0
  · have HE : Hid (bitsA ⟨f, t, wr, u⟩ = (0, false)) := Lib.hid (by unfold bitsA; rw [if_neg (by simp [entOkB]; omega)])
    rw [HE.out]
    unfold Ent.v
    go_enter Tryd.func25, Tryd.ntmps25
    go_wp2
    go_ret2
    exact ⟨rfl, (Below.refl _ _).alloc (Nat.le_refl _) _⟩
  · by_cases h2 : 1024 ≤ f
    · have HE : Hid (bitsA ⟨f, t, wr, u⟩ = (0, false)) := Lib.hid (by unfold bitsA; rw [if_neg (by simp [entOkB]; omega)])
      rw [HE.out]
      unfold Ent.v
      go_enter Tryd.func25, Tryd.ntmps25
      go_wp2
      go_ret2
      exact ⟨rfl, (Below.refl _ _).alloc (Nat.le_refl _) _⟩
    · cases t
      · by_cases hf : f = 0
        · subst hf
          cases wr <;> cases u
          all_goals
            first
              | have HE : Hid (bitsA ⟨0, false, false, false⟩ = (0, true)) := Lib.hid (by decide)
                rw [HE.out]
                have hk : True := trivial
              | rw [show bitsA _ = (0, false) by unfold bitsA; rw [if_neg (by simp [entOkB])]]
            unfold Ent.v
            go_enter Tryd.func25, Tryd.ntmps25
            go_wp2
            go_quiet (fail)
            go_wp2
            go_ret2
            exact ⟨rfl, below_drewN ((Below.refl _ _).alloc (Nat.le_refl _) _) _⟩
        · have HE : Hid (bitsA ⟨f, false, wr, u⟩ = (0, false)) := Lib.hid (by unfold bitsA; rw [if_neg (by simp [entOkB, hf])])
          rw [HE.out]
          have hf' : (f == 0) = false := by simp [hf]
          clear hf
          unfold Ent.v
          go_enter Tryd.func25, Tryd.ntmps25
          go_wp2
          go_quiet (fail)
          go_wp2
          go_ret2
          exact ⟨rfl, below_drewN ((Below.refl _ _).alloc (Nat.le_refl _) _) _⟩
      · have HE : Hid (bitsA ⟨f, true, wr, u⟩ = (entW f true wr u, true)) := Lib.hid (by unfold bitsA; rw [if_pos (by simp [entOkB]; omega)])
        rw [HE.out]
        have e0 : bits BinOp.or IntKind.u32 (f * 256) 1 = f * 256 + 1 := or_0 f 1 (by omega) (by omega) (by omega)
        have e1 : bits BinOp.or IntKind.u32 (f * 256 + 1) 2 = f * 256 + 1 + 2 := or_1 f 2 (by omega) (by omega) (by omega)
        have e2 : bits BinOp.or IntKind.u32 (f * 256 + 1) 4 = f * 256 + 1 + 4 := or_1 f 4 (by omega) (by omega) (by omega)
        have e3 := or_3 f (by omega) (by omega)
        have hu := IntWalk.u32_in f (by omega)
        have hu2 := IntWalk.u32_in (f * 256) (by omega)
        unfold Ent.v
        cases wr <;> cases u
        all_goals
          go_enter Tryd.func25, Tryd.ntmps25
          go_wp2
          go_ret2
          refine ⟨?_, (Below.refl _ _).alloc (Nat.le_refl _) _⟩
          show Ending.returned (Value.tuple #[.int .u32 _, .bool true]) = _
          simp only [wordV, entW, b2i]
          congr 4
        all_goals simp
        all_goals omega

theorem flag_ne (x k : Int) : (bits BinOp.and IntKind.u32 x k != 0) = flag x k := by
  have : 0 ≤ bits BinOp.and IntKind.u32 x k := by
    show 0 ≤ IntKind.u32.wrap _
    rw [IntKind.wrap_u32]
    omega
  unfold flag
  by_cases h : bits BinOp.and IntKind.u32 x k = 0
  · rw [h]; rfl
  · have h2 : 0 < bits BinOp.and IntKind.u32 x k := by omega
    rw [decide_eq_true h2]
    simp [h]
theorem ofA_by (x : Int) (y : Int) (ok : Bool) (h : bitsA ⟨x / 256, flag x 1, flag x 2, flag x 4⟩ = (y, ok)) : ofA x = if ok = true ∧ y = x then (⟨x / 256, flag x 1, flag x 2, flag x 4⟩, true) else (Ent.z, false) := by
  unfold ofA isEntB
  unfold bitsA at h
  by_cases hk : entOkB (x / 256) (flag x 1) (flag x 2) (flag x 4) = true
  · rw [if_pos hk] at h
    obtain ⟨rfl, rfl⟩ := Prod.mk.inj h
    rw [hk]
    simp only [Bool.true_and, decide_eq_true_eq, true_and]
  · rw [if_neg hk] at h
    obtain ⟨rfl, rfl⟩ := Prod.mk.inj h
    rw [Bool.not_eq_true] at hk
    rw [hk]
    rfl

set_option maxRecDepth 100000 in
set_option maxHeartbeats 1000000 in
theorem rof_any (x : Int) (w : World) (h : W32 x) :
    Calls Tryd.prog 27 #[.int .u32 x] w fun e w' => e = .returned (.tuple #[(ofA x).1.v, .bool (ofA x).2]) ∧ Below w.heap.size w w' := by
  by_cases h0 : x = 0
  · subst h0
    have HE : Hid (ofA 0 = (⟨0, false, false, false⟩, true)) := Lib.hid (by rw [ofA, if_pos (by decide)]; rfl)
    rw [HE.out]
    go_enter Tryd.func27, Tryd.ntmps27
    go_wp2
    refine bodyPost_ret (v := .tuple #[Ent.z.v, .bool true]) (by simp [results, Tryd.results27, go_sem, Ent.v, Ent.z]) rfl ⟨rfl, ?_⟩
    exact (Below.refl _ _).alloc (Nat.le_refl _) _
  · have h00 : (x == 0) = false := by simp [h0]
    have hx0 : 0 ≤ x := h.1
    have hx1 : x ≤ 4294967295 := h.2
    have HB := Lib.hid (fun wx => rbits_any ⟨x / 256, flag x 1, flag x 2, flag x 4⟩ wx)
    have HO := Lib.hid (ofA_by x)
    have f1 := flag_ne x 1
    have f2 := flag_ne x 2
    have f4 := flag_ne x 4
    have hw := IntWalk.i64_in (x / 256) (by omega)
    obtain ⟨⟨y, ok⟩, hy⟩ : ∃ q, bitsA ⟨x / 256, flag x 1, flag x 2, flag x 4⟩ = q := ⟨_, rfl⟩
    rw [HO.out _ _ hy]
    rw [hy] at HB
    obtain ⟨b1, hb1⟩ : ∃ b, flag x 1 = b := ⟨_, rfl⟩
    obtain ⟨b2, hb2⟩ : ∃ b, flag x 2 = b := ⟨_, rfl⟩
    obtain ⟨b4, hb4⟩ : ∃ b, flag x 4 = b := ⟨_, rfl⟩
    rw [hb1] at f1 HB ⊢
    rw [hb2] at f2 HB ⊢
    rw [hb4] at f4 HB ⊢
    clear hb1 hb2 hb4 hy HO h h0
    unfold Ent.v
    unfold Ent.v at HB
    have hyx : (y != x) = !decide (y = x) := by by_cases e : y = x <;> simp [e]
    obtain ⟨d, hd⟩ : ∃ d, decide (y = x) = d := ⟨_, rfl⟩
    rw [hd] at hyx
    have HI : Hid (ok = true ∧ y = x ↔ ok = true ∧ d = true) := Lib.hid (by rw [← hd]; simp)
    rw [show (if ok = true ∧ y = x then ((⟨x / 256, b1, b2, b4⟩ : Ent), true) else (Ent.z, false)) = (if ok = true ∧ d = true then ((⟨x / 256, b1, b2, b4⟩ : Ent), true) else (Ent.z, false)) by simp only [HI.out]]
    clear hd HI
    go_enter Tryd.func27, Tryd.ntmps27
    go_wp2_with fail
    refine (HB.out _).mono ?_
    rintro e w1 ⟨rfl, hb⟩
    have k0 : w1.heap[w.heap.size]? = _ := (hb.block w.heap.size (by simp; omega)).trans (blk_old (blk_new w _) _)
    have k1 : w1.heap[w.heap.size + 1]? = _ := (hb.block (w.heap.size + 1) (by simp)).trans (show _ = some (.cells #[.int .i64 (x / 256), .bool b1, .bool b2, .bool b4] 42 (0, 0)) by
      have := blk_new (w.alloc (.cells #[.int .i64 0, .bool false, .bool false, .bool false] 42)) (.cells #[.int .i64 (x / 256), .bool b1, .bool b2, .bool b4] 42)
      simpa using this)
    have HB1 : Hid (Below w.heap.size w w1) := Lib.hid ((((Below.refl _ _).alloc (Nat.le_refl _) _).alloc (by simp) _).trans (hb.mono (by simp; omega)))
    have c0 := blk_cell k0 0
    have c1 := blk_cell k0 1
    have c2 := blk_cell k0 2
    have c3 := blk_cell k0 3
    have f0 := blk_free k0 0
    have f1 := blk_free k0 1
    have f2 := blk_free k0 2
    have f3 := blk_free k0 3
    have d0 := blk_cell k1 0
    have d1 := blk_cell k1 1
    have d2 := blk_cell k1 2
    have d3 := blk_cell k1 3
    clear hb k0 k1
    unfold wordV
    cases ok <;> cases d
    all_goals
      go_wp2
    iterate 3
      · refine bodyPost_ret (v := .tuple #[Ent.z.v, .bool false]) (by simp [results, Tryd.results27, go_sem, Ent.v, Ent.z, c0, c1, c2, c3]) rfl ⟨rfl, ?_⟩
        exact set4 HB1.out (Nat.le_refl _) _ _ _ _
    · refine bodyPost_ret (v := .tuple #[(⟨x / 256, b1, b2, b4⟩ : Ent).v, .bool true]) (by simp [results, Tryd.results27, go_sem, Ent.v, c0, c1, c2, c3]) rfl ⟨rfl, ?_⟩
      exact set4 HB1.out (Nat.le_refl _) _ _ _ _

theorem mr_read_at (l : List Int) (b n j : Nat) (v : Value) (w : World) (h : MAr w b v n l) (hj : j < 16 * n) :
    Calls Tryd.prog 118 #[.pointer (some ⟨b, 0, none⟩), .int .i64 j] w fun e w' => e = .returned (.tuple #[.int .u32 (l.getD j 0), .bool true]) ∧ w = w' := by
  have hl := h.2.2
  have e1 : readAns l (j : Int) = .tuple #[.int .u32 (l.getD j 0), .bool true] := by unfold readAns; rw [if_pos (by omega), Int.toNat_natCast]
  have := mr_read l b n v (j : Int) w h
  rw [e1] at this
  exact this

theorem pageA_by (l : List Int) (n r p : Nat) (hr : r < n) (hp : p < 256) (o : Ent) (ok : Bool) (h : ofA (l.getD (16 * r + p / 16) 0) = (o, ok)) : pageA l n (r : Int) (p : Int) = if ok = true ∧ o.t = true then entryA l n o.f (p % 16) else (Ent.z, false) := by
  unfold pageA
  have e1 : entryA l n (r : Int) (p / 16) = if ok = true ∧ o.t = true then (o, true) else (Ent.z, false) := by
    unfold entryA
    rw [Int.toNat_natCast, h]
    by_cases hc : ok = true ∧ o.t = true
    · rw [if_pos hc, if_pos ⟨by omega, by omega, hc⟩]
    · rw [if_neg hc, if_neg (fun h => hc h.2.2)]
  rw [Int.toNat_natCast, e1]
  by_cases hc : ok = true ∧ o.t = true
  · rw [if_pos hc, if_pos hc, if_pos ⟨by omega, by omega, rfl⟩]
  · rw [if_neg hc, if_neg hc, if_neg (fun h => by cases h.2.2)]
theorem entryA_by (l : List Int) (n : Nat) (f : Int) (i : Nat) (h0 : 0 ≤ f) (h1 : f < (n : Int)) (o : Ent) (ok : Bool) (h : ofA (l.getD (16 * f.toNat + i) 0) = (o, ok)) : entryA l n f i = if ok = true ∧ o.t = true then (o, true) else (Ent.z, false) := by
  unfold entryA
  rw [h]
  by_cases hc : ok = true ∧ o.t = true
  · rw [if_pos hc, if_pos ⟨h0, h1, hc⟩]
  · rw [if_neg hc, if_neg (fun h => hc h.2.2)]