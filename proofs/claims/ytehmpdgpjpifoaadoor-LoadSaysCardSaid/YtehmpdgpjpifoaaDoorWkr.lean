/-
  The document's walk: where an address is, over the list of a memory's words.
-/
import Derived.Test.YtehmpdgpjpifoaaDoorWk
import Derived.Test.YtehmpdgpjpifoaaDoorMrB
import Derived.BigQuiet
namespace Go.Proofs.YtehmpdgpjpifoaaDoor
open Go.RowKit

/-- an entry's bits, or none -/
def bitsA (e : Ent) : Int × Bool := if entOkB e.f e.t e.w e.u then (entW e.f e.t e.w e.u, true) else (0, false)
def wordV (p : Int × Bool) : Value := .tuple #[.int .u32 p.1, .bool p.2]

theorem bits_any (e : Ent) (w : World) : Calls Tryd.prog 50 #[e.v] w fun x w' => x = .returned (wordV (bitsA e)) ∧ Below w.heap.size w w' := by
  unfold bitsA
  by_cases h : entOkB e.f e.t e.w e.u = true
  · rw [if_pos h]
    exact bits_yes e.f e.t e.w e.u w ((entOkB_iff _ _ _ _).1 h)
  · rw [if_neg h]
    exact bits_no e.f e.t e.w e.u w (fun h' => h ((entOkB_iff _ _ _ _).2 h'))

set_option maxHeartbeats 1000000 in
theorem rbits_any (e : Ent) (w : World) : Calls Tryd.prog 58 #[e.v] w fun x w' => x = .returned (wordV (bitsA e)) ∧ Below w.heap.size w w' := by
  obtain ⟨f, t, wr, u⟩ := e
  by_cases h1 : f < 0
  · have HE : Hid (bitsA ⟨f, t, wr, u⟩ = (0, false)) := Lib.hid (by unfold bitsA; rw [if_neg (by simp [entOkB]; omega)])
    rw [HE.out]
    unfold Ent.v
    go_enter Tryd.func58, Tryd.ntmps58
    go_wp2
    go_ret2
    exact ⟨rfl, (Below.refl _ _).alloc (Nat.le_refl _) _⟩
  · by_cases h2 : 1024 ≤ f
    · have HE : Hid (bitsA ⟨f, t, wr, u⟩ = (0, false)) := Lib.hid (by unfold bitsA; rw [if_neg (by simp [entOkB]; omega)])
      rw [HE.out]
      unfold Ent.v
      go_enter Tryd.func58, Tryd.ntmps58
      go_wp2
      go_ret2
      exact ⟨rfl, (Below.refl _ _).alloc (Nat.le_refl _) _⟩
    · cases t
      · by_cases hf : f = 0
        · subst hf
          cases wr <;> cases u
          all_goals
            first
              | have HE : Hid (bitsA ⟨0, false, false, false⟩ = (0, true)) := Lib.hid (by decide)
                rw [HE.out]
                have hk : True := trivial
              | rw [show bitsA _ = (0, false) by unfold bitsA; rw [if_neg (by simp [entOkB])]]
            unfold Ent.v
            go_enter Tryd.func58, Tryd.ntmps58
            go_wp2
            go_quiet (fail)
            go_wp2
            go_ret2
            exact ⟨rfl, below_drewN ((Below.refl _ _).alloc (Nat.le_refl _) _) _⟩
        · have HE : Hid (bitsA ⟨f, false, wr, u⟩ = (0, false)) := Lib.hid (by unfold bitsA; rw [if_neg (by simp [entOkB, hf])])
          rw [HE.out]
          have hf' : (f == 0) = false := by simp [hf]
          clear hf
          unfold Ent.v
          go_enter Tryd.func58, Tryd.ntmps58
          go_wp2
          go_quiet (fail)
          go_wp2
          go_ret2
          exact ⟨rfl, below_drewN ((Below.refl _ _).alloc (Nat.le_refl _) _) _⟩
      · have HE : Hid (bitsA ⟨f, true, wr, u⟩ = (entW f true wr u, true)) := Lib.hid (by unfold bitsA; rw [if_pos (by simp [entOkB]; omega)])
        rw [HE.out]
        have e0 : bits BinOp.or IntKind.u32 (f * 256) 1 = f * 256 + 1 := or_0 f 1 (by omega) (by omega) (by omega)
        have e1 : bits BinOp.or IntKind.u32 (f * 256 + 1) 2 = f * 256 + 1 + 2 := or_1 f 2 (by omega) (by omega) (by omega)
        have e2 : bits BinOp.or IntKind.u32 (f * 256 + 1) 4 = f * 256 + 1 + 4 := or_1 f 4 (by omega) (by omega) (by omega)
        have e3 := or_3 f (by omega) (by omega)
        have hu := IntWalk.u32_in f (by omega)
        have hu2 := IntWalk.u32_in (f * 256) (by omega)
        unfold Ent.v
        cases wr <;> cases u
        all_goals
          go_enter Tryd.func58, Tryd.ntmps58
          go_wp2
          go_ret2
          refine ⟨?_, (Below.refl _ _).alloc (Nat.le_refl _) _⟩
          show Ending.returned (Value.tuple #[.int .u32 _, .bool true]) = _
          simp only [wordV, entW, b2i]
          congr 4
        all_goals simp
        all_goals omega

theorem flag_ne (x k : Int) : (bits BinOp.and IntKind.u32 x k != 0) = flag x k := by
  have : 0 ≤ bits BinOp.and IntKind.u32 x k := by
    show 0 ≤ IntKind.u32.wrap _
    rw [IntKind.wrap_u32]
    omega
  unfold flag
  by_cases h : bits BinOp.and IntKind.u32 x k = 0
  · rw [h]; rfl
  · have h2 : 0 < bits BinOp.and IntKind.u32 x k := by omega
    rw [decide_eq_true h2]
    simp [h]
theorem ofA_by (x : Int) (y : Int) (ok : Bool) (h : bitsA ⟨x / 256, flag x 1, flag x 2, flag x 4⟩ = (y, ok)) : ofA x = if ok = true ∧ y = x then (⟨x / 256, flag x 1, flag x 2, flag x 4⟩, true) else (Ent.z, false) := by
  unfold ofA isEntB
  unfold bitsA at h
  by_cases hk : entOkB (x / 256) (flag x 1) (flag x 2) (flag x 4) = true
  · rw [if_pos hk] at h
    obtain ⟨rfl, rfl⟩ := Prod.mk.inj h
    rw [hk]
    simp only [Bool.true_and, decide_eq_true_eq, true_and]
  · rw [if_neg hk] at h
    obtain ⟨rfl, rfl⟩ := Prod.mk.inj h
    rw [Bool.not_eq_true] at hk
    rw [hk]
    rfl

set_option maxRecDepth 100000 in
set_option maxHeartbeats 1000000 in
theorem rof_any (x : Int) (w : World) (h : W32 x) :
    Calls Tryd.prog 57 #[.int .u32 x] w fun e w' => e = .returned (.tuple #[(ofA x).1.v, .bool (ofA x).2]) ∧ Below w.heap.size w w' := by
  by_cases h0 : x = 0
  · subst h0
    have HE : Hid (ofA 0 = (⟨0, false, false, false⟩, true)) := Lib.hid (by rw [ofA, if_pos (by decide)]; rfl)
    rw [HE.out]
    go_enter Tryd.func57, Tryd.ntmps57
    go_wp2
    refine bodyPost_ret (v := .tuple #[Ent.z.v, .bool true]) (by simp [results, Tryd.results57, go_sem, Ent.v, Ent.z]) rfl ⟨rfl, ?_⟩
    exact (Below.refl _ _).alloc (Nat.le_refl _) _
  · have h00 : (x == 0) = false := by simp [h0]
    have hx0 : 0 ≤ x := h.1
    have hx1 : x ≤ 4294967295 := h.2
    have HB := Lib.hid (fun wx => rbits_any ⟨x / 256, flag x 1, flag x 2, flag x 4⟩ wx)
    have HO := Lib.hid (ofA_by x)
    have f1 := flag_ne x 1
    have f2 := flag_ne x 2
    have f4 := flag_ne x 4
    have hw := IntWalk.i64_in (x / 256) (by omega)
    obtain ⟨⟨y, ok⟩, hy⟩ : ∃ q, bitsA ⟨x / 256, flag x 1, flag x 2, flag x 4⟩ = q := ⟨_, rfl⟩
    rw [HO.out _ _ hy]
    rw [hy] at HB
    obtain ⟨b1, hb1⟩ : ∃ b, flag x 1 = b := ⟨_, rfl⟩
    obtain ⟨b2, hb2⟩ : ∃ b, flag x 2 = b := ⟨_, rfl⟩
    obtain ⟨b4, hb4⟩ : ∃ b, flag x 4 = b := ⟨_, rfl⟩
    rw [hb1] at f1 HB ⊢
    rw [hb2] at f2 HB ⊢
    rw [hb4] at f4 HB ⊢
    clear hb1 hb2 hb4 hy HO h h0
    unfold Ent.v
    unfold Ent.v at HB
    have hyx : (y != x) = !decide (y = x) := by by_cases e : y = x <;> simp [e]
    obtain ⟨d, hd⟩ : ∃ d, decide (y = x) = d := ⟨_, rfl⟩
    rw [hd] at hyx
    have HI : Hid (ok = true ∧ y = x ↔ ok = true ∧ d = true) := Lib.hid (by rw [← hd]; simp)
    rw [show (if ok = true ∧ y = x then ((⟨x / 256, b1, b2, b4⟩ : Ent), true) else (Ent.z, false)) = (if ok = true ∧ d = true then ((⟨x / 256, b1, b2, b4⟩ : Ent), true) else (Ent.z, false)) by simp only [HI.out]]
    clear hd HI
    go_enter Tryd.func57, Tryd.ntmps57
    go_wp2_with fail
    refine (HB.out _).mono ?_
    rintro e w1 ⟨rfl, hb⟩
    have k0 : w1.heap[w.heap.size]? = _ := (hb.block w.heap.size (by simp; omega)).trans (blk_old (blk_new w _) _)
    have k1 : w1.heap[w.heap.size + 1]? = _ := (hb.block (w.heap.size + 1) (by simp)).trans (show _ = some (.cells #[.int .i64 (x / 256), .bool b1, .bool b2, .bool b4] 84 (0, 0)) by
      have := blk_new (w.alloc (.cells #[.int .i64 0, .bool false, .bool false, .bool false] 84)) (.cells #[.int .i64 (x / 256), .bool b1, .bool b2, .bool b4] 84)
      simpa using this)
    have HB1 : Hid (Below w.heap.size w w1) := Lib.hid ((((Below.refl _ _).alloc (Nat.le_refl _) _).alloc (by simp) _).trans (hb.mono (by simp; omega)))
    have c0 := blk_cell k0 0
    have c1 := blk_cell k0 1
    have c2 := blk_cell k0 2
    have c3 := blk_cell k0 3
    have f0 := blk_free k0 0
    have f1 := blk_free k0 1
    have f2 := blk_free k0 2
    have f3 := blk_free k0 3
    have d0 := blk_cell k1 0
    have d1 := blk_cell k1 1
    have d2 := blk_cell k1 2
    have d3 := blk_cell k1 3
    clear hb k0 k1
    unfold wordV
    cases ok <;> cases d
    all_goals
      go_wp2
    iterate 3
      · refine bodyPost_ret (v := .tuple #[Ent.z.v, .bool false]) (by simp [results, Tryd.results57, go_sem, Ent.v, Ent.z, c0, c1, c2, c3]) rfl ⟨rfl, ?_⟩
        exact set4 HB1.out (Nat.le_refl _) _ _ _ _
    · refine bodyPost_ret (v := .tuple #[(⟨x / 256, b1, b2, b4⟩ : Ent).v, .bool true]) (by simp [results, Tryd.results57, go_sem, Ent.v, c0, c1, c2, c3]) rfl ⟨rfl, ?_⟩
      exact set4 HB1.out (Nat.le_refl _) _ _ _ _

theorem mr_read_at (l : List Int) (b n j : Nat) (v : Value) (w : World) (h : MAr w b v n l) (hj : j < 16 * n) :
    Calls Tryd.prog 56 #[.pointer (some ⟨b, 0, none⟩), .int .i64 j] w fun e w' => e = .returned (.tuple #[.int .u32 (l.getD j 0), .bool true]) ∧ w = w' := by
  have hl := h.2.2
  have e1 : readAns l (j : Int) = .tuple #[.int .u32 (l.getD j 0), .bool true] := by unfold readAns; rw [if_pos (by omega), Int.toNat_natCast]
  have := mr_read l b n v (j : Int) w h
  rw [e1] at this
  exact this

theorem pageA_by (l : List Int) (n r p : Nat) (hr : r < n) (hp : p < 256) (o : Ent) (ok : Bool) (h : ofA (l.getD (16 * r + p / 16) 0) = (o, ok)) : pageA l n (r : Int) (p : Int) = if ok = true ∧ o.t = true then entryA l n o.f (p % 16) else (Ent.z, false) := by
  unfold pageA
  have e1 : entryA l n (r : Int) (p / 16) = if ok = true ∧ o.t = true then (o, true) else (Ent.z, false) := by
    unfold entryA
    rw [Int.toNat_natCast, h]
    by_cases hc : ok = true ∧ o.t = true
    · rw [if_pos hc, if_pos ⟨by omega, by omega, hc⟩]
    · rw [if_neg hc, if_neg (fun h => hc h.2.2)]
  rw [Int.toNat_natCast, e1]
  by_cases hc : ok = true ∧ o.t = true
  · rw [if_pos hc, if_pos hc, if_pos ⟨by omega, by omega, rfl⟩]
  · rw [if_neg hc, if_neg hc, if_neg (fun h => by cases h.2.2)]
theorem entryA_by (l : List Int) (n : Nat) (f : Int) (i : Nat) (h0 : 0 ≤ f) (h1 : f < (n : Int)) (o : Ent) (ok : Bool) (h : ofA (l.getD (16 * f.toNat + i) 0) = (o, ok)) : entryA l n f i = if ok = true ∧ o.t = true then (o, true) else (Ent.z, false) := by
  unfold entryA
  rw [h]
  by_cases hc : ok = true ∧ o.t = true
  · rw [if_pos hc, if_pos ⟨h0, h1, hc⟩]
  · rw [if_neg hc, if_neg (fun h => hc h.2.2)]

set_option maxRecDepth 100000 in
set_option maxHeartbeats 1000000 in
theorem rpage_out (l : List Int) (b n : Nat) (v : Value) (root page : Int) (w : World) (h : MAr w b v n l) (hn : n ≤ 1024) (hc : page < 0 ∨ (¬ page < 0 ∧ 256 ≤ page) ∨ (¬ page < 0 ∧ ¬ 256 ≤ page ∧ root < 0) ∨ (¬ page < 0 ∧ ¬ 256 ≤ page ∧ ¬ root < 0 ∧ (n : Int) ≤ root)) :
    Calls Tryd.prog 38 #[.pointer (some ⟨b, 0, none⟩), .int .i64 root, .int .i64 page] w fun e w' => e = .returned (.tuple #[Ent.z.v, .bool false]) ∧ Below w.heap.size w w' := by
  have HM := Lib.hid h
  clear h
  rcases hc with h1 | ⟨h1, h2⟩ | ⟨h1, h2, h3⟩ | ⟨h1, h2, h3, h4⟩
  iterate 3
    · go_enter Tryd.func38, Tryd.ntmps38
      go_wp2
      refine bodyPost_ret (v := .tuple #[Ent.z.v, .bool false]) (by simp [results, Tryd.results38, go_sem, Ent.v, Ent.z]) rfl ⟨rfl, ?_⟩
      exact (Below.refl _ _).alloc (Nat.le_refl _) _
  · go_enter Tryd.func38, Tryd.ntmps38
    go_wp2_with fail
    refine (mr_frames l b n v _ (HM.out.below ((Below.refl _ _).alloc (Nat.le_refl _) _)) hn).mono ?_
    rintro e w1 ⟨rfl, rfl⟩
    go_wp2
    refine bodyPost_ret (v := .tuple #[Ent.z.v, .bool false]) (by simp [results, Tryd.results38, go_sem, Ent.v, Ent.z]) rfl ⟨rfl, ?_⟩
    exact (Below.refl _ _).alloc (Nat.le_refl _) _

set_option maxRecDepth 100000 in
set_option maxHeartbeats 4000000 in
theorem rpage_in (l : List Int) (b n r p : Nat) (v : Value) (w : World) (h : MAr w b v n l) (hn : n ≤ 1024) (hl : ∀ j, W32 (l.getD j 0)) (hr : r < n) (hp : p < 256) :
    Calls Tryd.prog 38 #[.pointer (some ⟨b, 0, none⟩), .int .i64 r, .int .i64 p] w fun e w' => e = .returned (.tuple #[(pageA l n r p).1.v, .bool (pageA l n r p).2]) ∧ Below w.heap.size w w' := by
  have HM := Lib.hid h
  have HE := Lib.hid (pageA_by l n r p hr hp)
  have hri : (r : Int) < (n : Int) := by omega
  have hpi : (p : Int) < 256 := by omega
  have hw1 := IntWalk.i64_in ((r : Int) * 16) (by omega)
  obtain ⟨q1, hq1⟩ : ∃ q : Nat, p / 16 = q := ⟨_, rfl⟩
  obtain ⟨q2, hq2⟩ : ∃ q : Nat, p % 16 = q := ⟨_, rfl⟩
  have hq : (p : Int).tdiv 16 = (q1 : Int) := by rw [Int.tdiv_eq_ediv_of_nonneg (by omega)]; omega
  have hrm : (p : Int).tmod 16 = (q2 : Int) := by rw [Int.tmod_eq_emod_of_nonneg (by omega)]; omega
  have hl1 : q1 < 16 := by omega
  have hl2 : q2 < 16 := by omega
  have hw2 := IntWalk.i64_in (q1 : Int) (by omega)
  have hw3 := IntWalk.i64_in (q2 : Int) (by omega)
  have hw4 := IntWalk.i64_in ((r : Int) * 16 + (q1 : Int)) (by omega)
  rw [hq1, hq2] at HE
  have H1 : Hid (∀ wx, MAr wx b v n l → Calls Tryd.prog 56 #[.pointer (some ⟨b, 0, none⟩), .int .i64 ((r : Int) * 16 + (q1 : Int))] wx fun e w' => e = .returned (.tuple #[.int .u32 (l.getD (16 * r + q1) 0), .bool true]) ∧ wx = w') := Lib.hid fun wx hm => by
    have := mr_read_at l b n (16 * r + q1) v wx hm (by omega)
    rwa [show (((16 * r + q1 : Nat) : Nat) : Int) = (r : Int) * 16 + (q1 : Int) by omega] at this
  have HO1 : Hid (∀ wx, Calls Tryd.prog 57 #[.int .u32 (l.getD (16 * r + q1) 0)] wx fun e w' => e = .returned (.tuple #[(ofA (l.getD (16 * r + q1) 0)).1.v, .bool (ofA (l.getD (16 * r + q1) 0)).2]) ∧ Below wx.heap.size wx w') := Lib.hid fun wx => rof_any _ wx (hl _)
  have hog := ofA_range (l.getD (16 * r + q1) 0) (hl _).1
  obtain ⟨⟨⟨og, ot, ow, ou⟩, ok⟩, ho⟩ : ∃ q, ofA (l.getD (16 * r + q1) 0) = q := ⟨_, rfl⟩
  rw [HE.out _ _ ho]
  rw [ho] at HO1 hog
  obtain ⟨x1, hx1⟩ : ∃ x, l.getD (16 * r + q1) 0 = x := ⟨_, rfl⟩
  rw [hx1] at H1 HO1
  have hog1 : 0 ≤ og ∧ og < 1024 := hog
  clear hx1 ho HE hog h hr hp hq1 hq2
  have hcase : (ok = false) ∨ (ok = true ∧ ot = false) ∨ (ok = true ∧ ot = true ∧ (n : Int) ≤ og) ∨ (ok = true ∧ ot = true ∧ og < (n : Int)) := by
    rcases Int.lt_or_le og (n : Int) with hh | hh <;> cases ok <;> cases ot <;> simp [hh, Int.not_le.2, Int.not_lt.2]
  rcases hcase with rfl | ⟨rfl, rfl⟩ | ⟨rfl, rfl, hno⟩ | ⟨rfl, rfl, hyes⟩
  · rw [if_neg (by simp)]
    go_enter Tryd.func38, Tryd.ntmps38
    go_wp2_with fail
    refine (mr_frames l b n v _ (HM.out.below ((Below.refl _ _).alloc (Nat.le_refl _) _)) hn).mono ?_
    rintro e w1 ⟨rfl, rfl⟩
    go_wp2_with fail
    refine (H1.out _ (HM.out.below ((Below.refl _ _).alloc (Nat.le_refl _) _))).mono ?_
    rintro e w1 ⟨rfl, rfl⟩
    go_wp2_with fail
    refine (HO1.out _).mono ?_
    rintro e w1 ⟨rfl, hb⟩
    have k0 : w1.heap[w.heap.size]? = _ := (hb.block w.heap.size (by simp)).trans (blk_new w _)
    have HB : Hid (Below w.heap.size w w1) := Lib.hid (((Below.refl _ _).alloc (Nat.le_refl _) _).trans (hb.mono (by simp)))
    have hlt := blk_lt k0
    have c0 := blk_cell k0 0
    have c1 := blk_cell k0 1
    have c2 := blk_cell k0 2
    have c3 := blk_cell k0 3
    have f0 := blk_free k0 0
    have f1 := blk_free k0 1
    have f2 := blk_free k0 2
    have f3 := blk_free k0 3
    have HMA : Hid (∀ X m, MAr ((w1.alloc X).drewN m) b v n l) := Lib.hid fun X m => (HM.out.below HB.out).below (below_drewN ((Below.refl _ _).alloc (Nat.le_refl _) _) m)
    unfold Ent.v
    clear hb k0
    go_wp2_with fail
    go_quiet ((go_at_call 39; refine Calls.quiet_of_same ((mr_frames l b n v _ (HMA.out _ _) hn).mono fun _ _ h => ⟨h.1, h.2.symm⟩)))
    go_wp2
    refine bodyPost_ret (v := .tuple #[Ent.z.v, .bool false]) (by simp [results, Tryd.results38, go_sem, Ent.v, Ent.z, hlt, c0, c1, c2, c3]) rfl ⟨rfl, ?_⟩
    exact set4 (below_drewN (HB.out.alloc HB.out.size _) _) (Nat.le_refl _) _ _ _ _
  · rw [if_neg (by simp)]
    go_enter Tryd.func38, Tryd.ntmps38
    go_wp2_with fail
    refine (mr_frames l b n v _ (HM.out.below ((Below.refl _ _).alloc (Nat.le_refl _) _)) hn).mono ?_
    rintro e w1 ⟨rfl, rfl⟩
    go_wp2_with fail
    refine (H1.out _ (HM.out.below ((Below.refl _ _).alloc (Nat.le_refl _) _))).mono ?_
    rintro e w1 ⟨rfl, rfl⟩
    go_wp2_with fail
    refine (HO1.out _).mono ?_
    rintro e w1 ⟨rfl, hb⟩
    have k0 : w1.heap[w.heap.size]? = _ := (hb.block w.heap.size (by simp)).trans (blk_new w _)
    have HB : Hid (Below w.heap.size w w1) := Lib.hid (((Below.refl _ _).alloc (Nat.le_refl _) _).trans (hb.mono (by simp)))
    have hlt := blk_lt k0
    have c0 := blk_cell k0 0
    have c1 := blk_cell k0 1
    have c2 := blk_cell k0 2
    have c3 := blk_cell k0 3
    have f0 := blk_free k0 0
    have f1 := blk_free k0 1
    have f2 := blk_free k0 2
    have f3 := blk_free k0 3
    have HMA : Hid (∀ X m, MAr ((w1.alloc X).drewN m) b v n l) := Lib.hid fun X m => (HM.out.below HB.out).below (below_drewN ((Below.refl _ _).alloc (Nat.le_refl _) _) m)
    unfold Ent.v
    clear hb k0
    go_wp2_with fail
    go_quiet ((go_at_call 39; refine Calls.quiet_of_same ((mr_frames l b n v _ (HMA.out _ _) hn).mono fun _ _ h => ⟨h.1, h.2.symm⟩)))
    go_wp2
    refine bodyPost_ret (v := .tuple #[Ent.z.v, .bool false]) (by simp [results, Tryd.results38, go_sem, Ent.v, Ent.z, hlt, c0, c1, c2, c3]) rfl ⟨rfl, ?_⟩
    exact set4 (below_drewN (HB.out.alloc HB.out.size _) _) (Nat.le_refl _) _ _ _ _
  · rw [if_pos ⟨rfl, rfl⟩, show entryA l n og q2 = (Ent.z, false) by unfold entryA; rw [if_neg (by omega)]]
    go_enter Tryd.func38, Tryd.ntmps38
    go_wp2_with fail
    refine (mr_frames l b n v _ (HM.out.below ((Below.refl _ _).alloc (Nat.le_refl _) _)) hn).mono ?_
    rintro e w1 ⟨rfl, rfl⟩
    go_wp2_with fail
    refine (H1.out _ (HM.out.below ((Below.refl _ _).alloc (Nat.le_refl _) _))).mono ?_
    rintro e w1 ⟨rfl, rfl⟩
    go_wp2_with fail
    refine (HO1.out _).mono ?_
    rintro e w1 ⟨rfl, hb⟩
    have k0 : w1.heap[w.heap.size]? = _ := (hb.block w.heap.size (by simp)).trans (blk_new w _)
    have HB : Hid (Below w.heap.size w w1) := Lib.hid (((Below.refl _ _).alloc (Nat.le_refl _) _).trans (hb.mono (by simp)))
    have hlt := blk_lt k0
    have c0 := blk_cell k0 0
    have c1 := blk_cell k0 1
    have c2 := blk_cell k0 2
    have c3 := blk_cell k0 3
    have f0 := blk_free k0 0
    have f1 := blk_free k0 1
    have f2 := blk_free k0 2
    have f3 := blk_free k0 3
    have HMA : Hid (∀ X m, MAr ((w1.alloc X).drewN m) b v n l) := Lib.hid fun X m => (HM.out.below HB.out).below (below_drewN ((Below.refl _ _).alloc (Nat.le_refl _) _) m)
    unfold Ent.v
    clear hb k0
    go_wp2_with fail
    go_quiet ((go_at_call 39; refine Calls.quiet_of_same ((mr_frames l b n v _ (HMA.out _ _) hn).mono fun _ _ h => ⟨h.1, h.2.symm⟩)))
    go_wp2
    refine bodyPost_ret (v := .tuple #[Ent.z.v, .bool false]) (by simp [results, Tryd.results38, go_sem, Ent.v, Ent.z, hlt, c0, c1, c2, c3]) rfl ⟨rfl, ?_⟩
    exact set4 (below_drewN (HB.out.alloc HB.out.size _) _) (Nat.le_refl _) _ _ _ _
  · rw [if_pos ⟨rfl, rfl⟩]
    obtain ⟨a, rfl⟩ : ∃ a : Nat, og = (a : Int) := ⟨og.toNat, by omega⟩
    have HE2 := Lib.hid (entryA_by l n (a : Int) q2 (by omega) hyes)
    rw [Int.toNat_natCast] at HE2
    have hw5 := IntWalk.i64_in ((a : Int) * 16) (by omega)
    have hw6 := IntWalk.i64_in ((a : Int) * 16 + (q2 : Int)) (by omega)
    have H2 : Hid (∀ wx, MAr wx b v n l → Calls Tryd.prog 56 #[.pointer (some ⟨b, 0, none⟩), .int .i64 ((a : Int) * 16 + (q2 : Int))] wx fun e w' => e = .returned (.tuple #[.int .u32 (l.getD (16 * a + q2) 0), .bool true]) ∧ wx = w') := Lib.hid fun wx hm => by
      have := mr_read_at l b n (16 * a + q2) v wx hm (by omega)
      rwa [show (((16 * a + q2 : Nat) : Nat) : Int) = (a : Int) * 16 + (q2 : Int) by omega] at this
    have HO2 : Hid (∀ wx, Calls Tryd.prog 57 #[.int .u32 (l.getD (16 * a + q2) 0)] wx fun e w' => e = .returned (.tuple #[(ofA (l.getD (16 * a + q2) 0)).1.v, .bool (ofA (l.getD (16 * a + q2) 0)).2]) ∧ Below wx.heap.size wx w') := Lib.hid fun wx => rof_any _ wx (hl _)
    obtain ⟨⟨⟨pg, pt, pw, pu⟩, pk⟩, hp⟩ : ∃ q, ofA (l.getD (16 * a + q2) 0) = q := ⟨_, rfl⟩
    rw [HE2.out _ _ hp]
    rw [hp] at HO2
    obtain ⟨x2, hx2⟩ : ∃ x, l.getD (16 * a + q2) 0 = x := ⟨_, rfl⟩
    rw [hx2] at H2 HO2
    clear hx2 hp HE2
    go_enter Tryd.func38, Tryd.ntmps38
    go_wp2_with fail
    refine (mr_frames l b n v _ (HM.out.below ((Below.refl _ _).alloc (Nat.le_refl _) _)) hn).mono ?_
    rintro e w1 ⟨rfl, rfl⟩
    go_wp2_with fail
    refine (H1.out _ (HM.out.below ((Below.refl _ _).alloc (Nat.le_refl _) _))).mono ?_
    rintro e w1 ⟨rfl, rfl⟩
    go_wp2_with fail
    refine (HO1.out _).mono ?_
    rintro e w1 ⟨rfl, hb⟩
    have K0 : Hid (w1.heap[w.heap.size]? = _) := Lib.hid ( (hb.block w.heap.size (by simp)).trans (blk_new w _))
    have HB : Hid (Below w.heap.size w w1) := Lib.hid (((Below.refl _ _).alloc (Nat.le_refl _) _).trans (hb.mono (by simp)))
    have hlt := blk_lt K0.out
    have HMA : Hid (∀ X m, MAr ((w1.alloc X).drewN m) b v n l) := Lib.hid fun X m => (HM.out.below HB.out).below (below_drewN ((Below.refl _ _).alloc (Nat.le_refl _) _) m)
    unfold Ent.v
    clear hb
    go_wp2_with fail
    go_quiet ((go_at_call 39; refine Calls.quiet_of_same ((mr_frames l b n v _ (HMA.out _ _) hn).mono fun _ _ h => ⟨h.1, h.2.symm⟩)))
    obtain ⟨wq, hwq⟩ : ∃ wq, (w1.alloc (.cells #[.int .i64 (a : Int), .bool true, .bool ow, .bool ou] 84)).drewN nq = wq := ⟨_, rfl⟩
    have hbq : Below w1.heap.size w1 wq := hwq ▸ below_drewN ((Below.refl _ _).alloc (Nat.le_refl _) _) nq
    have e1 : wq.heap[w1.heap.size]? = _ := (hwq ▸ (show ((w1.alloc (.cells #[.int .i64 (a : Int), .bool true, .bool ow, .bool ou] 84)).drewN nq).heap[w1.heap.size]? = _ from blk_new w1 _))
    rw [hwq]
    have K1 : Hid (wq.heap[w.heap.size]? = _) := Lib.hid ((hbq.block _ hlt).trans K0.out)
    have HBQ := Lib.hid (HB.out.trans (hbq.mono HB.out.size))
    have g0 := blk_cell e1 0
    clear hwq hbq e1
    go_wp2_with fail
    refine (H2.out _ (HM.out.below HBQ.out)).mono ?_
    rintro e w2 ⟨rfl, rfl⟩
    go_wp2_with fail
    refine (HO2.out _).mono ?_
    rintro e w2 ⟨rfl, hb⟩
    have k2 : w2.heap[w.heap.size]? = _ := (hb.block w.heap.size (blk_lt K1.out)).trans K1.out
    have HB2 := Lib.hid (HBQ.out.trans (hb.mono HBQ.out.size))
    have hlt2 := blk_lt k2
    have c0 := blk_cell k2 0
    have c1 := blk_cell k2 1
    have c2 := blk_cell k2 2
    have c3 := blk_cell k2 3
    have f0 := blk_free k2 0
    have f1 := blk_free k2 1
    have f2 := blk_free k2 2
    have f3 := blk_free k2 3
    unfold Ent.v
    clear hb k2
    cases pk <;> cases pt
    all_goals
      go_wp2
    iterate 3
      · refine bodyPost_ret (v := .tuple #[Ent.z.v, .bool false]) (by simp [results, Tryd.results38, go_sem, Ent.v, Ent.z, hlt2, c0, c1, c2, c3]) rfl ⟨rfl, ?_⟩
        exact set4a HB2.out (Nat.le_refl _) _ _ _ _ _
    · refine bodyPost_ret (v := .tuple #[(⟨pg, true, pw, pu⟩ : Ent).v, .bool true]) (by simp [results, Tryd.results38, go_sem, Ent.v, hlt2, c0, c1, c2, c3]) rfl ⟨rfl, ?_⟩
      exact set4a HB2.out (Nat.le_refl _) _ _ _ _ _
theorem rpage_any (l : List Int) (b n : Nat) (v : Value) (root page : Int) (w : World) (h : MAr w b v n l) (hn : n ≤ 1024) (hl : ∀ j, W32 (l.getD j 0)) :
    Calls Tryd.prog 38 #[.pointer (some ⟨b, 0, none⟩), .int .i64 root, .int .i64 page] w fun e w' => e = .returned (.tuple #[(pageA l n root page).1.v, .bool (pageA l n root page).2]) ∧ Below w.heap.size w w' := by
  by_cases hc : 0 ≤ page ∧ page < 256 ∧ 0 ≤ root ∧ root < (n : Int)
  · obtain ⟨p, rfl⟩ : ∃ p : Nat, page = (p : Int) := ⟨page.toNat, by omega⟩
    obtain ⟨r, rfl⟩ : ∃ r : Nat, root = (r : Int) := ⟨root.toNat, by omega⟩
    exact rpage_in l b n r p v w h hn hl (by omega) (by omega)
  · have e1 : pageA l n root page = (Ent.z, false) := by
      unfold pageA
      by_cases h1 : 0 ≤ page ∧ page < 256
      · have : (entryA l n root (page.toNat / 16)).2 = false := by
          unfold entryA
          rw [if_neg (fun h => hc ⟨h1.1, h1.2, h.1, h.2.1⟩)]
        rw [if_neg (fun h => by rw [this] at h; cases h.2.2)]
      · rw [if_neg (fun h => h1 ⟨h.1, h.2.1⟩)]
    rw [e1]
    exact rpage_out l b n v root page w h hn (by omega)
end Go.Proofs.YtehmpdgpjpifoaaDoor
