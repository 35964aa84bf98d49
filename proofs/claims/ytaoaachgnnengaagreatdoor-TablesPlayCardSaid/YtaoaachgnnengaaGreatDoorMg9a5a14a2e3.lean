/-
  Parts of one proof, one behind the other.
-/
import Derived.Test.YtaoaachgnnengaaGreatDoorMg4e4d88e392
import Derived.BigQuiet
import Derived.Lib.SliceRun
import Derived.Test.YtaoaachgnnengaaGreatDoorMg46ad1761f3
/-
  The document's walk: where an address is, over the list of a memory's words.
-/
namespace Go.Proofs.YtaoaachgnnengaaGreatDoor
open Go.RowKit

/-- an entry's bits, or none -/
def bitsA (e : Ent) : Int × Bool := if entOkB e.f e.t e.w e.u then (entW e.f e.t e.w e.u, true) else (0, false)
def wordV (p : Int × Bool) : Value := .tuple #[.int .u32 p.1, .bool p.2]

theorem bits_any (e : Ent) (w : World) : Calls Tryz.prog 88 #[e.v] w fun x w' => x = .returned (wordV (bitsA e)) ∧ Below w.heap.size w w' := by
  unfold bitsA
  by_cases h : entOkB e.f e.t e.w e.u = true
  · rw [if_pos h]
    exact bits_yes e.f e.t e.w e.u w ((entOkB_iff _ _ _ _).1 h)
  · rw [if_neg h]
    exact bits_no e.f e.t e.w e.u w (fun h' => h ((entOkB_iff _ _ _ _).2 h'))

set_option maxHeartbeats 1000000 in
theorem rbits_any (e : Ent) (w : World) : Calls Tryz.prog 92 #[e.v] w fun x w' => x = .returned (wordV (bitsA e)) ∧ Below w.heap.size w w' := by
  obtain ⟨f, t, wr, u⟩ := e
  by_cases h1 : f < 0
  · have HE : Hid (bitsA ⟨f, t, wr, u⟩ = (0, false)) := Lib.hid (by unfold bitsA; rw [if_neg (by simp [entOkB]; omega)])
    rw [HE.out]
    unfold Ent.v
    go_enter Tryz.func92, Tryz.ntmps92
    go_wp2
    go_ret2
    exact ⟨rfl, (Below.refl _ _).alloc (Nat.le_refl _) _⟩
  · by_cases h2 : 1024 ≤ f
    · have HE : Hid (bitsA ⟨f, t, wr, u⟩ = (0, false)) := Lib.hid (by unfold bitsA; rw [if_neg (by simp [entOkB]; omega)])
      rw [HE.out]
      unfold Ent.v
      go_enter Tryz.func92, Tryz.ntmps92
      go_wp2
      go_ret2
      exact ⟨rfl, (Below.refl _ _).alloc (Nat.le_refl _) _⟩
    · cases t
      · by_cases hf : f = 0
        · subst hf
          cases wr <;> cases u
          all_goals
            first
              | have HE : Hid (bitsA ⟨0, false, false, false⟩ = (0, true)) := Lib.hid (by decide)
                rw [HE.out]
                have hk : True := trivial
              | rw [show bitsA _ = (0, false) by unfold bitsA; rw [if_neg (by simp [entOkB])]]
            unfold Ent.v
            go_enter Tryz.func92, Tryz.ntmps92
            go_wp2
            go_quiet (fail)
            go_wp2
            go_ret2
            exact ⟨rfl, below_drewN ((Below.refl _ _).alloc (Nat.le_refl _) _) _⟩
        · have HE : Hid (bitsA ⟨f, false, wr, u⟩ = (0, false)) := Lib.hid (by unfold bitsA; rw [if_neg (by simp [entOkB, hf])])
          rw [HE.out]
          have hf' : (f == 0) = false := by simp [hf]
          clear hf
          unfold Ent.v
          go_enter Tryz.func92, Tryz.ntmps92
          go_wp2
          go_quiet (fail)
          go_wp2
          go_ret2
          exact ⟨rfl, below_drewN ((Below.refl _ _).alloc (Nat.le_refl _) _) _⟩
      · have HE : Hid (bitsA ⟨f, true, wr, u⟩ = (entW f true wr u, true)) := Lib.hid (by unfold bitsA; rw [if_pos (by simp [entOkB]; omega)])
        rw [HE.out]
        have e0 : bits BinOp.or IntKind.u32 (f * 256) 1 = f * 256 + 1 := or_0 f 1 (by omega) (by omega) (by omega)
        have e1 : bits BinOp.or IntKind.u32 (f * 256 + 1) 2 = f * 256 + 1 + 2 := or_1 f 2 (by omega) (by omega) (by omega)
        have e2 : bits BinOp.or IntKind.u32 (f * 256 + 1) 4 = f * 256 + 1 + 4 := or_1 f 4 (by omega) (by omega) (by omega)
        have e3 := or_3 f (by omega) (by omega)
        have hu := IntWalk.u32_in f (by omega)
        have hu2 := IntWalk.u32_in (f * 256) (by omega)
        unfold Ent.v
        cases wr <;> cases u
        all_goals
          go_enter Tryz.func92, Tryz.ntmps92
          go_wp2
          go_ret2
          refine ⟨?_, (Below.refl _ _).alloc (Nat.le_refl _) _⟩
          show Ending.returned (Value.tuple #[.int .u32 _, .bool true]) = _
          simp only [wordV, entW, b2i]
          congr 4
        all_goals simp
        all_goals omega

theorem flag_ne (x k : Int) : (bits BinOp.and IntKind.u32 x k != 0) = flag x k := by
  have : 0 ≤ bits BinOp.and IntKind.u32 x k := by
    show 0 ≤ IntKind.u32.wrap _
    rw [IntKind.wrap_u32]
    omega
  unfold flag
  by_cases h : bits BinOp.and IntKind.u32 x k = 0
  · rw [h]; rfl
  · have h2 : 0 < bits BinOp.and IntKind.u32 x k := by omega
    rw [decide_eq_true h2]
    simp [h]
theorem ofA_by (x : Int) (y : Int) (ok : Bool) (h : bitsA ⟨x / 256, flag x 1, flag x 2, flag x 4⟩ = (y, ok)) : ofA x = if ok = true ∧ y = x then (⟨x / 256, flag x 1, flag x 2, flag x 4⟩, true) else (Ent.z, false) := by
  unfold ofA isEntB
  unfold bitsA at h
  by_cases hk : entOkB (x / 256) (flag x 1) (flag x 2) (flag x 4) = true
  · rw [if_pos hk] at h
    obtain ⟨rfl, rfl⟩ := Prod.mk.inj h
    rw [hk]
    simp only [Bool.true_and, decide_eq_true_eq, true_and]
  · rw [if_neg hk] at h
    obtain ⟨rfl, rfl⟩ := Prod.mk.inj h
    rw [Bool.not_eq_true] at hk
    rw [hk]
    rfl

set_option maxRecDepth 100000 in
set_option maxHeartbeats 1000000 in
theorem rof_any (x : Int) (w : World) (h : W32 x) :
    Calls Tryz.prog 83 #[.int .u32 x] w fun e w' => e = .returned (.tuple #[(ofA x).1.v, .bool (ofA x).2]) ∧ Below w.heap.size w w' := by
  by_cases h0 : x = 0
  · subst h0
    have HE : Hid (ofA 0 = (⟨0, false, false, false⟩, true)) := Lib.hid (by rw [ofA, if_pos (by decide)]; rfl)
    rw [HE.out]
    go_enter Tryz.func83, Tryz.ntmps83
    go_wp2
    refine bodyPost_ret (v := .tuple #[Ent.z.v, .bool true]) (by simp [results, Tryz.results83, go_sem, Ent.v, Ent.z]) rfl ⟨rfl, ?_⟩
    exact (Below.refl _ _).alloc (Nat.le_refl _) _
  · have h00 : (x == 0) = false := by simp [h0]
    have hx0 : 0 ≤ x := h.1
    have hx1 : x ≤ 4294967295 := h.2
    have HB := Lib.hid (fun wx => rbits_any ⟨x / 256, flag x 1, flag x 2, flag x 4⟩ wx)
    have HO := Lib.hid (ofA_by x)
    have f1 := flag_ne x 1
    have f2 := flag_ne x 2
    have f4 := flag_ne x 4
    have hw := IntWalk.i64_in (x / 256) (by omega)
    obtain ⟨⟨y, ok⟩, hy⟩ : ∃ q, bitsA ⟨x / 256, flag x 1, flag x 2, flag x 4⟩ = q := ⟨_, rfl⟩
    rw [HO.out _ _ hy]
    rw [hy] at HB
    obtain ⟨b1, hb1⟩ : ∃ b, flag x 1 = b := ⟨_, rfl⟩
    obtain ⟨b2, hb2⟩ : ∃ b, flag x 2 = b := ⟨_, rfl⟩
    obtain ⟨b4, hb4⟩ : ∃ b, flag x 4 = b := ⟨_, rfl⟩
    rw [hb1] at f1 HB ⊢
    rw [hb2] at f2 HB ⊢
    rw [hb4] at f4 HB ⊢
    clear hb1 hb2 hb4 hy HO h h0
    unfold Ent.v
    unfold Ent.v at HB
    have hyx : (y != x) = !decide (y = x) := by by_cases e : y = x <;> simp [e]
    obtain ⟨d, hd⟩ : ∃ d, decide (y = x) = d := ⟨_, rfl⟩
    rw [hd] at hyx
    have HI : Hid (ok = true ∧ y = x ↔ ok = true ∧ d = true) := Lib.hid (by rw [← hd]; simp)
    rw [show (if ok = true ∧ y = x then ((⟨x / 256, b1, b2, b4⟩ : Ent), true) else (Ent.z, false)) = (if ok = true ∧ d = true then ((⟨x / 256, b1, b2, b4⟩ : Ent), true) else (Ent.z, false)) by simp only [HI.out]]
    clear hd HI
    go_enter Tryz.func83, Tryz.ntmps83
    go_wp2_with fail
    refine (HB.out _).mono ?_
    rintro e w1 ⟨rfl, hb⟩
    have k0 : w1.heap[w.heap.size]? = _ := (hb.block w.heap.size (by simp; omega)).trans (blk_old (blk_new w _) _)
    have k1 : w1.heap[w.heap.size + 1]? = _ := (hb.block (w.heap.size + 1) (by simp)).trans (show _ = some (.cells #[.int .i64 (x / 256), .bool b1, .bool b2, .bool b4] 34 (0, 0)) by
      have := blk_new (w.alloc (.cells #[.int .i64 0, .bool false, .bool false, .bool false] 34)) (.cells #[.int .i64 (x / 256), .bool b1, .bool b2, .bool b4] 34)
      simpa using this)
    have HB1 : Hid (Below w.heap.size w w1) := Lib.hid ((((Below.refl _ _).alloc (Nat.le_refl _) _).alloc (by simp) _).trans (hb.mono (by simp; omega)))
    have c0 := blk_cell k0 0
    have c1 := blk_cell k0 1
    have c2 := blk_cell k0 2
    have c3 := blk_cell k0 3
    have f0 := blk_free k0 0
    have f1 := blk_free k0 1
    have f2 := blk_free k0 2
    have f3 := blk_free k0 3
    have d0 := blk_cell k1 0
    have d1 := blk_cell k1 1
    have d2 := blk_cell k1 2
    have d3 := blk_cell k1 3
    clear hb k0 k1
    unfold wordV
    cases ok <;> cases d
    all_goals
      go_wp2
    iterate 3
      · refine bodyPost_ret (v := .tuple #[Ent.z.v, .bool false]) (by simp [results, Tryz.results83, go_sem, Ent.v, Ent.z, c0, c1, c2, c3]) rfl ⟨rfl, ?_⟩
        exact set4 HB1.out (Nat.le_refl _) _ _ _ _
    · refine bodyPost_ret (v := .tuple #[(⟨x / 256, b1, b2, b4⟩ : Ent).v, .bool true]) (by simp [results, Tryz.results83, go_sem, Ent.v, c0, c1, c2, c3]) rfl ⟨rfl, ?_⟩
      exact set4 HB1.out (Nat.le_refl _) _ _ _ _

theorem mr_read_at (l : List Int) (b n j : Nat) (v : Value) (w : World) (h : MAr w b v n l) (hj : j < 16 * n) :
    Calls Tryz.prog 82 #[.pointer (some ⟨b, 0, none⟩), .int .i64 j] w fun e w' => e = .returned (.tuple #[.int .u32 (l.getD j 0), .bool true]) ∧ w = w' := by
  have hl := h.2.2
  have e1 : readAns l (j : Int) = .tuple #[.int .u32 (l.getD j 0), .bool true] := by unfold readAns; rw [if_pos (by omega), Int.toNat_natCast]
  have := mr_read l b n v (j : Int) w h
  rw [e1] at this
  exact this

theorem pageA_by (l : List Int) (n r p : Nat) (hr : r < n) (hp : p < 256) (o : Ent) (ok : Bool) (h : ofA (l.getD (16 * r + p / 16) 0) = (o, ok)) : pageA l n (r : Int) (p : Int) = if ok = true ∧ o.t = true then entryA l n o.f (p % 16) else (Ent.z, false) := by
  unfold pageA
  have e1 : entryA l n (r : Int) (p / 16) = if ok = true ∧ o.t = true then (o, true) else (Ent.z, false) := by
    unfold entryA
    rw [Int.toNat_natCast, h]
    by_cases hc : ok = true ∧ o.t = true
    · rw [if_pos hc, if_pos ⟨by omega, by omega, hc⟩]
    · rw [if_neg hc, if_neg (fun h => hc h.2.2)]
  rw [Int.toNat_natCast, e1]
  by_cases hc : ok = true ∧ o.t = true
  · rw [if_pos hc, if_pos hc, if_pos ⟨by omega, by omega, rfl⟩]
  · rw [if_neg hc, if_neg hc, if_neg (fun h => by cases h.2.2)]
theorem entryA_by (l : List Int) (n : Nat) (f : Int) (i : Nat) (h0 : 0 ≤ f) (h1 : f < (n : Int)) (o : Ent) (ok : Bool) (h : ofA (l.getD (16 * f.toNat + i) 0) = (o, ok)) : entryA l n f i = if ok = true ∧ o.t = true then (o, true) else (Ent.z, false) := by
  unfold entryA
  rw [h]
  by_cases hc : ok = true ∧ o.t = true
  · rw [if_pos hc, if_pos ⟨h0, h1, hc⟩]
  · rw [if_neg hc, if_neg (fun h => hc h.2.2)]
end Go.Proofs.YtaoaachgnnengaaGreatDoor

/-
  mem.Fill: a frame's words.
-/
namespace Go.Proofs.YtaoaachgnnengaaGreatDoor
open Go.RowKit

def setL : List Int → Nat → List Int → List Int
  | l, _, [] => l
  | l, o, x :: xs => setL (l.set o x) (o + 1) xs
theorem setL_len : ∀ (xs l : List Int) (o : Nat), (setL l o xs).length = l.length
  | [], l, o => rfl
  | x :: xs, l, o => by rw [setL, setL_len xs]; simp
theorem setL_get : ∀ (xs l : List Int) (o j : Nat), o + xs.length ≤ l.length → (setL l o xs).getD j 0 = if o ≤ j ∧ j < o + xs.length then xs.getD (j - o) 0 else l.getD j 0
  | [], l, o, j, h => by
    rw [setL, if_neg (by simp)]
  | x :: xs, l, o, j, h => by
    have h' : o + 1 + xs.length ≤ l.length := by simp at h; omega
    rw [setL, setL_get xs (l.set o x) (o + 1) j (by simp; omega)]
    by_cases h1 : o = j
    · subst h1
      rw [if_neg (by omega), if_pos (by simp)]
      simp [List.getD_eq_getElem?_getD, show o < l.length by omega]
    · by_cases h2 : o + 1 ≤ j ∧ j < o + 1 + xs.length
      · rw [if_pos h2, if_pos (by simp; omega)]
        obtain ⟨d, rfl⟩ : ∃ d, j = o + 1 + d := ⟨j - (o + 1), by omega⟩
        rw [show o + 1 + d - (o + 1) = d by omega, show o + 1 + d - o = d + 1 by omega]
        simp
      · rw [if_neg h2, if_neg (by simp; omega)]
        simp [List.getD_eq_getElem?_getD, List.getElem?_set_ne h1]
theorem setCells_at {b n g cap : Nat} : ∀ (xs : List Int) (o : Nat) (l : List Int) (w : World), MAt w b (.slice (some ⟨g, 0, none⟩) (16 * n) cap) n l → MAt (w.setCells g o (u32s xs)) b (.slice (some ⟨g, 0, none⟩) (16 * n) cap) n (setL l o xs) ∧ Only (fun k => inRow (.slice (some ⟨g, 0, none⟩) (16 * n) cap) k) w (w.setCells g o (u32s xs))
  | [], o, l, w, h => ⟨h, Only.refl _ _⟩
  | x :: xs, o, l, w, h => by
    have hgb : ¬ b = g := fun e => h.not (by subst e; rfl)
    have h1 : MAt (w.setCell ⟨g, o, none⟩ (.int .u32 x)) b (.slice (some ⟨g, 0, none⟩) (16 * n) cap) n (l.set o x) := ⟨blk_set h.1 (by exact hgb) _, by
      rw [← u32s_set]
      exact (h.2.1.stored o _).1, by rw [List.length_set]; exact h.2.2⟩
    have h2 : Only (fun k => inRow (.slice (some ⟨g, 0, none⟩) (16 * n) cap) k) w (w.setCell ⟨g, o, none⟩ (.int .u32 x)) :=
      Only.setCell (F := fun k => inRow (.slice (some ⟨g, 0, none⟩) (16 * n) cap) k) (Only.refl _ _) (p := ⟨g, o, none⟩) (.inl rfl) _
    obtain ⟨h3, h4⟩ := setCells_at xs (o + 1) _ _ h1
    exact ⟨h3, h2.trans h4⟩

def zeros16 : List Int := List.replicate 16 0
def fillL (l : List Int) (f : Nat) (xs : List Int) : List Int := setL (setL l (16 * f) zeros16) (16 * f) xs
theorem fillL_len (l : List Int) (f : Nat) (xs : List Int) : (fillL l f xs).length = l.length := by unfold fillL; rw [setL_len, setL_len]
theorem fillL_get (l : List Int) (n f : Nat) (xs : List Int) (j : Nat) (hl : l.length = 16 * n) (hf : f < n) (hx : xs.length ≤ 16) : (fillL l f xs).getD j 0 = if 16 * f ≤ j ∧ j < 16 * f + 16 then xs.getD (j - 16 * f) 0 else l.getD j 0 := by
  have hz : zeros16.length = 16 := rfl
  unfold fillL
  rw [setL_get xs _ _ _ (by rw [setL_len]; omega), setL_get zeros16 _ _ _ (by rw [hz]; omega), hz]
  by_cases h1 : 16 * f ≤ j ∧ j < 16 * f + 16
  · rw [if_pos h1, if_pos h1]
    by_cases h2 : j < 16 * f + xs.length
    · rw [if_pos ⟨h1.1, h2⟩]
    · rw [if_neg (by omega)]
      have e1 : xs.getD (j - 16 * f) 0 = 0 := by simp [List.getD_eq_getElem?_getD, List.getElem?_eq_none (show xs.length ≤ j - 16 * f by omega)]
      rw [e1]
      simp only [zeros16, List.getD_eq_getElem?_getD, List.getElem?_replicate]
      split <;> rfl
  · rw [if_neg (by omega), if_neg h1, if_neg h1]

theorem infoMm4 : (Tryz.prog.info? 115).map (·.size) = some 1 := by kernel_rfl
theorem zeroU32 : ∀ w, (zeroValue 115).run Tryz.prog w = .ok (.int .u32 0) w := fun _ => by kernel_rfl

set_option maxHeartbeats 800000 in
theorem mm_fill_no (l : List Int) (b n m c1 : Nat) (ao : Option Addr) (v : Value) (f : Int) (w : World) (h : MAt w b v n l) (hn : n ≤ 1024) (hno : f < 0 ∨ (n : Int) ≤ f ∨ 16 < m) :
    Calls Tryz.prog 50 #[.pointer (some ⟨b, 0, none⟩), .int .i64 f, .slice ao m c1] w fun e w' => e = .returned (.bool false) ∧ w = w' := by
  have HM := Lib.hid h
  clear h
  by_cases h0 : f < 0
  · clear hno
    go_enter Tryz.func50, Tryz.ntmps50
    go_wp2
    go_ret
    exact ⟨rfl, rfl⟩
  · by_cases h1 : (n : Int) ≤ f
    · clear hno
      go_enter Tryz.func50, Tryz.ntmps50
      go_wp2_with fail
      refine (mm_frames l b n v _ HM.out hn).mono ?_
      rintro e w1 ⟨rfl, rfl⟩
      go_wp2
      go_ret
      exact ⟨rfl, rfl⟩
    · have h2 : (16 : Int) < (m : Int) := by omega
      clear hno
      go_enter Tryz.func50, Tryz.ntmps50
      go_wp2_with fail
      refine (mm_frames l b n v _ HM.out hn).mono ?_
      rintro e w1 ⟨rfl, rfl⟩
      go_wp2
      go_ret
      exact ⟨rfl, rfl⟩

set_option maxRecDepth 100000 in
set_option maxHeartbeats 1600000 in
theorem mm_fill_ok (l xs : List Int) (b n f m c1 : Nat) (ao : Option Addr) (v : Value) (w : World) (h : MAt w b v n l) (hn : n ≤ 1024) (hf : f < n) (hs : AtL w ao (u32s xs)) (hm : xs.length = m) (hx : m ≤ 16) (hap : ∀ a, 0 < m → ao = some a → ¬ inRow v a.block) :
    Calls Tryz.prog 50 #[.pointer (some ⟨b, 0, none⟩), .int .i64 f, .slice ao m c1] w fun e w' => e = .returned (.bool true) ∧ MAt w' b v n (fillL l f xs) ∧ Only (fun k => inRow v k) w w' := by
  have c := h.cell
  have HM := Lib.hid h
  obtain ⟨g, cap, rfl, hcap⟩ := h.own (by omega)
  have hcl : ∀ j, j < 16 * n → w.cell? ⟨g, j, none⟩ = some (.int .u32 (l.getD j 0)) := fun j hj => (own_cell h.2.1 j (by omega)).trans (u32s_get l j (by have := h.2.2; omega))
  have hfz : ∀ j, w.frozen? ⟨g, j, none⟩ = false := fun j => own_free h.2.1 j
  have hz : u32s zeros16 = List.replicate 16 (.int .u32 0) := rfl
  have hu := Tryz.underlying65
  obtain ⟨W1, hW1⟩ : ∃ W1, W1 = w.setCells g (16 * f) (u32s zeros16) := ⟨_, rfl⟩
  have hclr : ∀ ty, (Builtin.clear_ #[65] ty #[.slice (some ⟨g, 16 * f, none⟩) 16 (cap - 16 * f)]).run Tryz.prog w = .ok (.tuple #[]) W1 := fun ty => by
    rw [hW1, hz]
    exact Lib.run_clear_slice w 65 115 ty (.int .u32 0) hu zeroU32 rfl rfl g (16 * f) 16 _ (by decide) (fun j hj => by rw [hcl _ (by omega)]; rfl) (fun j _ => hfz _)
  obtain ⟨m1, o1⟩ := setCells_at zeros16 (16 * f) l w h
  rw [← hW1] at m1 o1
  obtain ⟨m2, o2⟩ := setCells_at xs (16 * f) _ W1 m1
  obtain ⟨W2, hW2⟩ : ∃ W2, W2 = W1.setCells g (16 * f) (u32s xs) := ⟨_, rfl⟩
  rw [← hW2] at m2 o2
  have hcp : ∀ ty, (Builtin.copy_ #[65, 65] ty #[.slice (some ⟨g, 16 * f, none⟩) 16 (cap - 16 * f), .slice ao m c1]).run Tryz.prog W1 = .ok (goInt m) W2 := fun ty => by
    by_cases h0 : m = 0
    · obtain rfl : xs = [] := List.eq_nil_of_length_eq_zero (by omega)
      subst h0
      rw [hW2]
      exact run_copy_none W1 65 65 ty 115 _ _ _ _ _ _ hu infoMm4 (by simp)
    · obtain ⟨sb, so, rfl, -, -⟩ := hs 0 _ (u32s_get xs 0 (by omega))
      have hne : sb ≠ g := fun e => hap _ (by omega) rfl (by subst e; rfl)
      have hl : (u32s xs).length = m := by rw [u32s, List.length_map, hm]
      rw [hW2, show (goInt m) = goInt (u32s xs).length by rw [hl]]
      refine run_copy_cells W1 65 65 ty 115 g (16 * f) 16 (cap - 16 * f) ⟨sb, so, none⟩ m c1 (u32s xs) hu infoMm4 (by rw [hl]; exact (Nat.min_eq_left hx).symm) (fun j u hj => ?_) (fun j hj => ?_) (fun j _ => own_free m1.2.1 _) (u32s_one xs)
      · obtain ⟨b2, o2, e, hc2, -⟩ := hs j u hj
        obtain ⟨rfl, rfl⟩ : sb = b2 ∧ so = o2 := by simpa using e
        rw [Addr.add_lit, hW1, World.cell?_setCells_out g _ _ _ _ (fun e _ => (hne e).elim)]
        exact hc2
      · rw [own_cell m1.2.1 (16 * f + j) (by omega), u32s_get _ _ (by rw [m1.2.2]; omega)]
        rfl
  have HM2 := Lib.hid m2
  have HO2 := Lib.hid (o1.trans o2)
  have h1 := IntWalk.i64_in ((f : Int) * 16) (by omega)
  have h2 := IntWalk.i64_in ((f : Int) + 1) (by omega)
  have h3 := IntWalk.i64_in (((f : Int) + 1) * 16) (by omega)
  have hfi : (f : Int) < (n : Int) := by omega
  have e1 : ((f : Int) * 16).toNat = 16 * f := by omega
  have e2 : (((f : Int) + 1) * 16).toNat = 16 * f + 16 := by omega
  have g1 : (0 : Int) ≤ (f : Int) * 16 := by omega
  have g2 : (f : Int) * 16 ≤ ((f : Int) + 1) * 16 := by omega
  have g3 : ((f : Int) + 1) * 16 ≤ (cap : Int) := by omega
  have g4 : (m : Int) ≤ 16 := by omega
  have HN := Lib.hid hn
  clear h hcl hfz hz hu hW1 m1 o1 m2 o2 hW2 hs hap hm hx hcap hf hn
  go_enter Tryz.func50, Tryz.ntmps50
  go_wp2_with fail
  refine (mm_frames l b n _ _ HM.out HN.out).mono ?_
  rintro e w1 ⟨rfl, rfl⟩
  go_wp2
  go_ret
  exact ⟨rfl, HM2.out, HO2.out⟩
end Go.Proofs.YtaoaachgnnengaaGreatDoor

/-
  Rows of records: a list of records laid out cell by cell; plain facts.
-/
namespace Go.Proofs.YtaoaachgnnengaaGreatDoor
open Go.RowKit

theorem rec_len {α V : Type} (f : α → List V) (n : Nat) (hf : ∀ x, (f x).length = n) (l : List α) : (l.flatMap f).length = l.length * n := by
  induction l with
  | nil => simp
  | cons x l ih => rw [List.flatMap_cons, List.length_append, ih, hf, List.length_cons, Nat.succ_mul, Nat.add_comm]
theorem rec_get {α V : Type} [Inhabited α] (f : α → List V) (n : Nat) (hf : ∀ x, (f x).length = n) (l : List α) (i j : Nat) (hi : i < l.length) (hj : j < n) : (l.flatMap f)[i * n + j]? = (f (l.getD i default))[j]? := by
  induction l generalizing i with
  | nil => simp at hi
  | cons x l ih =>
    cases i with
    | zero => rw [List.flatMap_cons, List.getElem?_append_left (by rw [hf]; omega)]; simp
    | succ i =>
      rw [List.flatMap_cons, List.getElem?_append_right (by rw [hf, Nat.succ_mul]; omega), hf, List.getD_cons_succ, ← ih i (by simpa using hi)]
      congr 1
      rw [Nat.succ_mul]
      omega
theorem rec_set {α V : Type} [Inhabited α] (f : α → List V) (n : Nat) (hf : ∀ x, (f x).length = n) (l : List α) (i j : Nat) (hi : i < l.length) (hj : j < n) (y : α) (v : V) (h : f y = (f (l.getD i default)).set j v) : (l.flatMap f).set (i * n + j) v = (l.set i y).flatMap f := by
  induction l generalizing i with
  | nil => simp at hi
  | cons x l ih =>
    cases i with
    | zero =>
      simp only [List.getD_cons_zero] at h
      rw [List.flatMap_cons, List.set_append_left _ _ (by rw [hf]; omega), List.set_cons_zero, List.flatMap_cons, h]
      simp
    | succ i =>
      rw [List.flatMap_cons, List.set_append_right _ _ (by rw [hf, Nat.succ_mul]; omega), List.set_cons_succ, List.flatMap_cons, ← ih i (by simpa using hi) h]
      congr 2
      rw [hf, Nat.succ_mul]
      omega
theorem rec_ext {α V : Type} [Inhabited α] (f : α → List V) (n : Nat) (hf : ∀ x, (f x).length = n) (l : List α) (i : Nat) (hi : i < l.length) : ((l.flatMap f).drop (i * n)).take n = f (l.getD i default) := by
  induction l generalizing i with
  | nil => simp at hi
  | cons x l ih =>
    cases i with
    | zero =>
      rw [List.flatMap_cons, Nat.zero_mul, List.drop_zero]
      rw [show n = (f x).length from (hf x).symm, List.take_left]
      simp
    | succ i =>
      rw [List.flatMap_cons, Nat.succ_mul, Nat.add_comm, ← List.drop_drop, show n = (f x).length from (hf x).symm, List.drop_left, hf, List.getD_cons_succ, ih i (by simpa using hi)]
/-- a part of the whole, of m records from record i on -/
theorem rec_part {α V : Type} (f : α → List V) (n : Nat) (hf : ∀ x, (f x).length = n) (l : List α) (i m : Nat) : ((l.flatMap f).drop (i * n)).take (m * n) = ((l.drop i).take m).flatMap f := by
  induction l generalizing i m with
  | nil => simp
  | cons x l ih =>
    cases i with
    | zero =>
      cases m with
      | zero => simp
      | succ m =>
        have := ih 0 m
        rw [Nat.zero_mul, List.drop_zero, List.drop_zero] at this
        rw [Nat.zero_mul, List.drop_zero, List.drop_zero, List.take_succ_cons, List.flatMap_cons, List.flatMap_cons, ← this, Nat.succ_mul, Nat.add_comm, List.take_append, hf, List.take_of_length_le (by rw [hf]; omega)]
        congr 2
        omega
    | succ i =>
      rw [List.flatMap_cons, Nat.succ_mul, Nat.add_comm, ← List.drop_drop, show n = (f x).length from (hf x).symm, List.drop_left, hf, List.drop_succ_cons, ih i m]

/-- block b holds the records l, each of n cells -/
def RecAt {α : Type} (f : α → List Value) (T : TypeId) (w : World) (b : Nat) (l : List α) : Prop := w.heap[b]? = some (.cells (l.flatMap f).toArray T (0, 0))
theorem RecAt.below {α : Type} {f : α → List Value} {T : TypeId} {w w' : World} {b : Nat} {l : List α} (h : RecAt f T w b l) (hb : Below w.heap.size w w') : RecAt f T w' b l := by
  unfold RecAt at h ⊢
  rw [hb.block b (blk_lt h)]
  exact h
theorem RecAt.only {α : Type} {F : Nat → Prop} {f : α → List Value} {T : TypeId} {w w' : World} {b : Nat} {l : List α} (h : RecAt f T w b l) (hb : Only F w w') (hF : ¬ F b) : RecAt f T w' b l := hb.blk h hF
theorem RecAt.cell {α : Type} [Inhabited α] {f : α → List Value} {n : Nat} (hf : ∀ x, (f x).length = n) {T : TypeId} {w : World} {b : Nat} {l : List α} (h : RecAt f T w b l) (i j : Nat) (hi : i < l.length) (hj : j < n) : w.cell? ⟨b, i * n + j, none⟩ = (f (l.getD i default))[j]? := by
  rw [blk_cell h, List.getElem?_toArray, rec_get f n hf l i j hi hj]
theorem RecAt.free {α : Type} {f : α → List Value} {T : TypeId} {w : World} {b : Nat} {l : List α} (h : RecAt f T w b l) (o : Nat) : w.frozen? ⟨b, o, none⟩ = false := blk_free h o
theorem RecAt.put {α : Type} [Inhabited α] {f : α → List Value} {n : Nat} (hf : ∀ x, (f x).length = n) {T : TypeId} {w : World} {b : Nat} {l : List α} (h : RecAt f T w b l) (i j : Nat) (hi : i < l.length) (hj : j < n) (y : α) (v : Value) (hy : f y = (f (l.getD i default)).set j v) :
    RecAt f T (w.setCell ⟨b, i * n + j, none⟩ v) b (l.set i y) := by
  have := blk_put h (i * n + j) v
  unfold RecAt
  rw [this, ← rec_set f n hf l i j hi hj y v hy]
  simp
end Go.Proofs.YtaoaachgnnengaaGreatDoor

/-
  Frames, plain: what each thing that frames are told answers, and what is there behind it.
-/
namespace Go.Proofs.YtaoaachgnnengaaGreatDoor
open Go.RowKit

/-- a frame: whose, what, how many write it, how many use it -/
structure Fr where
  owner : Int
  kind : Int
  wr : Int
  us : Int
deriving Inhabited, DecidableEq
def frOne (x : Fr) : List Value := [.int .i64 x.owner, .int .i64 x.kind, .int .i64 x.wr, .int .i64 x.us]
theorem frOne_len (x : Fr) : (frOne x).length = 4 := rfl
def frCells (l : List Fr) : List Value := l.flatMap frOne
def frNo : Fr := ⟨-1, 0, 0, 0⟩
def frOwns (n : Int) : Prop := (0 ≤ n ∧ n < 8) ∨ n = 100
instance (n : Int) : Decidable (frOwns n) := by unfold frOwns; exact inferInstance
/-- frame i, if it is somebody's -/
def frAt (l : List Fr) (i : Int) : Option Nat := if 0 ≤ i ∧ i < l.length ∧ (l.getD i.toNat default).owner ≠ -1 then some i.toNat else none
theorem frAt_some {l : List Fr} {i : Int} {n : Nat} (h : frAt l i = some n) : i = (n : Int) ∧ n < l.length ∧ (l.getD n default).owner ≠ -1 := by
  unfold frAt at h
  split at h
  · rename_i hh
    have := Option.some.inj h
    subst this
    exact ⟨by omega, by omega, hh.2.2⟩
  · cases h
theorem frAt_none {l : List Fr} {i : Int} (h : frAt l i = none) : ¬ (0 ≤ i ∧ i < l.length) ∨ (0 ≤ i ∧ i < l.length ∧ (l.getD i.toNat default).owner = -1) := by
  unfold frAt at h
  split at h
  · cases h
  · rename_i hh
    by_cases hi : 0 ≤ i ∧ i < l.length
    · refine .inr ⟨hi.1, hi.2, ?_⟩
      by_cases ho : (l.getD i.toNat default).owner = -1
      · exact ho
      · exact absurd ⟨hi.1, hi.2, ho⟩ hh
    · exact .inl hi
/-- what is amiss with a frame that has to be this one's: 0: nothing -/
def frOwnC (l : List Fr) (i who : Int) : Int := match frAt l i with
  | none => 107
  | some n => if (l.getD n default).owner = who then 0 else 110
/-- the least that is nobody's -/
def frFree (l : List Fr) : Option Nat := l.findIdx? fun x => decide (x.owner = -1)
/-- what one is told: what is there then, the answer, the error -/
structure FrR where
  l : List Fr
  n : Int
  c : Int
def frAlloc (l : List Fr) (who : Int) : FrR := if frOwns who then (match frFree l with
  | none => ⟨l, 0, 113⟩
  | some i => ⟨l.set i ⟨who, (l.getD i default).kind, (l.getD i default).wr, (l.getD i default).us⟩, (i : Int), 0⟩) else ⟨l, 0, 103⟩
def frMine (l : List Fr) (i who : Int) (k : Fr → Fr × Int) : FrR := match frAt l i with
  | none => ⟨l, 0, 107⟩
  | some n => if (l.getD n default).owner = who then ⟨l.set n (k (l.getD n default)).1, 0, (k (l.getD n default)).2⟩ else ⟨l, 0, 110⟩
def frThere (l : List Fr) (i : Int) (k : Fr → Fr × Int) : FrR := match frAt l i with
  | none => ⟨l, 0, 107⟩
  | some n => ⟨l.set n (k (l.getD n default)).1, 0, (k (l.getD n default)).2⟩
def kFree (x : Fr) : Fr × Int := if 0 < x.wr ∨ 0 < x.us then (x, 112) else (frNo, 0)
def kMake (kind : Int) (x : Fr) : Fr × Int := if x.kind ≠ 0 then (x, 111) else if 0 < x.wr ∨ 0 < x.us then (x, 112) else (⟨x.owner, kind, x.wr, x.us⟩, 0)
def kPlain (x : Fr) : Fr × Int := if x.kind = 0 then (x, 111) else if 0 < x.us then (x, 112) else (⟨x.owner, 0, x.wr, x.us⟩, 0)
def kWrite (x : Fr) : Fr × Int := if x.kind ≠ 0 then (x, 111) else (⟨x.owner, x.kind, x.wr + 1, x.us⟩, 0)
def kUnwrite (x : Fr) : Fr × Int := if x.wr = 0 then (x, 112) else (⟨x.owner, x.kind, x.wr - 1, x.us⟩, 0)
def kUse (x : Fr) : Fr × Int := (⟨x.owner, x.kind, x.wr, x.us + 1⟩, 0)
def kUnuse (x : Fr) : Fr × Int := if x.us = 0 then (x, 112) else (⟨x.owner, x.kind, x.wr, x.us - 1⟩, 0)
def frMake (l : List Fr) (i who kind : Int) : FrR := if kind = 1 ∨ kind = 2 then frMine l i who (kMake kind) else ⟨l, 0, 103⟩
/-- what is told -/
structure FDo16 where
  kind : Int
  a : Int
  b : Int
  c : Int
deriving Inhabited
def frDo (l : List Fr) (d : FDo16) : FrR :=
  if d.kind = 1 then frAlloc l d.a else if d.kind = 2 then frMine l d.a d.b kFree else if d.kind = 3 then frMake l d.a d.b d.c else if d.kind = 4 then frMine l d.a d.b kPlain
  else if d.kind = 5 then frThere l d.a kWrite else if d.kind = 6 then frThere l d.a kUnwrite else if d.kind = 7 then frThere l d.a kUse else frThere l d.a kUnuse

/-- what holds of each frame, behind so many things -/
def frIn (m : Int) (x : Fr) : Prop := (x.owner = -1 → x = frNo) ∧ 0 ≤ x.wr ∧ x.wr ≤ m ∧ 0 ≤ x.us ∧ x.us ≤ m ∧ (x.kind ≠ 0 → x.wr = 0)
def FrOk (m : Int) (l : List Fr) : Prop := ∀ x ∈ l, frIn m x
theorem frNo_in (m : Int) (h : 0 ≤ m) : frIn m frNo := ⟨fun _ => rfl, Int.le_refl 0, h, Int.le_refl 0, h, fun _ => rfl⟩
theorem frOk_new (n : Nat) : FrOk 0 (List.replicate n frNo) := fun x hx => by
  rw [List.eq_of_mem_replicate hx]
  exact frNo_in 0 (Int.le_refl 0)
theorem frIn_mono {m : Int} {x : Fr} (h : frIn m x) : frIn (m + 1) x := ⟨h.1, h.2.1, by have := h.2.2.1; omega, h.2.2.2.1, by have := h.2.2.2.2.1; omega, h.2.2.2.2.2⟩
theorem frOk_mono {m : Int} {l : List Fr} (h : FrOk m l) : FrOk (m + 1) l := fun x hx => frIn_mono (h x hx)
theorem frOk_set {m : Int} {l : List Fr} (h : FrOk m l) (n : Nat) (y : Fr) (hy : frIn m y) : FrOk m (l.set n y) := fun x hx => by
  rcases List.mem_or_eq_of_mem_set hx with hx | rfl
  · exact h x hx
  · exact hy
theorem frOk_get {m : Int} {l : List Fr} (h : FrOk m l) (n : Nat) (hn : n < l.length) : frIn m (l.getD n default) := by
  rw [List.getD_eq_getElem?_getD, List.getElem?_eq_getElem hn]
  exact h _ (List.getElem_mem _)
theorem kFree_in {m : Int} {x : Fr} (h : frIn m x) : frIn (m + 1) (kFree x).1 := by
  unfold kFree
  have hm : 0 ≤ m + 1 := by have := h.2.1; have := h.2.2.1; omega
  split
  · exact frIn_mono h
  · exact frNo_in _ hm
theorem kMake_in {m : Int} {x : Fr} (k : Int) (h : frIn m x) (ho : x.owner ≠ -1) : frIn (m + 1) (kMake k x).1 := by
  unfold kMake
  split
  · exact frIn_mono h
  · split
    · exact frIn_mono h
    · rename_i hh
      obtain ⟨h1, h2, h3, h4, h5, h6⟩ := h
      exact ⟨fun e => absurd e ho, h2, by show x.wr ≤ _; omega, h4, by show x.us ≤ _; omega, fun _ => by show x.wr = 0; omega⟩
theorem kPlain_in {m : Int} {x : Fr} (h : frIn m x) (ho : x.owner ≠ -1) : frIn (m + 1) (kPlain x).1 := by
  unfold kPlain
  split
  · exact frIn_mono h
  · split
    · exact frIn_mono h
    · obtain ⟨h1, h2, h3, h4, h5, h6⟩ := h
      exact ⟨fun e => absurd e ho, h2, by show x.wr ≤ _; omega, h4, by show x.us ≤ _; omega, fun e => absurd rfl e⟩
theorem kWrite_in {m : Int} {x : Fr} (h : frIn m x) (ho : x.owner ≠ -1) : frIn (m + 1) (kWrite x).1 := by
  unfold kWrite
  split
  · exact frIn_mono h
  · rename_i hh
    obtain ⟨h1, h2, h3, h4, h5, h6⟩ := h
    exact ⟨fun e => absurd e ho, by show 0 ≤ x.wr + 1; omega, by show x.wr + 1 ≤ _; omega, h4, by show x.us ≤ _; omega, fun e => absurd e hh⟩
theorem kUnwrite_in {m : Int} {x : Fr} (h : frIn m x) (ho : x.owner ≠ -1) : frIn (m + 1) (kUnwrite x).1 := by
  unfold kUnwrite
  split
  · exact frIn_mono h
  · rename_i hh
    obtain ⟨h1, h2, h3, h4, h5, h6⟩ := h
    exact ⟨fun e => absurd e ho, by show 0 ≤ x.wr - 1; omega, by show x.wr - 1 ≤ _; omega, h4, by show x.us ≤ _; omega, fun e => absurd (h6 e) hh⟩
theorem kUse_in {m : Int} {x : Fr} (h : frIn m x) (ho : x.owner ≠ -1) : frIn (m + 1) (kUse x).1 := by
  obtain ⟨h1, h2, h3, h4, h5, h6⟩ := h
  exact ⟨fun e => absurd e ho, h2, by show x.wr ≤ _; omega, by show 0 ≤ x.us + 1; omega, by show x.us + 1 ≤ _; omega, h6⟩
theorem kUnuse_in {m : Int} {x : Fr} (h : frIn m x) (ho : x.owner ≠ -1) : frIn (m + 1) (kUnuse x).1 := by
  unfold kUnuse
  split
  · exact frIn_mono h
  · rename_i hh
    obtain ⟨h1, h2, h3, h4, h5, h6⟩ := h
    exact ⟨fun e => absurd e ho, h2, by show x.wr ≤ _; omega, by show 0 ≤ x.us - 1; omega, by show x.us - 1 ≤ _; omega, h6⟩
theorem frMine_in {m : Int} {l : List Fr} (h : FrOk m l) (i who : Int) (k : Fr → Fr × Int) (hk : ∀ x, frIn m x → x.owner ≠ -1 → frIn (m + 1) (k x).1) : FrOk (m + 1) (frMine l i who k).l := by
  unfold frMine
  split
  · exact frOk_mono h
  · rename_i n hn
    obtain ⟨-, h2, h3⟩ := frAt_some hn
    split
    · exact frOk_set (frOk_mono h) _ _ (hk _ (frOk_get h n h2) h3)
    · exact frOk_mono h
theorem frThere_in {m : Int} {l : List Fr} (h : FrOk m l) (i : Int) (k : Fr → Fr × Int) (hk : ∀ x, frIn m x → x.owner ≠ -1 → frIn (m + 1) (k x).1) : FrOk (m + 1) (frThere l i k).l := by
  unfold frThere
  split
  · exact frOk_mono h
  · rename_i n hn
    obtain ⟨-, h2, h3⟩ := frAt_some hn
    exact frOk_set (frOk_mono h) _ _ (hk _ (frOk_get h n h2) h3)
theorem frFree_some {l : List Fr} {i : Nat} (h : frFree l = some i) : i < l.length ∧ (l.getD i default).owner = -1 ∧ ∀ k, k < i → (l.getD k default).owner ≠ -1 := by
  unfold frFree at h
  rw [List.findIdx?_eq_some_iff_getElem] at h
  obtain ⟨h1, h2, h3⟩ := h
  refine ⟨h1, ?_, fun k hk => ?_⟩
  · rw [List.getD_eq_getElem?_getD, List.getElem?_eq_getElem h1]
    simpa using h2
  · have := h3 k hk
    rw [List.getD_eq_getElem?_getD, List.getElem?_eq_getElem (by omega)]
    simpa using this
theorem frFree_none {l : List Fr} (h : frFree l = none) : ∀ k, k < l.length → (l.getD k default).owner ≠ -1 := by
  unfold frFree at h
  rw [List.findIdx?_eq_none_iff] at h
  intro k hk
  rw [List.getD_eq_getElem?_getD, List.getElem?_eq_getElem hk]
  simpa using h _ (List.getElem_mem hk)
theorem frFree_is {l : List Fr} {i : Nat} (h1 : i < l.length) (h2 : (l.getD i default).owner = -1) (h3 : ∀ k, k < i → (l.getD k default).owner ≠ -1) : frFree l = some i := by
  unfold frFree
  rw [List.findIdx?_eq_some_iff_getElem]
  refine ⟨h1, ?_, fun k hk => ?_⟩
  · rw [List.getD_eq_getElem?_getD, List.getElem?_eq_getElem h1] at h2
    simpa using h2
  · have := h3 k hk
    rw [List.getD_eq_getElem?_getD, List.getElem?_eq_getElem (by omega)] at this
    simpa using this
theorem frFree_no {l : List Fr} (h : ∀ k, k < l.length → (l.getD k default).owner ≠ -1) : frFree l = none := by
  unfold frFree
  rw [List.findIdx?_eq_none_iff]
  intro x hx
  obtain ⟨k, hk, rfl⟩ := List.getElem_of_mem hx
  have := h k hk
  rw [List.getD_eq_getElem?_getD, List.getElem?_eq_getElem hk] at this
  simpa using this
theorem frAlloc_in {m : Int} {l : List Fr} (h : FrOk m l) (who : Int) : FrOk (m + 1) (frAlloc l who).l := by
  unfold frAlloc
  split
  · rename_i hw
    split
    · exact frOk_mono h
    · rename_i i hi
      obtain ⟨h1, h2, -⟩ := frFree_some hi
      have hx := frOk_get h i h1
      have hz := hx.1 h2
      have hwo : who ≠ -1 := by unfold frOwns at hw; omega
      rw [hz]
      have hm : 0 ≤ m := by have := hx.2.1; have := hx.2.2.1; omega
      refine frOk_set (frOk_mono h) _ _ ⟨fun e => absurd e hwo, Int.le_refl 0, ?_, Int.le_refl 0, ?_, fun e => absurd rfl e⟩
      · show (0 : Int) ≤ m + 1; omega
      · show (0 : Int) ≤ m + 1; omega
  · exact frOk_mono h
theorem frDo_in {m : Int} {l : List Fr} (h : FrOk m l) (d : FDo16) : FrOk (m + 1) (frDo l d).l := by
  unfold frDo
  split
  · exact frAlloc_in h _
  split
  · exact frMine_in h _ _ _ fun x hx _ => kFree_in hx
  split
  · unfold frMake
    split
    · exact frMine_in h _ _ _ fun x hx ho => kMake_in _ hx ho
    · exact frOk_mono h
  split
  · exact frMine_in h _ _ _ fun x hx ho => kPlain_in hx ho
  split
  · exact frThere_in h _ _ fun x hx ho => kWrite_in hx ho
  split
  · exact frThere_in h _ _ fun x hx ho => kUnwrite_in hx ho
  split
  · exact frThere_in h _ _ fun x hx ho => kUse_in hx ho
  · exact frThere_in h _ _ fun x hx ho => kUnuse_in hx ho
theorem frMine_len (l : List Fr) (i who : Int) (k : Fr → Fr × Int) : (frMine l i who k).l.length = l.length := by
  unfold frMine
  split
  · rfl
  · split <;> simp
theorem frThere_len (l : List Fr) (i : Int) (k : Fr → Fr × Int) : (frThere l i k).l.length = l.length := by
  unfold frThere
  split <;> simp
theorem frDo_len (l : List Fr) (d : FDo16) : (frDo l d).l.length = l.length := by
  unfold frDo
  split
  · unfold frAlloc
    split
    · split <;> simp
    · rfl
  split
  · exact frMine_len _ _ _ _
  split
  · unfold frMake
    split
    · exact frMine_len _ _ _ _
    · rfl
  split
  · exact frMine_len _ _ _ _
  repeat (first | exact frThere_len _ _ _ | split)
end Go.Proofs.YtaoaachgnnengaaGreatDoor

/-
  The nine sentinels that tables and their frames tell of.
-/
namespace Go.Proofs.YtaoaachgnnengaaGreatDoor
open Go.RowKit

abbrev nine : List Nat := [1, 2, 3, 5, 6, 9, 10, 11, 12]
theorem nine_lt {k : Nat} (h : k ∈ nine) : k < 16 := by
  simp [nine] at h
  omega
theorem errs9 {W : World} {E : Nat → Addr} (h : ErrsAt errT gOf W E all16) : ErrsAt errT gOf W E nine :=
  ⟨fun k hk => h.1 k (mem16 (nine_lt hk)), fun i hi j hj hne => h.2 i (mem16 (nine_lt hi)) j (mem16 (nine_lt hj)) hne⟩
end Go.Proofs.YtaoaachgnnengaaGreatDoor

/-
  frames.Frames: its cells; Get, there, own.
-/
namespace Go.Proofs.YtaoaachgnnengaaGreatDoor
open Go.RowKit

/-- frames lie in block g, their header in block b -/
def FrAt (TB TR : TypeId) (w : World) (b g cap : Nat) (l : List Fr) : Prop :=
  w.heap[b]? = some (.cells #[.slice (some ⟨g, 0, none⟩) l.length cap] TB (0, 0)) ∧ RecAt frOne TR w g l ∧ b ≠ g ∧ l.length ≤ cap ∧ cap ≤ 9223372036854775807
theorem FrAt.only {TB TR : TypeId} {F : Nat → Prop} {w w' : World} {b g cap : Nat} {l : List Fr} (h : FrAt TB TR w b g cap l) (ho : Only F w w') (hb : ¬ F b) (hg : ¬ F g) : FrAt TB TR w' b g cap l :=
  ⟨ho.blk h.1 hb, h.2.1.only ho hg, h.2.2.1, h.2.2.2⟩
theorem FrAt.below {TB TR : TypeId} {w w' : World} {b g cap : Nat} {l : List Fr} (h : FrAt TB TR w b g cap l) (hb : Below w.heap.size w w') : FrAt TB TR w' b g cap l :=
  h.only (F := fun _ => False) (Only.of_below hb) (fun h => h) (fun h => h)
theorem FrAt.hdr {TB TR : TypeId} {w : World} {b g cap : Nat} {l : List Fr} (h : FrAt TB TR w b g cap l) : w.cell? ⟨b, 0, none⟩ = some (.slice (some ⟨g, 0, none⟩) l.length cap) := blk_cell h.1 0
theorem FrAt.cells {TB TR : TypeId} {w : World} {b g cap : Nat} {l : List Fr} (h : FrAt TB TR w b g cap l) (n : Nat) (hn : n < l.length) :
    w.cell? ⟨g, n * 4, none⟩ = some (.int .i64 (l.getD n default).owner) ∧ w.cell? ⟨g, n * 4 + 1, none⟩ = some (.int .i64 (l.getD n default).kind) ∧ w.cell? ⟨g, n * 4 + 2, none⟩ = some (.int .i64 (l.getD n default).wr) ∧ w.cell? ⟨g, n * 4 + 3, none⟩ = some (.int .i64 (l.getD n default).us) :=
  ⟨h.2.1.cell frOne_len n 0 hn (by decide), h.2.1.cell frOne_len n 1 hn (by decide), h.2.1.cell frOne_len n 2 hn (by decide), h.2.1.cell frOne_len n 3 hn (by decide)⟩
theorem FrAt.free {TB TR : TypeId} {w : World} {b g cap : Nat} {l : List Fr} (h : FrAt TB TR w b g cap l) (o : Nat) : w.frozen? ⟨g, o, none⟩ = false := h.2.1.free o
theorem FrAt.lt {TB TR : TypeId} {w : World} {b g cap : Nat} {l : List Fr} (h : FrAt TB TR w b g cap l) : b < w.heap.size ∧ g < w.heap.size := ⟨blk_lt h.1, blk_lt h.2.1⟩
/-- one cell is put -/
theorem FrAt.put {TB TR : TypeId} {w : World} {b g cap : Nat} {l : List Fr} (h : FrAt TB TR w b g cap l) (n j : Nat) (hn : n < l.length) (hj : j < 4) (y : Fr) (v : Value) (hy : frOne y = (frOne (l.getD n default)).set j v) : FrAt TB TR (w.setCell ⟨g, n * 4 + j, none⟩ v) b g cap (l.set n y) := by
  refine ⟨?_, h.2.1.put frOne_len n j hn hj y v hy, h.2.2.1, ?_, h.2.2.2.2⟩
  · rw [List.length_set]
    exact ((Only.refl (fun k => k = g) w).setCell (p := ⟨g, n * 4 + j, none⟩) (.inl rfl) v).blk h.1 h.2.2.1
  · rw [List.length_set]
    exact h.2.2.2.1
theorem fr_set_get (l : List Fr) (n : Nat) (hn : n < l.length) (y : Fr) : (l.set n y).getD n default = y := by
  rw [List.getD_eq_getElem?_getD, List.getElem?_set_self hn]
  rfl
theorem FrAt.put0 {TB TR : TypeId} {w : World} {b g cap n : Nat} {l : List Fr} (h : FrAt TB TR w b g cap l) (hn : n < l.length) (z : Int) : FrAt TB TR (w.setCell ⟨g, n * 4, none⟩ (.int .i64 z)) b g cap (l.set n ⟨z, (l.getD n default).kind, (l.getD n default).wr, (l.getD n default).us⟩) := h.put n 0 hn (by decide) _ _ rfl
theorem FrAt.put1 {TB TR : TypeId} {w : World} {b g cap n : Nat} {l : List Fr} (h : FrAt TB TR w b g cap l) (hn : n < l.length) (z : Int) : FrAt TB TR (w.setCell ⟨g, n * 4 + 1, none⟩ (.int .i64 z)) b g cap (l.set n ⟨(l.getD n default).owner, z, (l.getD n default).wr, (l.getD n default).us⟩) := h.put n 1 hn (by decide) _ _ rfl
theorem FrAt.put2 {TB TR : TypeId} {w : World} {b g cap n : Nat} {l : List Fr} (h : FrAt TB TR w b g cap l) (hn : n < l.length) (z : Int) : FrAt TB TR (w.setCell ⟨g, n * 4 + 2, none⟩ (.int .i64 z)) b g cap (l.set n ⟨(l.getD n default).owner, (l.getD n default).kind, z, (l.getD n default).us⟩) := h.put n 2 hn (by decide) _ _ rfl
theorem FrAt.put3 {TB TR : TypeId} {w : World} {b g cap n : Nat} {l : List Fr} (h : FrAt TB TR w b g cap l) (hn : n < l.length) (z : Int) : FrAt TB TR (w.setCell ⟨g, n * 4 + 3, none⟩ (.int .i64 z)) b g cap (l.set n ⟨(l.getD n default).owner, (l.getD n default).kind, (l.getD n default).wr, z⟩) := h.put n 3 hn (by decide) _ _ rfl
/-- all four are put -/
theorem FrAt.putAll {TB TR : TypeId} {w : World} {b g cap n : Nat} {l : List Fr} (h : FrAt TB TR w b g cap l) (hn : n < l.length) (y : Fr) :
    FrAt TB TR ((((w.setCell ⟨g, n * 4, none⟩ (.int .i64 y.owner)).setCell ⟨g, n * 4 + 1, none⟩ (.int .i64 y.kind)).setCell ⟨g, n * 4 + 2, none⟩ (.int .i64 y.wr)).setCell ⟨g, n * 4 + 3, none⟩ (.int .i64 y.us)) b g cap (l.set n y) := by
  have h0 := h.put0 hn y.owner
  have h1 := h0.put1 (n := n) (by rw [List.length_set]; exact hn) y.kind
  rw [fr_set_get l n hn, List.set_set] at h1
  have h2 := h1.put2 (n := n) (by rw [List.length_set]; exact hn) y.wr
  rw [fr_set_get l n hn, List.set_set] at h2
  have h3 := h2.put3 (n := n) (by rw [List.length_set]; exact hn) y.us
  rw [fr_set_get l n hn, List.set_set] at h3
  exact h3
def frV (x : Fr) : Value := .agg #[.int .i64 x.owner, .int .i64 x.kind, .int .i64 x.wr, .int .i64 x.us]
/-- an error's number as an error -/
def errC (E : Nat → Addr) (c : Int) : Value := if c = 0 then .nilIface else errV (E (c - 101).toNat)
theorem errC_num (E : Nat → Addr) (c : Int) (h : c = 0 ∨ (101 ≤ c ∧ c ≤ 116)) : errNum (errC E c) E c := by
  unfold errC errNum
  by_cases h0 : c = 0
  · rw [if_pos h0]
    exact .inl ⟨rfl, h0⟩
  · rw [if_neg h0]
    exact .inr ⟨(c - 101).toNat, by omega, rfl, by omega⟩
/-- what a method of frames does: the error, the frames then -/
def FrQ (TB TR : TypeId) (E : Nat → Addr) (b g cap : Nat) (R : FrR) (w : World) (e : Ending) (w' : World) : Prop := e = .returned (errC E R.c) ∧ FrAt TB TR w' b g cap R.l ∧ Only (fun k => k = g) w w'
/-- the same, the document's: the number -/
def FrN (TB TR : TypeId) (b g cap : Nat) (R : FrR) (w : World) (e : Ending) (w' : World) : Prop := e = .returned (.int .i64 R.c) ∧ FrAt TB TR w' b g cap R.l ∧ Only (fun k => k = g) w w'

set_option maxRecDepth 100000 in
set_option maxHeartbeats 1600000 in
theorem fget_some (l : List Fr) (b g cap n : Nat) (w : World) (h : FrAt 99 69 w b g cap l) (hn : n < l.length) :
    Calls Tryz.prog 27 #[.pointer (some ⟨b, 0, none⟩), .int .i64 (n : Int)] w fun e w' => e = .returned (.tuple #[frV (l.getD n default), .bool true]) ∧ Below w.heap.size w w' := by
  have hb1 : Below w.heap.size w (w.alloc (.cells #[.int .i64 0, .int .i64 0, .int .i64 0, .int .i64 0] 69)) := (Below.refl _ _).alloc (Nat.le_refl _) _
  have h1 := h.below hb1
  have c := h1.hdr
  obtain ⟨c0, c1, c2, c3⟩ := h1.cells n hn
  obtain ⟨lb, lg⟩ := h.lt
  have hni : (n : Int) < (l.length : Int) := by omega
  have hn0 : (0 : Int) ≤ (n : Int) := by omega
  unfold frV
  obtain ⟨⟨x0, x1, x2, x3⟩, hx⟩ : ∃ x, l.getD n default = x := ⟨_, rfl⟩
  rw [hx] at c0 c1 c2 c3 ⊢
  clear h h1 hb1 hx hn
  go_enter Tryz.func27, Tryz.ntmps27
  go_wp2
  refine bodyPost_ret (v := .tuple #[.agg #[.int .i64 x0, .int .i64 x1, .int .i64 x2, .int .i64 x3], .bool true]) (by simp [results, Tryz.results27, go_sem]) rfl ⟨rfl, ?_⟩
  repeat (first | exact Below.refl _ _ | refine Below.setCell ?_ (by first | (simp; done) | (simp; omega)) _ | refine Below.alloc ?_ (by first | (simp; done) | (simp; omega)) _)
set_option maxRecDepth 100000 in
set_option maxHeartbeats 1600000 in
theorem fget_none (l : List Fr) (b g cap : Nat) (i : Int) (w : World) (h : FrAt 99 69 w b g cap l) (hn : ¬ (0 ≤ i ∧ i < l.length)) :
    Calls Tryz.prog 27 #[.pointer (some ⟨b, 0, none⟩), .int .i64 i] w fun e w' => e = .returned (.tuple #[.agg #[.int .i64 0, .int .i64 0, .int .i64 0, .int .i64 0], .bool false]) ∧ Below w.heap.size w w' := by
  have hb1 : Below w.heap.size w (w.alloc (.cells #[.int .i64 0, .int .i64 0, .int .i64 0, .int .i64 0] 69)) := (Below.refl _ _).alloc (Nat.le_refl _) _
  have c := (h.below hb1).hdr
  obtain ⟨lb, lg⟩ := h.lt
  have hc : i < 0 ∨ (¬ i < 0 ∧ (l.length : Int) ≤ i) := by omega
  clear h hb1 hn
  rcases hc with hc | ⟨hc, hd⟩
  all_goals
    go_enter Tryz.func27, Tryz.ntmps27
    go_wp2
    refine bodyPost_ret (v := .tuple #[.agg #[.int .i64 0, .int .i64 0, .int .i64 0, .int .i64 0], .bool false]) (by simp [results, Tryz.results27, go_sem]) rfl ⟨rfl, ?_⟩
    repeat (first | exact Below.refl _ _ | refine Below.setCell ?_ (by first | (simp; done) | (simp; omega)) _ | refine Below.alloc ?_ (by first | (simp; done) | (simp; omega)) _)

set_option maxRecDepth 100000 in
set_option maxHeartbeats 1600000 in
theorem fthere_any (l : List Fr) (b g cap : Nat) (i : Int) (w : World) (h : FrAt 99 69 w b g cap l) :
    Calls Tryz.prog 87 #[.pointer (some ⟨b, 0, none⟩), .int .i64 i] w fun e w' => e = .returned (.bool (frAt l i).isSome) ∧ Below w.heap.size w w' := by
  by_cases hi : 0 ≤ i ∧ i < l.length
  · obtain ⟨n, rfl⟩ := Int.eq_ofNat_of_zero_le hi.1
    have hn : n < l.length := by omega
    have HG := Lib.hid (fget_some l b g cap n w h hn)
    have hf : frAt l (n : Int) = if (l.getD n default).owner ≠ -1 then some n else none := by
      unfold frAt
      by_cases ho : (l.getD n default).owner = -1
      · rw [if_neg (by rw [Int.toNat_natCast]; exact fun h => h.2.2 ho), if_neg (fun h => h ho)]
      · rw [if_pos ⟨hi.1, hi.2, by rw [Int.toNat_natCast]; exact ho⟩, if_pos ho, Int.toNat_natCast]
    rw [hf]
    unfold frV at HG
    obtain ⟨⟨x0, x1, x2, x3⟩, hx⟩ : ∃ x, l.getD n default = x := ⟨_, rfl⟩
    rw [hx] at HG ⊢
    dsimp only at HG ⊢
    clear hf hi h hx hn
    by_cases ho : x0 = -1
    · subst ho
      go_enter Tryz.func87, Tryz.ntmps87
      go_wp2_with fail
      refine HG.out.mono ?_
      rintro e w1 ⟨rfl, hb1⟩
      have HB := Lib.hid hb1
      clear hb1
      go_wp2
      go_ret
      exact ⟨rfl, HB.out.alloc HB.out.size _⟩
    · have ho' : (x0 == -1) = false := by simp [ho]
      rw [if_pos ho]
      have HO := Lib.hid ho
      clear ho
      go_enter Tryz.func87, Tryz.ntmps87
      go_wp2_with fail
      refine HG.out.mono ?_
      rintro e w1 ⟨rfl, hb1⟩
      have HB := Lib.hid hb1
      clear hb1
      go_wp2
      go_ret
      exact ⟨by simp [HO.out], HB.out.alloc HB.out.size _⟩
  · have HG := Lib.hid (fget_none l b g cap i w h hi)
    have hf : frAt l i = none := by
      unfold frAt
      rw [if_neg (fun h => hi ⟨h.1, h.2.1⟩)]
    rw [hf]
    clear hf hi h
    go_enter Tryz.func87, Tryz.ntmps87
    go_wp2_with fail
    refine HG.out.mono ?_
    rintro e w1 ⟨rfl, hb1⟩
    have HB := Lib.hid hb1
    clear hb1
    go_wp2
    go_ret
    exact ⟨rfl, HB.out.alloc HB.out.size _⟩

set_option maxRecDepth 100000 in
set_option maxHeartbeats 1600000 in
theorem fown_any (E : Nat → Addr) (l : List Fr) (b g cap : Nat) (i who : Int) (w : World) (hE : ErrsAt errT gOf w E nine) (h : FrAt 99 69 w b g cap l) :
    Calls Tryz.prog 86 #[.pointer (some ⟨b, 0, none⟩), .int .i64 i, .int .i64 who] w fun e w' => e = .returned (errC E (frOwnC l i who)) ∧ Below w.heap.size w w' := by
  have HT := Lib.hid (fthere_any l b g cap i w h)
  have HEK : Hid (∀ wx, Below w.heap.size w wx → wx.cell? ⟨3, 0, none⟩ = some (errV (E 6)) ∧ wx.cell? ⟨4, 0, none⟩ = some (errV (E 9))) := Lib.hid fun wx hx => ⟨((hE.mono hx).1 6 (by decide)).1, ((hE.mono hx).1 9 (by decide)).1⟩
  unfold frOwnC
  cases hN : frAt l i with
  | none =>
    rw [hN] at HT
    dsimp only [Option.isSome] at HT ⊢
    clear h hE hN
    go_enter Tryz.func86, Tryz.ntmps86
    go_wp2_with fail
    refine HT.out.mono ?_
    rintro e w1 ⟨rfl, hb1⟩
    obtain ⟨e6, -⟩ := HEK.out _ hb1
    have HB := Lib.hid hb1
    clear hb1
    go_wp2
    go_ret
    exact ⟨rfl, HB.out⟩
  | some n =>
    obtain ⟨rfl, hn, ho⟩ := frAt_some hN
    rw [hN] at HT
    dsimp only [Option.isSome] at HT ⊢
    have hni : (n : Int) < (l.length : Int) := by omega
    have hn0 : (0 : Int) ≤ (n : Int) := by omega
    have HF : Hid (∀ wx, Below w.heap.size w wx → wx.cell? ⟨b, 0, none⟩ = some (.slice (some ⟨g, 0, none⟩) l.length cap) ∧ wx.cell? ⟨g, n * 4, none⟩ = some (.int .i64 (l.getD n default).owner)) := Lib.hid fun wx hx => ⟨(h.below hx).hdr, ((h.below hx).cells n hn).1⟩
    obtain ⟨⟨x0, x1, x2, x3⟩, hx⟩ : ∃ x, l.getD n default = x := ⟨_, rfl⟩
    rw [hx] at HF ⊢
    dsimp only at HF ⊢
    clear h hE hN ho hx hn
    by_cases hw : x0 = who
    · subst hw
      rw [if_pos rfl]
      go_enter Tryz.func86, Tryz.ntmps86
      go_wp2_with fail
      refine HT.out.mono ?_
      rintro e w1 ⟨rfl, hb1⟩
      obtain ⟨c, c0⟩ := HF.out _ hb1
      have HB := Lib.hid hb1
      clear hb1
      go_wp2
      go_ret
      exact ⟨rfl, HB.out⟩
    · rw [if_neg hw]
      have hw' : (x0 == who) = false := by simp [hw]
      clear hw
      go_enter Tryz.func86, Tryz.ntmps86
      go_wp2_with fail
      refine HT.out.mono ?_
      rintro e w1 ⟨rfl, hb1⟩
      obtain ⟨c, c0⟩ := HF.out _ hb1
      obtain ⟨-, e9⟩ := HEK.out _ hb1
      have HB := Lib.hid hb1
      clear hb1
      go_wp2
      go_ret
      exact ⟨rfl, HB.out⟩
end Go.Proofs.YtaoaachgnnengaaGreatDoor

