/-
  Which pages are live: plain laws; pt.Tables.Live.
-/
import Derived.Test.YtnhocmmgdkiepaaDoorPtLaw2
import Derived.Test.YtnhocmmgdkiepaaDoorPtEntry
import Derived.Test.YtnhocmmgdkiepaaDoorCloneInts
namespace Go.Proofs.YtnhocmmgdkiepaaDoor
open Go.RowKit

theorem tWord_inj {m : Int} {s : Ts} (h : TInv m s) {a b : Nat} (ha : a < 256) (hb : b < 256) (e : tWord s a = tWord s b) : a = b := by
  have h1 := h.pin (1 + a / 16) (by have := h.p17; omega)
  have h2 := h.pin (1 + b / 16) (by have := h.p17; omega)
  unfold tWord at e
  have e1 : s.P.getD (1 + a / 16) 0 = s.P.getD (1 + b / 16) 0 := by omega
  have := h.pne _ _ (by have := h.p17; omega) (by have := h.p17; omega) e1
  omega
theorem tWord_lt {m : Int} {s : Ts} (h : TInv m s) {a : Nat} (ha : a < 256) : tWord s a < s.M.length := by
  have h1 := h.pin (1 + a / 16) (by have := h.p17; omega)
  rw [h.lm]
  unfold tWord
  omega
/-- a page's entry, where its word is known -/
theorem tEnt_word (s : Ts) (page : Int) (hp : isPage page = true) (x : Int) (hx : s.M.getD (tWord s page.toNat) 0 = x) : tEnt s page = if (ofA x).1.t = true then (ofA x).1 else Ent.z := by
  have hpg : 0 ≤ page ∧ page < 256 := by simpa [isPage] using hp
  unfold tEnt
  rw [hx]
  by_cases h : (ofA x).1.t = true
  · rw [if_pos ⟨hpg.1, hpg.2, h⟩, if_pos h]
  · rw [if_neg (fun hh => h hh.2.2), if_neg h]
theorem tEnt_none (s : Ts) (page : Int) (hp : isPage page = false) : tEnt s page = Ent.z := by
  have hpg : ¬ (0 ≤ page ∧ page < 256) := by simpa [isPage] using hp
  unfold tEnt
  rw [if_neg (fun hh => hpg ⟨hh.1, hh.2.1⟩)]
/-- one word put: each page's entry then -/
theorem tEnt_put {m : Int} {s : Ts} (h : TInv m s) (page : Int) (hp : isPage page = true) (x : Int) (F : List Fr) (p : Int) : tEnt { s with F := F, M := writeL s.M (tWord s page.toNat : Int) x } p = if p = page then (if (ofA x).1.t = true then (ofA x).1 else Ent.z) else tEnt s p := by
  have hpg : 0 ≤ page ∧ page < 256 := by simpa [isPage] using hp
  have hlt := tWord_lt h (a := page.toNat) (by omega)
  have hg : ∀ t, (writeL s.M (tWord s page.toNat : Int) x).getD t 0 = if t = tWord s page.toNat then x else s.M.getD t 0 := fun t => by
    unfold writeL
    rw [if_pos (by omega), Int.toNat_natCast, setD_get _ _ _ _ hlt]
  have hw : ∀ q, tWord { s with F := F, M := writeL s.M (tWord s page.toNat : Int) x } q = tWord s q := fun q => rfl
  by_cases e : p = page
  · subst e
    rw [if_pos rfl]
    exact tEnt_word _ p hp x (by show (writeL s.M _ x).getD (tWord s p.toNat) 0 = x; rw [hg, if_pos rfl])
  · rw [if_neg e]
    cases hq : isPage p with
    | false => rw [tEnt_none _ p hq, tEnt_none _ p hq]
    | true =>
      have hpq : 0 ≤ p ∧ p < 256 := by simpa [isPage] using hq
      have hne : tWord s p.toNat ≠ tWord s page.toNat := fun e2 => by
        have := tWord_inj h (by omega) (by omega) e2
        omega
      rw [tEnt_word _ p hq (s.M.getD (tWord s p.toNat) 0) (by show (writeL s.M _ x).getD (tWord s p.toNat) 0 = _; rw [hg, if_neg hne]), tEnt_word s p hq _ rfl]
theorem ofA_zero'' : ofA 0 = (Ent.z, true) := ofA_ent'' (f := 0) (t := false) (wr := false) (u := false) ⟨by decide, by decide, fun _ => ⟨rfl, rfl, rfl⟩⟩
theorem tEnt_zt : Ent.z.t = false := rfl
theorem tEnt_there (s : Ts) (page : Int) (h : ¬ (tEnt s page).t = true) : tEnt s page = Ent.z := by
  unfold tEnt at h ⊢
  split
  · rename_i hh
    rw [if_pos hh] at h
    exact absurd hh.2.2 h
  · rfl
theorem tEnt_F (s : Ts) (F : List Fr) (p : Int) : tEnt { s with F := F } p = tEnt s p := rfl
/-- behind Drop -/
theorem tEnt_drop {m : Int} {s : Ts} (h : TInv m s) (page : Int) (hp : isPage page = true) (p : Int) : tEnt (tDrop s page).1 p = if p = page then Ent.z else tEnt s p := by
  unfold tDrop
  rw [if_pos hp]
  by_cases ht : (tEnt s page).t = true
  · rw [if_pos ht]
    have := tEnt_put h page hp 0 (tDropF s page) p
    rw [ofA_zero'', show (if ((Ent.z, true) : Ent × Bool).1.t = true then ((Ent.z, true) : Ent × Bool).1 else Ent.z) = Ent.z from rfl] at this
    exact this
  · rw [if_neg ht]
    by_cases e : p = page
    · rw [if_pos e, e]
      exact tEnt_there s page ht
    · rw [if_neg e]
/-- behind set -/
theorem tEnt_set {m : Int} {s : Ts} (h : TInv m s) (page frame : Int) (w : Bool) (hp : isPage page = true) (hc : (tSetR s frame w).c = 0) (hf : 0 ≤ frame ∧ frame < 1024) (p : Int) : tEnt (tSet s page frame w).1 p = if p = page then ⟨frame, true, w, true⟩ else tEnt s p := by
  have hok : entOk frame true w true := ⟨hf.1, hf.2, fun h => by cases h⟩
  have hpg : 0 ≤ page ∧ page < 256 := by simpa [isPage] using hp
  unfold tSet
  rw [if_pos hc]
  have hI := tDrop_inv (tSetR_inv h frame w) page
  have hD := tEnt_drop (tSetR_inv h frame w) page hp
  have hP := (tDrop_P { s with F := (tSetR s frame w).l } page).1
  obtain ⟨S, hS⟩ : ∃ S, (tDrop { s with F := (tSetR s frame w).l } page).1 = S := ⟨_, rfl⟩
  rw [hS] at hI hD hP ⊢
  have h1 := hI.pin (1 + page.toNat / 16) (by have := hI.p17; omega)
  have hput : putE S.M (s.P.getD (1 + page.toNat / 16) 0) ((page.toNat % 16 : Nat) : Int) ⟨frame, true, w, true⟩ = writeL S.M (tWord S page.toNat : Int) (entW frame true w true) := by
    unfold putE bitsA
    rw [if_pos ((entOkB_iff _ _ _ _).2 hok)]
    show writeL S.M _ (entW frame true w true) = _
    rw [show s.P = S.P from hP.symm, show S.P.getD (1 + page.toNat / 16) 0 * 16 + ((page.toNat % 16 : Nat) : Int) = ((tWord S page.toNat : Nat) : Int) by unfold tWord; omega]
  show tEnt { S with M := putE S.M (s.P.getD (1 + page.toNat / 16) 0) ((page.toNat % 16 : Nat) : Int) ⟨frame, true, w, true⟩ } p = _
  rw [hput]
  have := tEnt_put hI page hp (entW frame true w true) S.F p
  rw [ofA_ent'' hok, if_pos rfl] at this
  refine Eq.trans this ?_
  rw [hD p]
  by_cases e : p = page
  · rw [if_pos e, if_pos e]
  · rw [if_neg e, if_neg e, if_neg e]
    rfl

/-- the live pages below n -/
def tLiveN (s : Ts) : Nat → List Int
  | 0 => []
  | n + 1 => if (tEnt s (n : Int)).t = true then tLiveN s n ++ [(n : Int)] else tLiveN s n
def tLive (s : Ts) : List Int := tLiveN s 256
theorem tLiveN_len (s : Ts) : ∀ n, (tLiveN s n).length ≤ n
  | 0 => Nat.le_refl _
  | n + 1 => by
    have := tLiveN_len s n
    unfold tLiveN
    split
    · rw [List.length_append]; simp; omega
    · omega
theorem infoLive : (Tryd.prog.info? 3).map (fun i => (i.zero, i.size, i.bytes)) = some (some (.int .i64 0), 1, 8) := by kernel_rfl
def LvTo (s : Ts) (w : World) (v i : Value) (wr : World) : Prop := ∃ k : Nat, k ≤ 256 ∧ i = .int .i64 (k : Int) ∧ wr.ownsRow 0 3 1 v (tLiveN s k).length (ints (tLiveN s k)) ∧ (∀ j, inRow v j → w.heap.size ≤ j) ∧ Below w.heap.size w wr

set_option maxRecDepth 100000 in
set_option maxHeartbeats 6400000 in
theorem tlive_any (p : Pl) (s : Ts) (m : Int) (w : World) (h : PtAt w p s) (hi : TInv m s) :
    Calls Tryd.prog 37 #[.pointer (some ⟨p.tb, 0, none⟩)] w fun y w' => ∃ v', y = .returned v' ∧ w'.ownsRow 0 3 1 v' (tLive s).length (ints (tLive s)) ∧ (∀ j, inRow v' j → w.heap.size ≤ j) ∧ Below w.heap.size w w' := by
  obtain ⟨i0, hi0, hz0, hz1, hz2⟩ := info_parts infoLive
  have HEN : Hid (∀ wx, Below w.heap.size w wx → ∀ page : Int, Calls Tryd.prog 75 #[.pointer (some ⟨p.tb, 0, none⟩), .int .i64 page] wx fun y w' => y = .returned (.tuple #[(tEnt s page).v, .bool (tEnt s page).t]) ∧ Below wx.heap.size wx w') := Lib.hid fun wx hb page => tentry_any p s m page wx (h.below hb) hi
  clear h hi
  go_enter Tryd.func37, Tryd.ntmps37
  go_wp2_with fail
  go_loopw [3, 7] (fun v i wr => LvTo s w v i wr) (fun _ i _ => 256 - (intOf i).toNat)
  case atStart => exact ⟨0, Nat.zero_le _, rfl, own_nil _ _ _, fun j h => (by cases h), Below.refl _ _⟩
  case round =>
    obtain ⟨k, hk, rfl, ho, hf, hb⟩ := hrel
    have HO := Lib.hid ho
    have HF := Lib.hid hf
    have HB := Lib.hid hb
    by_cases hlt : k < 256
    · have hki : (k : Int) < 256 := by omega
      have HE := Lib.hid (HEN.out _ HB.out (k : Int))
      have HL1 : Hid (tLiveN s (k + 1) = if (tEnt s (k : Int)).t = true then tLiveN s k ++ [(k : Int)] else tLiveN s k) := Lib.hid rfl
      have hlen := tLiveN_len s k
      obtain ⟨L, hL⟩ : ∃ L, tLiveN s k = L := ⟨_, rfl⟩
      rw [hL] at HO HL1 hlen ho
      obtain ⟨ao, cap, rfl⟩ := own_slice ho
      clear ho hf hb
      obtain ⟨⟨ef, et, ew, eu⟩, he⟩ : ∃ e, tEnt s (k : Int) = e := ⟨_, rfl⟩
      rw [he] at HE HL1
      unfold Ent.v at HE
      dsimp only at HE HL1
      go_wp2_with fail
      refine HE.out.mono ?_
      rintro y w1 ⟨rfl, hb1⟩
      have HB1 : Hid (Below w.heap.size w w1) := Lib.hid (HB.out.trans (hb1.mono HB.out.size))
      have HO1 : Hid (w1.ownsRow 0 3 1 (.slice ao L.length cap) L.length (ints L)) := Lib.hid (own_frame HO.out fun j hj => hb1.block j (own_lt HO.out hj))
      have HLL := Lib.hid hL
      clear hb1 hL he
      cases et with
      | false =>
        have HB2 : Hid (∀ X, Below w.heap.size w (w1.alloc X)) := Lib.hid fun X => HB1.out.alloc HB1.out.size X
        go_wp2_with fail
        go_roundw
        case rel => exact ⟨k + 1, by omega, by go_num, by rw [HL1.out, if_neg (by decide)]; exact HO1.out.alloc _, HF.out, HB2.out _⟩
        case measure => simp [intOf]; omega
      | true =>
        go_wp2_with (at_builtin; refine wpList_append_sep _ rfl _ _ 35 rfl 3 i0 (.int .i64 0) 1 8 Tryd.underlying35 hi0 hz0 hz1 hz2 rfl (by decide) _ _ _ rfl ((HO1.out.alloc (.cells #[.int .i64 ef, .bool true, .bool ew, .bool eu] 42)).alloc _) ⟨w1.heap.size + 1, 0, none⟩ 1 1 [.int .i64 (k : Int)] rfl rfl (by have := cell_one_new (w1.alloc (.cells #[.int .i64 ef, .bool true, .bool ew, .bool eu] 42)) (.int .i64 (k : Int)) 3; simpa using this) (by simp [Value.oneCell']) (by unfold maxLen; omega) (by omega) ?_)
        intro v' wx ho3 hg3 hs3
        obtain ⟨ao2, cap2, rfl⟩ := own_slice ho3
        have HO3 : Hid (wx.ownsRow 0 3 1 (.slice ao2 (L.length + 1) cap2) (L ++ [(k : Int)]).length (ints (L ++ [(k : Int)]))) := Lib.hid (by
          have e1 : ints L ++ [Value.int .i64 (k : Int)] = ints (L ++ [(k : Int)]) := by simp [ints]
          rw [e1] at ho3
          rw [List.length_append]
          exact ho3)
        have HF3 : Hid (∀ j, inRow (.slice ao2 (L.length + 1) cap2) j → w.heap.size ≤ j) := Lib.hid fun j hj => by
          rcases hs3 j hj with h | h
          · exact HF.out j h
          · have h' := h
            try simp at h'
            have := HB1.out.size
            omega
        have HB3 : Hid (Below w.heap.size w wx) := Lib.hid (Below.grown ((HB1.out.alloc HB1.out.size _).alloc (by have := HB1.out.size; simp; omega) _) hg3 (by have := HB1.out.size; simp; omega) (fun j hj => HF.out j hj))
        clear ho3 hg3 hs3
        go_wp2_with fail
        go_roundw
        case rel => exact ⟨k + 1, by omega, by go_num, by rw [HL1.out]; simp only [if_true]; exact HO3.out, HF3.out, HB3.out⟩
        case measure => simp [intOf]; omega
    · obtain rfl : k = 256 := by omega
      obtain ⟨ao, cap, rfl⟩ := own_slice ho
      clear ho hf hb
      go_wp2
      go_ret
      exact ⟨_, rfl, HO.out, HF.out, HB.out⟩
end Go.Proofs.YtnhocmmgdkiepaaDoor
