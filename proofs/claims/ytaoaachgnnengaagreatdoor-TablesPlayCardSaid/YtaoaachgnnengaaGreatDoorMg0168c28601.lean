/-
  Parts of one proof, one behind the other.
-/
import Derived.Test.YtaoaachgnnengaaGreatDoorMga85010b3ec
import Derived.Test.YtaoaachgnnengaaGreatDoorMg67c367e12d
import Derived.Test.YtaoaachgnnengaaGreatDoorMg84cf151f3c
import Derived.Deep.DeepCutAuto
import Derived.BigQuiet
import Derived.Test.YtaoaachgnnengaaGreatDoorMga6fdb5c765
/-
  Which pages are live: plain laws; pt.Tables.Live.
-/
namespace Go.Proofs.YtaoaachgnnengaaGreatDoor
open Go.RowKit

theorem tWord_inj {m : Int} {s : Ts} (h : TInv m s) {a b : Nat} (ha : a < 256) (hb : b < 256) (e : tWord s a = tWord s b) : a = b := by
  have h1 := h.pin (1 + a / 16) (by have := h.p17; omega)
  have h2 := h.pin (1 + b / 16) (by have := h.p17; omega)
  unfold tWord at e
  have e1 : s.P.getD (1 + a / 16) 0 = s.P.getD (1 + b / 16) 0 := by omega
  have := h.pne _ _ (by have := h.p17; omega) (by have := h.p17; omega) e1
  omega
theorem tWord_lt {m : Int} {s : Ts} (h : TInv m s) {a : Nat} (ha : a < 256) : tWord s a < s.M.length := by
  have h1 := h.pin (1 + a / 16) (by have := h.p17; omega)
  rw [h.lm]
  unfold tWord
  omega
/-- a page's entry, where its word is known -/
theorem tEnt_word (s : Ts) (page : Int) (hp : isPage page = true) (x : Int) (hx : s.M.getD (tWord s page.toNat) 0 = x) : tEnt s page = if (ofA x).1.t = true then (ofA x).1 else Ent.z := by
  have hpg : 0 ≤ page ∧ page < 256 := by simpa [isPage] using hp
  unfold tEnt
  rw [hx]
  by_cases h : (ofA x).1.t = true
  · rw [if_pos ⟨hpg.1, hpg.2, h⟩, if_pos h]
  · rw [if_neg (fun hh => h hh.2.2), if_neg h]
theorem tEnt_none (s : Ts) (page : Int) (hp : isPage page = false) : tEnt s page = Ent.z := by
  have hpg : ¬ (0 ≤ page ∧ page < 256) := by simpa [isPage] using hp
  unfold tEnt
  rw [if_neg (fun hh => hpg ⟨hh.1, hh.2.1⟩)]
/-- one word put: each page's entry then -/
theorem tEnt_put {m : Int} {s : Ts} (h : TInv m s) (page : Int) (hp : isPage page = true) (x : Int) (F : List Fr) (p : Int) : tEnt { s with F := F, M := writeL s.M (tWord s page.toNat : Int) x } p = if p = page then (if (ofA x).1.t = true then (ofA x).1 else Ent.z) else tEnt s p := by
  have hpg : 0 ≤ page ∧ page < 256 := by simpa [isPage] using hp
  have hlt := tWord_lt h (a := page.toNat) (by omega)
  have hg : ∀ t, (writeL s.M (tWord s page.toNat : Int) x).getD t 0 = if t = tWord s page.toNat then x else s.M.getD t 0 := fun t => by
    unfold writeL
    rw [if_pos (by omega), Int.toNat_natCast, setD_get _ _ _ _ hlt]
  have hw : ∀ q, tWord { s with F := F, M := writeL s.M (tWord s page.toNat : Int) x } q = tWord s q := fun q => rfl
  by_cases e : p = page
  · subst e
    rw [if_pos rfl]
    exact tEnt_word _ p hp x (by show (writeL s.M _ x).getD (tWord s p.toNat) 0 = x; rw [hg, if_pos rfl])
  · rw [if_neg e]
    cases hq : isPage p with
    | false => rw [tEnt_none _ p hq, tEnt_none _ p hq]
    | true =>
      have hpq : 0 ≤ p ∧ p < 256 := by simpa [isPage] using hq
      have hne : tWord s p.toNat ≠ tWord s page.toNat := fun e2 => by
        have := tWord_inj h (by omega) (by omega) e2
        omega
      rw [tEnt_word _ p hq (s.M.getD (tWord s p.toNat) 0) (by show (writeL s.M _ x).getD (tWord s p.toNat) 0 = _; rw [hg, if_neg hne]), tEnt_word s p hq _ rfl]
theorem ofA_zero'' : ofA 0 = (Ent.z, true) := ofA_ent'' (f := 0) (t := false) (wr := false) (u := false) ⟨by decide, by decide, fun _ => ⟨rfl, rfl, rfl⟩⟩
theorem tEnt_zt : Ent.z.t = false := rfl
theorem tEnt_there (s : Ts) (page : Int) (h : ¬ (tEnt s page).t = true) : tEnt s page = Ent.z := by
  unfold tEnt at h ⊢
  split
  · rename_i hh
    rw [if_pos hh] at h
    exact absurd hh.2.2 h
  · rfl
theorem tEnt_F (s : Ts) (F : List Fr) (p : Int) : tEnt { s with F := F } p = tEnt s p := rfl
/-- behind Drop -/
theorem tEnt_drop {m : Int} {s : Ts} (h : TInv m s) (page : Int) (hp : isPage page = true) (p : Int) : tEnt (tDrop s page).1 p = if p = page then Ent.z else tEnt s p := by
  unfold tDrop
  rw [if_pos hp]
  by_cases ht : (tEnt s page).t = true
  · rw [if_pos ht]
    have := tEnt_put h page hp 0 (tDropF s page) p
    rw [ofA_zero'', show (if ((Ent.z, true) : Ent × Bool).1.t = true then ((Ent.z, true) : Ent × Bool).1 else Ent.z) = Ent.z from rfl] at this
    exact this
  · rw [if_neg ht]
    by_cases e : p = page
    · rw [if_pos e, e]
      exact tEnt_there s page ht
    · rw [if_neg e]
/-- behind set -/
theorem tEnt_set {m : Int} {s : Ts} (h : TInv m s) (page frame : Int) (w : Bool) (hp : isPage page = true) (hc : (tSetR s frame w).c = 0) (hf : 0 ≤ frame ∧ frame < 1024) (p : Int) : tEnt (tSet s page frame w).1 p = if p = page then ⟨frame, true, w, true⟩ else tEnt s p := by
  have hok : entOk frame true w true := ⟨hf.1, hf.2, fun h => by cases h⟩
  have hpg : 0 ≤ page ∧ page < 256 := by simpa [isPage] using hp
  unfold tSet
  rw [if_pos hc]
  have hI := tDrop_inv (tSetR_inv h frame w) page
  have hD := tEnt_drop (tSetR_inv h frame w) page hp
  have hP := (tDrop_P { s with F := (tSetR s frame w).l } page).1
  obtain ⟨S, hS⟩ : ∃ S, (tDrop { s with F := (tSetR s frame w).l } page).1 = S := ⟨_, rfl⟩
  rw [hS] at hI hD hP ⊢
  have h1 := hI.pin (1 + page.toNat / 16) (by have := hI.p17; omega)
  have hput : putE S.M (s.P.getD (1 + page.toNat / 16) 0) ((page.toNat % 16 : Nat) : Int) ⟨frame, true, w, true⟩ = writeL S.M (tWord S page.toNat : Int) (entW frame true w true) := by
    unfold putE bitsA
    rw [if_pos ((entOkB_iff _ _ _ _).2 hok)]
    show writeL S.M _ (entW frame true w true) = _
    rw [show s.P = S.P from hP.symm, show S.P.getD (1 + page.toNat / 16) 0 * 16 + ((page.toNat % 16 : Nat) : Int) = ((tWord S page.toNat : Nat) : Int) by unfold tWord; omega]
  show tEnt { S with M := putE S.M (s.P.getD (1 + page.toNat / 16) 0) ((page.toNat % 16 : Nat) : Int) ⟨frame, true, w, true⟩ } p = _
  rw [hput]
  have := tEnt_put hI page hp (entW frame true w true) S.F p
  rw [ofA_ent'' hok, if_pos rfl] at this
  refine Eq.trans this ?_
  rw [hD p]
  by_cases e : p = page
  · rw [if_pos e, if_pos e]
  · rw [if_neg e, if_neg e, if_neg e]
    rfl

/-- the live pages below n -/
def tLiveN (s : Ts) : Nat → List Int
  | 0 => []
  | n + 1 => if (tEnt s (n : Int)).t = true then tLiveN s n ++ [(n : Int)] else tLiveN s n
def tLive (s : Ts) : List Int := tLiveN s 256
theorem tLiveN_len (s : Ts) : ∀ n, (tLiveN s n).length ≤ n
  | 0 => Nat.le_refl _
  | n + 1 => by
    have := tLiveN_len s n
    unfold tLiveN
    split
    · rw [List.length_append]; simp; omega
    · omega
theorem infoLive : (Tryz.prog.info? 3).map (fun i => (i.zero, i.size, i.bytes)) = some (some (.int .i64 0), 1, 8) := by kernel_rfl
def LvTo (s : Ts) (w : World) (v i : Value) (wr : World) : Prop := ∃ k : Nat, k ≤ 256 ∧ i = .int .i64 (k : Int) ∧ wr.ownsRow 0 3 1 v (tLiveN s k).length (ints (tLiveN s k)) ∧ (∀ j, inRow v j → w.heap.size ≤ j) ∧ Below w.heap.size w wr

set_option maxRecDepth 100000 in
set_option maxHeartbeats 6400000 in
theorem tlive_any (p : Pl) (s : Ts) (m : Int) (w : World) (h : PtAt w p s) (hi : TInv m s) :
    Calls Tryz.prog 13 #[.pointer (some ⟨p.tb, 0, none⟩)] w fun y w' => ∃ v', y = .returned v' ∧ w'.ownsRow 0 3 1 v' (tLive s).length (ints (tLive s)) ∧ (∀ j, inRow v' j → w.heap.size ≤ j) ∧ Below w.heap.size w w' := by
  obtain ⟨i0, hi0, hz0, hz1, hz2⟩ := info_parts infoLive
  have HEN : Hid (∀ wx, Below w.heap.size w wx → ∀ page : Int, Calls Tryz.prog 41 #[.pointer (some ⟨p.tb, 0, none⟩), .int .i64 page] wx fun y w' => y = .returned (.tuple #[(tEnt s page).v, .bool (tEnt s page).t]) ∧ Below wx.heap.size wx w') := Lib.hid fun wx hb page => tentry_any p s m page wx (h.below hb) hi
  clear h hi
  go_enter Tryz.func13, Tryz.ntmps13
  go_wp2_with fail
  go_loopw [3, 7] (fun v i wr => LvTo s w v i wr) (fun _ i _ => 256 - (intOf i).toNat)
  case atStart => exact ⟨0, Nat.zero_le _, rfl, own_nil _ _ _, fun j h => (by cases h), Below.refl _ _⟩
  case round =>
    obtain ⟨k, hk, rfl, ho, hf, hb⟩ := hrel
    have HO := Lib.hid ho
    have HF := Lib.hid hf
    have HB := Lib.hid hb
    by_cases hlt : k < 256
    · have hki : (k : Int) < 256 := by omega
      have HE := Lib.hid (HEN.out _ HB.out (k : Int))
      have HL1 : Hid (tLiveN s (k + 1) = if (tEnt s (k : Int)).t = true then tLiveN s k ++ [(k : Int)] else tLiveN s k) := Lib.hid rfl
      have hlen := tLiveN_len s k
      obtain ⟨L, hL⟩ : ∃ L, tLiveN s k = L := ⟨_, rfl⟩
      rw [hL] at HO HL1 hlen ho
      obtain ⟨ao, cap, rfl⟩ := own_slice ho
      clear ho hf hb
      obtain ⟨⟨ef, et, ew, eu⟩, he⟩ : ∃ e, tEnt s (k : Int) = e := ⟨_, rfl⟩
      rw [he] at HE HL1
      unfold Ent.v at HE
      dsimp only at HE HL1
      go_wp2_with fail
      refine HE.out.mono ?_
      rintro y w1 ⟨rfl, hb1⟩
      have HB1 : Hid (Below w.heap.size w w1) := Lib.hid (HB.out.trans (hb1.mono HB.out.size))
      have HO1 : Hid (w1.ownsRow 0 3 1 (.slice ao L.length cap) L.length (ints L)) := Lib.hid (own_frame HO.out fun j hj => hb1.block j (own_lt HO.out hj))
      have HLL := Lib.hid hL
      clear hb1 hL he
      cases et with
      | false =>
        have HB2 : Hid (∀ X, Below w.heap.size w (w1.alloc X)) := Lib.hid fun X => HB1.out.alloc HB1.out.size X
        go_wp2_with fail
        go_roundw
        case rel => exact ⟨k + 1, by omega, by go_num, by rw [HL1.out, if_neg (by decide)]; exact HO1.out.alloc _, HF.out, HB2.out _⟩
        case measure => simp [intOf]; omega
      | true =>
        go_wp2_with (at_builtin; refine wpList_append_sep _ rfl _ _ 43 rfl 3 i0 (.int .i64 0) 1 8 Tryz.underlying43 hi0 hz0 hz1 hz2 rfl (by decide) _ _ _ rfl ((HO1.out.alloc (.cells #[.int .i64 ef, .bool true, .bool ew, .bool eu] 34)).alloc _) ⟨w1.heap.size + 1, 0, none⟩ 1 1 [.int .i64 (k : Int)] rfl rfl (by have := cell_one_new (w1.alloc (.cells #[.int .i64 ef, .bool true, .bool ew, .bool eu] 34)) (.int .i64 (k : Int)) 3; simpa using this) (by simp [Value.oneCell']) (by unfold maxLen; omega) (by omega) ?_)
        intro v' wx ho3 hg3 hs3
        obtain ⟨ao2, cap2, rfl⟩ := own_slice ho3
        have HO3 : Hid (wx.ownsRow 0 3 1 (.slice ao2 (L.length + 1) cap2) (L ++ [(k : Int)]).length (ints (L ++ [(k : Int)]))) := Lib.hid (by
          have e1 : ints L ++ [Value.int .i64 (k : Int)] = ints (L ++ [(k : Int)]) := by simp [ints]
          rw [e1] at ho3
          rw [List.length_append]
          exact ho3)
        have HF3 : Hid (∀ j, inRow (.slice ao2 (L.length + 1) cap2) j → w.heap.size ≤ j) := Lib.hid fun j hj => by
          rcases hs3 j hj with h | h
          · exact HF.out j h
          · have h' := h
            try simp at h'
            have := HB1.out.size
            omega
        have HB3 : Hid (Below w.heap.size w wx) := Lib.hid (Below.grown ((HB1.out.alloc HB1.out.size _).alloc (by have := HB1.out.size; simp; omega) _) hg3 (by have := HB1.out.size; simp; omega) (fun j hj => HF.out j hj))
        clear ho3 hg3 hs3
        go_wp2_with fail
        go_roundw
        case rel => exact ⟨k + 1, by omega, by go_num, by rw [HL1.out]; simp only [if_true]; exact HO3.out, HF3.out, HB3.out⟩
        case measure => simp [intOf]; omega
    · obtain rfl : k = 256 := by omega
      obtain ⟨ao, cap, rfl⟩ := own_slice ho
      clear ho hf hb
      go_wp2
      go_ret
      exact ⟨_, rfl, HO.out, HF.out, HB.out⟩
end Go.Proofs.YtaoaachgnnengaaGreatDoor

/-
  The document's tables: word, Entry.
-/
namespace Go.Proofs.YtaoaachgnnengaaGreatDoor
open Go.RowKit

theorem ZAt.list {w : World} {z : Zl} {n : Nat} {M : List Int} {F : List Fr} {P : List Int} {who : Int} (h : ZAt w z n M F P who) (hP : 17 ≤ P.length) : ∃ g cap, z.gv = .slice (some ⟨g, 0, none⟩) P.length cap ∧ g < w.heap.size ∧ ∀ k, k < P.length → w.cell? ⟨g, k, none⟩ = some (.int .i64 (P.getD k 0)) := by
  rcases own_shape h.gl with ⟨-, hz, -⟩ | hs
  · omega
  · obtain ⟨g, cap, e1, -⟩ := hs
    have ht := h.gl
    rw [e1] at ht
    exact ⟨g, cap, e1, own_lt ht (show inRow _ g from rfl), fun k hk => by rw [own_cell ht k (by omega), ints_get' _ k hk]⟩
theorem nat_lt17 {k : Nat} (h : (k : Int) < 17) : k < 17 := by omega
theorem nat_ltL {k L : Nat} (h : k < 17) (hL : 17 ≤ L) : k < L ∧ (k : Int) < (L : Int) := by omega
theorem tw_sum {x : Int} {w r : Nat} (h0 : 0 ≤ x) (hw : w = 16 * x.toNat + r) : x * 16 + (r : Int) = (w : Int) := by omega
theorem tw_range {t : Int} {n r : Nat} (h : 0 ≤ t ∧ t < (n : Int)) (hn : n ≤ 1024) (hr : r < 16) : (-9223372036854775808 ≤ t * 16 ∧ t * 16 ≤ 9223372036854775807) ∧ (-9223372036854775808 ≤ t * 16 + (r : Int) ∧ t * 16 + (r : Int) ≤ 9223372036854775807) := by omega
theorem ofA_not (x : Int) (h : (ofA x).1.t = false) : (ofA x).1 = Ent.z := by
  unfold ofA at h ⊢
  by_cases hx : isEntB x = true
  · rw [if_pos hx] at h ⊢
    have hok := ((isEntB_iff x).1 hx).1
    dsimp only at h ⊢
    rw [h] at hok ⊢
    obtain ⟨h1, h2, h3⟩ := hok.2.2 rfl
    rw [h1, h2, h3]
    rfl
  · rw [if_neg hx]
theorem tEnt_is (s : Ts) (page : Int) (hp : isPage page = true) : tEnt s page = (ofA (s.M.getD (tWord s page.toNat) 0)).1 := by
  have hpg : 0 ≤ page ∧ page < 256 := by simpa [isPage] using hp
  unfold tEnt
  cases ht : (ofA (s.M.getD (tWord s page.toNat) 0)).1.t with
  | true => rw [if_pos ⟨hpg.1, hpg.2, rfl⟩]
  | false => rw [if_neg (fun hh => by cases hh.2.2), ofA_not _ ht]
theorem tEnt_out (s : Ts) (page : Int) (hp : isPage page = false) : tEnt s page = Ent.z := by
  unfold tEnt
  rw [if_neg]
  intro hh
  have : isPage page = true := by simp [isPage]; omega
  rw [hp] at this
  cases this

set_option maxRecDepth 100000 in
set_option maxHeartbeats 1600000 in
theorem zword_gen (z : Zl) (s : Ts) (m : Int) (j : Nat) (w : World) {g cap : Nat} (hc : w.cell? ⟨z.zb, 3, none⟩ = some z.gv ∧ z.zb < w.heap.size) (hl : z.gv = .slice (some ⟨g, 0, none⟩) s.P.length cap) (hg : g < w.heap.size) (hcell : ∀ k, k < s.P.length → w.cell? ⟨g, k, none⟩ = some (.int .i64 (s.P.getD k 0))) (hi : TInv m s) (hj : j < 256) :
    Calls Tryz.prog 79 #[.pointer (some ⟨z.zb, 0, none⟩), .int .i64 (j : Int)] w fun y w' => y = .returned (.int .i64 ((tWord s j : Nat) : Int)) ∧ w = w' := by
  obtain ⟨c3, ltb⟩ := hc
  rw [hl] at c3
  have hp17 := hi.p17
  have h1 := hi.pin (1 + j / 16) (by omega)
  have hn := hi.n1
  obtain ⟨a, k, r, ha, hk, hr, wq, wq', wq1, wr, wi0, wi1, hr16⟩ := page_parts j hj
  rw [ha, hk] at h1
  have hk17 := nat_lt17 wi1
  have ct := hcell k (nat_ltL hk17 hp17).1
  have HTW : Hid (s.P.getD k 0 * 16 + (r : Int) = ((tWord s j : Nat) : Int)) := Lib.hid (tw_sum h1.1 (by unfold tWord; rw [ha, hk, hr]))
  have hrg := tw_range (r := r) ⟨h1.1, h1.2.1⟩ hn hr16
  obtain ⟨t1, ht1⟩ : ∃ x, s.P.getD k 0 = x := ⟨_, rfl⟩
  rw [ht1] at HTW ct hrg
  have wi2 := (nat_ltL hk17 hp17).2
  obtain ⟨L, hL⟩ : ∃ x, s.P.length = x := ⟨_, rfl⟩
  rw [hL] at c3 wi2
  have wm := IntWalk.i64_in (t1 * 16) hrg.1
  have ws : IntKind.i64.wrap (t1 * 16 + (r : Int)) = ((tWord s j : Nat) : Int) := (IntWalk.i64_in _ hrg.2).trans HTW.out
  clear hi hl hcell ht1 hL ha hk hr hj h1 hrg hp17 hk17 hn
  go_enter Tryz.func79, Tryz.ntmps79
  go_wp2
  go_ret
  exact ⟨rfl, rfl⟩

theorem zword_any (z : Zl) (s : Ts) (m : Int) (j : Nat) (w : World) (h : ZtAt w z s) (hi : TInv m s) (hj : j < 256) :
    Calls Tryz.prog 79 #[.pointer (some ⟨z.zb, 0, none⟩), .int .i64 (j : Int)] w fun y w' => y = .returned (.int .i64 ((tWord s j : Nat) : Int)) ∧ w = w' := by
  obtain ⟨g, cap, hl, hg, hcell⟩ := ZAt.list h hi.p17
  exact zword_gen z s m j w ⟨(ZAt.cells h).2.2.2.1, (ZAt.cells h).2.2.2.2.2⟩ hl hg hcell hi hj

set_option maxRecDepth 100000 in
set_option maxHeartbeats 3200000 in
theorem zentry_out (z : Zl) (s : Ts) (page : Int) (w : World) (hp : isPage page = false) :
    Calls Tryz.prog 43 #[.pointer (some ⟨z.zb, 0, none⟩), .int .i64 page] w fun y w' => y = .returned (tEnt s page).v ∧ Below w.heap.size w w' := by
  rw [tEnt_out s page hp]
  have hc : page < 0 ∨ (¬ page < 0 ∧ 256 ≤ page) := by
    by_cases h0 : page < 0
    · exact .inl h0
    · refine .inr ⟨h0, ?_⟩
      by_cases h1 : page < 256
      · have : isPage page = true := by simp [isPage]; omega
        rw [hp] at this
        cases this
      · omega
  obtain ⟨zb, hz⟩ : ∃ x, z.zb = x := ⟨_, rfl⟩
  rw [hz]
  have hn := blk_new w (.cells #[.int .i64 0, .bool false, .bool false, .bool false] 34)
  have f0 := blk_free hn 0
  have f1 := blk_free hn 1
  have f2 := blk_free hn 2
  have f3 := blk_free hn 3
  have z0 := blk_cell hn 0
  have z1 := blk_cell hn 1
  have z2 := blk_cell hn 2
  have z3 := blk_cell hn 3
  clear hp hz hn
  rcases hc with h0 | ⟨h0, h1⟩
  all_goals
    go_enter Tryz.func43, Tryz.ntmps43
    go_wp2
    refine bodyPost_ret (v := .agg #[.int .i64 0, .bool false, .bool false, .bool false]) (by simp [results, Tryz.results43, go_sem, z0, z1, z2, z3]) rfl ⟨rfl, ?_⟩
    first | exact (Below.refl _ _).alloc (Nat.le_refl _) _ | exact ((((((Below.refl _ _).alloc (Nat.le_refl _) (.cells #[.int .i64 0, .bool false, .bool false, .bool false] 34))).setCell (p := ⟨w.heap.size, 0, none⟩) (Nat.le_refl _) _).setCell (p := ⟨w.heap.size, 1, none⟩) (Nat.le_refl _) _).setCell (p := ⟨w.heap.size, 2, none⟩) (Nat.le_refl _) _).setCell (p := ⟨w.heap.size, 3, none⟩) (Nat.le_refl _) _

set_option maxRecDepth 100000 in
set_option maxHeartbeats 3200000 in
theorem zentry_in (z : Zl) (s : Ts) (m : Int) (j : Nat) (w : World) (h : ZtAt w z s) (hi : TInv m s) (hj : j < 256) :
    Calls Tryz.prog 43 #[.pointer (some ⟨z.zb, 0, none⟩), .int .i64 (j : Int)] w fun y w' => y = .returned (tEnt s (j : Int)).v ∧ Below w.heap.size w w' := by
  have hp : isPage (j : Int) = true := by simp [isPage]; omega
  have hpn : ¬ (j : Int) < 0 := by omega
  have hp2 : ¬ (256 : Int) ≤ (j : Int) := by omega
  rw [tEnt_is s _ hp, Int.toNat_natCast]
  have hb0 : Below w.heap.size w (w.alloc (.cells #[.int .i64 0, .bool false, .bool false, .bool false] 34)) := (Below.refl _ _).alloc (Nat.le_refl _) _
  have HB0 := Lib.hid hb0
  have HWD : Hid (∀ wx, Below w.heap.size w wx → Calls Tryz.prog 79 #[.pointer (some ⟨z.zb, 0, none⟩), .int .i64 (j : Int)] wx fun y w' => y = .returned (.int .i64 ((tWord s j : Nat) : Int)) ∧ wx = w') := Lib.hid fun wx hb => zword_any z s m j wx (ZAt.below h hb) hi hj
  have hlt := tWord_lt hi hj
  have HRD : Hid (∀ wx, Below w.heap.size w wx → Calls Tryz.prog 82 #[.pointer (some ⟨z.mb, 0, none⟩), .int .i64 ((tWord s j : Nat) : Int)] wx fun y w' => y = .returned (.tuple #[.int .u32 (s.M.getD (tWord s j) 0), .bool true]) ∧ wx = w') := Lib.hid fun wx hb => mr_read_at s.M z.mb s.n (tWord s j) z.mv wx (ZAt.below h hb).mem (by rw [← hi.lm]; exact hlt)
  have hw32 := hi.w32 (tWord s j)
  obtain ⟨x, hx⟩ : ∃ x, s.M.getD (tWord s j) 0 = x := ⟨_, rfl⟩
  rw [hx] at HRD hw32 ⊢
  have HOF := Lib.hid (fun wx => rof_any x wx hw32)
  obtain ⟨⟨⟨ef, et, ew, eu⟩, ok⟩, he⟩ : ∃ r, ofA x = r := ⟨_, rfl⟩
  rw [he] at HOF ⊢
  unfold Ent.v at HOF ⊢
  dsimp only at HOF ⊢
  obtain ⟨tw, htw⟩ : ∃ t, ((tWord s j : Nat) : Int) = t := ⟨_, rfl⟩
  rw [htw] at HWD HRD
  obtain ⟨c0, -, -, -, -, -⟩ := ZAt.cells (ZAt.below h hb0)
  have ltb : z.zb < w.heap.size := h.cells.2.2.2.2.2
  have HBN := Lib.hid (blk_new w (.cells #[.int .i64 0, .bool false, .bool false, .bool false] 34))
  clear h hi hx he hlt hp hw32 hj hb0 htw
  go_enter Tryz.func43, Tryz.ntmps43
  go_wp2_with fail
  go_quiet ((first | (go_at_call 79; exact Calls.quiet_of_same ((HWD.out _ (below_drewN HB0.out _)).mono fun e w' h => ⟨h.1, h.2.symm⟩)) | (go_at_call 82; exact Calls.quiet_of_same ((HRD.out _ (below_drewN HB0.out _)).mono fun e w' h => ⟨h.1, h.2.symm⟩))))
  obtain ⟨wd, hwd⟩ : ∃ wd, (w.alloc (.cells #[.int .i64 0, .bool false, .bool false, .bool false] 34)).drewN nq = wd := ⟨_, rfl⟩
  have HBD : Hid (Below w.heap.size w wd) := Lib.hid (hwd ▸ below_drewN HB0.out nq)
  have HND : Hid (wd.heap[w.heap.size]? = some (.cells #[.int .i64 0, .bool false, .bool false, .bool false] 34 (0, 0))) := Lib.hid (hwd ▸ blk_below HBN.out (below_drewN (Below.refl _ _) nq) (blk_lt HBN.out))
  rw [hwd]
  clear hwd HBN HB0 c0
  go_wp2_with fail
  refine (HOF.out _).mono ?_
  rintro y w3 ⟨rfl, hb3⟩
  have HB3 := Lib.hid (HBD.out.trans (hb3.mono HBD.out.size))
  have hk3 := blk_below HND.out hb3 (blk_lt HND.out)
  obtain ⟨b, hb⟩ : ∃ b, w3.heap.size = b := ⟨_, rfl⟩
  have lb : w.heap.size < b := hb ▸ blk_lt hk3
  have hn4 := blk_new w3 (.cells #[.int .i64 ef, .bool et, .bool ew, .bool eu] 34)
  have hk4 := blk_below hk3 ((Below.refl _ _).alloc (Nat.le_refl _) (.cells #[.int .i64 ef, .bool et, .bool ew, .bool eu] 34)) (blk_lt hk3)
  obtain ⟨w4, hw4⟩ : ∃ w4, w3.alloc (.cells #[.int .i64 ef, .bool et, .bool ew, .bool eu] 34) = w4 := ⟨_, rfl⟩
  have HB4 : Hid (Below w.heap.size w w4) := Lib.hid (hw4 ▸ HB3.out.alloc HB3.out.size _)
  rw [hw4] at hn4 hk4
  rw [hb] at hn4
  have f0 := blk_free hk4 0
  have f1 := blk_free hk4 1
  have f2 := blk_free hk4 2
  have f3 := blk_free hk4 3
  have z0 := blk_cell hk4 0
  have z1 := blk_cell hk4 1
  have z2 := blk_cell hk4 2
  have z3 := blk_cell hk4 3
  have y0 := blk_cell hn4 0
  have y1 := blk_cell hn4 1
  have y2 := blk_cell hn4 2
  have y3 := blk_cell hn4 3
  clear hb3 hk3 hn4 hk4 HWD HRD HOF HND HBD
  go_upto_region 2 with fail
  try rw [hb, hw4]
  clear hb hw4
  go_wp2
  refine bodyPost_ret (v := .agg #[.int .i64 ef, .bool et, .bool ew, .bool eu]) (by simp [results, Tryz.results43, go_sem, z0, z1, z2, z3]) rfl ⟨rfl, ?_⟩
  exact (((HB4.out.setCell (p := ⟨w.heap.size, 0, none⟩) (Nat.le_refl _) _).setCell (p := ⟨w.heap.size, 1, none⟩) (Nat.le_refl _) _).setCell (p := ⟨w.heap.size, 2, none⟩) (Nat.le_refl _) _).setCell (p := ⟨w.heap.size, 3, none⟩) (Nat.le_refl _) _
theorem zentry_any (z : Zl) (s : Ts) (m : Int) (page : Int) (w : World) (h : ZtAt w z s) (hi : TInv m s) :
    Calls Tryz.prog 43 #[.pointer (some ⟨z.zb, 0, none⟩), .int .i64 page] w fun y w' => y = .returned (tEnt s page).v ∧ Below w.heap.size w w' := by
  cases hp : isPage page with
  | false => exact zentry_out z s page w hp
  | true =>
    have hpg : 0 ≤ page ∧ page < 256 := by simpa [isPage] using hp
    obtain ⟨j, rfl⟩ : ∃ j : Nat, page = (j : Int) := ⟨page.toNat, by omega⟩
    exact zentry_in z s m j w h hi (by omega)
end Go.Proofs.YtaoaachgnnengaaGreatDoor

/-
  The document's tables: Drop.
-/
namespace Go.Proofs.YtaoaachgnnengaaGreatDoor
open Go.RowKit

def ZtQ (z : Zl) (R : Ts × Int) (w : World) (e : Ending) (w' : World) : Prop := e = .returned (.int .i64 R.2) ∧ ZtAt w' z R.1 ∧ Only z.zw w w'
theorem ztw_m {z : Zl} {w w' : World} (h : Only (fun k => inRow z.mv k) w w') : Only z.zw w w' := h.mono fun _ hi => .inl (.inl hi)
theorem ztw_f {z : Zl} {w w' : World} (h : Only (fun k => k = z.fg) w w') : Only z.zw w w' := h.mono fun _ hi => .inl (.inr (.inl hi))
theorem noPage_ways {page : Int} (hp : isPage page = false) : page < 0 ∨ (¬ page < 0 ∧ 256 ≤ page) := by
  by_cases h0 : page < 0
  · exact .inl h0
  · refine .inr ⟨h0, ?_⟩
    by_cases h1 : page < 256
    · have : isPage page = true := by simp [isPage]; omega
      rw [hp] at this
      cases this
    · omega
theorem page_nat {page : Int} (hp : isPage page = true) : ∃ j : Nat, page = (j : Int) ∧ j < 256 ∧ ¬ (j : Int) < 0 ∧ ¬ (256 : Int) ≤ (j : Int) := by
  have hpg : 0 ≤ page ∧ page < 256 := by simpa [isPage] using hp
  exact ⟨page.toNat, by omega, by omega, by omega, by omega⟩

set_option maxRecDepth 100000 in
set_option maxHeartbeats 3200000 in
theorem zdrop_out (z : Zl) (s : Ts) (page : Int) (w : World) (h : ZtAt w z s) (hp : isPage page = false) :
    Calls Tryz.prog 40 #[.pointer (some ⟨z.zb, 0, none⟩), .int .i64 page] w (ZtQ z (tDrop s page) w) := by
  have HR : Hid (tDrop s page = (s, 103)) := Lib.hid (by unfold tDrop; rw [hp, if_neg (by decide)])
  rw [HR.out]
  have HH := Lib.hid h
  have hc := noPage_ways hp
  clear h hp HR
  rcases hc with h0 | ⟨h0, h1⟩
  all_goals
    go_enter Tryz.func40, Tryz.ntmps40
    go_wp2
    go_ret
    exact ⟨rfl, HH.out, Only.refl _ _⟩

set_option maxRecDepth 100000 in
set_option maxHeartbeats 6400000 in
theorem zdrop_in (z : Zl) (s : Ts) (m : Int) (j : Nat) (w : World) (h : ZtAt w z s) (hi : TInv m s) (hm : m ≤ 1000000) (hp : isPage (j : Int) = true) (hj : j < 256) (hp0 : ¬ (j : Int) < 0) (hp1 : ¬ (256 : Int) ≤ (j : Int)) :
    Calls Tryz.prog 40 #[.pointer (some ⟨z.zb, 0, none⟩), .int .i64 (j : Int)] w (ZtQ z (tDrop s (j : Int)) w) := by
  have HEN := Lib.hid (zentry_any z s m (j : Int) w h hi)
  by_cases ht : (tEnt s (j : Int)).t = true
  · have HR : Hid (tDrop s (j : Int) = ({ s with F := tDropF s (j : Int), M := writeL s.M (tWord s j : Int) 0 }, 0)) := Lib.hid (by unfold tDrop; rw [if_pos hp, if_pos ht, Int.toNat_natCast])
    rw [HR.out]
    have HH := Lib.hid h
    have HFB := Lib.hid (frOk_b hi.fok hm)
    have HWD : Hid (∀ wx (F : List Fr), ZtAt wx z { s with F := F } → Calls Tryz.prog 79 #[.pointer (some ⟨z.zb, 0, none⟩), .int .i64 (j : Int)] wx fun y w' => y = .returned (.int .i64 ((tWord s j : Nat) : Int)) ∧ wx = w') := Lib.hid fun wx F hx => by
      obtain ⟨g, cap, hl, hg, hcell⟩ := ZAt.list hx hi.p17
      exact zword_gen z s m j wx ⟨(ZAt.cells hx).2.2.2.1, (ZAt.cells hx).2.2.2.2.2⟩ hl hg hcell hi hj
    obtain ⟨tw, htw⟩ : ∃ t, ((tWord s j : Nat) : Int) = t := ⟨_, rfl⟩
    rw [htw] at HWD ⊢
    obtain ⟨F1, hF1⟩ : ∃ F1, tDropF s (j : Int) = F1 := ⟨_, rfl⟩
    rw [hF1]
    unfold tDropF at hF1
    obtain ⟨⟨ef, et, ew, eu⟩, he⟩ : ∃ e, tEnt s (j : Int) = e := ⟨_, rfl⟩
    rw [he] at HEN ht hF1
    unfold Ent.v at HEN
    dsimp only at HEN ht hF1
    have HF1 := Lib.hid hF1
    subst ht
    clear h hi hp he hm HR hF1 htw hj
    go_enter Tryz.func40, Tryz.ntmps40
    go_wp2_with fail
    refine HEN.out.mono ?_
    rintro y w2 ⟨rfl, hb2⟩
    have HB2 := Lib.hid (hb2.alloc hb2.size (.cells #[.int .i64 ef, .bool true, .bool ew, .bool eu] 34))
    have HB2d := Lib.hid HB2.out.drew
    have HH2 := Lib.hid (ZAt.below HH.out HB2.out)
    obtain ⟨-, c1, -, -, -, ltb⟩ := HH2.out.cells
    have hnew := blk_new w2 (.cells #[.int .i64 ef, .bool true, .bool ew, .bool eu] 34)
    have ce0 := blk_cell hnew 0
    cases ew
    · have HU := Lib.hid (runuse_any s.F z.fb z.fg s.n ef _ HFB.out (ZAt.below HH.out HB2d.out).fr)
      clear hb2 hnew
      go_wp2_with fail
      go_region_with (first | (go_at_call 78; refine HU.out.mono ?_; rintro e w3 ⟨rfl, hf3, ho3⟩))
      all_goals
        have HO3 := Lib.hid ((Only.of_below HB2d.out).trans (ztw_f ho3))
        have HH3 : Hid (ZtAt w3 z { s with F := F1 }) := Lib.hid ((ZAt.below HH.out HB2d.out).fr' ho3 (by rw [← HF1.out]; exact hf3))
        obtain ⟨c0, -, -, -, -, ltb3⟩ := HH3.out.cells
        have HW := Lib.hid (fun wx (hx : Below w3.heap.size w3 wx) => mr_write s.M z.mb s.n z.mv tw 0 wx (ZAt.below HH3.out hx).mem)
        have HWX : Hid (∀ wx, Below w3.heap.size w3 wx → Calls Tryz.prog 79 #[.pointer (some ⟨z.zb, 0, none⟩), .int .i64 (j : Int)] wx fun y w' => y = .returned (.int .i64 tw) ∧ wx = w') := Lib.hid fun wx hx => HWD.out wx F1 (ZAt.below HH3.out hx)
        clear hf3 ho3 c1 ce0
        go_wp2_with fail
        go_region_with (first | (go_at_call 79; refine (HWX.out _ (by first | exact (Below.refl _ _).drew | exact Below.refl _ _)).mono ?_; rintro e wz ⟨rfl, rfl⟩) | (go_at_call 59; refine (HW.out _ (by first | exact (Below.refl _ _).drew | exact Below.refl _ _)).mono ?_; rintro e w4 ⟨rfl, hm4, ho4⟩))
        all_goals
          have HO4 : Hid (Only z.zw w w4) := Lib.hid (by first | exact HO3.out.trans ((Only.refl _ _).drew.trans (ztw_m ho4)) | exact HO3.out.trans (ztw_m ho4))
          have HH4 : Hid (ZtAt w4 z { s with F := F1, M := writeL s.M tw 0 }) := Lib.hid (by first | exact (ZAt.below HH3.out (Below.refl _ _).drew).mem' ho4 hm4 | exact ZAt.mem' HH3.out ho4 hm4)
          clear hm4 ho4
          go_wp2
          go_ret
          exact ⟨rfl, HH4.out, HO4.out⟩
    · have HU := Lib.hid (runwrite_any s.F z.fb z.fg s.n ef _ HFB.out (ZAt.below HH.out HB2d.out).fr)
      clear hb2 hnew
      go_wp2_with fail
      go_region_with (first | (go_at_call 77; refine HU.out.mono ?_; rintro e w3 ⟨rfl, hf3, ho3⟩))
      all_goals
        have HO3 := Lib.hid ((Only.of_below HB2d.out).trans (ztw_f ho3))
        have HH3 : Hid (ZtAt w3 z { s with F := F1 }) := Lib.hid ((ZAt.below HH.out HB2d.out).fr' ho3 (by rw [← HF1.out]; exact hf3))
        obtain ⟨c0, -, -, -, -, ltb3⟩ := HH3.out.cells
        have HW := Lib.hid (fun wx (hx : Below w3.heap.size w3 wx) => mr_write s.M z.mb s.n z.mv tw 0 wx (ZAt.below HH3.out hx).mem)
        have HWX : Hid (∀ wx, Below w3.heap.size w3 wx → Calls Tryz.prog 79 #[.pointer (some ⟨z.zb, 0, none⟩), .int .i64 (j : Int)] wx fun y w' => y = .returned (.int .i64 tw) ∧ wx = w') := Lib.hid fun wx hx => HWD.out wx F1 (ZAt.below HH3.out hx)
        clear hf3 ho3 c1 ce0
        go_wp2_with fail
        go_region_with (first | (go_at_call 79; refine (HWX.out _ (by first | exact (Below.refl _ _).drew | exact Below.refl _ _)).mono ?_; rintro e wz ⟨rfl, rfl⟩) | (go_at_call 59; refine (HW.out _ (by first | exact (Below.refl _ _).drew | exact Below.refl _ _)).mono ?_; rintro e w4 ⟨rfl, hm4, ho4⟩))
        all_goals
          have HO4 : Hid (Only z.zw w w4) := Lib.hid (by first | exact HO3.out.trans ((Only.refl _ _).drew.trans (ztw_m ho4)) | exact HO3.out.trans (ztw_m ho4))
          have HH4 : Hid (ZtAt w4 z { s with F := F1, M := writeL s.M tw 0 }) := Lib.hid (by first | exact (ZAt.below HH3.out (Below.refl _ _).drew).mem' ho4 hm4 | exact ZAt.mem' HH3.out ho4 hm4)
          clear hm4 ho4
          go_wp2
          go_ret
          exact ⟨rfl, HH4.out, HO4.out⟩
  · have HR : Hid (tDrop s (j : Int) = (s, 0)) := Lib.hid (by unfold tDrop; rw [if_pos hp, if_neg ht])
    rw [HR.out]
    have HH := Lib.hid h
    obtain ⟨⟨ef, et, ew, eu⟩, he⟩ : ∃ e, tEnt s (j : Int) = e := ⟨_, rfl⟩
    rw [he] at HEN ht
    unfold Ent.v at HEN
    dsimp only at HEN ht
    obtain rfl : et = false := by simpa using ht
    clear h hi hp he ht HR hj hm
    go_enter Tryz.func40, Tryz.ntmps40
    go_wp2_with fail
    refine HEN.out.mono ?_
    rintro y w2 ⟨rfl, hb2⟩
    have HB2 := Lib.hid (hb2.alloc hb2.size (.cells #[.int .i64 ef, .bool false, .bool ew, .bool eu] 34))
    clear hb2
    go_wp2
    go_ret
    exact ⟨rfl, ZAt.below HH.out HB2.out, Only.of_below HB2.out⟩
theorem zdrop_any (z : Zl) (s : Ts) (m : Int) (page : Int) (w : World) (h : ZtAt w z s) (hi : TInv m s) (hm : m ≤ 1000000) :
    Calls Tryz.prog 40 #[.pointer (some ⟨z.zb, 0, none⟩), .int .i64 page] w (ZtQ z (tDrop s page) w) := by
  cases hp : isPage page with
  | false => exact zdrop_out z s page w h hp
  | true =>
    obtain ⟨j, rfl, h1, h2, h3⟩ := page_nat hp
    exact zdrop_in z s m j w h hi hm hp h1 h2 h3
end Go.Proofs.YtaoaachgnnengaaGreatDoor

/-
  Tables: frames of which none is taken; where all that tables hold lies.
-/
namespace Go.Proofs.YtaoaachgnnengaaGreatDoor
open Go.RowKit

theorem frU_new (n : Nat) (who : Int) : frU n 0 0 who = List.replicate n frNo := by
  apply fr_ext
  · rw [frU_len, List.length_replicate]
  · intro i hi
    rw [frU_len] at hi
    rw [frU_get n 0 0 i who hi, if_neg (by omega), if_neg (by omega), List.getD_eq_getElem?_getD, List.getElem?_replicate, if_pos hi]
    rfl
theorem PtAt.lt {w : World} {p : Pl} {s : Ts} (h : PtAt w p s) : ∀ k, (p.z0 k ∨ p.z1 k ∨ p.z2 k ∨ p.z3 k) → k < w.heap.size := fun k hk => by
  rcases hk with (rfl | rfl | rfl | hk) | hk | hk | (rfl | hk)
  · exact blk_lt h.row
  · exact blk_lt h.mem.1
  · exact h.fr.lt.1
  · exact own_lt h.tl hk
  · exact own_lt h.mem.2.1 hk
  · rw [show k = p.fg from hk]; exact h.fr.lt.2
  · exact blk_lt h.pm.1
  · exact own_lt h.pm.2 hk
end Go.Proofs.YtaoaachgnnengaaGreatDoor

/-
  The guest's tables and the document's, side by side: each stays where the other one is written.
-/
namespace Go.Proofs.YtaoaachgnnengaaGreatDoor
open Go.RowKit

structure Tw (w0 wr : World) (p : Pl) (z : Zl) (sp sz : Ts) : Prop where
  pt : PtAt wr p sp
  zt : ZtAt wr z sz
  ap : ∀ k, (p.z0 k ∨ p.zw k) → ¬ (z.z0 k ∨ z.zw k)
  pb : ∀ k, p.zw k → w0.heap.size ≤ k
  zb : ∀ k, z.zw k → w0.heap.size ≤ k
  b : Below w0.heap.size w0 wr
theorem zw_z1 {p : Pl} {k : Nat} (h : p.z1 k) : p.zw k := .inl h
theorem zw_z2 {p : Pl} {k : Nat} (h : p.z2 k) : p.zw k := .inr (.inl h)
theorem zw_z3 {p : Pl} {k : Nat} (h : p.z3 k) : p.zw k := by
  rcases h with h | h
  · exact .inr (.inr (.inl h))
  · exact .inr (.inr (.inr h))
theorem zw_all {p : Pl} {k : Nat} (h : p.z0 k ∨ p.zw k) : p.z0 k ∨ p.z1 k ∨ p.z2 k ∨ p.z3 k := by
  rcases h with h | h | h | h | h
  · exact .inl h
  · exact .inr (.inl h)
  · exact .inr (.inr (.inl h))
  · exact .inr (.inr (.inr (.inl h)))
  · exact .inr (.inr (.inr (.inr h)))
theorem ztw_all {z : Zl} {k : Nat} (h : z.z0 k ∨ z.zw k) : z.z0 k ∨ z.z1 k ∨ z.z2 k ∨ z.z3 k := h
theorem Tw.plt {w0 wr : World} {p : Pl} {z : Zl} {sp sz : Ts} (h : Tw w0 wr p z sp sz) (k : Nat) (hk : p.z0 k ∨ p.zw k) : k < wr.heap.size := h.pt.lt k (zw_all hk)
theorem Tw.zlt {w0 wr : World} {p : Pl} {z : Zl} {sp sz : Ts} (h : Tw w0 wr p z sp sz) (k : Nat) (hk : z.z0 k ∨ z.zw k) : k < wr.heap.size := ZAt.lt h.zt k (ztw_all hk)
theorem Tw.below {w0 wr w' : World} {p : Pl} {z : Zl} {sp sz : Ts} (h : Tw w0 wr p z sp sz) (hb : Below wr.heap.size wr w') : Tw w0 w' p z sp sz :=
  ⟨h.pt.below hb, ZAt.below h.zt hb, h.ap, h.pb, h.zb, h.b.trans (hb.mono h.b.size)⟩
theorem Tw.other {G : Nat → Prop} {w0 wr w' : World} {p : Pl} {z : Zl} {sp sz : Ts} (h : Tw w0 wr p z sp sz) (ho : Only G wr w') (hp : ∀ k, (p.z0 k ∨ p.zw k) → ¬ G k) (hz : ∀ k, (z.z0 k ∨ z.zw k) → ¬ G k) (hb : ∀ k, G k → w0.heap.size ≤ k) : Tw w0 w' p z sp sz :=
  ⟨h.pt.keep ho (fun k hk => hp k (.inl hk)) (fun k hk => hp k (.inr (zw_z1 hk))) (fun k hk => hp k (.inr (zw_z2 hk))) (fun k hk => hp k (.inr (zw_z3 hk))), ZAt.keep h.zt ho (fun k hk => hz k (.inl hk)) (fun k hk => hz k (.inr (.inl hk))) (fun k hk => hz k (.inr (.inr (.inl hk)))) (fun k hk => hz k (.inr (.inr (.inr hk)))), h.ap, h.pb, h.zb, h.b.trans (ho.below h.b.size hb)⟩
theorem Tw.pOp {w0 wr w' : World} {p : Pl} {z : Zl} {sp sz sp' : Ts} (h : Tw w0 wr p z sp sz) (hp : PtAt w' p sp') (ho : Only p.zw wr w') : Tw w0 w' p z sp' sz :=
  ⟨hp, ZAt.keep h.zt ho (fun k hk hz => h.ap k (.inr hz) (.inl hk)) (fun k hk hz => h.ap k (.inr hz) (.inr (.inl hk))) (fun k hk hz => h.ap k (.inr hz) (.inr (.inr (.inl hk)))) (fun k hk hz => h.ap k (.inr hz) (.inr (.inr (.inr hk)))), h.ap, h.pb, h.zb, h.b.trans (ho.below h.b.size h.pb)⟩
theorem Tw.zOp {w0 wr w' : World} {p : Pl} {z : Zl} {sp sz sz' : Ts} (h : Tw w0 wr p z sp sz) (hz : ZtAt w' z sz') (ho : Only z.zw wr w') : Tw w0 w' p z sp sz' :=
  ⟨h.pt.keep ho (fun k hk hz => h.ap k (.inl hk) (.inr hz)) (fun k hk hz => h.ap k (.inr (zw_z1 hk)) (.inr hz)) (fun k hk hz => h.ap k (.inr (zw_z2 hk)) (.inr hz)) (fun k hk hz => h.ap k (.inr (zw_z3 hk)) (.inr hz)), hz, h.ap, h.pb, h.zb, h.b.trans (ho.below h.b.size h.zb)⟩
theorem Tw.pAdd {w0 wr w' : World} {p : Pl} {z : Zl} {sp sz sp' : Ts} {pv' : Value} (h : Tw w0 wr p z sp sz) (hp : PtAt w' { p with pv := pv' } sp') (ho : Only p.zw wr w') (hr : ∀ k, inRow pv' k → inRow p.pv k ∨ wr.heap.size ≤ k) : Tw w0 w' { p with pv := pv' } z sp' sz := by
  have hk : ∀ k, Pl.zw { p with pv := pv' } k → p.zw k ∨ wr.heap.size ≤ k := fun k hk => by
    rcases hk with hk | hk | hk | hk
    · exact .inl (.inl hk)
    · exact .inl (.inr (.inl hk))
    · exact .inl (.inr (.inr (.inl hk)))
    · rcases hr k hk with h' | h'
      · exact .inl (.inr (.inr (.inr h')))
      · exact .inr h'
  refine ⟨hp, ZAt.keep h.zt ho (fun k hk hz => h.ap k (.inr hz) (.inl hk)) (fun k hk hz => h.ap k (.inr hz) (.inr (.inl hk))) (fun k hk hz => h.ap k (.inr hz) (.inr (.inr (.inl hk)))) (fun k hk hz => h.ap k (.inr hz) (.inr (.inr (.inr hk)))), fun k h1 h2 => ?_, fun k h1 => ?_, h.zb, h.b.trans (ho.below h.b.size h.pb)⟩
  · rcases h1 with h1 | h1
    · exact h.ap k (.inl h1) h2
    · rcases hk k h1 with h3 | h3
      · exact h.ap k (.inr h3) h2
      · have := h.zlt k h2
        omega
  · rcases hk k h1 with h3 | h3
    · exact h.pb k h3
    · exact Nat.le_trans h.b.size h3
theorem Tw.zAdd {w0 wr w' : World} {p : Pl} {z : Zl} {sp sz sz' : Ts} {gv' : Value} (h : Tw w0 wr p z sp sz) (hz : ZtAt w' { z with gv := gv' } sz') (ho : Only z.zw wr w') (hr : ∀ k, inRow gv' k → inRow z.gv k ∨ wr.heap.size ≤ k) : Tw w0 w' p { z with gv := gv' } sp sz' := by
  have hk : ∀ k, Zl.zw { z with gv := gv' } k → z.zw k ∨ wr.heap.size ≤ k := fun k hk => by
    rcases hk with hk | hk | hk | hk
    · exact .inl (.inl hk)
    · exact .inl (.inr (.inl hk))
    · exact .inl (.inr (.inr (.inl hk)))
    · rcases hr k hk with h' | h'
      · exact .inl (.inr (.inr (.inr h')))
      · exact .inr h'
  refine ⟨h.pt.keep ho (fun k hk hz => h.ap k (.inl hk) (.inr hz)) (fun k hk hz => h.ap k (.inr (zw_z1 hk)) (.inr hz)) (fun k hk hz => h.ap k (.inr (zw_z2 hk)) (.inr hz)) (fun k hk hz => h.ap k (.inr (zw_z3 hk)) (.inr hz)), hz, fun k h1 h2 => ?_, h.pb, fun k h1 => ?_, h.b.trans (ho.below h.b.size h.zb)⟩
  · rcases h2 with h2 | h2
    · exact h.ap k h1 (.inl h2)
    · rcases hk k h2 with h3 | h3
      · exact h.ap k h1 (.inr h3)
      · have := h.plt k h1
        omega
  · rcases hk k h1 with h3 | h3
    · exact h.zb k h3
    · exact Nat.le_trans h.b.size h3
theorem Tw.errs {w0 wr : World} {p : Pl} {z : Zl} {sp sz : Ts} {E : Nat → Addr} (h : Tw w0 wr p z sp sz) (hE : ∀ wx, Below w0.heap.size w0 wx → ErrsAt errT gOf wx E nine) : ErrsK E p wr :=
  fun wx ho => hE wx (h.b.trans (ho.below h.b.size h.pb))
/-- frames more -/
def addN (s : Ts) : Nat → Ts
  | 0 => s
  | k + 1 => (tAdd (addN s k)).1
theorem tAdd_who (s : Ts) : (tAdd s).1.who = s.who := by
  unfold tAdd
  split
  · rfl
  · split <;> rfl
theorem addN_inv {m : Int} {s : Ts} (h : TInv m s) (hw : s.who ≠ -1) : ∀ k : Nat, TInv (m + (k : Int)) (addN s k) ∧ (addN s k).who = s.who
  | 0 => ⟨by rw [show m + ((0 : Nat) : Int) = m by omega]; exact h, rfl⟩
  | k + 1 => by
    obtain ⟨h1, h2⟩ := addN_inv h hw k
    refine ⟨?_, (tAdd_who _).trans h2⟩
    rw [show m + ((k + 1 : Nat) : Int) = m + (k : Int) + 1 by omega]
    exact tAdd_inv h1 (by rw [h2]; exact hw)
/-- what errors may be -/
def okC (c : Int) : Prop := c = 0 ∨ (101 ≤ c ∧ c ≤ 116)
theorem ok102 : okC 102 := .inr ⟨by decide, by decide⟩
theorem ok103 : okC 103 := .inr ⟨by decide, by decide⟩
theorem ok104 : okC 104 := .inr ⟨by decide, by decide⟩
theorem ok107 : okC 107 := .inr ⟨by decide, by decide⟩
theorem ok110 : okC 110 := .inr ⟨by decide, by decide⟩
theorem ok111 : okC 111 := .inr ⟨by decide, by decide⟩
theorem ok113 : okC 113 := .inr ⟨by decide, by decide⟩
theorem tDrop_c (s : Ts) (page : Int) : okC (tDrop s page).2 := by
  unfold tDrop
  split
  · split
    · exact .inl rfl
    · exact .inl rfl
  · first | exact ok103 | exact ok107 | exact ok110 | exact ok111 | exact ok113 | exact ok104 | exact ok102
theorem tSetR_c (s : Ts) (frame : Int) (w : Bool) : okC (tSetR s frame w).c := by
  unfold tSetR frThere
  split
  · first | exact ok103 | exact ok107 | exact ok110 | exact ok111 | exact ok113 | exact ok104 | exact ok102
  · cases w
    · exact .inl rfl
    · show okC (kWrite _).2
      unfold kWrite
      split
      · first | exact ok103 | exact ok107 | exact ok110 | exact ok111 | exact ok113 | exact ok104 | exact ok102
      · exact .inl rfl
theorem tSet_c (s : Ts) (page frame : Int) (w : Bool) : okC (tSet s page frame w).2 := by
  unfold tSet
  split
  · exact .inl rfl
  · exact tSetR_c s frame w
theorem tPut_c (s : Ts) (page : Int) (e : Ent) : okC (tPut s page e).2 := by
  unfold tPut
  split
  · split
    · split
      · split
        · exact tSet_c _ _ _ _
        · first | exact ok103 | exact ok107 | exact ok110 | exact ok111 | exact ok113 | exact ok104 | exact ok102
      · first | exact ok103 | exact ok107 | exact ok110 | exact ok111 | exact ok113 | exact ok104 | exact ok102
    · split
      · exact tDrop_c _ _
      · first | exact ok103 | exact ok107 | exact ok110 | exact ok111 | exact ok113 | exact ok104 | exact ok102
  · first | exact ok103 | exact ok107 | exact ok110 | exact ok111 | exact ok113 | exact ok104 | exact ok102
theorem tLend_c (s : Ts) (page frame : Int) (w : Bool) : okC (tLend s page frame w).2 := by
  unfold tLend
  split
  · split
    · exact tSet_c _ _ _ _
    · first | exact ok103 | exact ok107 | exact ok110 | exact ok111 | exact ok113 | exact ok104 | exact ok102
  · first | exact ok103 | exact ok107 | exact ok110 | exact ok111 | exact ok113 | exact ok104 | exact ok102
theorem tAdd_c (s : Ts) : okC (tAdd s).2.2 := by
  unfold tAdd
  split
  · first | exact ok103 | exact ok107 | exact ok110 | exact ok111 | exact ok113 | exact ok104 | exact ok102
  · split
    · exact .inl rfl
    · unfold tAddR frAlloc
      split
      · split
        · first | exact ok103 | exact ok107 | exact ok110 | exact ok111 | exact ok113 | exact ok104 | exact ok102
        · exact .inl rfl
      · first | exact ok103 | exact ok107 | exact ok110 | exact ok111 | exact ok113 | exact ok104 | exact ok102
end Go.Proofs.YtaoaachgnnengaaGreatDoor

/-
  The document's tables: Live.
-/
namespace Go.Proofs.YtaoaachgnnengaaGreatDoor
open Go.RowKit

set_option maxRecDepth 100000 in
set_option maxHeartbeats 6400000 in
theorem zlive_any (z : Zl) (s : Ts) (m : Int) (w : World) (h : ZtAt w z s) (hi : TInv m s) :
    Calls Tryz.prog 30 #[.pointer (some ⟨z.zb, 0, none⟩)] w fun y w' => ∃ v', y = .returned v' ∧ w'.ownsRow 0 3 1 v' (tLive s).length (ints (tLive s)) ∧ (∀ j, inRow v' j → w.heap.size ≤ j) ∧ Below w.heap.size w w' := by
  obtain ⟨i0, hi0, hz0, hz1, hz2⟩ := info_parts infoLive
  have HEN : Hid (∀ wx, Below w.heap.size w wx → ∀ page : Int, Calls Tryz.prog 43 #[.pointer (some ⟨z.zb, 0, none⟩), .int .i64 page] wx fun y w' => y = .returned (tEnt s page).v ∧ Below wx.heap.size wx w') := Lib.hid fun wx hb page => zentry_any z s m page wx (ZAt.below h hb) hi
  have HFD : Hid (∀ (wx : World) (ef : Int) (et ew eu : Bool), (Instr.field 34 (.agg #[.int .i64 ef, .bool et, .bool ew, .bool eu]) 1).run Tryz.prog wx = .ok (.bool et) wx) := Lib.hid fun wx ef et ew eu => by kernel_rfl
  clear h hi
  go_enter Tryz.func30, Tryz.ntmps30
  go_wp2_with fail
  go_loopw [3, 4] (fun v i wr => LvTo s w v i wr) (fun _ i _ => 256 - (intOf i).toNat)
  case atStart => exact ⟨0, Nat.zero_le _, rfl, own_nil _ _ _, fun j h => (by cases h), Below.refl _ _⟩
  case round =>
    obtain ⟨k, hk, rfl, ho, hf, hb⟩ := hrel
    have HO := Lib.hid ho
    have HF := Lib.hid hf
    have HB := Lib.hid hb
    by_cases hlt : k < 256
    · have hki : (k : Int) < 256 := by omega
      have HE := Lib.hid (HEN.out _ HB.out (k : Int))
      have HL1 : Hid (tLiveN s (k + 1) = if (tEnt s (k : Int)).t = true then tLiveN s k ++ [(k : Int)] else tLiveN s k) := Lib.hid rfl
      have hlen := tLiveN_len s k
      obtain ⟨L, hL⟩ : ∃ L, tLiveN s k = L := ⟨_, rfl⟩
      rw [hL] at HO HL1 hlen ho
      obtain ⟨ao, cap, rfl⟩ := own_slice ho
      clear ho hf hb
      obtain ⟨⟨ef, et, ew, eu⟩, he⟩ : ∃ e, tEnt s (k : Int) = e := ⟨_, rfl⟩
      rw [he] at HE HL1
      unfold Ent.v at HE
      dsimp only at HE HL1
      go_wp2_with fail
      refine HE.out.mono ?_
      rintro y w1 ⟨rfl, hb1⟩
      have HB1 : Hid (Below w.heap.size w w1) := Lib.hid (HB.out.trans (hb1.mono HB.out.size))
      have HO1 : Hid (w1.ownsRow 0 3 1 (.slice ao L.length cap) L.length (ints L)) := Lib.hid (own_frame HO.out fun j hj => hb1.block j (own_lt HO.out hj))
      have HLL := Lib.hid hL
      have hfd := HFD.out w1 ef et ew eu
      clear hb1 hL he
      cases et with
      | false =>
        go_wp2_with fail
        go_roundw
        case rel => exact ⟨k + 1, by omega, by go_num, by rw [HL1.out, if_neg (by decide)]; exact HO1.out, HF.out, HB1.out⟩
        case measure => simp [intOf]; omega
      | true =>
        go_wp2_with (at_builtin; refine wpList_append_sep _ rfl _ _ 43 rfl 3 i0 (.int .i64 0) 1 8 Tryz.underlying43 hi0 hz0 hz1 hz2 rfl (by decide) _ _ _ rfl (HO1.out.alloc _) ⟨w1.heap.size, 0, none⟩ 1 1 [.int .i64 (k : Int)] rfl rfl (cell_one_new _ _ _) (by simp [Value.oneCell']) (by unfold maxLen; omega) (by omega) ?_)
        intro v' wx ho3 hg3 hs3
        obtain ⟨ao2, cap2, rfl⟩ := own_slice ho3
        have HO3 : Hid (wx.ownsRow 0 3 1 (.slice ao2 (L.length + 1) cap2) (L ++ [(k : Int)]).length (ints (L ++ [(k : Int)]))) := Lib.hid (by
          have e1 : ints L ++ [Value.int .i64 (k : Int)] = ints (L ++ [(k : Int)]) := by simp [ints]
          rw [e1] at ho3
          rw [List.length_append]
          exact ho3)
        have HF3 : Hid (∀ j, inRow (.slice ao2 (L.length + 1) cap2) j → w.heap.size ≤ j) := Lib.hid fun j hj => by
          rcases hs3 j hj with h | h
          · exact HF.out j h
          · have h' := h
            try simp at h'
            have := HB1.out.size
            omega
        have HB3 : Hid (Below w.heap.size w wx) := Lib.hid (Below.grown (HB1.out.alloc HB1.out.size _) hg3 (by have := HB1.out.size; simp; omega) (fun j hj => HF.out j hj))
        clear ho3 hg3 hs3
        go_wp2_with fail
        go_roundw
        case rel => exact ⟨k + 1, by omega, by go_num, by rw [HL1.out]; simp only [if_true]; exact HO3.out, HF3.out, HB3.out⟩
        case measure => simp [intOf]; omega
    · obtain rfl : k = 256 := by omega
      obtain ⟨ao, cap, rfl⟩ := own_slice ho
      clear ho hf hb
      go_wp2
      go_ret
      exact ⟨_, rfl, HO.out, HF.out, HB.out⟩
end Go.Proofs.YtaoaachgnnengaaGreatDoor

/-
  pt.Tables.Get: a page's entry, its frame as the guest's number.
-/
namespace Go.Proofs.YtaoaachgnnengaaGreatDoor
open Go.RowKit

/-- the first place of a number, or -1 -/
def pmI : List Int → Int → Int
  | [], _ => -1
  | a :: l, x => if a = x then 0 else if 0 ≤ pmI l x then pmI l x + 1 else -1
theorem pmI_is : ∀ (l : List Int) (x : Int), IdxIs l x (pmI l x)
  | [], x => .inl ⟨rfl, fun j hj => absurd hj (by simp)⟩
  | a :: l, x => by
    unfold pmI
    by_cases h : a = x
    · rw [if_pos h]
      exact .inr ⟨0, by simp, rfl, h, fun j hj => absurd hj (by omega)⟩
    · rw [if_neg h]
      rcases pmI_is l x with ⟨h1, h2⟩ | ⟨k, h1, h2, h3, h4⟩
      · rw [if_neg (by rw [h1]; decide)]
        refine .inl ⟨rfl, fun j hj => ?_⟩
        cases j with
        | zero => exact h
        | succ j => exact h2 j (by simpa using hj)
      · rw [if_pos (by rw [h2]; omega), h2]
        refine .inr ⟨k + 1, by simpa using h1, by omega, h3, fun j hj => ?_⟩
        cases j with
        | zero => exact h
        | succ j => exact h4 j (by omega)
theorem IdxIs.same {l : List Int} {x r s : Int} (h : IdxIs l x r) (h2 : IdxIs l x s) : r = s := by
  rcases h with ⟨h, hn⟩ | ⟨k, hk, h, he, hl⟩ <;> rcases h2 with ⟨h', hn'⟩ | ⟨k', hk', h', he', hl'⟩
  · omega
  · exact absurd he' (hn k' hk')
  · exact absurd he (hn' k hk)
  · have a : ¬ k < k' := fun hlt => hl' k hlt he
    have b : ¬ k' < k := fun hlt => hl k' hlt he'
    omega
theorem pmI_get {l : List Int} (hp : ∀ i j, i < l.length → j < l.length → l.getD i 0 = l.getD j 0 → i = j) (i : Nat) (hi : i < l.length) : pmI l (l.getD i 0) = (i : Int) := by
  rcases pmI_is l (l.getD i 0) with ⟨-, h2⟩ | ⟨k, h1, h2, h3, -⟩
  · exact absurd rfl (h2 i hi)
  · rw [h2, hp k i h1 hi h3]
theorem pmI_lt (l : List Int) (x : Int) : -1 ≤ pmI l x ∧ pmI l x < (l.length : Int) := by
  rcases pmI_is l x with ⟨h, -⟩ | ⟨k, h1, h2, -, -⟩
  · rw [h]; omega
  · rw [h2]; omega
theorem pm_ofI (l : List Int) (b : Nat) (v : Value) (x : Int) (w : World) (h : PAt w b v l) (hn : l.length ≤ 1000) :
    Calls Tryz.prog 42 #[.pointer (some ⟨b, 0, none⟩), .int .i64 x] w fun e w' => e = .returned (.tuple #[.int .i64 (max (pmI l x) 0), .bool (decide (0 ≤ pmI l x))]) ∧ w = w' :=
  (pm_of l b v x w h hn).mono fun e w' ⟨⟨r, h1, h2⟩, h3⟩ => ⟨by rw [h1, h2.same (pmI_is l x)], h3⟩
/-- a page's entry, as the guest sees it -/
def tGet (s : Ts) (page : Int) : Ent := if (tEnt s page).t = true then { tEnt s page with f := pmI s.P (tEnt s page).f } else Ent.z
theorem tGet_t (s : Ts) (page : Int) : (tGet s page).t = (tEnt s page).t := by
  unfold tGet
  split
  · rfl
  · rename_i h
    cases ht : (tEnt s page).t with
    | true => exact absurd ht h
    | false => rfl

set_option maxRecDepth 100000 in
set_option maxHeartbeats 6400000 in
theorem tget_any (p : Pl) (s : Ts) (m : Int) (page : Int) (w : World) (h : PtAt w p s) (hi : TInv m s) :
    Calls Tryz.prog 9 #[.pointer (some ⟨p.tb, 0, none⟩), .int .i64 page] w fun y w' => y = .returned (.tuple #[(tGet s page).v, .bool (tGet s page).t]) ∧ Below w.heap.size w w' := by
  have hb0 : Below w.heap.size w (w.alloc (.cells #[.int .i64 0, .bool false, .bool false, .bool false] 34)) := (Below.refl _ _).alloc (Nat.le_refl _) _
  have HEN := Lib.hid (tentry_any p s m page _ (h.below hb0) hi)
  have HPM : Hid (∀ wx, Below w.heap.size w wx → ∀ x, Calls Tryz.prog 42 #[.pointer (some ⟨p.pb, 0, none⟩), .int .i64 x] wx fun e w' => e = .returned (.tuple #[.int .i64 (max (pmI s.P x) 0), .bool (decide (0 ≤ pmI s.P x))]) ∧ wx = w') := Lib.hid fun wx hb x => pm_ofI s.P p.pb p.pv x wx (h.below hb).pm (by have := hi.p512; omega)
  have HC : Hid (∀ wx, Below w.heap.size w wx → wx.cell? ⟨p.tb, 3, none⟩ = some (.pointer (some ⟨p.pb, 0, none⟩))) := Lib.hid fun wx hb => (h.below hb).cells.2.2.2.1
  have htb : p.tb < w.heap.size := blk_lt h.row
  obtain ⟨tb, htb0⟩ : ∃ x, p.tb = x := ⟨_, rfl⟩
  rw [htb0] at HEN HC htb ⊢
  obtain ⟨pb, hpb0⟩ : ∃ x, p.pb = x := ⟨_, rfl⟩
  rw [hpb0] at HC HPM
  have HTG : Hid (tGet s page = if (tEnt s page).t = true then { tEnt s page with f := pmI s.P (tEnt s page).f } else Ent.z) := Lib.hid rfl
  obtain ⟨⟨ef, et, ew, eu⟩, he⟩ : ∃ e, tEnt s page = e := ⟨_, rfl⟩
  rw [he] at HEN HTG
  rw [HTG.out]
  have HB0 := Lib.hid hb0
  have HBN := Lib.hid (blk_new w (.cells #[.int .i64 0, .bool false, .bool false, .bool false] 34))
  clear h hi he hb0 htb0 hpb0 HTG
  unfold Ent.v at HEN
  dsimp only at HEN
  go_enter Tryz.func9, Tryz.ntmps9
  go_wp2_with fail
  refine HEN.out.mono ?_
  rintro y w1 ⟨rfl, hb1⟩
  have HB1 := Lib.hid (HB0.out.trans (hb1.mono HB0.out.size))
  have hk1 := blk_below HBN.out hb1 (blk_lt HBN.out)
  clear hb1
  cases et with
  | false =>
    have hk2 := blk_below hk1 ((Below.refl _ _).alloc (Nat.le_refl _) (.cells #[.int .i64 ef, .bool false, .bool ew, .bool eu] 34)) (blk_lt hk1)
    obtain ⟨w2, hw2⟩ : ∃ w2, w1.alloc (.cells #[.int .i64 ef, .bool false, .bool ew, .bool eu] 34) = w2 := ⟨_, rfl⟩
    have hb2 : Below w.heap.size w w2 := hw2 ▸ HB1.out.alloc HB1.out.size _
    rw [hw2] at hk2
    have HB2 := Lib.hid hb2
    clear hk1 hb2 HB1 HPM HC
    go_upto_region 2 with fail
    try rw [hw2]
    clear hw2
    have f0 := blk_free hk2 0
    have f1 := blk_free hk2 1
    have f2 := blk_free hk2 2
    have f3 := blk_free hk2 3
    have z0 := blk_cell hk2 0
    have z1 := blk_cell hk2 1
    have z2 := blk_cell hk2 2
    have z3 := blk_cell hk2 3
    go_wp2
    refine bodyPost_ret (v := .tuple #[.agg #[.int .i64 0, .bool false, .bool false, .bool false], .bool false]) (by simp [results, Tryz.results9, go_sem, z0, z1, z2, z3]) rfl ⟨rfl, ?_⟩
    exact (((HB2.out.setCell (p := ⟨w.heap.size, 0, none⟩) (Nat.le_refl _) _).setCell (p := ⟨w.heap.size, 1, none⟩) (Nat.le_refl _) _).setCell (p := ⟨w.heap.size, 2, none⟩) (Nat.le_refl _) _).setCell (p := ⟨w.heap.size, 3, none⟩) (Nat.le_refl _) _
  | true =>
    have hn := blk_new w1 (.cells #[.int .i64 ef, .bool true, .bool ew, .bool eu] 34)
    obtain ⟨b, hb⟩ : ∃ b, w1.heap.size = b := ⟨_, rfl⟩
    have lb : w.heap.size < b := hb ▸ blk_lt hk1
    have hk2 := blk_below hk1 ((Below.refl _ _).alloc (Nat.le_refl _) (.cells #[.int .i64 ef, .bool true, .bool ew, .bool eu] 34)) (blk_lt hk1)
    obtain ⟨w2, hw2⟩ : ∃ w2, w1.alloc (.cells #[.int .i64 ef, .bool true, .bool ew, .bool eu] 34) = w2 := ⟨_, rfl⟩
    have hb2 : Below w.heap.size w w2 := hw2 ▸ HB1.out.alloc HB1.out.size _
    rw [hw2] at hn hk2
    rw [hb] at hn
    have HB2 := Lib.hid hb2
    go_wp2_with fail
    try rw [hb, hw2]
    clear hb hw2 HB1 hk1 hb2
    have hc := HC.out _ HB2.out
    have n0 := blk_cell hn 0
    go_quiet ((go_at_call 42; exact Calls.quiet_of_same ((HPM.out _ (below_drewN HB2.out _) _).mono fun e w' h => ⟨h.1, h.2.symm⟩)))
    obtain ⟨wd, hwd⟩ : ∃ wd, w2.drewN nq = wd := ⟨_, rfl⟩
    have hnd := hwd ▸ blk_below hn (below_drewN (Below.refl _ _) nq) (blk_lt hn)
    have hkd := hwd ▸ blk_below hk2 (below_drewN (Below.refl _ _) nq) (blk_lt hk2)
    have HBD : Hid (Below w.heap.size w wd) := Lib.hid (hwd ▸ below_drewN HB2.out nq)
    rw [hwd]
    have hr1 := (pmI_lt s.P ef).1
    obtain ⟨r, hr⟩ : ∃ r, pmI s.P ef = r := ⟨_, rfl⟩
    rw [hr] at hr1 ⊢
    have HRR := Lib.hid hr
    clear hwd hr hn hk2 HB2 hc n0 HB0 HBN
    by_cases h0 : 0 ≤ r
    · have hm : max r 0 = r := by omega
      rw [hm]
      have hn3 := blk_put hnd 0 (.int .i64 r)
      have hk3 := blk_set hkd (a := ⟨b, 0, none⟩) (by show w.heap.size ≠ b; omega) (.int .i64 r)
      obtain ⟨w3, hw3⟩ : ∃ w3, wd.setCell ⟨b, 0, none⟩ (.int .i64 r) = w3 := ⟨_, rfl⟩
      have HB3 : Hid (Below w.heap.size w w3) := Lib.hid (hw3 ▸ HBD.out.setCell (p := ⟨b, 0, none⟩) (Nat.le_of_lt lb) _)
      rw [hw3] at hn3 hk3
      clear hr1 hm
      have f0 := blk_free hk3 0
      have f1 := blk_free hk3 1
      have f2 := blk_free hk3 2
      have f3 := blk_free hk3 3
      have z0 := blk_cell hk3 0
      have z1 := blk_cell hk3 1
      have z2 := blk_cell hk3 2
      have z3 := blk_cell hk3 3
      have y0 := blk_cell hn3 0
      have y1 := blk_cell hn3 1
      have y2 := blk_cell hn3 2
      have y3 := blk_cell hn3 3
      have m0 := blk_cell hnd 0
      have g0 := blk_free hnd 0
      clear hnd hkd hn3 hk3 HPM HC
      go_wp2
      refine bodyPost_ret (v := .tuple #[.agg #[.int .i64 r, .bool true, .bool ew, .bool eu], .bool true]) (by simp [results, Tryz.results9, go_sem, z0, z1, z2, z3]) rfl ⟨by rw [HRR.out]; rfl, ?_⟩
      exact (((HB3.out.setCell (p := ⟨w.heap.size, 0, none⟩) (Nat.le_refl _) _).setCell (p := ⟨w.heap.size, 1, none⟩) (Nat.le_refl _) _).setCell (p := ⟨w.heap.size, 2, none⟩) (Nat.le_refl _) _).setCell (p := ⟨w.heap.size, 3, none⟩) (Nat.le_refl _) _
    · have h1 : r = -1 := by omega
      subst h1
      have hm : max (-1 : Int) 0 = 0 := by decide
      rw [hm]
      have hn3a := blk_put hnd 0 (.int .i64 0)
      have hn3 := blk_put hn3a 0 (.int .i64 (-1))
      have hk3a := blk_set hkd (a := ⟨b, 0, none⟩) (by show w.heap.size ≠ b; omega) (.int .i64 0)
      have hk3 := blk_set hk3a (a := ⟨b, 0, none⟩) (by show w.heap.size ≠ b; omega) (.int .i64 (-1))
      obtain ⟨w3a, hw3a⟩ : ∃ w3a, wd.setCell ⟨b, 0, none⟩ (.int .i64 0) = w3a := ⟨_, rfl⟩
      rw [hw3a] at hn3 hk3 hn3a
      obtain ⟨w3, hw3⟩ : ∃ w3, w3a.setCell ⟨b, 0, none⟩ (.int .i64 (-1)) = w3 := ⟨_, rfl⟩
      have HB3 : Hid (Below w.heap.size w w3) := Lib.hid (hw3 ▸ (hw3a ▸ HBD.out.setCell (p := ⟨b, 0, none⟩) (Nat.le_of_lt lb) _ : Below w.heap.size w w3a).setCell (p := ⟨b, 0, none⟩) (Nat.le_of_lt lb) _)
      rw [hw3] at hn3 hk3
      have n0a := blk_cell hn3a 0
      have g0a := blk_free hn3a 0
      clear hr1 hm hn3a hk3a h0
      have f0 := blk_free hk3 0
      have f1 := blk_free hk3 1
      have f2 := blk_free hk3 2
      have f3 := blk_free hk3 3
      have z0 := blk_cell hk3 0
      have z1 := blk_cell hk3 1
      have z2 := blk_cell hk3 2
      have z3 := blk_cell hk3 3
      have y0 := blk_cell hn3 0
      have y1 := blk_cell hn3 1
      have y2 := blk_cell hn3 2
      have y3 := blk_cell hn3 3
      have m0 := blk_cell hnd 0
      have g0 := blk_free hnd 0
      clear hnd hkd hn3 hk3 HPM HC
      go_wp2
      refine bodyPost_ret (v := .tuple #[.agg #[.int .i64 (-1), .bool true, .bool ew, .bool eu], .bool true]) (by simp [results, Tryz.results9, go_sem, z0, z1, z2, z3]) rfl ⟨by rw [HRR.out]; rfl, ?_⟩
      exact (((HB3.out.setCell (p := ⟨w.heap.size, 0, none⟩) (Nat.le_refl _) _).setCell (p := ⟨w.heap.size, 1, none⟩) (Nat.le_refl _) _).setCell (p := ⟨w.heap.size, 2, none⟩) (Nat.le_refl _) _).setCell (p := ⟨w.heap.size, 3, none⟩) (Nat.le_refl _) _
end Go.Proofs.YtaoaachgnnengaaGreatDoor

