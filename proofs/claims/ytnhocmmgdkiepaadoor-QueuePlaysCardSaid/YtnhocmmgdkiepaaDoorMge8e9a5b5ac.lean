/-
  Parts of one proof, one behind the other.
-/
import Derived.Test.YtnhocmmgdkiepaaDoorMga01ee0034f
import Derived.Test.YtnhocmmgdkiepaaDoorMgbeaabb7e9b
import Derived.Test.YtnhocmmgdkiepaaDoorMg221da07c4b
import Derived.Deep.DeepCutAuto
import Derived.BigQuiet
import Derived.Test.YtnhocmmgdkiepaaDoorMg5d4be2863b
import Derived.Test.YtnhocmmgdkiepaaDoorMg4eb791d37b
import Derived.Deep.RegionWith
import Derived.Deep.RegionLaw
import Derived.Deep.AppendLies
/-
  Which pages are live: plain laws; pt.Tables.Live.
-/
namespace Go.Proofs.YtnhocmmgdkiepaaDoor
open Go.RowKit

theorem tWord_inj {m : Int} {s : Ts} (h : TInv m s) {a b : Nat} (ha : a < 256) (hb : b < 256) (e : tWord s a = tWord s b) : a = b := by
  have h1 := h.pin (1 + a / 16) (by have := h.p17; omega)
  have h2 := h.pin (1 + b / 16) (by have := h.p17; omega)
  unfold tWord at e
  have e1 : s.P.getD (1 + a / 16) 0 = s.P.getD (1 + b / 16) 0 := by omega
  have := h.pne _ _ (by have := h.p17; omega) (by have := h.p17; omega) e1
  omega
theorem tWord_lt {m : Int} {s : Ts} (h : TInv m s) {a : Nat} (ha : a < 256) : tWord s a < s.M.length := by
  have h1 := h.pin (1 + a / 16) (by have := h.p17; omega)
  rw [h.lm]
  unfold tWord
  omega
/-- a page's entry, where its word is known -/
theorem tEnt_word (s : Ts) (page : Int) (hp : isPage page = true) (x : Int) (hx : s.M.getD (tWord s page.toNat) 0 = x) : tEnt s page = if (ofA x).1.t = true then (ofA x).1 else Ent.z := by
  have hpg : 0 ≤ page ∧ page < 256 := by simpa [isPage] using hp
  unfold tEnt
  rw [hx]
  by_cases h : (ofA x).1.t = true
  · rw [if_pos ⟨hpg.1, hpg.2, h⟩, if_pos h]
  · rw [if_neg (fun hh => h hh.2.2), if_neg h]
theorem tEnt_none (s : Ts) (page : Int) (hp : isPage page = false) : tEnt s page = Ent.z := by
  have hpg : ¬ (0 ≤ page ∧ page < 256) := by simpa [isPage] using hp
  unfold tEnt
  rw [if_neg (fun hh => hpg ⟨hh.1, hh.2.1⟩)]
/-- one word put: each page's entry then -/
theorem tEnt_put {m : Int} {s : Ts} (h : TInv m s) (page : Int) (hp : isPage page = true) (x : Int) (F : List Fr) (p : Int) : tEnt { s with F := F, M := writeL s.M (tWord s page.toNat : Int) x } p = if p = page then (if (ofA x).1.t = true then (ofA x).1 else Ent.z) else tEnt s p := by
  have hpg : 0 ≤ page ∧ page < 256 := by simpa [isPage] using hp
  have hlt := tWord_lt h (a := page.toNat) (by omega)
  have hg : ∀ t, (writeL s.M (tWord s page.toNat : Int) x).getD t 0 = if t = tWord s page.toNat then x else s.M.getD t 0 := fun t => by
    unfold writeL
    rw [if_pos (by omega), Int.toNat_natCast, setD_get _ _ _ _ hlt]
  have hw : ∀ q, tWord { s with F := F, M := writeL s.M (tWord s page.toNat : Int) x } q = tWord s q := fun q => rfl
  by_cases e : p = page
  · subst e
    rw [if_pos rfl]
    exact tEnt_word _ p hp x (by show (writeL s.M _ x).getD (tWord s p.toNat) 0 = x; rw [hg, if_pos rfl])
  · rw [if_neg e]
    cases hq : isPage p with
    | false => rw [tEnt_none _ p hq, tEnt_none _ p hq]
    | true =>
      have hpq : 0 ≤ p ∧ p < 256 := by simpa [isPage] using hq
      have hne : tWord s p.toNat ≠ tWord s page.toNat := fun e2 => by
        have := tWord_inj h (by omega) (by omega) e2
        omega
      rw [tEnt_word _ p hq (s.M.getD (tWord s p.toNat) 0) (by show (writeL s.M _ x).getD (tWord s p.toNat) 0 = _; rw [hg, if_neg hne]), tEnt_word s p hq _ rfl]
theorem ofA_zero'' : ofA 0 = (Ent.z, true) := ofA_ent'' (f := 0) (t := false) (wr := false) (u := false) ⟨by decide, by decide, fun _ => ⟨rfl, rfl, rfl⟩⟩
theorem tEnt_zt : Ent.z.t = false := rfl
theorem tEnt_there (s : Ts) (page : Int) (h : ¬ (tEnt s page).t = true) : tEnt s page = Ent.z := by
  unfold tEnt at h ⊢
  split
  · rename_i hh
    rw [if_pos hh] at h
    exact absurd hh.2.2 h
  · rfl
theorem tEnt_F (s : Ts) (F : List Fr) (p : Int) : tEnt { s with F := F } p = tEnt s p := rfl
/-- behind Drop -/
theorem tEnt_drop {m : Int} {s : Ts} (h : TInv m s) (page : Int) (hp : isPage page = true) (p : Int) : tEnt (tDrop s page).1 p = if p = page then Ent.z else tEnt s p := by
  unfold tDrop
  rw [if_pos hp]
  by_cases ht : (tEnt s page).t = true
  · rw [if_pos ht]
    have := tEnt_put h page hp 0 (tDropF s page) p
    rw [ofA_zero'', show (if ((Ent.z, true) : Ent × Bool).1.t = true then ((Ent.z, true) : Ent × Bool).1 else Ent.z) = Ent.z from rfl] at this
    exact this
  · rw [if_neg ht]
    by_cases e : p = page
    · rw [if_pos e, e]
      exact tEnt_there s page ht
    · rw [if_neg e]
/-- behind set -/
theorem tEnt_set {m : Int} {s : Ts} (h : TInv m s) (page frame : Int) (w : Bool) (hp : isPage page = true) (hc : (tSetR s frame w).c = 0) (hf : 0 ≤ frame ∧ frame < 1024) (p : Int) : tEnt (tSet s page frame w).1 p = if p = page then ⟨frame, true, w, true⟩ else tEnt s p := by
  have hok : entOk frame true w true := ⟨hf.1, hf.2, fun h => by cases h⟩
  have hpg : 0 ≤ page ∧ page < 256 := by simpa [isPage] using hp
  unfold tSet
  rw [if_pos hc]
  have hI := tDrop_inv (tSetR_inv h frame w) page
  have hD := tEnt_drop (tSetR_inv h frame w) page hp
  have hP := (tDrop_P { s with F := (tSetR s frame w).l } page).1
  obtain ⟨S, hS⟩ : ∃ S, (tDrop { s with F := (tSetR s frame w).l } page).1 = S := ⟨_, rfl⟩
  rw [hS] at hI hD hP ⊢
  have h1 := hI.pin (1 + page.toNat / 16) (by have := hI.p17; omega)
  have hput : putE S.M (s.P.getD (1 + page.toNat / 16) 0) ((page.toNat % 16 : Nat) : Int) ⟨frame, true, w, true⟩ = writeL S.M (tWord S page.toNat : Int) (entW frame true w true) := by
    unfold putE bitsA
    rw [if_pos ((entOkB_iff _ _ _ _).2 hok)]
    show writeL S.M _ (entW frame true w true) = _
    rw [show s.P = S.P from hP.symm, show S.P.getD (1 + page.toNat / 16) 0 * 16 + ((page.toNat % 16 : Nat) : Int) = ((tWord S page.toNat : Nat) : Int) by unfold tWord; omega]
  show tEnt { S with M := putE S.M (s.P.getD (1 + page.toNat / 16) 0) ((page.toNat % 16 : Nat) : Int) ⟨frame, true, w, true⟩ } p = _
  rw [hput]
  have := tEnt_put hI page hp (entW frame true w true) S.F p
  rw [ofA_ent'' hok, if_pos rfl] at this
  refine Eq.trans this ?_
  rw [hD p]
  by_cases e : p = page
  · rw [if_pos e, if_pos e]
  · rw [if_neg e, if_neg e, if_neg e]
    rfl

/-- the live pages below n -/
def tLiveN (s : Ts) : Nat → List Int
  | 0 => []
  | n + 1 => if (tEnt s (n : Int)).t = true then tLiveN s n ++ [(n : Int)] else tLiveN s n
def tLive (s : Ts) : List Int := tLiveN s 256
theorem tLiveN_len (s : Ts) : ∀ n, (tLiveN s n).length ≤ n
  | 0 => Nat.le_refl _
  | n + 1 => by
    have := tLiveN_len s n
    unfold tLiveN
    split
    · rw [List.length_append]; simp; omega
    · omega
theorem infoLive : (Tryd.prog.info? 3).map (fun i => (i.zero, i.size, i.bytes)) = some (some (.int .i64 0), 1, 8) := by kernel_rfl
def LvTo (s : Ts) (w : World) (v i : Value) (wr : World) : Prop := ∃ k : Nat, k ≤ 256 ∧ i = .int .i64 (k : Int) ∧ wr.ownsRow 0 3 1 v (tLiveN s k).length (ints (tLiveN s k)) ∧ (∀ j, inRow v j → w.heap.size ≤ j) ∧ Below w.heap.size w wr

set_option maxRecDepth 100000 in
set_option maxHeartbeats 6400000 in
theorem tlive_any (p : Pl) (s : Ts) (m : Int) (w : World) (h : PtAt w p s) (hi : TInv m s) :
    Calls Tryd.prog 37 #[.pointer (some ⟨p.tb, 0, none⟩)] w fun y w' => ∃ v', y = .returned v' ∧ w'.ownsRow 0 3 1 v' (tLive s).length (ints (tLive s)) ∧ (∀ j, inRow v' j → w.heap.size ≤ j) ∧ Below w.heap.size w w' := by
  obtain ⟨i0, hi0, hz0, hz1, hz2⟩ := info_parts infoLive
  have HEN : Hid (∀ wx, Below w.heap.size w wx → ∀ page : Int, Calls Tryd.prog 75 #[.pointer (some ⟨p.tb, 0, none⟩), .int .i64 page] wx fun y w' => y = .returned (.tuple #[(tEnt s page).v, .bool (tEnt s page).t]) ∧ Below wx.heap.size wx w') := Lib.hid fun wx hb page => tentry_any p s m page wx (h.below hb) hi
  clear h hi
  go_enter Tryd.func37, Tryd.ntmps37
  go_wp2_with fail
  go_loopw [3, 7] (fun v i wr => LvTo s w v i wr) (fun _ i _ => 256 - (intOf i).toNat)
  case atStart => exact ⟨0, Nat.zero_le _, rfl, own_nil _ _ _, fun j h => (by cases h), Below.refl _ _⟩
  case round =>
    obtain ⟨k, hk, rfl, ho, hf, hb⟩ := hrel
    have HO := Lib.hid ho
    have HF := Lib.hid hf
    have HB := Lib.hid hb
    by_cases hlt : k < 256
    · have hki : (k : Int) < 256 := by omega
      have HE := Lib.hid (HEN.out _ HB.out (k : Int))
      have HL1 : Hid (tLiveN s (k + 1) = if (tEnt s (k : Int)).t = true then tLiveN s k ++ [(k : Int)] else tLiveN s k) := Lib.hid rfl
      have hlen := tLiveN_len s k
      obtain ⟨L, hL⟩ : ∃ L, tLiveN s k = L := ⟨_, rfl⟩
      rw [hL] at HO HL1 hlen ho
      obtain ⟨ao, cap, rfl⟩ := own_slice ho
      clear ho hf hb
      obtain ⟨⟨ef, et, ew, eu⟩, he⟩ : ∃ e, tEnt s (k : Int) = e := ⟨_, rfl⟩
      rw [he] at HE HL1
      unfold Ent.v at HE
      dsimp only at HE HL1
      go_wp2_with fail
      refine HE.out.mono ?_
      rintro y w1 ⟨rfl, hb1⟩
      have HB1 : Hid (Below w.heap.size w w1) := Lib.hid (HB.out.trans (hb1.mono HB.out.size))
      have HO1 : Hid (w1.ownsRow 0 3 1 (.slice ao L.length cap) L.length (ints L)) := Lib.hid (own_frame HO.out fun j hj => hb1.block j (own_lt HO.out hj))
      have HLL := Lib.hid hL
      clear hb1 hL he
      cases et with
      | false =>
        have HB2 : Hid (∀ X, Below w.heap.size w (w1.alloc X)) := Lib.hid fun X => HB1.out.alloc HB1.out.size X
        go_wp2_with fail
        go_roundw
        case rel => exact ⟨k + 1, by omega, by go_num, by rw [HL1.out, if_neg (by decide)]; exact HO1.out.alloc _, HF.out, HB2.out _⟩
        case measure => simp [intOf]; omega
      | true =>
        go_wp2_with (at_builtin; refine wpList_append_sep _ rfl _ _ 35 rfl 3 i0 (.int .i64 0) 1 8 Tryd.underlying35 hi0 hz0 hz1 hz2 rfl (by decide) _ _ _ rfl ((HO1.out.alloc (.cells #[.int .i64 ef, .bool true, .bool ew, .bool eu] 42)).alloc _) ⟨w1.heap.size + 1, 0, none⟩ 1 1 [.int .i64 (k : Int)] rfl rfl (by have := cell_one_new (w1.alloc (.cells #[.int .i64 ef, .bool true, .bool ew, .bool eu] 42)) (.int .i64 (k : Int)) 3; simpa using this) (by simp [Value.oneCell']) (by unfold maxLen; omega) (by omega) ?_)
        intro v' wx ho3 hg3 hs3
        obtain ⟨ao2, cap2, rfl⟩ := own_slice ho3
        have HO3 : Hid (wx.ownsRow 0 3 1 (.slice ao2 (L.length + 1) cap2) (L ++ [(k : Int)]).length (ints (L ++ [(k : Int)]))) := Lib.hid (by
          have e1 : ints L ++ [Value.int .i64 (k : Int)] = ints (L ++ [(k : Int)]) := by simp [ints]
          rw [e1] at ho3
          rw [List.length_append]
          exact ho3)
        have HF3 : Hid (∀ j, inRow (.slice ao2 (L.length + 1) cap2) j → w.heap.size ≤ j) := Lib.hid fun j hj => by
          rcases hs3 j hj with h | h
          · exact HF.out j h
          · have h' := h
            try simp at h'
            have := HB1.out.size
            omega
        have HB3 : Hid (Below w.heap.size w wx) := Lib.hid (Below.grown ((HB1.out.alloc HB1.out.size _).alloc (by have := HB1.out.size; simp; omega) _) hg3 (by have := HB1.out.size; simp; omega) (fun j hj => HF.out j hj))
        clear ho3 hg3 hs3
        go_wp2_with fail
        go_roundw
        case rel => exact ⟨k + 1, by omega, by go_num, by rw [HL1.out]; simp only [if_true]; exact HO3.out, HF3.out, HB3.out⟩
        case measure => simp [intOf]; omega
    · obtain rfl : k = 256 := by omega
      obtain ⟨ao, cap, rfl⟩ := own_slice ho
      clear ho hf hb
      go_wp2
      go_ret
      exact ⟨_, rfl, HO.out, HF.out, HB.out⟩
end Go.Proofs.YtnhocmmgdkiepaaDoor

/-
  The document's tables: word, Entry.
-/
namespace Go.Proofs.YtnhocmmgdkiepaaDoor
open Go.RowKit

theorem ZAt.list {w : World} {z : Zl} {n : Nat} {M : List Int} {F : List Fr} {P : List Int} {who : Int} (h : ZAt w z n M F P who) (hP : 17 ≤ P.length) : ∃ g cap, z.gv = .slice (some ⟨g, 0, none⟩) P.length cap ∧ g < w.heap.size ∧ ∀ k, k < P.length → w.cell? ⟨g, k, none⟩ = some (.int .i64 (P.getD k 0)) := by
  rcases own_shape h.gl with ⟨-, hz, -⟩ | hs
  · omega
  · obtain ⟨g, cap, e1, -⟩ := hs
    have ht := h.gl
    rw [e1] at ht
    exact ⟨g, cap, e1, own_lt ht (show inRow _ g from rfl), fun k hk => by rw [own_cell ht k (by omega), ints_get' _ k hk]⟩
theorem nat_lt17 {k : Nat} (h : (k : Int) < 17) : k < 17 := by omega
theorem nat_ltL {k L : Nat} (h : k < 17) (hL : 17 ≤ L) : k < L ∧ (k : Int) < (L : Int) := by omega
theorem tw_sum {x : Int} {w r : Nat} (h0 : 0 ≤ x) (hw : w = 16 * x.toNat + r) : x * 16 + (r : Int) = (w : Int) := by omega
theorem tw_range {t : Int} {n r : Nat} (h : 0 ≤ t ∧ t < (n : Int)) (hn : n ≤ 1024) (hr : r < 16) : (-9223372036854775808 ≤ t * 16 ∧ t * 16 ≤ 9223372036854775807) ∧ (-9223372036854775808 ≤ t * 16 + (r : Int) ∧ t * 16 + (r : Int) ≤ 9223372036854775807) := by omega
theorem ofA_not (x : Int) (h : (ofA x).1.t = false) : (ofA x).1 = Ent.z := by
  unfold ofA at h ⊢
  by_cases hx : isEntB x = true
  · rw [if_pos hx] at h ⊢
    have hok := ((isEntB_iff x).1 hx).1
    dsimp only at h ⊢
    rw [h] at hok ⊢
    obtain ⟨h1, h2, h3⟩ := hok.2.2 rfl
    rw [h1, h2, h3]
    rfl
  · rw [if_neg hx]
theorem tEnt_is (s : Ts) (page : Int) (hp : isPage page = true) : tEnt s page = (ofA (s.M.getD (tWord s page.toNat) 0)).1 := by
  have hpg : 0 ≤ page ∧ page < 256 := by simpa [isPage] using hp
  unfold tEnt
  cases ht : (ofA (s.M.getD (tWord s page.toNat) 0)).1.t with
  | true => rw [if_pos ⟨hpg.1, hpg.2, rfl⟩]
  | false => rw [if_neg (fun hh => by cases hh.2.2), ofA_not _ ht]
theorem tEnt_out (s : Ts) (page : Int) (hp : isPage page = false) : tEnt s page = Ent.z := by
  unfold tEnt
  rw [if_neg]
  intro hh
  have : isPage page = true := by simp [isPage]; omega
  rw [hp] at this
  cases this

set_option maxRecDepth 100000 in
set_option maxHeartbeats 1600000 in
theorem zword_gen (z : Zl) (s : Ts) (m : Int) (j : Nat) (w : World) {g cap : Nat} (hc : w.cell? ⟨z.zb, 3, none⟩ = some z.gv ∧ z.zb < w.heap.size) (hl : z.gv = .slice (some ⟨g, 0, none⟩) s.P.length cap) (hg : g < w.heap.size) (hcell : ∀ k, k < s.P.length → w.cell? ⟨g, k, none⟩ = some (.int .i64 (s.P.getD k 0))) (hi : TInv m s) (hj : j < 256) :
    Calls Tryd.prog 119 #[.pointer (some ⟨z.zb, 0, none⟩), .int .i64 (j : Int)] w fun y w' => y = .returned (.int .i64 ((tWord s j : Nat) : Int)) ∧ w = w' := by
  obtain ⟨c3, ltb⟩ := hc
  rw [hl] at c3
  have hp17 := hi.p17
  have h1 := hi.pin (1 + j / 16) (by omega)
  have hn := hi.n1
  obtain ⟨a, k, r, ha, hk, hr, wq, wq', wq1, wr, wi0, wi1, hr16⟩ := page_parts j hj
  rw [ha, hk] at h1
  have hk17 := nat_lt17 wi1
  have ct := hcell k (nat_ltL hk17 hp17).1
  have HTW : Hid (s.P.getD k 0 * 16 + (r : Int) = ((tWord s j : Nat) : Int)) := Lib.hid (tw_sum h1.1 (by unfold tWord; rw [ha, hk, hr]))
  have hrg := tw_range (r := r) ⟨h1.1, h1.2.1⟩ hn hr16
  obtain ⟨t1, ht1⟩ : ∃ x, s.P.getD k 0 = x := ⟨_, rfl⟩
  rw [ht1] at HTW ct hrg
  have wi2 := (nat_ltL hk17 hp17).2
  obtain ⟨L, hL⟩ : ∃ x, s.P.length = x := ⟨_, rfl⟩
  rw [hL] at c3 wi2
  have wm := IntWalk.i64_in (t1 * 16) hrg.1
  have ws : IntKind.i64.wrap (t1 * 16 + (r : Int)) = ((tWord s j : Nat) : Int) := (IntWalk.i64_in _ hrg.2).trans HTW.out
  clear hi hl hcell ht1 hL ha hk hr hj h1 hrg hp17 hk17 hn
  go_enter Tryd.func119, Tryd.ntmps119
  go_wp2
  go_ret
  exact ⟨rfl, rfl⟩

theorem zword_any (z : Zl) (s : Ts) (m : Int) (j : Nat) (w : World) (h : ZtAt w z s) (hi : TInv m s) (hj : j < 256) :
    Calls Tryd.prog 119 #[.pointer (some ⟨z.zb, 0, none⟩), .int .i64 (j : Int)] w fun y w' => y = .returned (.int .i64 ((tWord s j : Nat) : Int)) ∧ w = w' := by
  obtain ⟨g, cap, hl, hg, hcell⟩ := ZAt.list h hi.p17
  exact zword_gen z s m j w ⟨(ZAt.cells h).2.2.2.1, (ZAt.cells h).2.2.2.2.2⟩ hl hg hcell hi hj

set_option maxRecDepth 100000 in
set_option maxHeartbeats 3200000 in
theorem zentry_out (z : Zl) (s : Ts) (page : Int) (w : World) (hp : isPage page = false) :
    Calls Tryd.prog 85 #[.pointer (some ⟨z.zb, 0, none⟩), .int .i64 page] w fun y w' => y = .returned (tEnt s page).v ∧ Below w.heap.size w w' := by
  rw [tEnt_out s page hp]
  have hc : page < 0 ∨ (¬ page < 0 ∧ 256 ≤ page) := by
    by_cases h0 : page < 0
    · exact .inl h0
    · refine .inr ⟨h0, ?_⟩
      by_cases h1 : page < 256
      · have : isPage page = true := by simp [isPage]; omega
        rw [hp] at this
        cases this
      · omega
  obtain ⟨zb, hz⟩ : ∃ x, z.zb = x := ⟨_, rfl⟩
  rw [hz]
  have hn := blk_new w (.cells #[.int .i64 0, .bool false, .bool false, .bool false] 42)
  have f0 := blk_free hn 0
  have f1 := blk_free hn 1
  have f2 := blk_free hn 2
  have f3 := blk_free hn 3
  have z0 := blk_cell hn 0
  have z1 := blk_cell hn 1
  have z2 := blk_cell hn 2
  have z3 := blk_cell hn 3
  clear hp hz hn
  rcases hc with h0 | ⟨h0, h1⟩
  all_goals
    go_enter Tryd.func85, Tryd.ntmps85
    go_wp2
    refine bodyPost_ret (v := .agg #[.int .i64 0, .bool false, .bool false, .bool false]) (by simp [results, Tryd.results85, go_sem, z0, z1, z2, z3]) rfl ⟨rfl, ?_⟩
    first | exact (Below.refl _ _).alloc (Nat.le_refl _) _ | exact ((((((Below.refl _ _).alloc (Nat.le_refl _) (.cells #[.int .i64 0, .bool false, .bool false, .bool false] 42))).setCell (p := ⟨w.heap.size, 0, none⟩) (Nat.le_refl _) _).setCell (p := ⟨w.heap.size, 1, none⟩) (Nat.le_refl _) _).setCell (p := ⟨w.heap.size, 2, none⟩) (Nat.le_refl _) _).setCell (p := ⟨w.heap.size, 3, none⟩) (Nat.le_refl _) _

set_option maxRecDepth 100000 in
set_option maxHeartbeats 3200000 in
theorem zentry_in (z : Zl) (s : Ts) (m : Int) (j : Nat) (w : World) (h : ZtAt w z s) (hi : TInv m s) (hj : j < 256) :
    Calls Tryd.prog 85 #[.pointer (some ⟨z.zb, 0, none⟩), .int .i64 (j : Int)] w fun y w' => y = .returned (tEnt s (j : Int)).v ∧ Below w.heap.size w w' := by
  have hp : isPage (j : Int) = true := by simp [isPage]; omega
  have hpn : ¬ (j : Int) < 0 := by omega
  have hp2 : ¬ (256 : Int) ≤ (j : Int) := by omega
  rw [tEnt_is s _ hp, Int.toNat_natCast]
  have hb0 : Below w.heap.size w (w.alloc (.cells #[.int .i64 0, .bool false, .bool false, .bool false] 42)) := (Below.refl _ _).alloc (Nat.le_refl _) _
  have HB0 := Lib.hid hb0
  have HWD : Hid (∀ wx, Below w.heap.size w wx → Calls Tryd.prog 119 #[.pointer (some ⟨z.zb, 0, none⟩), .int .i64 (j : Int)] wx fun y w' => y = .returned (.int .i64 ((tWord s j : Nat) : Int)) ∧ wx = w') := Lib.hid fun wx hb => zword_any z s m j wx (ZAt.below h hb) hi hj
  have hlt := tWord_lt hi hj
  have HRD : Hid (∀ wx, Below w.heap.size w wx → Calls Tryd.prog 118 #[.pointer (some ⟨z.mb, 0, none⟩), .int .i64 ((tWord s j : Nat) : Int)] wx fun y w' => y = .returned (.tuple #[.int .u32 (s.M.getD (tWord s j) 0), .bool true]) ∧ wx = w') := Lib.hid fun wx hb => mr_read_at s.M z.mb s.n (tWord s j) z.mv wx (ZAt.below h hb).mem (by rw [← hi.lm]; exact hlt)
  have hw32 := hi.w32 (tWord s j)
  obtain ⟨x, hx⟩ : ∃ x, s.M.getD (tWord s j) 0 = x := ⟨_, rfl⟩
  rw [hx] at HRD hw32 ⊢
  have HOF := Lib.hid (fun wx => rof_any x wx hw32)
  obtain ⟨⟨⟨ef, et, ew, eu⟩, ok⟩, he⟩ : ∃ r, ofA x = r := ⟨_, rfl⟩
  rw [he] at HOF ⊢
  unfold Ent.v at HOF ⊢
  dsimp only at HOF ⊢
  obtain ⟨tw, htw⟩ : ∃ t, ((tWord s j : Nat) : Int) = t := ⟨_, rfl⟩
  rw [htw] at HWD HRD
  obtain ⟨c0, -, -, -, -, -⟩ := ZAt.cells (ZAt.below h hb0)
  have ltb : z.zb < w.heap.size := h.cells.2.2.2.2.2
  have HBN := Lib.hid (blk_new w (.cells #[.int .i64 0, .bool false, .bool false, .bool false] 42))
  clear h hi hx he hlt hp hw32 hj hb0 htw
  go_enter Tryd.func85, Tryd.ntmps85
  go_wp2_with fail
  go_quiet ((first | (go_at_call 119; exact Calls.quiet_of_same ((HWD.out _ (below_drewN HB0.out _)).mono fun e w' h => ⟨h.1, h.2.symm⟩)) | (go_at_call 118; exact Calls.quiet_of_same ((HRD.out _ (below_drewN HB0.out _)).mono fun e w' h => ⟨h.1, h.2.symm⟩))))
  obtain ⟨wd, hwd⟩ : ∃ wd, (w.alloc (.cells #[.int .i64 0, .bool false, .bool false, .bool false] 42)).drewN nq = wd := ⟨_, rfl⟩
  have HBD : Hid (Below w.heap.size w wd) := Lib.hid (hwd ▸ below_drewN HB0.out nq)
  have HND : Hid (wd.heap[w.heap.size]? = some (.cells #[.int .i64 0, .bool false, .bool false, .bool false] 42 (0, 0))) := Lib.hid (hwd ▸ blk_below HBN.out (below_drewN (Below.refl _ _) nq) (blk_lt HBN.out))
  rw [hwd]
  clear hwd HBN HB0 c0
  go_wp2_with fail
  refine (HOF.out _).mono ?_
  rintro y w3 ⟨rfl, hb3⟩
  have HB3 := Lib.hid (HBD.out.trans (hb3.mono HBD.out.size))
  have hk3 := blk_below HND.out hb3 (blk_lt HND.out)
  obtain ⟨b, hb⟩ : ∃ b, w3.heap.size = b := ⟨_, rfl⟩
  have lb : w.heap.size < b := hb ▸ blk_lt hk3
  have hn4 := blk_new w3 (.cells #[.int .i64 ef, .bool et, .bool ew, .bool eu] 42)
  have hk4 := blk_below hk3 ((Below.refl _ _).alloc (Nat.le_refl _) (.cells #[.int .i64 ef, .bool et, .bool ew, .bool eu] 42)) (blk_lt hk3)
  obtain ⟨w4, hw4⟩ : ∃ w4, w3.alloc (.cells #[.int .i64 ef, .bool et, .bool ew, .bool eu] 42) = w4 := ⟨_, rfl⟩
  have HB4 : Hid (Below w.heap.size w w4) := Lib.hid (hw4 ▸ HB3.out.alloc HB3.out.size _)
  rw [hw4] at hn4 hk4
  rw [hb] at hn4
  have f0 := blk_free hk4 0
  have f1 := blk_free hk4 1
  have f2 := blk_free hk4 2
  have f3 := blk_free hk4 3
  have z0 := blk_cell hk4 0
  have z1 := blk_cell hk4 1
  have z2 := blk_cell hk4 2
  have z3 := blk_cell hk4 3
  have y0 := blk_cell hn4 0
  have y1 := blk_cell hn4 1
  have y2 := blk_cell hn4 2
  have y3 := blk_cell hn4 3
  clear hb3 hk3 hn4 hk4 HWD HRD HOF HND HBD
  go_upto_region 2 with fail
  try rw [hb, hw4]
  clear hb hw4
  go_wp2
  refine bodyPost_ret (v := .agg #[.int .i64 ef, .bool et, .bool ew, .bool eu]) (by simp [results, Tryd.results85, go_sem, z0, z1, z2, z3]) rfl ⟨rfl, ?_⟩
  exact (((HB4.out.setCell (p := ⟨w.heap.size, 0, none⟩) (Nat.le_refl _) _).setCell (p := ⟨w.heap.size, 1, none⟩) (Nat.le_refl _) _).setCell (p := ⟨w.heap.size, 2, none⟩) (Nat.le_refl _) _).setCell (p := ⟨w.heap.size, 3, none⟩) (Nat.le_refl _) _
theorem zentry_any (z : Zl) (s : Ts) (m : Int) (page : Int) (w : World) (h : ZtAt w z s) (hi : TInv m s) :
    Calls Tryd.prog 85 #[.pointer (some ⟨z.zb, 0, none⟩), .int .i64 page] w fun y w' => y = .returned (tEnt s page).v ∧ Below w.heap.size w w' := by
  cases hp : isPage page with
  | false => exact zentry_out z s page w hp
  | true =>
    have hpg : 0 ≤ page ∧ page < 256 := by simpa [isPage] using hp
    obtain ⟨j, rfl⟩ : ∃ j : Nat, page = (j : Int) := ⟨page.toNat, by omega⟩
    exact zentry_in z s m j w h hi (by omega)
end Go.Proofs.YtnhocmmgdkiepaaDoor

/-
  The document's tables: Drop.
-/
namespace Go.Proofs.YtnhocmmgdkiepaaDoor
open Go.RowKit

def ZtQ (z : Zl) (R : Ts × Int) (w : World) (e : Ending) (w' : World) : Prop := e = .returned (.int .i64 R.2) ∧ ZtAt w' z R.1 ∧ Only z.zw w w'
theorem ztw_m {z : Zl} {w w' : World} (h : Only (fun k => inRow z.mv k) w w') : Only z.zw w w' := h.mono fun _ hi => .inl (.inl hi)
theorem ztw_f {z : Zl} {w w' : World} (h : Only (fun k => k = z.fg) w w') : Only z.zw w w' := h.mono fun _ hi => .inl (.inr (.inl hi))
theorem noPage_ways {page : Int} (hp : isPage page = false) : page < 0 ∨ (¬ page < 0 ∧ 256 ≤ page) := by
  by_cases h0 : page < 0
  · exact .inl h0
  · refine .inr ⟨h0, ?_⟩
    by_cases h1 : page < 256
    · have : isPage page = true := by simp [isPage]; omega
      rw [hp] at this
      cases this
    · omega
theorem page_nat {page : Int} (hp : isPage page = true) : ∃ j : Nat, page = (j : Int) ∧ j < 256 ∧ ¬ (j : Int) < 0 ∧ ¬ (256 : Int) ≤ (j : Int) := by
  have hpg : 0 ≤ page ∧ page < 256 := by simpa [isPage] using hp
  exact ⟨page.toNat, by omega, by omega, by omega, by omega⟩

set_option maxRecDepth 100000 in
set_option maxHeartbeats 3200000 in
theorem zdrop_out (z : Zl) (s : Ts) (page : Int) (w : World) (h : ZtAt w z s) (hp : isPage page = false) :
    Calls Tryd.prog 116 #[.pointer (some ⟨z.zb, 0, none⟩), .int .i64 page] w (ZtQ z (tDrop s page) w) := by
  have HR : Hid (tDrop s page = (s, 103)) := Lib.hid (by unfold tDrop; rw [hp, if_neg (by decide)])
  rw [HR.out]
  have HH := Lib.hid h
  have hc := noPage_ways hp
  clear h hp HR
  rcases hc with h0 | ⟨h0, h1⟩
  all_goals
    go_enter Tryd.func116, Tryd.ntmps116
    go_wp2
    go_ret
    exact ⟨rfl, HH.out, Only.refl _ _⟩

set_option maxRecDepth 100000 in
set_option maxHeartbeats 6400000 in
theorem zdrop_in (z : Zl) (s : Ts) (m : Int) (j : Nat) (w : World) (h : ZtAt w z s) (hi : TInv m s) (hm : m ≤ 1000000) (hp : isPage (j : Int) = true) (hj : j < 256) (hp0 : ¬ (j : Int) < 0) (hp1 : ¬ (256 : Int) ≤ (j : Int)) :
    Calls Tryd.prog 116 #[.pointer (some ⟨z.zb, 0, none⟩), .int .i64 (j : Int)] w (ZtQ z (tDrop s (j : Int)) w) := by
  have HEN := Lib.hid (zentry_any z s m (j : Int) w h hi)
  by_cases ht : (tEnt s (j : Int)).t = true
  · have HR : Hid (tDrop s (j : Int) = ({ s with F := tDropF s (j : Int), M := writeL s.M (tWord s j : Int) 0 }, 0)) := Lib.hid (by unfold tDrop; rw [if_pos hp, if_pos ht, Int.toNat_natCast])
    rw [HR.out]
    have HH := Lib.hid h
    have HFB := Lib.hid (frOk_b hi.fok hm)
    have HWD : Hid (∀ wx (F : List Fr), ZtAt wx z { s with F := F } → Calls Tryd.prog 119 #[.pointer (some ⟨z.zb, 0, none⟩), .int .i64 (j : Int)] wx fun y w' => y = .returned (.int .i64 ((tWord s j : Nat) : Int)) ∧ wx = w') := Lib.hid fun wx F hx => by
      obtain ⟨g, cap, hl, hg, hcell⟩ := ZAt.list hx hi.p17
      exact zword_gen z s m j wx ⟨(ZAt.cells hx).2.2.2.1, (ZAt.cells hx).2.2.2.2.2⟩ hl hg hcell hi hj
    obtain ⟨tw, htw⟩ : ∃ t, ((tWord s j : Nat) : Int) = t := ⟨_, rfl⟩
    rw [htw] at HWD ⊢
    obtain ⟨F1, hF1⟩ : ∃ F1, tDropF s (j : Int) = F1 := ⟨_, rfl⟩
    rw [hF1]
    unfold tDropF at hF1
    obtain ⟨⟨ef, et, ew, eu⟩, he⟩ : ∃ e, tEnt s (j : Int) = e := ⟨_, rfl⟩
    rw [he] at HEN ht hF1
    unfold Ent.v at HEN
    dsimp only at HEN ht hF1
    have HF1 := Lib.hid hF1
    subst ht
    clear h hi hp he hm HR hF1 htw hj
    go_enter Tryd.func116, Tryd.ntmps116
    go_wp2_with fail
    refine HEN.out.mono ?_
    rintro y w2 ⟨rfl, hb2⟩
    have HB2 := Lib.hid (hb2.alloc hb2.size (.cells #[.int .i64 ef, .bool true, .bool ew, .bool eu] 42))
    have HB2d := Lib.hid HB2.out.drew
    have HH2 := Lib.hid (ZAt.below HH.out HB2.out)
    obtain ⟨-, c1, -, -, -, ltb⟩ := HH2.out.cells
    have hnew := blk_new w2 (.cells #[.int .i64 ef, .bool true, .bool ew, .bool eu] 42)
    have ce0 := blk_cell hnew 0
    cases ew
    · have HU := Lib.hid (runuse_any s.F z.fb z.fg s.n ef _ HFB.out (ZAt.below HH.out HB2d.out).fr)
      clear hb2 hnew
      go_wp2_with fail
      go_region_with (first | (go_at_call 134; refine HU.out.mono ?_; rintro e w3 ⟨rfl, hf3, ho3⟩))
      all_goals
        have HO3 := Lib.hid ((Only.of_below HB2d.out).trans (ztw_f ho3))
        have HH3 : Hid (ZtAt w3 z { s with F := F1 }) := Lib.hid ((ZAt.below HH.out HB2d.out).fr' ho3 (by rw [← HF1.out]; exact hf3))
        obtain ⟨c0, -, -, -, -, ltb3⟩ := HH3.out.cells
        have HW := Lib.hid (fun wx (hx : Below w3.heap.size w3 wx) => mr_write s.M z.mb s.n z.mv tw 0 wx (ZAt.below HH3.out hx).mem)
        have HWX : Hid (∀ wx, Below w3.heap.size w3 wx → Calls Tryd.prog 119 #[.pointer (some ⟨z.zb, 0, none⟩), .int .i64 (j : Int)] wx fun y w' => y = .returned (.int .i64 tw) ∧ wx = w') := Lib.hid fun wx hx => HWD.out wx F1 (ZAt.below HH3.out hx)
        clear hf3 ho3 c1 ce0
        go_wp2_with fail
        go_region_with (first | (go_at_call 119; refine (HWX.out _ (by first | exact (Below.refl _ _).drew | exact Below.refl _ _)).mono ?_; rintro e wz ⟨rfl, rfl⟩) | (go_at_call 82; refine (HW.out _ (by first | exact (Below.refl _ _).drew | exact Below.refl _ _)).mono ?_; rintro e w4 ⟨rfl, hm4, ho4⟩))
        all_goals
          have HO4 : Hid (Only z.zw w w4) := Lib.hid (by first | exact HO3.out.trans ((Only.refl _ _).drew.trans (ztw_m ho4)) | exact HO3.out.trans (ztw_m ho4))
          have HH4 : Hid (ZtAt w4 z { s with F := F1, M := writeL s.M tw 0 }) := Lib.hid (by first | exact (ZAt.below HH3.out (Below.refl _ _).drew).mem' ho4 hm4 | exact ZAt.mem' HH3.out ho4 hm4)
          clear hm4 ho4
          go_wp2
          go_ret
          exact ⟨rfl, HH4.out, HO4.out⟩
    · have HU := Lib.hid (runwrite_any s.F z.fb z.fg s.n ef _ HFB.out (ZAt.below HH.out HB2d.out).fr)
      clear hb2 hnew
      go_wp2_with fail
      go_region_with (first | (go_at_call 133; refine HU.out.mono ?_; rintro e w3 ⟨rfl, hf3, ho3⟩))
      all_goals
        have HO3 := Lib.hid ((Only.of_below HB2d.out).trans (ztw_f ho3))
        have HH3 : Hid (ZtAt w3 z { s with F := F1 }) := Lib.hid ((ZAt.below HH.out HB2d.out).fr' ho3 (by rw [← HF1.out]; exact hf3))
        obtain ⟨c0, -, -, -, -, ltb3⟩ := HH3.out.cells
        have HW := Lib.hid (fun wx (hx : Below w3.heap.size w3 wx) => mr_write s.M z.mb s.n z.mv tw 0 wx (ZAt.below HH3.out hx).mem)
        have HWX : Hid (∀ wx, Below w3.heap.size w3 wx → Calls Tryd.prog 119 #[.pointer (some ⟨z.zb, 0, none⟩), .int .i64 (j : Int)] wx fun y w' => y = .returned (.int .i64 tw) ∧ wx = w') := Lib.hid fun wx hx => HWD.out wx F1 (ZAt.below HH3.out hx)
        clear hf3 ho3 c1 ce0
        go_wp2_with fail
        go_region_with (first | (go_at_call 119; refine (HWX.out _ (by first | exact (Below.refl _ _).drew | exact Below.refl _ _)).mono ?_; rintro e wz ⟨rfl, rfl⟩) | (go_at_call 82; refine (HW.out _ (by first | exact (Below.refl _ _).drew | exact Below.refl _ _)).mono ?_; rintro e w4 ⟨rfl, hm4, ho4⟩))
        all_goals
          have HO4 : Hid (Only z.zw w w4) := Lib.hid (by first | exact HO3.out.trans ((Only.refl _ _).drew.trans (ztw_m ho4)) | exact HO3.out.trans (ztw_m ho4))
          have HH4 : Hid (ZtAt w4 z { s with F := F1, M := writeL s.M tw 0 }) := Lib.hid (by first | exact (ZAt.below HH3.out (Below.refl _ _).drew).mem' ho4 hm4 | exact ZAt.mem' HH3.out ho4 hm4)
          clear hm4 ho4
          go_wp2
          go_ret
          exact ⟨rfl, HH4.out, HO4.out⟩
  · have HR : Hid (tDrop s (j : Int) = (s, 0)) := Lib.hid (by unfold tDrop; rw [if_pos hp, if_neg ht])
    rw [HR.out]
    have HH := Lib.hid h
    obtain ⟨⟨ef, et, ew, eu⟩, he⟩ : ∃ e, tEnt s (j : Int) = e := ⟨_, rfl⟩
    rw [he] at HEN ht
    unfold Ent.v at HEN
    dsimp only at HEN ht
    obtain rfl : et = false := by simpa using ht
    clear h hi hp he ht HR hj hm
    go_enter Tryd.func116, Tryd.ntmps116
    go_wp2_with fail
    refine HEN.out.mono ?_
    rintro y w2 ⟨rfl, hb2⟩
    have HB2 := Lib.hid (hb2.alloc hb2.size (.cells #[.int .i64 ef, .bool false, .bool ew, .bool eu] 42))
    clear hb2
    go_wp2
    go_ret
    exact ⟨rfl, ZAt.below HH.out HB2.out, Only.of_below HB2.out⟩
theorem zdrop_any (z : Zl) (s : Ts) (m : Int) (page : Int) (w : World) (h : ZtAt w z s) (hi : TInv m s) (hm : m ≤ 1000000) :
    Calls Tryd.prog 116 #[.pointer (some ⟨z.zb, 0, none⟩), .int .i64 page] w (ZtQ z (tDrop s page) w) := by
  cases hp : isPage page with
  | false => exact zdrop_out z s page w h hp
  | true =>
    obtain ⟨j, rfl, h1, h2, h3⟩ := page_nat hp
    exact zdrop_in z s m j w h hi hm hp h1 h2 h3
end Go.Proofs.YtnhocmmgdkiepaaDoor

/-
  queue.Queue: its cells; Len, Clear, All, Put.
-/
namespace Go.Proofs.YtnhocmmgdkiepaaDoor
open Go.RowKit

structure Up where
  page : Int
  word : Int
deriving Inhabited
def upOne (u : Up) : List Value := [.int .i64 u.page, .int .u32 u.word]
theorem upOne_len (u : Up) : (upOne u).length = 2 := rfl
def upCells (l : List Up) : List Value := l.flatMap upOne
def QuAt (w : World) (b : Nat) (v : Value) (l : List Up) : Prop := w.heap[b]? = some (.cells #[v] 53 (0, 0)) ∧ w.ownsRow 0 48 2 v l.length (upCells l)
theorem QuAt.not {w : World} {b : Nat} {v : Value} {l : List Up} (h : QuAt w b v l) : ¬ inRow v b := own_not h.2 h.1 (by decide)
theorem QuAt.cell {w : World} {b : Nat} {v : Value} {l : List Up} (h : QuAt w b v l) : w.cell? ⟨b, 0, none⟩ = some v := blk_cell h.1 0
theorem QuAt.below {w w' : World} {b : Nat} {v : Value} {l : List Up} (h : QuAt w b v l) (hb : Below w.heap.size w w') : QuAt w' b v l :=
  ⟨by rw [hb.block b (blk_lt h.1)]; exact h.1, own_frame h.2 fun k hk => hb.block k (own_lt h.2 hk)⟩
theorem QuAt.only {F : Nat → Prop} {w w' : World} {b : Nat} {v : Value} {l : List Up} (h : QuAt w b v l) (ho : Only F w w') (h1 : ¬ F b) (h2 : ∀ k, inRow v k → ¬ F k) : QuAt w' b v l :=
  ⟨ho.blk h.1 h1, own_only h.2 ho h2⟩
theorem QuAt.slice {w : World} {b : Nat} {v : Value} {l : List Up} (h : QuAt w b v l) : ∃ ao cap, v = .slice ao l.length cap := own_slice h.2
theorem QuAt.new (w : World) : QuAt (w.alloc (.cells #[.slice none 0 0] 53)) w.heap.size (.slice none 0 0) [] := ⟨blk_new _ _, own_nil _ _ _⟩

set_option maxHeartbeats 800000 in
theorem qlen_any (l : List Up) (b : Nat) (v : Value) (w : World) (h : QuAt w b v l) :
    Calls Tryd.prog 30 #[.pointer (some ⟨b, 0, none⟩)] w fun e w' => e = .returned (.int .i64 l.length) ∧ w = w' := by
  have c := h.cell
  obtain ⟨ao, cap, rfl⟩ := h.slice
  clear h
  go_enter Tryd.func30, Tryd.ntmps30
  go_wp2
  go_ret
  exact ⟨rfl, rfl⟩
set_option maxHeartbeats 800000 in
theorem qclear_any (l : List Up) (b : Nat) (v : Value) (w : World) (h : QuAt w b v l) :
    Calls Tryd.prog 29 #[.pointer (some ⟨b, 0, none⟩)] w fun e w' => e = .returned (.tuple #[]) ∧ QuAt w' b (.slice none 0 0) [] ∧ Only (fun k => k = b) w w' := by
  have c := h.cell
  have f := blk_free h.1 0
  have HF : Hid (QuAt (w.setCell ⟨b, 0, none⟩ (.slice none 0 0)) b (.slice none 0 0) [] ∧ Only (fun k => k = b) w (w.setCell ⟨b, 0, none⟩ (.slice none 0 0))) := Lib.hid ⟨⟨blk_put h.1 0 _, own_nil _ _ _⟩, Only.setCell (F := fun k => k = b) (Only.refl _ _) (p := ⟨b, 0, none⟩) (.inl rfl) _⟩
  clear h
  go_enter Tryd.func29, Tryd.ntmps29
  go_wp2
  go_end0
  exact ⟨rfl, HF.out⟩
theorem infoUp : (Tryd.prog.info? 48).map (fun i => (i.zero, i.size, i.bytes)) = some (some (.agg #[.int .i64 0, .int .u32 0]), 2, 16) := by kernel_rfl

set_option maxRecDepth 100000 in
set_option maxHeartbeats 3200000 in
theorem qput_ok (l : List Up) (b : Nat) (v : Value) (x y : Int) (w : World) (h : QuAt w b v l) (hl : l.length < 16) :
    Calls Tryd.prog 28 #[.pointer (some ⟨b, 0, none⟩), .agg #[.int .i64 x, .int .u32 y]] w fun e w' => e = .returned .nilIface ∧ ∃ v', QuAt w' b v' (l ++ [⟨x, y⟩]) ∧ Only (fun k => k = b ∨ inRow v k) w w' ∧ ∀ k, inRow v' k → inRow v k ∨ w.heap.size ≤ k := by
  obtain ⟨i0, hi, hz0, hz1, hz2⟩ := info_parts infoUp
  have hb0 : Below w.heap.size w (w.alloc (.cells #[.int .i64 x, .int .u32 y] 48)) := (Below.refl _ _).alloc (Nat.le_refl _) _
  have h1 := h.below hb0
  have c := h1.cell
  have lb := blk_lt h1.1
  have lb0 := blk_lt h.1
  have lb2 : b < w.heap.size + 1 := by omega
  have HP := Lib.hid h
  have HNB := Lib.hid h.not
  obtain ⟨ao, cap, rfl⟩ := h.slice
  have hl2 : ¬ (16 : Int) ≤ (l.length : Int) := by omega
  have hnew := blk_new w (.cells #[.int .i64 x, .int .u32 y] 48)
  have x0 := blk_cell hnew 0
  have x1 := blk_cell hnew 1
  have HNEW : Hid (∀ (W : World) (T : TypeId) (j : Nat) (u : Value), ([.int .i64 x, .int .u32 y] : List Value)[j]? = some u → (W.alloc (.cells #[.int .i64 x, .int .u32 y] T)).cell? ((⟨W.heap.size, 0, none⟩ : Addr).add j) = some u) := Lib.hid fun W T j u hj => by
    rw [Addr.add_lit, blk_cell (blk_new W (.cells #[.int .i64 x, .int .u32 y] T)), Nat.zero_add]
    simpa using hj
  have HONE : Hid (∀ u ∈ ([.int .i64 x, .int .u32 y] : List Value), u.oneCell' = true) := Lib.hid fun u hu => by
    simp only [List.mem_cons, List.not_mem_nil, or_false] at hu
    rcases hu with rfl | rfl <;> rfl
  have HOA : Hid (∀ X, ((w.alloc (.cells #[.int .i64 x, .int .u32 y] 48)).drew.alloc X).ownsRow 0 48 2 (.slice ao l.length cap) l.length (upCells l)) := Lib.hid fun X => (show (w.alloc _).drew.ownsRow _ _ _ _ _ _ from h1.2).alloc X
  have HRW : Hid (∀ X, ((w.alloc (.cells #[.int .i64 x, .int .u32 y] 48)).drew.alloc X).heap[b]? = some (.cells #[.slice ao l.length cap] 53 (0, 0))) := Lib.hid fun X => blk_old (show (w.alloc _).drew.heap[b]? = _ from h1.1) X
  have HO0 : Hid (∀ X, Only (fun k => k = b ∨ inRow (.slice ao l.length cap) k) w ((w.alloc (.cells #[.int .i64 x, .int .u32 y] 48)).drew.alloc X)) := Lib.hid fun X => (Only.of_below hb0).drew.alloc' X
  have HOA2 : Hid (∀ X, ((w.alloc (.cells #[.int .i64 x, .int .u32 y] 48)).alloc X).ownsRow 0 48 2 (.slice ao l.length cap) l.length (upCells l)) := Lib.hid fun X => h1.2.alloc X
  have HRW2 : Hid (∀ X, ((w.alloc (.cells #[.int .i64 x, .int .u32 y] 48)).alloc X).heap[b]? = some (.cells #[.slice ao l.length cap] 53 (0, 0))) := Lib.hid fun X => blk_old h1.1 X
  have HNW1 : Hid (∀ (j : Nat) (u : Value), ([.int .i64 x, .int .u32 y] : List Value)[j]? = some u → ((w.alloc (.cells #[.int .i64 x, .int .u32 y] 48)).drew.alloc (.cells #[.int .i64 x, .int .u32 y] 48)).cell? ((⟨w.heap.size + 1, 0, none⟩ : Addr).add j) = some u) := Lib.hid fun j u hj => by
    have := HNEW.out (w.alloc (.cells #[.int .i64 x, .int .u32 y] 48)).drew 48 j u hj
    rwa [show (w.alloc (.cells #[.int .i64 x, .int .u32 y] 48)).drew.heap.size = w.heap.size + 1 by simp] at this
  have HNW2 : Hid (∀ (j : Nat) (u : Value), ([.int .i64 x, .int .u32 y] : List Value)[j]? = some u → ((w.alloc (.cells #[.int .i64 x, .int .u32 y] 48)).alloc (.cells #[.int .i64 x, .int .u32 y] 48)).cell? ((⟨w.heap.size + 1, 0, none⟩ : Addr).add j) = some u) := Lib.hid fun j u hj => by
    have := HNEW.out (w.alloc (.cells #[.int .i64 x, .int .u32 y] 48)) 48 j u hj
    rwa [show (w.alloc (.cells #[.int .i64 x, .int .u32 y] 48)).heap.size = w.heap.size + 1 by simp] at this
  have HO02 : Hid (∀ X, Only (fun k => k = b ∨ inRow (.slice ao l.length cap) k) w ((w.alloc (.cells #[.int .i64 x, .int .u32 y] 48)).alloc X)) := Lib.hid fun X => (Only.of_below hb0).alloc' X
  have HE1 : Hid (upCells l ++ [.int .i64 x, .int .u32 y] = upCells (l ++ [⟨x, y⟩])) := Lib.hid (by unfold upCells; rw [List.flatMap_append]; rfl)
  clear h h1 hb0 hnew
  go_enter Tryd.func28, Tryd.ntmps28
  go_wp2_with fail
  go_region_law ((refine step_append_lies _ (by rfl) _ _ _ (by rfl) 0 48 i0 (.agg #[.int .i64 0, .int .u32 0]) 2 16 Tryd.underlying51 hi hz0 hz1 hz2 rfl (by decide) (.slice ao l.length cap) l.length (upCells l) (by rfl) (by first | exact HOA.out _ | exact HOA2.out _) ⟨w.heap.size + 1, 0, none⟩ 1 1 [.int .i64 x, .int .u32 y] (by rfl) rfl (by first | exact HNW1.out | exact HNW2.out) HONE.out (by decide) (by unfold maxLen; omega) (by omega) (Nat.zero_le _) _ rfl ?_; intro g cap2 w1 hown1 hgrow hat hlt1; have hrw := blk_grown (by first | exact HRW.out _ | exact HRW2.out _) hgrow HNB.out; have cz := blk_cell hrw 0; have fz := blk_free hrw 0))
  all_goals
    have HF : Hid (QuAt (w1.setCell ⟨b, 0, none⟩ (.slice (some ⟨g, 0, none⟩) (l.length + 1) cap2)) b (.slice (some ⟨g, 0, none⟩) (l.length + 1) cap2) (l ++ [⟨x, y⟩]) ∧ Only (fun k => k = b ∨ inRow (.slice ao l.length cap) k) w (w1.setCell ⟨b, 0, none⟩ (.slice (some ⟨g, 0, none⟩) (l.length + 1) cap2)) ∧ ∀ k, inRow (.slice (some ⟨g, 0, none⟩) (l.length + 1) cap2) k → inRow (.slice ao l.length cap) k ∨ w.heap.size ≤ k) := Lib.hid ⟨⟨by have := blk_put hrw 0 (.slice (some ⟨g, 0, none⟩) (l.length + 1) cap2); exact this, by
        rw [HE1.out] at hown1
        rw [List.length_append]
        exact own_set hown1 hrw (by decide) 0 _⟩,
      Only.setCell (F := fun k => k = b ∨ inRow (.slice ao l.length cap) k) (Only.grown (by first | exact HO0.out _ | exact HO02.out _) hgrow (fun k hk => .inl (.inr hk))) (p := ⟨b, 0, none⟩) (.inl (.inl rfl)) _, fun k hk => by
        have hk' : g = k := by simpa [inRow, Value.ownBlock] using hk
        subst hk'
        rcases hat with h | h
        · exact .inl h
        · have h' := h
          try simp only [World.size_alloc] at h'
          exact .inr (by simp at h'; omega)⟩
    clear hown1 hgrow hat hlt1 hrw cz fz
    go_wp2
    go_ret
    exact ⟨rfl, _, HF.out⟩
end Go.Proofs.YtnhocmmgdkiepaaDoor

