/-
  Parts of one proof, one behind the other.
-/
import Derived.Test.YtaoaachgnnengaaDoorMg742783f498
import Derived.Test.YtaoaachgnnengaaDoorMg8cf07c6ba3
import Derived.BigQuiet
import Derived.Deep.DeepCutAuto
/-
  TablesSafe: plain laws: each frame's writers and uses are as many as the entries that name it.
-/
namespace Go.Proofs.YtaoaachgnnengaaDoor
open Go.RowKit

/-- an entry that names frame k so -/
def entIs (e : Ent) (b : Bool) (k : Int) : Nat := if e.t = true ∧ e.w = b ∧ e.f = k then 1 else 0
/-- how many of the first n pages name frame k so -/
def cntN (f : Int → Ent) (b : Bool) (k : Int) : Nat → Nat
  | 0 => 0
  | n + 1 => cntN f b k n + entIs (f (n : Int)) b k
theorem cntN_out (f g : Int → Ent) (b : Bool) (k page : Int) (e : Ent) (hg : ∀ p, g p = if p = page then e else f p) : ∀ n : Nat, (n : Int) ≤ page → cntN g b k n = cntN f b k n
  | 0, _ => rfl
  | n + 1, h => by
    unfold cntN
    rw [cntN_out f g b k page e hg n (by omega), hg, if_neg (by omega)]
theorem cntN_set (f g : Int → Ent) (b : Bool) (k page : Int) (e : Ent) (hg : ∀ p, g p = if p = page then e else f p) (h0 : 0 ≤ page) : ∀ n : Nat, page < (n : Int) → cntN g b k n + entIs (f page) b k = cntN f b k n + entIs e b k
  | 0, h => absurd h (by omega)
  | n + 1, h => by
    unfold cntN
    by_cases hp : (n : Int) = page
    · rw [cntN_out f g b k page e hg n (by omega), hg, if_pos hp, hp]
      omega
    · have := cntN_set f g b k page e hg h0 n (by omega)
      rw [hg, if_neg hp]
      omega
theorem cntN_pos (f : Int → Ent) (b : Bool) (k page : Int) (h0 : 0 ≤ page) : ∀ n : Nat, page < (n : Int) → entIs (f page) b k ≤ cntN f b k n
  | 0, h => absurd h (by omega)
  | n + 1, h => by
    unfold cntN
    by_cases hp : (n : Int) = page
    · rw [hp]; omega
    · have := cntN_pos f b k page h0 n (by omega)
      omega
theorem cntN_ext (f g : Int → Ent) (b : Bool) (k : Int) (h : ∀ p, f p = g p) : ∀ n, cntN f b k n = cntN g b k n
  | 0 => rfl
  | n + 1 => by unfold cntN; rw [cntN_ext f g b k h n, h]
theorem cntN_zero (f : Int → Ent) (b : Bool) (k : Int) (h : ∀ p : Nat, p < 256 → entIs (f (p : Int)) b k = 0) : ∀ n, n ≤ 256 → cntN f b k n = 0
  | 0, _ => rfl
  | n + 1, hn => by unfold cntN; rw [cntN_zero f b k h n (by omega), h n (by omega)]
theorem entIs_z (b : Bool) (k : Int) : entIs Ent.z b k = 0 := rfl
theorem entIs_le (e : Ent) (b : Bool) (k : Int) : entIs e b k ≤ 1 := by unfold entIs; split <;> omega

/-- how a frame is counted, and how much more -/
def TCnt (S : Ts) (off : Bool → Int → Int) : Prop := ∀ k : Nat, k < S.n → (S.F.getD k default).wr = (cntN (tEnt S) true (k : Int) 256 : Int) + off true (k : Int) ∧ (S.F.getD k default).us = (cntN (tEnt S) false (k : Int) 256 : Int) + off false (k : Int) + (if (S.F.getD k default).kind ≠ 0 then 1 else 0)
structure TSafe (m : Int) (S : Ts) : Prop where
  inv : TInv m S
  own : frOwns S.who
  ent : ∀ p, (tEnt S p).t = true → (tEnt S p).u = true ∧ 0 ≤ (tEnt S p).f ∧ (tEnt S p).f < (S.n : Int) ∧ (S.F.getD (tEnt S p).f.toNat default).owner = S.who ∧ ((tEnt S p).w = true → (S.F.getD (tEnt S p).f.toNat default).kind = 0)
  cnt : TCnt S fun _ _ => 0

theorem frThere_get (l : List Fr) (i : Int) (k : Fr → Fr × Int) (n : Nat) (h : frAt l i = some n) (j : Nat) : (frThere l i k).l.getD j default = if j = n then (k (l.getD n default)).1 else l.getD j default := by
  obtain ⟨-, hn, -⟩ := frAt_some h
  unfold frThere
  rw [h]
  exact fr_setD _ _ _ _ hn
theorem frAt_is (l : List Fr) (n : Nat) (hn : n < l.length) (ho : (l.getD n default).owner ≠ -1) : frAt l (n : Int) = some n := by
  unfold frAt
  rw [if_pos ⟨by omega, by omega, by rw [Int.toNat_natCast]; exact ho⟩, Int.toNat_natCast]
theorem kUnwrite_us (x : Fr) : (kUnwrite x).1.us = x.us ∧ (kUnwrite x).1.kind = x.kind := by unfold kUnwrite; split <;> exact ⟨rfl, rfl⟩
theorem kUnuse_wr (x : Fr) : (kUnuse x).1.wr = x.wr ∧ (kUnuse x).1.kind = x.kind := by unfold kUnuse; split <;> exact ⟨rfl, rfl⟩
theorem tDrop_cnt {m : Int} {S : Ts} (h : TInv m S) (page : Int) (hp : isPage page = true) (off : Bool → Int → Int) (hoff : ∀ b k, 0 ≤ off b k)
    (he : (tEnt S page).t = true → 0 ≤ (tEnt S page).f ∧ (tEnt S page).f < (S.n : Int) ∧ (S.F.getD (tEnt S page).f.toNat default).owner ≠ -1) (hc : TCnt S off) : TCnt (tDrop S page).1 off := by
  have hpg : 0 ≤ page ∧ page < 256 := by simpa [isPage] using hp
  intro k hk
  have hk' : k < S.n := by rw [(tDrop_P S page).2.1] at hk; exact hk
  have hset := fun b => cntN_set (tEnt S) (tEnt (tDrop S page).1) b (k : Int) page Ent.z (fun p => tEnt_drop h page hp p) hpg.1 256 hpg.2
  have h1 := hset true
  have h2 := hset false
  rw [entIs_z] at h1 h2
  obtain ⟨c1, c2⟩ := hc k hk'
  by_cases ht : (tEnt S page).t = true
  · obtain ⟨f0, f1, fo⟩ := he ht
    obtain ⟨n, hn⟩ : ∃ n : Nat, (tEnt S page).f = (n : Int) := ⟨(tEnt S page).f.toNat, by omega⟩
    rw [hn, Int.toNat_natCast] at fo
    have hat := frAt_is S.F n (by rw [h.lf]; omega) fo
    have hF : (tDrop S page).1.F = tDropF S page := by unfold tDrop; rw [if_pos hp, if_pos ht]
    rw [hF]
    unfold tDropF
    rw [hn]
    cases hw : (tEnt S page).w with
    | true =>
      rw [if_pos rfl, frThere_get _ _ _ n hat]
      have e2 : entIs (tEnt S page) false (k : Int) = 0 := by unfold entIs; rw [if_neg (by rw [hw]; simp)]
      by_cases hkn : k = n
      · subst hkn
        have e1 : entIs (tEnt S page) true (k : Int) = 1 := by unfold entIs; rw [if_pos ⟨ht, hw, hn⟩]
        rw [if_pos rfl]
        obtain ⟨q1, q2⟩ := kUnwrite_us (S.F.getD k default)
        have hpos := cntN_pos (tEnt S) true (k : Int) page hpg.1 256 hpg.2
        have ho := hoff true (k : Int)
        have q3 : (kUnwrite (S.F.getD k default)).1.wr = (S.F.getD k default).wr - 1 := by
          unfold kUnwrite
          rw [if_neg (by omega)]
        rw [q1, q2, q3]
        exact ⟨by omega, by omega⟩
      · have e1 : entIs (tEnt S page) true (k : Int) = 0 := by unfold entIs; rw [if_neg (by rw [hn]; omega)]
        rw [if_neg hkn]
        exact ⟨by omega, by omega⟩
    | false =>
      rw [if_neg (by simp), frThere_get _ _ _ n hat]
      have e2 : entIs (tEnt S page) true (k : Int) = 0 := by unfold entIs; rw [if_neg (by rw [hw]; simp)]
      by_cases hkn : k = n
      · subst hkn
        have e1 : entIs (tEnt S page) false (k : Int) = 1 := by unfold entIs; rw [if_pos ⟨ht, hw, hn⟩]
        rw [if_pos rfl]
        obtain ⟨q1, q2⟩ := kUnuse_wr (S.F.getD k default)
        have hpos := cntN_pos (tEnt S) false (k : Int) page hpg.1 256 hpg.2
        have ho := hoff false (k : Int)
        have hkd : (0 : Int) ≤ (if (S.F.getD k default).kind ≠ 0 then 1 else 0) := by split <;> omega
        have q3 : (kUnuse (S.F.getD k default)).1.us = (S.F.getD k default).us - 1 := by
          unfold kUnuse
          rw [if_neg (by omega)]
        rw [q1, q2, q3]
        exact ⟨by omega, by omega⟩
      · have e1 : entIs (tEnt S page) false (k : Int) = 0 := by unfold entIs; rw [if_neg (by rw [hn]; omega)]
        rw [if_neg hkn]
        exact ⟨by omega, by omega⟩
  · have hS : (tDrop S page).1 = S := by unfold tDrop; rw [if_pos hp, if_neg ht]
    rw [hS]
    exact ⟨c1, c2⟩
theorem okF_parts {F F' : List Fr} {j : Nat} (h : okF F' j = okF F j) : (F'.getD j default).owner = (F.getD j default).owner ∧ (F'.getD j default).kind = (F.getD j default).kind := Prod.mk.inj h
theorem tDrop_safe {m : Int} {S : Ts} (h : TSafe m S) (page : Int) : TSafe (m + 1) (tDrop S page).1 := by
  by_cases hp : isPage page = true
  · obtain ⟨p1, p2, p3⟩ := tDrop_P S page
    refine ⟨tDrop_inv h.inv page, by rw [p3]; exact h.own, fun p ht => ?_, tDrop_cnt h.inv page hp _ (fun _ _ => Int.le_refl 0) (fun ht => ?_) h.cnt⟩
    · rw [tEnt_drop h.inv page hp p] at ht ⊢
      by_cases e : p = page
      · rw [if_pos e] at ht
        cases ht
      · rw [if_neg e] at ht ⊢
        obtain ⟨a1, a2, a3, a4, a5⟩ := h.ent p ht
        obtain ⟨o1, o2⟩ := okF_parts (tDrop_ok S page (tEnt S p).f.toNat)
        rw [p2, p3, o1, o2]
        exact ⟨a1, a2, a3, a4, a5⟩
    · obtain ⟨a1, a2, a3, a4, a5⟩ := h.ent page ht
      exact ⟨a2, a3, by rw [a4]; exact frOwns_ne h.own⟩
  · have hS : (tDrop S page).1 = S := by unfold tDrop; rw [if_neg hp]
    rw [hS]
    exact ⟨h.inv.mono, h.own, h.ent, h.cnt⟩
theorem tSet_safe {m : Int} {S : Ts} (h : TSafe m S) (page : Int) (hp : isPage page = true) (g : Nat) (hg : g < S.n) (ho : (S.F.getD g default).owner = S.who) (w : Bool) : TSafe (m + 1 + 1) (tSet S page (g : Int) w).1 := by
  by_cases hc : (tSetR S (g : Int) w).c = 0
  · have hpg : 0 ≤ page ∧ page < 256 := by simpa [isPage] using hp
    have hn1 := h.inv.n1
    have hlf := h.inv.lf
    have hon : (S.F.getD g default).owner ≠ -1 := by rw [ho]; exact frOwns_ne h.own
    have hat := frAt_is S.F g (by omega) hon
    obtain ⟨p1, p2, p3⟩ := tSet_P S page (g : Int) w
    have hE := tEnt_set h.inv page (g : Int) w hp hc (by omega)
    have hkd : w = true → (S.F.getD g default).kind = 0 := fun hw => by
      subst hw
      unfold tSetR frThere at hc
      rw [hat] at hc
      dsimp only at hc
      rw [if_pos rfl] at hc
      unfold kWrite at hc
      by_cases hk : (S.F.getD g default).kind ≠ 0
      · rw [if_pos hk] at hc
        exact absurd hc (show ¬ ((111 : Int) = 0) by decide)
      · exact Classical.not_not.1 hk
    have hI1 := tSetR_inv h.inv (g : Int) w
    have hget : ∀ j, (tSetR S (g : Int) w).l.getD j default = if j = g then ⟨(S.F.getD g default).owner, (S.F.getD g default).kind, (S.F.getD g default).wr + (if w = true then 1 else 0), (S.F.getD g default).us + (if w = true then 0 else 1)⟩ else S.F.getD j default := fun j => by
      unfold tSetR
      rw [frThere_get _ _ _ g hat]
      by_cases hj : j = g
      · rw [if_pos hj, if_pos hj]
        cases w
        · show (⟨_, _, (S.F.getD g default).wr, (S.F.getD g default).us + 1⟩ : Fr) = ⟨_, _, (S.F.getD g default).wr + 0, (S.F.getD g default).us + 1⟩
          rw [Int.add_zero]
        · show (kWrite (S.F.getD g default)).1 = ⟨_, _, (S.F.getD g default).wr + 1, (S.F.getD g default).us + 0⟩
          unfold kWrite
          rw [if_neg (fun hk => hk (hkd rfl)), Int.add_zero]
      · rw [if_neg hj, if_neg hj]
    have hc1 : TCnt { S with F := (tSetR S (g : Int) w).l } fun b k => if b = w ∧ k = (g : Int) then 1 else 0 := fun k hk => by
      obtain ⟨c1, c2⟩ := h.cnt k hk
      dsimp only at c1 c2
      show ((tSetR S (g : Int) w).l.getD k default).wr = (cntN (tEnt S) true (k : Int) 256 : Int) + (if true = w ∧ (k : Int) = (g : Int) then 1 else 0) ∧ ((tSetR S (g : Int) w).l.getD k default).us = (cntN (tEnt S) false (k : Int) 256 : Int) + (if false = w ∧ (k : Int) = (g : Int) then 1 else 0) + (if ((tSetR S (g : Int) w).l.getD k default).kind ≠ 0 then 1 else 0)
      rw [hget k]
      by_cases hk : k = g
      · subst hk
        rw [if_pos (show k = k from rfl)]
        have e1 : (if true = w ∧ (k : Int) = (k : Int) then (1 : Int) else 0) = if w = true then 1 else 0 := by cases w <;> simp
        have e2 : (if false = w ∧ (k : Int) = (k : Int) then (1 : Int) else 0) = if w = true then 0 else 1 := by cases w <;> simp
        rw [e1, e2]
        dsimp only
        exact ⟨by omega, by omega⟩
      · have hkg : ¬ ((k : Int) = (g : Int)) := by omega
        rw [if_neg hk, if_neg (fun h => hkg h.2), if_neg (fun h => hkg h.2)]
        exact ⟨by omega, by omega⟩
    have hc2 := tDrop_cnt hI1 page hp _ (fun b k => by split <;> omega) (fun ht => by
      obtain ⟨a1, a2, a3, a4, a5⟩ := h.ent page ht
      refine ⟨a2, a3, ?_⟩
      show ((tSetR S (g : Int) w).l.getD (tEnt S page).f.toNat default).owner ≠ -1
      rw [(okF_parts (tSetR_ok S (g : Int) w _)).1, a4]
      exact frOwns_ne h.own) hc1
    refine ⟨tSet_inv h.inv page _ w hp, by rw [p3]; exact h.own, fun p ht => ?_, fun k hk => ?_⟩
    · rw [hE p] at ht ⊢
      by_cases e : p = page
      · rw [if_pos e]
        obtain ⟨o1, o2⟩ := okF_parts (tSet_ok S page (g : Int) w g)
        rw [p2, p3]
        dsimp only
        rw [Int.toNat_natCast, o1, o2]
        exact ⟨rfl, by omega, by omega, ho, hkd⟩
      · rw [if_neg e] at ht ⊢
        obtain ⟨a1, a2, a3, a4, a5⟩ := h.ent p ht
        obtain ⟨o1, o2⟩ := okF_parts (tSet_ok S page (g : Int) w (tEnt S p).f.toNat)
        rw [p2, p3, o1, o2]
        exact ⟨a1, a2, a3, a4, a5⟩
    · have hk' : k < S.n := by rw [p2] at hk; exact hk
      have hF : (tSet S page (g : Int) w).1.F = (tDrop { S with F := (tSetR S (g : Int) w).l } page).1.F := by unfold tSet; rw [if_pos hc]
      rw [hF]
      obtain ⟨c1, c2⟩ := hc2 k (by rw [(tDrop_P { S with F := (tSetR S (g : Int) w).l } page).2.1]; exact hk')
      have s1 := fun b => cntN_set (tEnt S) (tEnt (tDrop { S with F := (tSetR S (g : Int) w).l } page).1) b (k : Int) page Ent.z (fun p => tEnt_drop hI1 page hp p) hpg.1 256 hpg.2
      have s2 := fun b => cntN_set (tEnt S) (tEnt (tSet S page (g : Int) w).1) b (k : Int) page ⟨(g : Int), true, w, true⟩ hE hpg.1 256 hpg.2
      have t1 := s1 true
      have t2 := s1 false
      have u1 := s2 true
      have u2 := s2 false
      rw [entIs_z] at t1 t2
      have v : ∀ b, (entIs ⟨(g : Int), true, w, true⟩ b (k : Int) : Int) = if b = w ∧ (k : Int) = (g : Int) then 1 else 0 := fun b => by
        unfold entIs
        by_cases hb : b = w ∧ (k : Int) = (g : Int)
        · rw [if_pos hb, if_pos ⟨rfl, hb.1.symm, hb.2.symm⟩]; rfl
        · rw [if_neg hb, if_neg (fun hh => hb ⟨hh.2.1.symm, hh.2.2.symm⟩)]; rfl
      dsimp only at c1 c2
      dsimp only
      rw [← v true] at c1
      rw [← v false] at c2
      exact ⟨by omega, by omega⟩
  · have hS : (tSet S page (g : Int) w).1 = S := by unfold tSet; rw [if_neg hc]
    rw [hS]
    exact ⟨h.inv.mono.mono, h.own, h.ent, h.cnt⟩
theorem TSafe.mono {m : Int} {S : Ts} (h : TSafe m S) : TSafe (m + 1) S := ⟨h.inv.mono, h.own, h.ent, h.cnt⟩
theorem tPut_safe {m : Int} {S : Ts} (h : TSafe m S) (page : Int) (e : Ent) : TSafe (m + 1 + 1) (tPut S page e).1 := by
  unfold tPut
  by_cases hp : isPage page = true
  · rw [if_pos hp]
    by_cases ht : e.t = true
    · rw [if_pos ht]
      by_cases hf : 0 ≤ e.f ∧ e.f < (S.P.length : Int)
      · rw [if_pos hf]
        by_cases ho : (S.F.getD (S.P.getD e.f.toNat 0).toNat default).owner = S.who
        · rw [if_pos ho]
          have hpin := h.inv.pin e.f.toNat (by omega)
          obtain ⟨g, hg⟩ : ∃ g : Nat, S.P.getD e.f.toNat 0 = (g : Int) := ⟨(S.P.getD e.f.toNat 0).toNat, by omega⟩
          rw [hg] at ho hpin ⊢
          rw [Int.toNat_natCast] at ho
          exact tSet_safe h page hp g (by omega) ho e.w
        · rw [if_neg ho]; exact h.mono.mono
      · rw [if_neg hf]; exact h.mono.mono
    · rw [if_neg ht]
      by_cases hz : e.f = 0 ∧ e.w = false ∧ e.u = false
      · rw [if_pos hz]; exact (tDrop_safe h page).mono
      · rw [if_neg hz]; exact h.mono.mono
  · rw [if_neg hp]; exact h.mono.mono
theorem tAdd_safe {m : Int} {S : Ts} (h : TSafe m S) : TSafe (m + 1) (tAdd S).1 := by
  have hinv := tAdd_inv h.inv (frOwns_ne h.own)
  have hE := tEnt_add h.inv
  unfold tAdd at hinv hE ⊢
  by_cases hl : 512 ≤ S.P.length
  · rw [if_pos hl]; exact h.mono
  · rw [if_neg hl] at hinv hE ⊢
    by_cases hc : (tAddR S).c = 0
    · rw [if_pos hc] at hinv hE ⊢
      obtain ⟨i, hi, hoi, hR0⟩ := frAlloc_ok hc
      have hR : tAddR S = _ := hR0
      have hz : S.F.getD i default = frNo := (frOk_get h.inv.fok i hi).1 hoi
      have hlf := h.inv.lf
      have hget : ∀ j, (tAddR S).l.getD j default = if j = i then ⟨S.who, 0, 0, 0⟩ else S.F.getD j default := fun j => by
        rw [hR, fr_setD _ _ _ _ hi, hz]
        rfl
      have hne : ∀ p, (tEnt S p).t = true → (tEnt S p).f.toNat ≠ i := fun p ht e => by
        have := (h.ent p ht).2.2.2.1
        rw [e, hoi] at this
        exact frOwns_ne h.own this.symm
      refine ⟨hinv, h.own, fun p ht => ?_, fun k hk => ?_⟩
      · dsimp only at hE
        rw [hE p] at ht ⊢
        show _ ∧ _ ∧ _ ∧ ((tAddR S).l.getD (tEnt S p).f.toNat default).owner = S.who ∧ (_ → ((tAddR S).l.getD (tEnt S p).f.toNat default).kind = 0)
        rw [hget, if_neg (hne p ht)]
        exact h.ent p ht
      · obtain ⟨c1, c2⟩ := h.cnt k hk
        have e1 := fun b => cntN_ext _ _ b (k : Int) hE 256
        show ((tAddR S).l.getD k default).wr = (cntN _ true (k : Int) 256 : Int) + 0 ∧ ((tAddR S).l.getD k default).us = (cntN _ false (k : Int) 256 : Int) + 0 + (if ((tAddR S).l.getD k default).kind ≠ 0 then 1 else 0)
        rw [e1 true, e1 false, hget]
        by_cases hki : k = i
        · subst hki
          have hz0 : ∀ b, cntN (tEnt S) b (k : Int) 256 = 0 := fun b => cntN_zero _ b _ (fun p hp => by
            unfold entIs
            rw [if_neg]
            rintro ⟨ht, -, hf⟩
            exact hne _ ht (by rw [hf, Int.toNat_natCast])) 256 (Nat.le_refl _)
          rw [if_pos rfl, hz0, hz0]
          exact ⟨rfl, rfl⟩
        · rw [if_neg hki]
          exact ⟨c1, c2⟩
    · rw [if_neg hc]; exact h.mono
theorem ts_new (n o : Nat) (who : Int) (hw : frOwns who) (hn : o + 17 ≤ n) (hn2 : n ≤ 1024) : TSafe 1 (tNew n o who) := by
  have h := tb_new n o who hw hn hn2
  refine ⟨h.inv, hw, fun p ht => ?_, fun k hk => ?_⟩
  · rw [h.ent p] at ht
    cases ht
  · have hz : ∀ b, cntN (tEnt (tNew n o who)) b (k : Int) 256 = 0 := fun b => cntN_zero _ b _ (fun p _ => by rw [h.ent]; rfl) 256 (Nat.le_refl _)
    rw [hz, hz]
    show ((frM n o 17 who).getD k default).wr = _ ∧ ((frM n o 17 who).getD k default).us = _ + (if ((frM n o 17 who).getD k default).kind ≠ 0 then 1 else 0)
    rw [frM_get n o 17 k who hk]
    by_cases h1 : k < o
    · rw [if_pos h1]; exact ⟨rfl, rfl⟩
    · rw [if_neg h1]
      by_cases h2 : k < o + 17
      · rw [if_pos h2, if_pos h2]
        refine ⟨rfl, ?_⟩
        show (1 : Int) = _
        rw [if_pos (by dsimp only; split <;> decide)]
        rfl
      · rw [if_neg h2]; exact ⟨rfl, rfl⟩
end Go.Proofs.YtaoaachgnnengaaDoor

/-
  pt.Tables.Get: a page's entry, its frame as the guest's number.
-/
namespace Go.Proofs.YtaoaachgnnengaaDoor
open Go.RowKit

/-- the first place of a number, or -1 -/
def pmI : List Int → Int → Int
  | [], _ => -1
  | a :: l, x => if a = x then 0 else if 0 ≤ pmI l x then pmI l x + 1 else -1
theorem pmI_is : ∀ (l : List Int) (x : Int), IdxIs l x (pmI l x)
  | [], x => .inl ⟨rfl, fun j hj => absurd hj (by simp)⟩
  | a :: l, x => by
    unfold pmI
    by_cases h : a = x
    · rw [if_pos h]
      exact .inr ⟨0, by simp, rfl, h, fun j hj => absurd hj (by omega)⟩
    · rw [if_neg h]
      rcases pmI_is l x with ⟨h1, h2⟩ | ⟨k, h1, h2, h3, h4⟩
      · rw [if_neg (by rw [h1]; decide)]
        refine .inl ⟨rfl, fun j hj => ?_⟩
        cases j with
        | zero => exact h
        | succ j => exact h2 j (by simpa using hj)
      · rw [if_pos (by rw [h2]; omega), h2]
        refine .inr ⟨k + 1, by simpa using h1, by omega, h3, fun j hj => ?_⟩
        cases j with
        | zero => exact h
        | succ j => exact h4 j (by omega)
theorem IdxIs.same {l : List Int} {x r s : Int} (h : IdxIs l x r) (h2 : IdxIs l x s) : r = s := by
  rcases h with ⟨h, hn⟩ | ⟨k, hk, h, he, hl⟩ <;> rcases h2 with ⟨h', hn'⟩ | ⟨k', hk', h', he', hl'⟩
  · omega
  · exact absurd he' (hn k' hk')
  · exact absurd he (hn' k hk)
  · have a : ¬ k < k' := fun hlt => hl' k hlt he
    have b : ¬ k' < k := fun hlt => hl k' hlt he'
    omega
theorem pmI_get {l : List Int} (hp : ∀ i j, i < l.length → j < l.length → l.getD i 0 = l.getD j 0 → i = j) (i : Nat) (hi : i < l.length) : pmI l (l.getD i 0) = (i : Int) := by
  rcases pmI_is l (l.getD i 0) with ⟨-, h2⟩ | ⟨k, h1, h2, h3, -⟩
  · exact absurd rfl (h2 i hi)
  · rw [h2, hp k i h1 hi h3]
theorem pmI_lt (l : List Int) (x : Int) : -1 ≤ pmI l x ∧ pmI l x < (l.length : Int) := by
  rcases pmI_is l x with ⟨h, -⟩ | ⟨k, h1, h2, -, -⟩
  · rw [h]; omega
  · rw [h2]; omega
theorem pm_ofI (l : List Int) (b : Nat) (v : Value) (x : Int) (w : World) (h : PAt w b v l) (hn : l.length ≤ 1000) :
    Calls Tryd.prog 80 #[.pointer (some ⟨b, 0, none⟩), .int .i64 x] w fun e w' => e = .returned (.tuple #[.int .i64 (max (pmI l x) 0), .bool (decide (0 ≤ pmI l x))]) ∧ w = w' :=
  (pm_of l b v x w h hn).mono fun e w' ⟨⟨r, h1, h2⟩, h3⟩ => ⟨by rw [h1, h2.same (pmI_is l x)], h3⟩
/-- a page's entry, as the guest sees it -/
def tGet (s : Ts) (page : Int) : Ent := if (tEnt s page).t = true then { tEnt s page with f := pmI s.P (tEnt s page).f } else Ent.z
theorem tGet_t (s : Ts) (page : Int) : (tGet s page).t = (tEnt s page).t := by
  unfold tGet
  split
  · rfl
  · rename_i h
    cases ht : (tEnt s page).t with
    | true => exact absurd ht h
    | false => rfl

set_option maxRecDepth 100000 in
set_option maxHeartbeats 6400000 in
theorem tget_any (p : Pl) (s : Ts) (m : Int) (page : Int) (w : World) (h : PtAt w p s) (hi : TInv m s) :
    Calls Tryd.prog 41 #[.pointer (some ⟨p.tb, 0, none⟩), .int .i64 page] w fun y w' => y = .returned (.tuple #[(tGet s page).v, .bool (tGet s page).t]) ∧ Below w.heap.size w w' := by
  have hb0 : Below w.heap.size w (w.alloc (.cells #[.int .i64 0, .bool false, .bool false, .bool false] 68)) := (Below.refl _ _).alloc (Nat.le_refl _) _
  have HEN := Lib.hid (tentry_any p s m page _ (h.below hb0) hi)
  have HPM : Hid (∀ wx, Below w.heap.size w wx → ∀ x, Calls Tryd.prog 80 #[.pointer (some ⟨p.pb, 0, none⟩), .int .i64 x] wx fun e w' => e = .returned (.tuple #[.int .i64 (max (pmI s.P x) 0), .bool (decide (0 ≤ pmI s.P x))]) ∧ wx = w') := Lib.hid fun wx hb x => pm_ofI s.P p.pb p.pv x wx (h.below hb).pm (by have := hi.p512; omega)
  have HC : Hid (∀ wx, Below w.heap.size w wx → wx.cell? ⟨p.tb, 3, none⟩ = some (.pointer (some ⟨p.pb, 0, none⟩))) := Lib.hid fun wx hb => (h.below hb).cells.2.2.2.1
  have htb : p.tb < w.heap.size := blk_lt h.row
  obtain ⟨tb, htb0⟩ : ∃ x, p.tb = x := ⟨_, rfl⟩
  rw [htb0] at HEN HC htb ⊢
  obtain ⟨pb, hpb0⟩ : ∃ x, p.pb = x := ⟨_, rfl⟩
  rw [hpb0] at HC HPM
  have HTG : Hid (tGet s page = if (tEnt s page).t = true then { tEnt s page with f := pmI s.P (tEnt s page).f } else Ent.z) := Lib.hid rfl
  obtain ⟨⟨ef, et, ew, eu⟩, he⟩ : ∃ e, tEnt s page = e := ⟨_, rfl⟩
  rw [he] at HEN HTG
  rw [HTG.out]
  have HB0 := Lib.hid hb0
  have HBN := Lib.hid (blk_new w (.cells #[.int .i64 0, .bool false, .bool false, .bool false] 68))
  clear h hi he hb0 htb0 hpb0 HTG
  unfold Ent.v at HEN
  dsimp only at HEN
  go_enter Tryd.func41, Tryd.ntmps41
  go_wp2_with fail
  refine HEN.out.mono ?_
  rintro y w1 ⟨rfl, hb1⟩
  have HB1 := Lib.hid (HB0.out.trans (hb1.mono HB0.out.size))
  have hk1 := blk_below HBN.out hb1 (blk_lt HBN.out)
  clear hb1
  cases et with
  | false =>
    have hk2 := blk_below hk1 ((Below.refl _ _).alloc (Nat.le_refl _) (.cells #[.int .i64 ef, .bool false, .bool ew, .bool eu] 68)) (blk_lt hk1)
    obtain ⟨w2, hw2⟩ : ∃ w2, w1.alloc (.cells #[.int .i64 ef, .bool false, .bool ew, .bool eu] 68) = w2 := ⟨_, rfl⟩
    have hb2 : Below w.heap.size w w2 := hw2 ▸ HB1.out.alloc HB1.out.size _
    rw [hw2] at hk2
    have HB2 := Lib.hid hb2
    clear hk1 hb2 HB1 HPM HC
    go_upto_region 2 with fail
    try rw [hw2]
    clear hw2
    have f0 := blk_free hk2 0
    have f1 := blk_free hk2 1
    have f2 := blk_free hk2 2
    have f3 := blk_free hk2 3
    have z0 := blk_cell hk2 0
    have z1 := blk_cell hk2 1
    have z2 := blk_cell hk2 2
    have z3 := blk_cell hk2 3
    go_wp2
    refine bodyPost_ret (v := .tuple #[.agg #[.int .i64 0, .bool false, .bool false, .bool false], .bool false]) (by simp [results, Tryd.results41, go_sem, z0, z1, z2, z3]) rfl ⟨rfl, ?_⟩
    exact (((HB2.out.setCell (p := ⟨w.heap.size, 0, none⟩) (Nat.le_refl _) _).setCell (p := ⟨w.heap.size, 1, none⟩) (Nat.le_refl _) _).setCell (p := ⟨w.heap.size, 2, none⟩) (Nat.le_refl _) _).setCell (p := ⟨w.heap.size, 3, none⟩) (Nat.le_refl _) _
  | true =>
    have hn := blk_new w1 (.cells #[.int .i64 ef, .bool true, .bool ew, .bool eu] 68)
    obtain ⟨b, hb⟩ : ∃ b, w1.heap.size = b := ⟨_, rfl⟩
    have lb : w.heap.size < b := hb ▸ blk_lt hk1
    have hk2 := blk_below hk1 ((Below.refl _ _).alloc (Nat.le_refl _) (.cells #[.int .i64 ef, .bool true, .bool ew, .bool eu] 68)) (blk_lt hk1)
    obtain ⟨w2, hw2⟩ : ∃ w2, w1.alloc (.cells #[.int .i64 ef, .bool true, .bool ew, .bool eu] 68) = w2 := ⟨_, rfl⟩
    have hb2 : Below w.heap.size w w2 := hw2 ▸ HB1.out.alloc HB1.out.size _
    rw [hw2] at hn hk2
    rw [hb] at hn
    have HB2 := Lib.hid hb2
    go_wp2_with fail
    try rw [hb, hw2]
    clear hb hw2 HB1 hk1 hb2
    have hc := HC.out _ HB2.out
    have n0 := blk_cell hn 0
    go_quiet ((go_at_call 80; exact Calls.quiet_of_same ((HPM.out _ (below_drewN HB2.out _) _).mono fun e w' h => ⟨h.1, h.2.symm⟩)))
    obtain ⟨wd, hwd⟩ : ∃ wd, w2.drewN nq = wd := ⟨_, rfl⟩
    have hnd := hwd ▸ blk_below hn (below_drewN (Below.refl _ _) nq) (blk_lt hn)
    have hkd := hwd ▸ blk_below hk2 (below_drewN (Below.refl _ _) nq) (blk_lt hk2)
    have HBD : Hid (Below w.heap.size w wd) := Lib.hid (hwd ▸ below_drewN HB2.out nq)
    rw [hwd]
    have hr1 := (pmI_lt s.P ef).1
    obtain ⟨r, hr⟩ : ∃ r, pmI s.P ef = r := ⟨_, rfl⟩
    rw [hr] at hr1 ⊢
    have HRR := Lib.hid hr
    clear hwd hr hn hk2 HB2 hc n0 HB0 HBN
    by_cases h0 : 0 ≤ r
    · have hm : max r 0 = r := by omega
      rw [hm]
      have hn3 := blk_put hnd 0 (.int .i64 r)
      have hk3 := blk_set hkd (a := ⟨b, 0, none⟩) (by show w.heap.size ≠ b; omega) (.int .i64 r)
      obtain ⟨w3, hw3⟩ : ∃ w3, wd.setCell ⟨b, 0, none⟩ (.int .i64 r) = w3 := ⟨_, rfl⟩
      have HB3 : Hid (Below w.heap.size w w3) := Lib.hid (hw3 ▸ HBD.out.setCell (p := ⟨b, 0, none⟩) (Nat.le_of_lt lb) _)
      rw [hw3] at hn3 hk3
      clear hr1 hm
      have f0 := blk_free hk3 0
      have f1 := blk_free hk3 1
      have f2 := blk_free hk3 2
      have f3 := blk_free hk3 3
      have z0 := blk_cell hk3 0
      have z1 := blk_cell hk3 1
      have z2 := blk_cell hk3 2
      have z3 := blk_cell hk3 3
      have y0 := blk_cell hn3 0
      have y1 := blk_cell hn3 1
      have y2 := blk_cell hn3 2
      have y3 := blk_cell hn3 3
      have m0 := blk_cell hnd 0
      have g0 := blk_free hnd 0
      clear hnd hkd hn3 hk3 HPM HC
      go_wp2
      refine bodyPost_ret (v := .tuple #[.agg #[.int .i64 r, .bool true, .bool ew, .bool eu], .bool true]) (by simp [results, Tryd.results41, go_sem, z0, z1, z2, z3]) rfl ⟨by rw [HRR.out]; rfl, ?_⟩
      exact (((HB3.out.setCell (p := ⟨w.heap.size, 0, none⟩) (Nat.le_refl _) _).setCell (p := ⟨w.heap.size, 1, none⟩) (Nat.le_refl _) _).setCell (p := ⟨w.heap.size, 2, none⟩) (Nat.le_refl _) _).setCell (p := ⟨w.heap.size, 3, none⟩) (Nat.le_refl _) _
    · have h1 : r = -1 := by omega
      subst h1
      have hm : max (-1 : Int) 0 = 0 := by decide
      rw [hm]
      have hn3a := blk_put hnd 0 (.int .i64 0)
      have hn3 := blk_put hn3a 0 (.int .i64 (-1))
      have hk3a := blk_set hkd (a := ⟨b, 0, none⟩) (by show w.heap.size ≠ b; omega) (.int .i64 0)
      have hk3 := blk_set hk3a (a := ⟨b, 0, none⟩) (by show w.heap.size ≠ b; omega) (.int .i64 (-1))
      obtain ⟨w3a, hw3a⟩ : ∃ w3a, wd.setCell ⟨b, 0, none⟩ (.int .i64 0) = w3a := ⟨_, rfl⟩
      rw [hw3a] at hn3 hk3 hn3a
      obtain ⟨w3, hw3⟩ : ∃ w3, w3a.setCell ⟨b, 0, none⟩ (.int .i64 (-1)) = w3 := ⟨_, rfl⟩
      have HB3 : Hid (Below w.heap.size w w3) := Lib.hid (hw3 ▸ (hw3a ▸ HBD.out.setCell (p := ⟨b, 0, none⟩) (Nat.le_of_lt lb) _ : Below w.heap.size w w3a).setCell (p := ⟨b, 0, none⟩) (Nat.le_of_lt lb) _)
      rw [hw3] at hn3 hk3
      have n0a := blk_cell hn3a 0
      have g0a := blk_free hn3a 0
      clear hr1 hm hn3a hk3a h0
      have f0 := blk_free hk3 0
      have f1 := blk_free hk3 1
      have f2 := blk_free hk3 2
      have f3 := blk_free hk3 3
      have z0 := blk_cell hk3 0
      have z1 := blk_cell hk3 1
      have z2 := blk_cell hk3 2
      have z3 := blk_cell hk3 3
      have y0 := blk_cell hn3 0
      have y1 := blk_cell hn3 1
      have y2 := blk_cell hn3 2
      have y3 := blk_cell hn3 3
      have m0 := blk_cell hnd 0
      have g0 := blk_free hnd 0
      clear hnd hkd hn3 hk3 HPM HC
      go_wp2
      refine bodyPost_ret (v := .tuple #[.agg #[.int .i64 (-1), .bool true, .bool ew, .bool eu], .bool true]) (by simp [results, Tryd.results41, go_sem, z0, z1, z2, z3]) rfl ⟨by rw [HRR.out]; rfl, ?_⟩
      exact (((HB3.out.setCell (p := ⟨w.heap.size, 0, none⟩) (Nat.le_refl _) _).setCell (p := ⟨w.heap.size, 1, none⟩) (Nat.le_refl _) _).setCell (p := ⟨w.heap.size, 2, none⟩) (Nat.le_refl _) _).setCell (p := ⟨w.heap.size, 3, none⟩) (Nat.le_refl _) _
end Go.Proofs.YtaoaachgnnengaaDoor

/-
  TablesRefuse: plain laws: what is refused changes nothing.
-/
namespace Go.Proofs.YtaoaachgnnengaaDoor
open Go.RowKit

theorem TbAt.safe_wr {m : Int} {S : Ts} (h : TSafe m S) (k : Nat) (hk : k < S.n) : (S.F.getD k default).wr = (cntN (tEnt S) true (k : Int) 256 : Int) ∧ (S.F.getD k default).us = (cntN (tEnt S) false (k : Int) 256 : Int) + (if (S.F.getD k default).kind ≠ 0 then 1 else 0) := by
  obtain ⟨h1, h2⟩ := h.cnt k hk
  dsimp only at h1 h2
  exact ⟨by rw [h1]; omega, by rw [h2]; omega⟩
/-- one page alone has an entry -/
theorem cntN_one (f : Int → Ent) (b : Bool) (k page : Int) (e : Ent) (hf : ∀ p, f p = if p = page then e else Ent.z) (h0 : 0 ≤ page) (h1 : page < 256) : cntN f b k 256 = entIs e b k := by
  have h := cntN_set (fun _ => Ent.z) f b k page e hf h0 256 h1
  have hz : cntN (fun _ => Ent.z) b k 256 = 0 := cntN_zero _ b k (fun _ _ => rfl) 256 (Nat.le_refl _)
  rw [hz, entIs_z] at h
  omega
/-- tables of a guest that has one frame more, of which one page may be written -/
structure TrAt (S : Ts) (pg : Int) : Prop where
  tb : TbAt 4 S 30 2 1 1 fun p => if p = pg then ⟨19, true, true, true⟩ else Ent.z
  sf : TSafe 4 S
  pgi : isPage pg = true
def trS1 : Ts := (tAdd (tNew 30 2 1)).1
def trS (pg : Int) : Ts := (tPut trS1 pg ⟨17, true, true, false⟩).1
theorem trS1_at : (tAdd (tNew 30 2 1)).2.1 = 17 ∧ (tAdd (tNew 30 2 1)).2.2 = 0 ∧ TbAt 2 trS1 30 2 1 1 (fun _ => Ent.z) ∧ TSafe 2 trS1 := by
  have h0 := tb_new 30 2 1 (by unfold frOwns; omega) (by decide) (by decide)
  obtain ⟨h1, h2, h3⟩ := tb_add h0 (by decide) (by decide)
  exact ⟨h1, h2, h3, tAdd_safe (ts_new 30 2 1 (by unfold frOwns; omega) (by decide) (by decide))⟩
theorem trS_at (pg : Int) (hp : isPage pg = true) : (tPut trS1 pg ⟨17, true, true, false⟩).2 = 0 ∧ TrAt (trS pg) pg := by
  obtain ⟨-, -, h3, h4⟩ := trS1_at
  obtain ⟨-, h5, h6⟩ := tb_put h3 pg hp 17 (by decide) (by decide) true false
  exact ⟨h5, h6, tPut_safe h4 pg _, hp⟩
theorem TrAt.P {S : Ts} {pg : Int} (h : TrAt S pg) : S.P.length = 18 ∧ S.P.getD 3 0 = 5 ∧ S.P.getD 17 0 = 19 :=
  ⟨(h.tb.get 0 (by decide)).2, (h.tb.get 3 (by decide)).1, (h.tb.get 17 (by decide)).1⟩
theorem TrAt.table {S : Ts} {pg : Int} (h : TrAt S pg) (j : Nat) (h1 : 2 < j) (h2 : j < 19) : frAt S.F (j : Int) = some j ∧ (S.F.getD j default).owner = 1 ∧ (S.F.getD j default).kind = 2 := by
  have hs := h.tb.sF j (by omega)
  rw [if_neg (by omega), if_neg (by omega), if_pos (by omega)] at hs
  have ho : (S.F.getD j default).owner = 1 := (Prod.mk.inj hs).1
  refine ⟨?_, ho, (Prod.mk.inj hs).2⟩
  exact frAt_is S.F j (by rw [h.tb.inv.lf, h.tb.sn]; omega) (by rw [ho]; decide)
theorem TrAt.setR {S : Ts} {pg : Int} (h : TrAt S pg) (j : Nat) (h1 : 2 < j) (h2 : j < 19) : tSet S pg (j : Int) true = (S, 111) := by
  obtain ⟨a1, a2, a3⟩ := h.table j h1 h2
  have hc : (tSetR S (j : Int) true).c = 111 := by
    unfold tSetR frThere
    rw [a1]
    show (kWrite (S.F.getD j default)).2 = 111
    unfold kWrite
    rw [if_pos (by rw [a3]; decide)]
  unfold tSet
  rw [hc, if_neg (by decide)]
theorem TrAt.r1 {S : Ts} {pg : Int} (h : TrAt S pg) : tPut S pg ⟨18, true, false, false⟩ = (S, 107) := by
  unfold tPut
  rw [if_pos h.pgi, if_pos rfl, if_neg (by rw [h.P.1]; decide)]
theorem TrAt.r2 {S : Ts} {pg : Int} (h : TrAt S pg) : tPut S pg ⟨3, true, true, false⟩ = (S, 111) := by
  unfold tPut
  rw [if_pos h.pgi, if_pos rfl, if_pos (by rw [h.P.1]; decide)]
  show (if (S.F.getD (S.P.getD 3 0).toNat default).owner = S.who then tSet S pg (S.P.getD 3 0) true else (S, 110)) = _
  rw [h.P.2.1]
  show (if (S.F.getD 5 default).owner = S.who then tSet S pg ((5 : Nat) : Int) true else (S, 110)) = _
  rw [h.tb.sw, if_pos (h.table 5 (by decide) (by decide)).2.1]
  exact h.setR 5 (by decide) (by decide)
theorem TrAt.r3 (S : Ts) : tPut S 256 Ent.z = (S, 103) := rfl
theorem TrAt.r4 {S : Ts} {pg : Int} (h : TrAt S pg) : tLend S pg 29 false = (S, 107) := by
  have hs := h.tb.sF 29 (by decide)
  have ho : (S.F.getD 29 default).owner = -1 := (Prod.mk.inj hs).1
  have hat : frAt S.F 29 = none := by
    unfold frAt
    rw [if_neg (fun hh => hh.2.2 ho)]
  unfold tLend
  rw [if_pos h.pgi, hat]
  rfl
theorem TrAt.r5 {S : Ts} {pg : Int} (h : TrAt S pg) : tPut S pg ⟨1, false, false, false⟩ = (S, 103) := by
  unfold tPut
  rw [if_pos h.pgi, if_neg (by decide), if_neg (by decide)]
theorem TrAt.r6 (S : Ts) : tDrop S (-1) = (S, 103) := rfl
theorem TrAt.r7 {S : Ts} {pg : Int} (h : TrAt S pg) : tLend S pg 3 true = (S, 111) := by
  unfold tLend
  rw [if_pos h.pgi, show (3 : Int) = ((3 : Nat) : Int) from rfl, (h.table 3 (by decide) (by decide)).1]
  exact h.setR 3 (by decide) (by decide)
theorem TrAt.get {S : Ts} {pg : Int} (h : TrAt S pg) : tGet S pg = ⟨17, true, true, true⟩ := by
  have he : tEnt S pg = ⟨19, true, true, true⟩ := by rw [h.tb.ent, if_pos rfl]
  have hp := pmI_get h.tb.inv.pne 17 (by rw [h.P.1]; decide)
  rw [h.P.2.2] at hp
  unfold tGet
  rw [he, if_pos rfl]
  dsimp only
  rw [hp]
  rfl
theorem TrAt.wr {S : Ts} {pg : Int} (h : TrAt S pg) : (S.F.getD 19 default).wr = 1 := by
  have hpg : 0 ≤ pg ∧ pg < 256 := by simpa [isPage] using h.pgi
  rw [(TbAt.safe_wr h.sf 19 (by rw [h.tb.sn]; decide)).1, cntN_one (tEnt S) true ((19 : Nat) : Int) pg ⟨19, true, true, true⟩ h.tb.ent hpg.1 hpg.2]
  rfl
theorem TrAt.drop {S : Ts} {pg : Int} (h : TrAt S pg) : (tDrop S pg).2 = 0 ∧ tGet (tDrop S pg).1 pg = Ent.z := by
  obtain ⟨h1, h2⟩ := tb_drop h.tb pg h.pgi
  refine ⟨h1, ?_⟩
  unfold tGet
  rw [h2.ent, if_pos rfl, if_neg (by decide)]
end Go.Proofs.YtaoaachgnnengaaDoor

/-
  TablesTwice: plain laws.
-/
namespace Go.Proofs.YtaoaachgnnengaaDoor
open Go.RowKit

/-- tables of a guest that has two frames more, of which one page alone has an entry -/
structure T2At (m : Int) (S : Ts) (pg : Int) (e : Ent) : Prop where
  tb : TbAt m S 30 1 2 1 fun p => if p = pg then e else Ent.z
  sf : TSafe m S
def t2S1 : Ts := (tAdd (tNew 30 1 1)).1
def t2S : Ts := (tAdd t2S1).1
theorem t2_at (pg : Int) : (tAdd (tNew 30 1 1)).2.1 = 17 ∧ (tAdd (tNew 30 1 1)).2.2 = 0 ∧ TInv 2 t2S1 ∧ (tAdd t2S1).2.1 = 18 ∧ (tAdd t2S1).2.2 = 0 ∧ T2At 3 t2S pg Ent.z := by
  have h0 := tb_new 30 1 1 (by unfold frOwns; omega) (by decide) (by decide)
  obtain ⟨h1, h2, h3⟩ := tb_add h0 (by decide) (by decide)
  obtain ⟨h4, h5, h6⟩ := tb_add h3 (by decide) (by decide)
  have hs := ts_new 30 1 1 (by unfold frOwns; omega) (by decide) (by decide)
  refine ⟨h1, h2, h3.inv, h4, h5, ⟨h6.inv, h6.sn, h6.sP, h6.sw, h6.own, h6.sF, fun p => ?_, h6.room⟩, tAdd_safe (tAdd_safe hs)⟩
  refine (h6.ent p).trans ?_
  split <;> rfl
theorem T2At.put {m : Int} {S : Ts} {pg : Int} {e : Ent} (h : T2At m S pg e) (hp : isPage pg = true) (i : Nat) (h1 : 17 ≤ i) (h2 : i < 19) (w : Bool) : (tPut S pg ⟨(i : Int), true, w, false⟩).2 = 0 ∧ T2At (m + 1 + 1) (tPut S pg ⟨(i : Int), true, w, false⟩).1 pg ⟨((1 + i : Nat) : Int), true, w, true⟩ := by
  obtain ⟨-, a2, a3⟩ := tb_put h.tb pg hp i h1 (by omega) w false
  refine ⟨a2, ⟨a3.inv, a3.sn, a3.sP, a3.sw, a3.own, a3.sF, fun p => ?_, a3.room⟩, tPut_safe h.sf pg _⟩
  rw [a3.ent]
  by_cases hpp : p = pg
  · rw [if_pos hpp, if_pos hpp]
  · rw [if_neg hpp, if_neg hpp, if_neg hpp]
theorem T2At.drop {m : Int} {S : Ts} {pg : Int} {e : Ent} (h : T2At m S pg e) (hp : isPage pg = true) : (tDrop S pg).2 = 0 ∧ T2At (m + 1) (tDrop S pg).1 pg Ent.z := by
  obtain ⟨a2, a3⟩ := tb_drop h.tb pg hp
  refine ⟨a2, ⟨a3.inv, a3.sn, a3.sP, a3.sw, a3.own, a3.sF, fun p => ?_, a3.room⟩, tDrop_safe h.sf pg⟩
  rw [a3.ent]
  by_cases hpp : p = pg
  · rw [if_pos hpp, if_pos hpp]
  · rw [if_neg hpp, if_neg hpp, if_neg hpp]
theorem T2At.get {m : Int} {S : Ts} {pg : Int} {i : Nat} {w : Bool} (h : T2At m S pg ⟨((1 + i : Nat) : Int), true, w, true⟩) (hi : i < 19) : tGet S pg = ⟨(i : Int), true, w, true⟩ := by
  have he := h.tb.ent pg
  rw [if_pos rfl] at he
  have hg := h.tb.get i (by omega)
  have hp := pmI_get h.tb.inv.pne i (by rw [hg.2]; omega)
  rw [hg.1] at hp
  unfold tGet
  rw [he, if_pos rfl]
  dsimp only
  rw [hp]
/-- how often a frame of the guest's is counted -/
theorem T2At.sum {m : Int} {S : Ts} {pg : Int} {e : Ent} (h : T2At m S pg e) (hp : isPage pg = true) (k : Nat) (h1 : 18 ≤ k) (h2 : k < 20) : (S.F.getD k default).wr + (S.F.getD k default).us = (entIs e true (k : Int) : Int) + (entIs e false (k : Int) : Int) ∧ 0 ≤ (S.F.getD k default).wr ∧ 0 ≤ (S.F.getD k default).us := by
  have hpg : 0 ≤ pg ∧ pg < 256 := by simpa [isPage] using hp
  have hk := h.tb.sF k (by omega)
  rw [if_neg (by omega), if_neg (by omega), if_neg (by omega), if_pos (by omega)] at hk
  have hkd : (S.F.getD k default).kind = 0 := (Prod.mk.inj hk).2
  obtain ⟨c1, c2⟩ := TbAt.safe_wr h.sf k (by rw [h.tb.sn]; omega)
  rw [hkd, if_neg (by decide)] at c2
  rw [cntN_one (tEnt S) true (k : Int) pg e h.tb.ent hpg.1 hpg.2] at c1
  rw [cntN_one (tEnt S) false (k : Int) pg e h.tb.ent hpg.1 hpg.2] at c2
  omega
theorem T2At.len {m : Int} {S : Ts} {pg : Int} {e : Ent} (h : T2At m S pg e) : S.n = 30 ∧ S.F.length = 30 ∧ S.M.length = 480 := by
  have h1 := h.tb.sn
  have h2 := h.tb.inv.lf
  have h3 := h.tb.inv.lm
  omega
theorem T2At.live {m : Int} {S : Ts} {pg : Int} (h : T2At m S pg Ent.z) : tLive S = [] := by
  have he : ∀ p, tEnt S p = Ent.z := fun p => by
    rw [h.tb.ent]
    split <;> rfl
  have : ∀ n, tLiveN S n = [] := fun n => by
    induction n with
    | zero => rfl
    | succ n ih =>
      unfold tLiveN
      rw [he, if_neg (by decide)]
      exact ih
  exact this 256
/-- the same words but one -/
def t2M (pg : Int) (S S' : Ts) : Prop := S'.P = S.P ∧ S'.M.length = S.M.length ∧ ∀ j, j ≠ tWord S pg.toNat → S'.M.getD j 0 = S.M.getD j 0
theorem writeL_other (l : List Int) (i : Nat) (x : Int) (j : Nat) (h : j ≠ i) : (writeL l (i : Int) x).getD j 0 = l.getD j 0 := by
  unfold writeL
  split
  · rw [Int.toNat_natCast, List.getD_eq_getElem?_getD, List.getElem?_set_ne (by omega), ← List.getD_eq_getElem?_getD]
  · rfl
theorem writeL_len (l : List Int) (i x : Int) : (writeL l i x).length = l.length := by
  unfold writeL
  split
  · rw [List.length_set]
  · rfl
theorem tWord_P {S S' : Ts} (h : S'.P = S.P) (j : Nat) : tWord S' j = tWord S j := by
  unfold tWord
  rw [h]
theorem t2M_write {pg : Int} {S S' : Ts} (h : t2M pg S S') (x : Int) {S'' : Ts} (hP : S''.P = S'.P) (hM : S''.M = writeL S'.M ((tWord S' pg.toNat : Nat) : Int) x) : t2M pg S S'' := by
  refine ⟨hP.trans h.1, by rw [hM, writeL_len]; exact h.2.1, fun j hj => ?_⟩
  rw [hM, writeL_other _ _ _ _ (by rw [tWord_P h.1]; exact hj)]
  exact h.2.2 j hj
theorem t2M_drop {pg : Int} {S S' : Ts} (h : t2M pg S S') (hp : isPage pg = true) : t2M pg S (tDrop S' pg).1 := by
  unfold tDrop
  rw [if_pos hp]
  split
  · exact t2M_write h 0 rfl rfl
  · exact h
theorem tDrop_none (S : Ts) (pg : Int) (hp : isPage pg = true) (he : tEnt S pg = Ent.z) : (tDrop S pg).1 = S := by
  unfold tDrop
  rw [if_pos hp, he, if_neg (by decide)]
set_option maxRecDepth 100000 in
theorem t2M_put {m : Int} {pg : Int} {S S' : Ts} {e : Ent} (h : t2M pg S S') (hT : T2At m S' pg e) (hp : isPage pg = true) (i : Nat) (h1 : 17 ≤ i) (h2 : i < 19) (w : Bool) : t2M pg S (tPut S' pg ⟨(i : Int), true, w, false⟩).1 := by
  have hpg : 0 ≤ pg ∧ pg < 256 := by simpa [isPage] using hp
  obtain ⟨a1, -, -⟩ := tb_put hT.tb pg hp i h1 (by omega) w false
  have hc := tb_setR hT.tb i h1 (by omega) w
  rw [a1]
  have hI1 := tSetR_inv hT.tb.inv ((1 + i : Nat) : Int) w
  have hI2 := tDrop_inv hI1 pg
  have hPD := (tDrop_P { S' with F := (tSetR S' ((1 + i : Nat) : Int) w).l } pg).1
  have hd := t2M_drop (S' := { S' with F := (tSetR S' ((1 + i : Nat) : Int) w).l }) (show t2M pg S { S' with F := (tSetR S' ((1 + i : Nat) : Int) w).l } from h) hp
  unfold tSet
  rw [if_pos hc]
  obtain ⟨D, hD⟩ : ∃ D, (tDrop { S' with F := (tSetR S' ((1 + i : Nat) : Int) w).l } pg).1 = D := ⟨_, rfl⟩
  rw [hD] at hI2 hPD hd ⊢
  have h3 := hI2.pin (1 + pg.toNat / 16) (by have := hI2.p17; omega)
  have hok : entOk ((1 + i : Nat) : Int) true w true := ⟨by omega, by omega, fun h => by cases h⟩
  refine t2M_write hd (entW ((1 + i : Nat) : Int) true w true) rfl ?_
  show putE D.M (S'.P.getD (1 + pg.toNat / 16) 0) ((pg.toNat % 16 : Nat) : Int) _ = _
  unfold putE bitsA
  rw [if_pos ((entOkB_iff _ _ _ _).2 hok)]
  show writeL D.M _ _ = _
  have hPD' : S'.P = D.P := hPD.symm
  rw [hPD', show D.P.getD (1 + pg.toNat / 16) 0 * 16 + ((pg.toNat % 16 : Nat) : Int) = ((tWord D pg.toNat : Nat) : Int) by unfold tWord; omega]
theorem tAdd_zero {m : Int} {s : Ts} (h : TInv m s) (t : Nat) (ht : s.M.getD t 0 = 0) : (tAdd s).1.M.getD t 0 = 0 := by
  unfold tAdd
  split
  · exact ht
  · split
    · rename_i hc
      obtain ⟨i, hi, ho, hR⟩ := frAlloc_ok hc
      have hRR : tAddR s = _ := hR
      rw [hRR]
      have hlf := h.lf
      show (fillL s.M ((i : Nat) : Int).toNat []).getD t 0 = 0
      rw [Int.toNat_natCast, fillL_get s.M s.n i [] t h.lm (by omega) (by decide)]
      split
      · simp
      · exact ht
    · exact ht
set_option maxRecDepth 100000 in
theorem t2_word (pg : Int) (hp : isPage pg = true) : t2S.M.getD (tWord t2S pg.toNat) 0 = 0 := by
  have hpg : 0 ≤ pg ∧ pg < 256 := by simpa [isPage] using hp
  obtain ⟨-, -, h3, -, -, h6⟩ := t2_at pg
  have hw : tWord t2S pg.toNat = 16 * (1 + (1 + pg.toNat / 16)) + pg.toNat % 16 := by
    unfold tWord
    rw [(h6.tb.get (1 + pg.toNat / 16) (by omega)).1, Int.toNat_natCast]
  rw [hw]
  refine tAdd_zero h3 _ (tAdd_zero (tNew_inv 30 1 1 (by unfold frOwns; omega) (by decide) (by decide)) _ ?_)
  show (tM (List.replicate (16 * 30) 0) 1 17).getD _ 0 = 0
  rw [tM_get _ 30 1 _ List.length_replicate (by decide) 17 (by decide) (by decide), if_neg (by omega), if_pos (by omega)]
/-- put and dropped leaves nothing -/
theorem t2_same {m m' : Int} {pg : Int} {S' : Ts} {e : Ent} (hp : isPage pg = true) (hT : T2At m S' pg e) (h : t2M pg t2S S') (ht : e.t = true) : (tDrop (tDrop S' pg).1 pg).1.M = t2S.M := by
  have he := hT.tb.ent pg
  rw [if_pos rfl] at he
  obtain ⟨-, h4⟩ := hT.drop hp
  have he4 := h4.tb.ent pg
  rw [if_pos rfl] at he4
  rw [tDrop_none _ pg hp he4]
  have hm := t2M_drop h hp
  have hM4 : (tDrop S' pg).1.M = writeL S'.M ((tWord S' pg.toNat : Nat) : Int) 0 := by
    unfold tDrop
    rw [if_pos hp, he, if_pos ht]
  apply List.ext_getElem
  · exact hm.2.1
  · intro j h1 h2
    have hj : (tDrop S' pg).1.M.getD j 0 = t2S.M.getD j 0 := by
      by_cases hjw : j = tWord t2S pg.toNat
      · rw [hjw, t2_word pg hp, hM4, ← tWord_P h.1 pg.toNat]
        unfold writeL
        have hlt : tWord S' pg.toNat < S'.M.length := by
          have hpg : 0 ≤ pg ∧ pg < 256 := by simpa [isPage] using hp
          exact tWord_lt hT.tb.inv (by omega)
        rw [if_pos (by omega), Int.toNat_natCast, setD_get _ _ _ _ hlt, if_pos rfl]
      · exact hm.2.2 j hjw
    rw [List.getD_eq_getElem?_getD, List.getElem?_eq_getElem h1, List.getD_eq_getElem?_getD, List.getElem?_eq_getElem h2] at hj
    exact hj
end Go.Proofs.YtaoaachgnnengaaDoor

