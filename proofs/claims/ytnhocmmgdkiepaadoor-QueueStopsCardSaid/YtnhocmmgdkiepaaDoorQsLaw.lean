/-
  QueueStops: plain laws: tables of forty frames and one more; so many entries put, three pages apart.
-/
import Derived.Test.YtnhocmmgdkiepaaDoorPtLive
import Derived.Test.YtnhocmmgdkiepaaDoorPtNewL
import Derived.Test.YtnhocmmgdkiepaaDoorPtAdd
import Derived.Test.YtnhocmmgdkiepaaDoorQuFlush
namespace Go.Proofs.YtnhocmmgdkiepaaDoor
open Go.RowKit

/-- tables of nothing, and one frame more -/
def qsT : Ts := ⟨40, fillL (tM (List.replicate (16 * 40) 0) 0 17) 17 [], (frM 40 0 17 0).set 17 ⟨0, 0, 0, 0⟩, rngF 0 17 ++ [17], 0⟩
theorem frM_alloc (n : Nat) (hn : 17 < n) (who : Int) (hw : frOwns who) : frAlloc (frM n 0 17 who) who = ⟨(frM n 0 17 who).set 17 ⟨who, 0, 0, 0⟩, 17, 0⟩ := by
  have hg : (frM n 0 17 who).getD 17 default = frNo := by rw [frM_get n 0 17 17 who hn, if_neg (by decide), if_neg (by decide)]
  have hf : frFree (frM n 0 17 who) = some 17 := frFree_is (by rw [frM_len]; exact hn) (by rw [hg]; rfl) fun i hi => by
    rw [frM_get n 0 17 i who (by omega), if_neg (by omega), if_pos (by omega), if_pos (by omega)]
    exact frOwns_ne hw
  unfold frAlloc
  rw [if_pos hw, hf]
  dsimp only
  rw [hg]
  rfl
set_option maxRecDepth 100000 in
theorem qsT_add : tAdd (tNew 40 0 0) = (qsT, 17, 0) := by
  have hR : tAddR (tNew 40 0 0) = ⟨(frM 40 0 17 0).set 17 ⟨0, 0, 0, 0⟩, 17, 0⟩ := frM_alloc 40 (by decide) 0 (by unfold frOwns; omega)
  unfold tAdd
  rw [if_neg (by show ¬ 512 ≤ (rngF 0 17).length; rw [rngF_len]; decide), hR, if_pos rfl]
  show ((⟨40, fillL (tM (List.replicate (16 * 40) 0) 0 17) 17 [], (frM 40 0 17 0).set 17 ⟨0, 0, 0, 0⟩, rngF 0 17 ++ [17], 0⟩ : Ts), (((rngF 0 17).length : Nat) : Int), (0 : Int)) = (qsT, 17, 0)
  rw [rngF_len]
  rfl
theorem qsT_inv : TInv 2 qsT := by
  have h := tAdd_inv (tNew_inv 40 0 0 (by unfold frOwns; omega) (by decide) (by decide)) (by show (0 : Int) ≠ -1; decide)
  rw [qsT_add] at h
  exact h
theorem tA_word (n : Nat) (hn : 18 ≤ n) (hn2 : n ≤ 1024) (t : Nat) (ht : 16 ≤ t ∧ t < 16 * 17) : (fillL (tM (List.replicate (16 * n) 0) 0 17) 17 []).getD t 0 = 0 := by
  have hlen : (tM (List.replicate (16 * n) (0 : Int)) 0 17).length = 16 * n := by rw [tM_len _ 0 17 (by decide) (by decide)]; exact List.length_replicate
  rw [fillL_get _ n 17 [] _ hlen (by omega) (by decide)]
  split
  · simp
  · rw [tM_get _ n 0 _ List.length_replicate hn2 17 (by decide) (by omega), if_neg (by omega), if_pos (by omega)]
set_option maxRecDepth 100000 in
theorem qsT_word (p : Nat) (hp : p < 256) : qsT.M.getD (tWord qsT p) 0 = 0 := by
  have hP : qsT.P.getD (1 + p / 16) 0 = ((1 + p / 16 : Nat) : Int) := by
    show (rngF 0 17 ++ [17]).getD (1 + p / 16) 0 = _
    rw [List.getD_eq_getElem?_getD, List.getElem?_append_left (by rw [rngF_len]; omega), ← List.getD_eq_getElem?_getD, rngF_get 0 17 _ (by omega), Nat.zero_add]
  have hw : tWord qsT p = 16 * (1 + p / 16) + p % 16 := by
    unfold tWord
    rw [hP, Int.toNat_natCast]
  rw [hw]
  show (fillL (tM (List.replicate (16 * 40) 0) 0 17) 17 []).getD (16 * (1 + p / 16) + p % 16) 0 = 0
  exact tA_word 40 (by decide) (by decide) _ (by omega)
theorem qsT_ent (p : Int) : tEnt qsT p = Ent.z := by
  cases hq : isPage p with
  | false => exact tEnt_none _ p hq
  | true =>
    have hpq : 0 ≤ p ∧ p < 256 := by simpa [isPage] using hq
    rw [tEnt_word qsT p hq 0 (qsT_word p.toNat (by omega)), ofA_zero'']
    rfl
/-- the tables, k entries put -/
structure QsAt (S : Ts) (k : Nat) : Prop where
  inv : ∃ m, TInv m S
  n : S.n = 40
  P : S.P = rngF 0 17 ++ [17]
  who : S.who = 0
  F : (S.F.getD 17 default).owner = 0 ∧ (S.F.getD 17 default).kind = 0
  ent : ∀ p : Int, tEnt S p = if 0 ≤ p ∧ p % 3 = 0 ∧ p / 3 < (k : Int) then ⟨17, true, true, true⟩ else Ent.z
theorem qsT_F : ((frM 40 0 17 0).set 17 ⟨0, 0, 0, 0⟩).getD 17 default = ⟨0, 0, 0, 0⟩ := by rw [fr_setD _ _ _ _ (by rw [frM_len]; decide), if_pos rfl]
theorem qs_zero : QsAt qsT 0 := ⟨⟨2, qsT_inv⟩, rfl, rfl, rfl, by show (((frM 40 0 17 0).set 17 ⟨0, 0, 0, 0⟩).getD 17 default).owner = 0 ∧ (((frM 40 0 17 0).set 17 ⟨0, 0, 0, 0⟩).getD 17 default).kind = 0; rw [qsT_F]; exact ⟨rfl, rfl⟩, fun p => by rw [qsT_ent, if_neg (by omega)]⟩
def qsGood : Ent := ⟨17, true, true, false⟩
theorem qs_P17 {S : Ts} {k : Nat} (h : QsAt S k) : S.P.getD 17 0 = 17 ∧ S.P.length = 18 := by
  rw [h.P]
  exact ⟨by decide, by decide⟩
theorem qs_setR {S : Ts} {k : Nat} (h : QsAt S k) : tSetR S 17 true = ⟨S.F.set 17 ⟨0, 0, (S.F.getD 17 default).wr + 1, (S.F.getD 17 default).us⟩, 0, 0⟩ := by
  obtain ⟨m, hi⟩ := h.inv
  have hl : 17 < S.F.length := by rw [hi.lf, h.n]; decide
  have hat : frAt S.F 17 = some 17 := by
    unfold frAt
    rw [if_pos ⟨by decide, by omega, by show (S.F.getD 17 default).owner ≠ -1; rw [h.F.1]; decide⟩]
    rfl
  unfold tSetR frThere
  rw [if_pos rfl, hat]
  dsimp only
  unfold kWrite
  rw [if_neg (by rw [h.F.2]; decide), h.F.1, h.F.2]
/-- one more -/
theorem qs_step {S : Ts} {k : Nat} (h : QsAt S k) (hk : k < 17) : (tPut S ((3 * k : Nat) : Int) qsGood).2 = 0 ∧ QsAt (tPut S ((3 * k : Nat) : Int) qsGood).1 (k + 1) := by
  obtain ⟨m, hi⟩ := h.inv
  have hp : isPage ((3 * k : Nat) : Int) = true := by simp [isPage]; omega
  have hR := qs_setR h
  have hc : (tSetR S 17 true).c = 0 := by rw [hR]
  have hl : 17 < S.F.length := by rw [hi.lf, h.n]; decide
  have hput : tPut S ((3 * k : Nat) : Int) qsGood = tSet S ((3 * k : Nat) : Int) 17 true := by
    unfold tPut
    rw [if_pos hp, if_pos (show qsGood.t = true from rfl), if_pos (show 0 ≤ qsGood.f ∧ qsGood.f < (S.P.length : Int) from ⟨by decide, by rw [(qs_P17 h).2]; decide⟩)]
    show (if (S.F.getD (S.P.getD 17 0).toNat default).owner = S.who then tSet S ((3 * k : Nat) : Int) (S.P.getD 17 0) true else (S, 110)) = _
    rw [(qs_P17 h).1, if_pos (by rw [h.who]; exact h.F.1)]
  have hno : ¬ (tEnt { S with F := (tSetR S 17 true).l } ((3 * k : Nat) : Int)).t = true := by
    rw [tEnt_F, h.ent, if_neg (by omega)]
    decide
  have hset : tSet S ((3 * k : Nat) : Int) 17 true = ({ S with F := (tSetR S 17 true).l, M := putE S.M (S.P.getD (1 + ((3 * k : Nat) : Int).toNat / 16) 0) ((((3 * k : Nat) : Int).toNat % 16 : Nat) : Int) ⟨17, true, true, true⟩ }, 0) := by
    unfold tSet
    rw [if_pos hc]
    have hd : tDrop { S with F := (tSetR S 17 true).l } ((3 * k : Nat) : Int) = ({ S with F := (tSetR S 17 true).l }, 0) := by
      unfold tDrop
      rw [if_pos hp, if_neg hno]
    rw [hd]
  have hinv := tSet_inv hi ((3 * k : Nat) : Int) 17 true hp
  have hent := tEnt_set hi ((3 * k : Nat) : Int) 17 true hp hc (by decide)
  rw [hput]
  refine ⟨by rw [hset], ⟨⟨_, hinv⟩, by rw [hset]; exact h.n, by rw [hset]; exact h.P, by rw [hset]; exact h.who, ?_, fun p => ?_⟩⟩
  · rw [hset]
    show ((tSetR S 17 true).l.getD 17 default).owner = 0 ∧ ((tSetR S 17 true).l.getD 17 default).kind = 0
    rw [hR]
    show ((S.F.set 17 _).getD 17 default).owner = 0 ∧ ((S.F.set 17 _).getD 17 default).kind = 0
    rw [fr_setD _ _ _ _ hl, if_pos rfl]
    exact ⟨rfl, rfl⟩
  · rw [hent p, h.ent p]
    by_cases e : p = ((3 * k : Nat) : Int)
    · rw [if_pos e, if_pos (by omega)]
    · rw [if_neg e]
      by_cases e2 : 0 ≤ p ∧ p % 3 = 0 ∧ p / 3 < (k : Int)
      · rw [if_pos e2, if_pos (by omega)]
      · rw [if_neg e2, if_neg (by omega)]
/-- how many are live -/
theorem qs_live {S : Ts} {k : Nat} (h : QsAt S k) (hk : k ≤ 17) : (tLive S).length = k := by
  have aux : ∀ n : Nat, (tLiveN S n).length = min k ((n + 2) / 3) := by
    intro n
    induction n with
    | zero => simp [tLiveN]
    | succ n ih =>
      unfold tLiveN
      rw [h.ent]
      by_cases e : 0 ≤ (n : Int) ∧ (n : Int) % 3 = 0 ∧ (n : Int) / 3 < (k : Int)
      · rw [if_pos e, if_pos rfl, List.length_append, ih]
        simp
        omega
      · rw [if_neg e, if_neg (by decide), ih]
        omega
  unfold tLive
  rw [aux]
  omega
/-- what waits -/
def qsL (n bad : Nat) (g b : Int) : List Up := (List.range n).map fun i => ⟨((3 * i : Nat) : Int), if i = bad then b else g⟩
theorem qsL_len (n bad : Nat) (g b : Int) : (qsL n bad g b).length = n := by simp [qsL]
theorem qsL_get (n bad i : Nat) (g b : Int) (h : i < n) : (qsL n bad g b).getD i default = ⟨((3 * i : Nat) : Int), if i = bad then b else g⟩ := by simp [qsL, h]
theorem qsL_succ (n bad : Nat) (g b : Int) : qsL (n + 1) bad g b = qsL n bad g b ++ [⟨((3 * n : Nat) : Int), if n = bad then b else g⟩] := by simp [qsL, List.range_succ]
/-- the good ones are done, the bad one is refused -/
theorem qs_flush (n bad : Nat) (g b c : Int) (hn : n ≤ 17) (hg : ofA g = (qsGood, true)) (hb : (ofA b = (⟨18, true, false, false⟩, true) ∧ c = 107) ∨ ((ofA b).2 = false ∧ c = 102)) : ∀ k, k ≤ bad → k ≤ n → QsAt (qS qsT (qsL n bad g b) k) k ∧ (∀ i, i < k → qC qsT (qsL n bad g b) i = 0) ∧ (k = bad → k < n → qC qsT (qsL n bad g b) k = c)
  | 0, _, _ => ⟨qs_zero, fun i hi => absurd hi (by omega), fun h1 h2 => qs_bad h1 h2 qs_zero⟩
  | k + 1, h1, h2 => by
    obtain ⟨ih1, ih2, -⟩ := qs_flush n bad g b c hn hg hb k (by omega) (by omega)
    obtain ⟨s1, s2⟩ := qs_step ih1 (by omega)
    have hget := qsL_get n bad k g b (by omega)
    rw [if_neg (by omega)] at hget
    have hS : qS qsT (qsL n bad g b) (k + 1) = (tPut (qS qsT (qsL n bad g b) k) ((3 * k : Nat) : Int) qsGood).1 := by
      show (if (ofA ((qsL n bad g b).getD k default).word).2 = true then (tPut (qS qsT (qsL n bad g b) k) ((qsL n bad g b).getD k default).page (ofA ((qsL n bad g b).getD k default).word).1).1 else _) = _
      rw [hget]
      show (if (ofA g).2 = true then (tPut (qS qsT (qsL n bad g b) k) ((3 * k : Nat) : Int) (ofA g).1).1 else _) = _
      rw [hg, if_pos rfl]
    have hC : qC qsT (qsL n bad g b) k = 0 := by
      unfold qC
      rw [hget]
      show (if (ofA g).2 = true then (tPut (qS qsT (qsL n bad g b) k) ((3 * k : Nat) : Int) (ofA g).1).2 else _) = _
      rw [hg, if_pos rfl]
      exact s1
    have hQ : QsAt (qS qsT (qsL n bad g b) (k + 1)) (k + 1) := by rw [hS]; exact s2
    exact ⟨hQ, fun i hi => by
      by_cases e : i = k
      · rw [e]; exact hC
      · exact ih2 i (by omega), fun h3 h4 => qs_bad h3 h4 hQ⟩
where
  qs_bad {k : Nat} (h1 : k = bad) (h2 : k < n) (hQ : QsAt (qS qsT (qsL n bad g b) k) k) : qC qsT (qsL n bad g b) k = c := by
    have hget := qsL_get n bad k g b h2
    rw [if_pos h1] at hget
    have hp : isPage ((3 * k : Nat) : Int) = true := by simp [isPage]; omega
    unfold qC
    rw [hget]
    show (if (ofA b).2 = true then (tPut (qS qsT (qsL n bad g b) k) ((3 * k : Nat) : Int) (ofA b).1).2 else 102) = c
    rcases hb with ⟨hb, rfl⟩ | ⟨hb, rfl⟩
    · rw [hb, if_pos rfl]
      unfold tPut
      rw [if_pos hp, if_pos rfl, if_neg (by rw [(qs_P17 hQ).2]; decide)]
    · rw [hb, if_neg (by decide)]
/-- what Flush answers -/
theorem qs_ans (n bad : Nat) (g b c : Int) (hn : n ≤ 17) (hbad : bad ≤ n) (hg : ofA g = (qsGood, true)) (hb : (ofA b = (⟨18, true, false, false⟩, true) ∧ c = 107) ∨ ((ofA b).2 = false ∧ c = 102)) {k : Nat} {x : Int} (h : FlIs qsT (qsL n bad g b) k x) : k = bad ∧ x = (if bad = n then 0 else c) ∧ (tLive (qS qsT (qsL n bad g b) k)).length = bad := by
  obtain ⟨h1, h2, h3⟩ := qs_flush n bad g b c hn hg hb bad (Nat.le_refl _) hbad
  have hc0 : c ≠ 0 := by rcases hb with ⟨-, rfl⟩ | ⟨-, rfl⟩ <;> decide
  have hl := h.2
  rw [qsL_len] at hl
  have hk : k = bad := by
    rcases Nat.lt_trichotomy k bad with hlt | he | hgt
    · rcases hl with ⟨e, -⟩ | ⟨-, e1, e2⟩
      · omega
      · exact absurd (e1.trans (h2 k hlt)) e2
    · exact he
    · have := h.1 bad hgt
      rw [h3 rfl (by rcases hl with ⟨e, -⟩ | ⟨e, -⟩ <;> omega)] at this
      exact absurd this hc0
  refine ⟨hk, ?_, by rw [hk]; exact qs_live h1 (by omega)⟩
  by_cases e : bad = n
  · rw [if_pos e]
    rcases hl with ⟨-, e1⟩ | ⟨e1, -⟩
    · exact e1
    · omega
  · rw [if_neg e]
    rcases hl with ⟨e1, -⟩ | ⟨e1, e2, -⟩
    · omega
    · rw [e2, hk]
      exact h3 rfl (by omega)
end Go.Proofs.YtnhocmmgdkiepaaDoor
