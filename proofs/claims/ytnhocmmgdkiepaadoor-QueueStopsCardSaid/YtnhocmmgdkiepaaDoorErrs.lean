/-
  The program's sentinels: what the condition on them gives a walk: where each lies, and that no two are one.
-/
import Derived.Test.YtnhocmmgdkiepaaDoorLaw
import Derived.LaidMore
import Derived.LaidEql
import Derived.Stop.LaidErr
namespace Go.Proofs.YtnhocmmgdkiepaaDoor
open Go.ChangeShapes Go.WideShapes Go.ChangeAt Go.RowKit

/-- sentinel a is what variable g holds, and lies in a block of its own, not frozen -/
def SentAt (tp : TypeId) (W : World) (g : Nat) (a : Addr) : Prop := W.cell? ⟨g, 0, none⟩ = some (.iface tp (.pointer (some a))) ∧ ∃ c t, W.heap[a.block]? = some (.cells c t (0, 0))
theorem SentAt.mono {tp : TypeId} {W w : World} {g : Nat} {a : Addr} (h : SentAt tp W g a) (hb : Below W.heap.size W w) : SentAt tp w g a := by
  obtain ⟨h1, c, t, h2⟩ := h
  exact ⟨(hb.cell (World.block_lt_of_cell? W _ h1)).trans h1, c, t, by rw [hb.block _ (blk_lt h2)]; exact h2⟩

theorem sents {P : Program} {nm : String} {ti tp te ts : TypeId} {ms : Array (String × TypeId)} {f : Field} {W : World}
    (hi : P.underlying ti = some (.interface ms)) (hrow : ∀ u, P.typeName? 3 u = some nm → u = tp) (hp : P.underlying tp = some (.pointer te)) (he : P.underlying te = some (.struct #[f])) (hft : f.type = ts) (hfo : f.offset = 0)
    (hs : P.underlying ts = some .string) (hc : P.cellsOf te = 1) (hcs : P.cellsOf ts = 1) :
    ∀ (L : List (String × DataW Unit)) (ps : List MemPlace), DataW.LaidVars P W L ps → ps.Nodup →
      (∀ b off, MemPlace.cell b off ∈ ps → (∃ c t, W.heap[b]? = some (.cells c t (0, 0))) ∧ ∀ u v, W.cell? ⟨b, off, none⟩ = some (.iface u v) → Value.okWide P W .any 0 u v) →
      (∀ x ∈ L, (∃ text, x.2 = .iface nm (.ptr (.agg [.lit (.string text)]))) ∧ ∀ g, P.globalNamed x.1 = some g → (P.globals[g]?).map (·.type) = some ti) →
      ∃ A : List Addr, A.length = L.length ∧ A.Nodup ∧ (∀ a ∈ A, MemPlace.cell a.block a.off ∈ ps) ∧ ∀ (i : Nat) x a, L[i]? = some x → A[i]? = some a → ∃ g, P.globalNamed x.1 = some g ∧ SentAt tp W g a
  | [], ps, _, _, _, _ => ⟨[], rfl, by simp, by simp, by simp⟩
  | (n, d) :: L, ps, hv, hnd, hrows, hL => by
    obtain ⟨g, t, cs, fuel, p, q, hg, ht, hvar, hd, hq, rfl⟩ := hv
    obtain ⟨⟨text, hdt⟩, hty⟩ := hL (n, d) (by simp)
    have hdt' : d = .iface nm (.ptr (.agg [.lit (.string text)])) := hdt
    subst hdt'
    obtain rfl := Option.some.inj ((hty g hg).symm.trans ht)
    obtain ⟨l0⟩ := cs
    have hnd2 := List.nodup_append.1 hnd
    have ok0 : ∀ u v, l0 = [.iface u v] → Value.okWide P W .any 0 u v := fun u v e => by
      subst e
      exact (hrows g 0 (by simp [MemPlace.row])).2 u v (by simpa using World.var?_cell hg hvar 0)
    obtain ⟨a, s, rfl, hca, hsa, hza, rfl⟩ := errorString_of_trod hi hrow hp he hft hfo hs hc hcs hd ok0
    obtain ⟨A, h1, h2, h3, h4⟩ := sents hi hrow hp he hft hfo hs hc hcs L q hq hnd2.2.1 (fun b off hm => hrows b off (List.mem_append_right _ hm)) (fun x hx => hL x (by simp [hx]))
    have hin : MemPlace.cell a.block a.off ∈ MemPlace.row a 1 := by simp [MemPlace.row]
    refine ⟨a :: A, by simp [h1], ?_, ?_, ?_⟩
    · rw [List.nodup_cons]
      refine ⟨fun hm => ?_, h2⟩
      have hq' := h3 a hm
      exact hnd2.2.2 _ (List.mem_append_right _ hin) _ hq' rfl
    · intro b hb
      rcases List.mem_cons.1 hb with rfl | hb
      · exact List.mem_append_left _ (List.mem_append_right _ hin)
      · exact List.mem_append_right _ (h3 b hb)
    · intro i x b hx hb
      cases i with
      | zero =>
        simp only [List.getElem?_cons_zero, Option.some.injEq] at hx hb
        subst hx hb
        refine ⟨g, hg, by simpa using World.var?_cell hg hvar 0, ?_⟩
        exact (hrows a.block a.off (List.mem_append_left _ (List.mem_append_right _ hin))).1
      | succ i => exact h4 i x b (by simpa using hx) (by simpa using hb)

/-- the sentinels of the numbers S: sentinel k is at E k, variable G k holds it; no two are one -/
def ErrsAt (tp : TypeId) (G : Nat → Nat) (W : World) (E : Nat → Addr) (S : List Nat) : Prop := (∀ k ∈ S, SentAt tp W (G k) (E k)) ∧ ∀ i ∈ S, ∀ j ∈ S, i ≠ j → E i ≠ E j
theorem ErrsAt.mono {tp : TypeId} {G : Nat → Nat} {W w : World} {E : Nat → Addr} {S : List Nat} (h : ErrsAt tp G W E S) (hb : Below W.heap.size W w) : ErrsAt tp G w E S := ⟨fun k hk => (h.1 k hk).mono hb, h.2⟩

theorem errs_of {P : Program} {tp : TypeId} {G : Nat → Nat} {W : World} (L : List (String × DataW Unit)) (S : List Nat) (hS : S.Nodup) (hlen : L.length = S.length)
    (hG : ∀ (i : Nat) x k, L[i]? = some x → S[i]? = some k → P.globalNamed x.1 = some (G k))
    (h : ∃ A : List Addr, A.length = L.length ∧ A.Nodup ∧ ∀ (i : Nat) x a, L[i]? = some x → A[i]? = some a → ∃ g, P.globalNamed x.1 = some g ∧ SentAt tp W g a) : ∃ E, ErrsAt tp G W E S := by
  obtain ⟨A, h1, h2, h3⟩ := h
  have idx : ∀ k ∈ S, ∃ i, S[i]? = some k ∧ S.idxOf k = i ∧ i < S.length := fun k hk => ⟨S.idxOf k, by rw [List.getElem?_eq_getElem (List.idxOf_lt_length_of_mem hk)]; simp, rfl, List.idxOf_lt_length_of_mem hk⟩
  refine ⟨fun k => A.getD (S.idxOf k) ⟨0, 0, none⟩, fun k hk => ?_, fun i hi j hj hne he => ?_⟩
  · obtain ⟨i, e1, e2, e3⟩ := idx k hk
    have hAi : A[i]? = some (A.getD (S.idxOf k) ⟨0, 0, none⟩) := by
      rw [e2, List.getD_eq_getElem?_getD, List.getElem?_eq_getElem (by omega)]
      rfl
    obtain ⟨x, hx⟩ : ∃ x, L[i]? = some x := ⟨_, List.getElem?_eq_getElem (by omega)⟩
    obtain ⟨g, hg, hs⟩ := h3 i x _ hx hAi
    obtain rfl := Option.some.inj ((hG i x k hx e1).symm.trans hg)
    exact hs
  · obtain ⟨a, a1, a2, a3⟩ := idx i hi
    obtain ⟨b, b1, b2, b3⟩ := idx j hj
    have he' : A.getD (S.idxOf i) ⟨0, 0, none⟩ = A.getD (S.idxOf j) ⟨0, 0, none⟩ := he
    rw [a2, b2, List.getD_eq_getElem?_getD, List.getD_eq_getElem?_getD, List.getElem?_eq_getElem (by omega), List.getElem?_eq_getElem (by omega)] at he'
    simp only [Option.getD_some] at he'
    have hp := List.pairwise_iff_getElem.1 h2
    rcases Nat.lt_trichotomy a b with h | h | h
    · exact hp a b (by omega) (by omega) h he'
    · subst h
      rw [a1] at b1
      exact hne (Option.some.inj b1)
    · exact hp b a (by omega) (by omega) h he'.symm
end Go.Proofs.YtnhocmmgdkiepaaDoor
