/-
  Parts of one proof, one behind the other.
-/
import Derived.Test.YtnhocmmgdkiepaaDoorMgb978c96bb6
import Derived.Test.YtnhocmmgdkiepaaDoorMg891e6fd1b3
import Derived.Deep.Slices
import Derived.Test.YtnhocmmgdkiepaaDoorMgea7e7ee97c
/-
  Slices of structs that came in: each element's cells. Over any program.
-/
namespace Go.Proofs.YtnhocmmgdkiepaaDoor
open Go.ChangeShapes Go.WideShapes Go.ChangeAt Go.RowKit Go.Joins Go.Deep

theorem flat_get {α : Type} (cells : α → List Value) (C : Nat) (h0 : 0 < C) : ∀ (l : List α) (k : Nat) (u : Value), (∀ x ∈ l, (cells x).length = C) → (l.flatMap cells)[k]? = some u → ∃ x, l[k / C]? = some x ∧ (cells x)[k % C]? = some u
  | [], k, u, _, h => by simp at h
  | x :: l, k, u, hl, h => by
    rw [List.flatMap_cons, List.getElem?_append, hl x (by simp)] at h
    by_cases hk : k < C
    · rw [if_pos hk] at h
      exact ⟨x, by rw [Nat.div_eq_of_lt hk]; rfl, by rw [Nat.mod_eq_of_lt hk]; exact h⟩
    · rw [if_neg hk] at h
      obtain ⟨y, h1, h2⟩ := flat_get cells C h0 l (k - C) u (fun x hx => hl x (by simp [hx])) h
      refine ⟨y, ?_, ?_⟩
      · rw [Nat.div_eq_sub_div h0 (by omega), List.getElem?_cons_succ]
        exact h1
      · rw [Nat.mod_eq_sub_mod (by omega)]
        exact h2

theorem open_structs {H : Type} {enc : TypeId × Value → H} {P : Program} {W : World} {t e : TypeId} {C : Nat} {v : Value} {d : DataW H} {p : List MemPlace} {r : Reach} {b0 : Nat}
    (ht : P.underlying t = some (.slice e)) (hC : P.cellsOf e = C) (h0 : 0 < C) {α : Type} [Inhabited α] (cells : α → List Value) (ok : α → Prop) (hv : Value.okWide P W r b0 t v) (h : DataW.Trod enc P W 0 (fun _ => true) true t v d p)
    (hK : ∀ n cs y, cs.length = C → DataW.trod enc P W 0 (fun _ => true) true n e cs = some y → ∃ x, cs = cells x ∧ ok x) :
    ∃ (ao : Option Addr) (cap : Nat) (l : List α), v = .slice ao l.length cap ∧ l.length ≤ maxLen ∧ (∀ x ∈ l, ok x) ∧ AtL W ao (l.flatMap cells) ∧ l.length ≤ cap := by
  obtain ⟨a0, len, cap, rfl⟩ := okWide_slice ht hv
  obtain ⟨fuel, hf⟩ := h
  rcases open_slice ht hf with ⟨hcs, _⟩ | ⟨a, l, c, m, n, D, Pl, hcs, _, hl, hm, hmm, _, hi⟩
  · simp [Value.cells] at hcs
    obtain ⟨rfl, rfl, rfl⟩ := hcs
    exact ⟨none, 0, [], rfl, by simp, by simp, atL_nil _ _, by simp⟩
  · simp [Value.cells] at hcs
    obtain ⟨rfl, rfl, rfl⟩ := hcs
    have hmc : m = cap := by simpa using hmm
    subst hmc
    have hx : ∀ i, i < m → ∃ x : α, ok x ∧ (cells x).length = C ∧ ∀ j u, (cells x)[j]? = some u → W.cell? (a.add (i * C + j)) = some u := fun i him => by
      obtain ⟨cs, hc, hd⟩ := hi i him
      rw [hC] at hc
      obtain ⟨_, hcl, hat⟩ := World.cells?_some hc
      obtain ⟨x, rfl, hok⟩ := hK _ _ _ hcl hd
      refine ⟨x, hok, hcl, fun j u hj => ?_⟩
      have hjl := (List.getElem?_eq_some_iff.1 hj).1
      rw [← Go.Deep.add_add, hat j (by omega)]
      exact hj
    obtain ⟨f, hfx⟩ := choose_lt (α := α) hx
    have hlen : ((List.range len).map f).length = len := by simp
    refine ⟨some a, m, (List.range len).map f, by rw [hlen], by rw [hlen]; omega, ?_, ?_, by rw [hlen]; exact hl⟩
    · intro x hx
      simp only [List.mem_map, List.mem_range] at hx
      obtain ⟨i, hil, rfl⟩ := hx
      exact (hfx i (by omega)).1
    · intro k u hk
      obtain ⟨x, h1, h2⟩ := flat_get cells C h0 _ k u (fun x hx => by
        simp only [List.mem_map, List.mem_range] at hx
        obtain ⟨i, hil, rfl⟩ := hx
        exact (hfx i (by omega)).2.1) hk
      have hkl := (List.getElem?_eq_some_iff.1 h1).1
      rw [hlen] at hkl
      simp only [List.getElem?_map, List.getElem?_range hkl, Option.map_some, Option.some.injEq] at h1
      subst h1
      have hcell := (hfx (k / C) (Nat.lt_of_lt_of_le hkl hl)).2.2 _ u h2
      have e : k / C * C + k % C = k := by rw [Nat.mul_comm]; exact Nat.div_add_mod k C
      rw [e] at hcell
      have hspot : a.spot = none := by
        have h2 := (hfx 0 (Nat.lt_of_lt_of_le (Nat.lt_of_le_of_lt (Nat.zero_le _) hkl) hl)).2
        obtain ⟨u0, hu0⟩ : ∃ u0, (cells (f 0))[0]? = some u0 := ⟨_, List.getElem?_eq_getElem (by rw [h2.1]; exact h0)⟩
        have hs := World.cell?_spot (h2.2 0 u0 hu0)
        simpa [Addr.add] using hs
      obtain ⟨b, off, spot⟩ := a
      have hspot' : spot = none := hspot
      subst hspot'
      rw [Addr.add_lit] at hcell
      exact ⟨b, off, rfl, hcell, World.block_lt_of_cell? W ⟨b, off + k, none⟩ hcell⟩

/-- one field of a struct's cells -/
theorem one_of {cs : List Value} {o : Nat} {v : Value} (h : cs[o]? = some v) (hl : o < cs.length) : cs[o] = v := by
  rw [List.getElem?_eq_getElem hl] at h
  exact Option.some.inj h

theorem bls_flat (l : List Bool) : (l.flatMap fun b : Bool => [Value.bool b]) = bls l := by
  induction l with
  | nil => rfl
  | cons x l ih =>
    rw [List.flatMap_cons, ih]
    rfl

theorem open_bools {H : Type} {enc : TypeId × Value → H} {P : Program} {W : World} {t e : TypeId} {v : Value} {d : DataW H} {p : List MemPlace} {r : Reach} {b0 : Nat}
    (ht : P.underlying t = some (.slice e)) (he : P.underlying e = some .bool) (hC : P.cellsOf e = 1) (hv : Value.okWide P W r b0 t v) (h : DataW.Trod enc P W 0 (fun _ => true) true t v d p) :
    ∃ (ao : Option Addr) (cap : Nat) (l : List Bool), v = .slice ao l.length cap ∧ l.length ≤ maxLen ∧ AtL W ao (bls l) ∧ l.length ≤ cap := by
  obtain ⟨ao, cap, l, e1, e2, -, e3, e4⟩ := open_structs ht hC (by decide) (fun b : Bool => [.bool b]) (fun _ => True) hv h (fun n cs y hl hd => by
    obtain ⟨b, e, -⟩ := DataW.trod_bool he hd
    exact ⟨b, e, trivial⟩)
  refine ⟨ao, cap, l, e1, e2, ?_, e4⟩
  rw [← bls_flat]
  exact e3
end Go.Proofs.YtnhocmmgdkiepaaDoor

/-
  What a scheduler is told, as it came in.
-/
namespace Go.Proofs.YtnhocmmgdkiepaaDoor
open Go.ChangeShapes Go.WideShapes Go.ChangeAt Go.RowKit Go.Joins

set_option maxRecDepth 100000 in
theorem open_scdo {H : Type} {enc : TypeId × Value → H} {W : World} {v : Value} {d : DataW H} {p : List MemPlace} {r : Reach} {b0 : Nat}
    (hv : Value.okWide Tryd.prog W r b0 88 v) (h : DataW.Trod enc Tryd.prog W 0 (fun _ => true) true 88 v d p) :
    ∃ (ao : Option Addr) (cap : Nat) (l : List SDo), v = .slice ao l.length cap ∧ l.length ≤ maxLen ∧ (∀ x ∈ l, sdoOk x) ∧ AtL W ao (l.flatMap sdoCells) ∧ l.length ≤ cap :=
  open_structs (C := 4) Tryd.underlying88 (by kernel_rfl) (by decide) sdoCells sdoOk hv h fun n cs y hl hd => by
    obtain ⟨xs, n', -, -, hxl, hx, hi⟩ := DataW.trod_struct Tryd.underlying94 hd
    have hx5 : xs.length = 4 := hx
    have get : ∀ i, i < 4 → ∃ y, xs[i]? = some y := fun i hi => ⟨_, List.getElem?_eq_getElem (by omega)⟩
    obtain ⟨y0, g0⟩ := get 0 (by omega)
    obtain ⟨y1, g1⟩ := get 1 (by omega)
    obtain ⟨y2, g2⟩ := get 2 (by omega)
    obtain ⟨y3, g3⟩ := get 3 (by omega)
    obtain ⟨a, e0, w0⟩ := fld_int Tryd.underlying3 (by kernel_rfl) ((hi 0 _ rfl).trans g0)
    obtain ⟨b, e1, w1⟩ := fld_int Tryd.underlying3 (by kernel_rfl) ((hi 1 _ rfl).trans g1)
    obtain ⟨c, e2, w2⟩ := fld_int Tryd.underlying3 (by kernel_rfl) ((hi 2 _ rfl).trans g2)
    obtain ⟨e, e3, w3⟩ := fld_int Tryd.underlying2 (by kernel_rfl) ((hi 3 _ rfl).trans g3)
    refine ⟨⟨a, b, c, e⟩, ?_, by simpa [Lit.wf, IntKind.min, IntKind.max, IntKind.signed, IntKind.bits] using w0, by simpa [Lit.wf, IntKind.min, IntKind.max, IntKind.signed, IntKind.bits] using w1, by simpa [Lit.wf, IntKind.min, IntKind.max, IntKind.signed, IntKind.bits] using w2, by simpa [Lit.wf, IntKind.min, IntKind.max, IntKind.signed, IntKind.bits] using w3⟩
    match cs, hl with
    | [b0, b1, b2, b3], _ =>
      have q0 : some b0 = some _ := e0
      have q1 : some b1 = some _ := e1
      have q2 : some b2 = some _ := e2
      have q3 : some b3 = some _ := e3
      cases q0
      cases q1
      cases q2
      cases q3
      rfl
end Go.Proofs.YtnhocmmgdkiepaaDoor

