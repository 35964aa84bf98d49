/-
  Calls as words, plain: what Batch reads of them.
-/
import Derived.Test.YtpmbbbgmaipmbaaDoorHcBatch
import Derived.Test.YtpmbbbgmaipmbaaDoorStructs
namespace Go.Proofs.YtpmbbbgmaipmbaaDoor
open Go.ChangeShapes Go.WideShapes Go.ChangeAt Go.RowKit Go.Joins Go.Deep

def hcW (x : Hc) : List Int := [x.num, x.a, x.b, x.c, x.d]
def hcWords (l : List Hc) : List Int := l.flatMap hcW
theorem hcW_len (x : Hc) : (hcW x).length = 5 := rfl
theorem hcWords_len (l : List Hc) : (hcWords l).length = 5 * l.length := by
  unfold hcWords
  rw [rec_len hcW 5 hcW_len]
  omega
theorem hcWords_get (l : List Hc) (i j : Nat) (hi : i < l.length) (hj : j < 5) : (hcWords l).getD (5 * i + j) 0 = (hcW (l.getD i default)).getD j 0 := by
  unfold hcWords
  rw [List.getD_eq_getElem?_getD, show 5 * i + j = i * 5 + j by omega, rec_get hcW 5 hcW_len l i j hi hj, List.getD_eq_getElem?_getD (l := hcW _)]
theorem hcWords_num (l : List Hc) (i : Nat) (hi : i < l.length) : (hcWords l).getD (5 * i) 0 = (l.getD i default).num := hcWords_get l i 0 hi (by decide)
theorem hcAt_words (l : List Hc) (i : Nat) (hi : i < l.length) : hcAt (hcWords l) i = cutL (l.getD i default).num (argN (l.getD i default).num) [(l.getD i default).a, (l.getD i default).b, (l.getD i default).c, (l.getD i default).d] := by
  unfold hcAt
  rw [hcWords_num l i hi, hcWords_get l i 1 hi (by decide), hcWords_get l i 2 hi (by decide), hcWords_get l i 3 hi (by decide), hcWords_get l i 4 hi (by decide)]
  rfl
theorem hcWords_in (l : List Hc) (h : ∀ x ∈ l, ∀ z ∈ hcW x, 0 ≤ z ∧ z ≤ 4294967295) : ∀ z ∈ hcWords l, 0 ≤ z ∧ z ≤ 4294967295 := by
  intro z hz
  unfold hcWords at hz
  rw [List.mem_flatMap] at hz
  obtain ⟨x, hx, hzx⟩ := hz
  exact h x hx z hzx
theorem hcWords_next (l : List Hc) (j : Nat) (hj : j < l.length) : hcWords (l.take (j + 1)) = hcWords (l.take j) ++ hcW (l.getD j default) := by
  unfold hcWords
  rw [List.take_add_one, List.flatMap_append, List.getElem?_eq_getElem hj, List.getD_eq_getElem?_getD, List.getElem?_eq_getElem hj]
  simp
/-- the first that is none, as the loop keeps it -/
def badI (ws : List Int) (n : Nat) : Int := match hcBad ws n with
  | none => -1
  | some i => (i : Int)
theorem badI_zero (ws : List Int) : badI ws 0 = -1 := rfl
theorem hcBad_succ (ws : List Int) (n : Nat) : hcBad ws (n + 1) = (hcBad ws n).or (if goodW (ws.getD (5 * n) 0) = true then none else some n) := by
  unfold hcBad
  rw [List.range_succ, List.find?_append]
  congr 1
  rw [List.find?_cons]
  cases goodW (ws.getD (5 * n) 0) <;> rfl
theorem badI_succ (ws : List Int) (n : Nat) : badI ws (n + 1) = if goodW (ws.getD (5 * n) 0) = false ∧ badI ws n < 0 then (n : Int) else badI ws n := by
  unfold badI
  rw [hcBad_succ]
  cases h : hcBad ws n with
  | none =>
    cases g : goodW (ws.getD (5 * n) 0) with
    | true => simp
    | false => simp
  | some i =>
    have : ¬ ((i : Int) < 0) := by omega
    simp [this]
theorem badI_none (ws : List Int) (n : Nat) (h : badI ws n < 0) : hcBad ws n = none := by
  unfold badI at h
  cases g : hcBad ws n with
  | none => rfl
  | some i => rw [g] at h; dsimp only at h; omega
theorem badI_some (ws : List Int) (n : Nat) (h : 0 ≤ badI ws n) : ∃ i : Nat, hcBad ws n = some i ∧ badI ws n = (i : Int) := by
  unfold badI at h ⊢
  cases g : hcBad ws n with
  | none => rw [g] at h; dsimp only at h; omega
  | some i => exact ⟨i, rfl, rfl⟩
/-- a list of calls that came in -/
def hcOk (x : Hc) : Prop := (-9223372036854775808 ≤ x.num ∧ x.num ≤ 9223372036854775807) ∧ (0 ≤ x.a ∧ x.a ≤ 4294967295) ∧ (0 ≤ x.b ∧ x.b ≤ 4294967295) ∧ (0 ≤ x.c ∧ x.c ≤ 4294967295) ∧ (0 ≤ x.d ∧ x.d ≤ 4294967295)
set_option maxRecDepth 100000 in
theorem open_hcs {H : Type} {enc : TypeId × Value → H} {W : World} {v : Value} {d : DataW H} {p : List MemPlace} {r : Reach} {b0 : Nat}
    (hv : Value.okWide Tryd.prog W r b0 74 v) (h : DataW.Trod enc Tryd.prog W 0 (fun _ => true) true 74 v d p) :
    ∃ (ao : Option Addr) (cap : Nat) (l : List Hc), v = .slice ao l.length cap ∧ l.length ≤ maxLen ∧ (∀ x ∈ l, hcOk x) ∧ AtL W ao (l.flatMap hcCells) ∧ l.length ≤ cap :=
  open_structs (C := 5) Tryd.underlying74 (by kernel_rfl) (by decide) hcCells hcOk hv h fun n cs y hl hd => by
    obtain ⟨xs, n', -, -, hxl, hx, hi⟩ := DataW.trod_struct Tryd.underlying55 hd
    have hx6 : xs.length = 5 := hx
    have get : ∀ i, i < 5 → ∃ y, xs[i]? = some y := fun i hi => ⟨_, List.getElem?_eq_getElem (by omega)⟩
    obtain ⟨y0, g0⟩ := get 0 (by omega)
    obtain ⟨y1, g1⟩ := get 1 (by omega)
    obtain ⟨y2, g2⟩ := get 2 (by omega)
    obtain ⟨y3, g3⟩ := get 3 (by omega)
    obtain ⟨y4, g4⟩ := get 4 (by omega)
    obtain ⟨a, e0, k0⟩ := fld_int Tryd.underlying3 (by kernel_rfl) ((hi 0 _ rfl).trans g0)
    obtain ⟨b, e1, k1⟩ := fld_int Tryd.underlying22 (by kernel_rfl) ((hi 1 _ rfl).trans g1)
    obtain ⟨c, e2, k2⟩ := fld_int Tryd.underlying22 (by kernel_rfl) ((hi 2 _ rfl).trans g2)
    obtain ⟨dd, e3, k3⟩ := fld_int Tryd.underlying22 (by kernel_rfl) ((hi 3 _ rfl).trans g3)
    obtain ⟨g, e4, k4⟩ := fld_int Tryd.underlying22 (by kernel_rfl) ((hi 4 _ rfl).trans g4)
    refine ⟨⟨a, b, c, dd, g⟩, ?_, ?_⟩
    · match cs, hl with
      | [b0, b1, b2, b3, b4], _ =>
        have q0 : some b0 = some _ := e0
        have q1 : some b1 = some _ := e1
        have q2 : some b2 = some _ := e2
        have q3 : some b3 = some _ := e3
        have q4 : some b4 = some _ := e4
        cases q0
        cases q1
        cases q2
        cases q3
        cases q4
        rfl
    · simp only [Lit.wf, IntKind.min, IntKind.max, IntKind.signed, IntKind.bits] at k0 k1 k2 k3 k4
      unfold hcOk
      simp at k0 k1 k2 k3 k4
      exact ⟨k0, k1, k2, k3, k4⟩
end Go.Proofs.YtpmbbbgmaipmbaaDoor
