/-
  append(s, make([]T, m)...), the row too short: a new row, zeros behind the old cells.
-/
import Derived.Test.YtpmbbbgmaipmbaaDoorLists
namespace Go.Proofs.YtpmbbbgmaipmbaaDoor
open Go.RowKit

theorem zeroCells_one (z : Value) (m : Nat) : (Builtin.zeroCells #[z] m).toList = List.replicate m z := by
  simp [Builtin.zeroCells]
  apply List.ext_getElem
  · simp
  · intro i h1 h2
    simp [Nat.mod_one]

theorem run_append_made {P : Program} (w : World) (t ty e x : TypeId) (i : TypeInfo) (z : Value) (bytes : Nat) (ht : P.underlying t = some (.slice e)) (hx : P.underlying x = some (.int .i64)) (hi : P.info? e = some i) (hz : i.zero = some z)
    (hsize : i.size = 1) (hby : i.bytes = bytes) (hzs : z.cells = #[z]) (g n cap : Nat) (xs : List Value) (hown : w.ownsRow 0 e 1 (.slice (some ⟨g, 0, none⟩) n cap) n xs)
    (m : Nat) (h0 : 0 < m) (hg : cap < n + m) (h63 : n + m ≤ maxLen) (hbytes : (n + m) * bytes ≤ 140737488355328) :
    ∃ c' w', (Builtin.append_ #[t, x] ty #[.slice (some ⟨g, 0, none⟩) n cap, .int .i64 (m : Int)]).run P w = .ok (.slice (some ⟨w.heap.size, 0, none⟩) (n + m) c') w' ∧
      w'.ownsRow 0 e 1 (.slice (some ⟨w.heap.size, 0, none⟩) (n + m) c') (n + m) (xs ++ List.replicate m z) ∧ Below w.heap.size w w' := by
  have hlo : xs.length = n * 1 := hown.1
  have hsmall : n + m ≤ 9223372036854775807 := by simp only [maxLen] at h63; omega
  have holds : ∀ j v, xs[j]? = some v → w.cell? ((⟨g, 0, none⟩ : Addr).add j) = some v := hown.cells (g := g) rfl
  have hge := grownCap_ge w (n + m) cap e
  have hcm : grownCap w (n + m) cap e ≤ maxLen := grownCap_le_maxLen w (n + m) cap e h63
  refine ⟨grownCap w (n + m) cap e, w.drew.alloc (.cells (xs.toArray ++ Builtin.zeroCells #[z] m ++ Builtin.zeroCells #[z] (grownCap w (n + m) cap e - (n + m))) e), ?_, ⟨?_, .inr ⟨w.heap.size, _, _, rfl, Nat.zero_le _, heap_alloc_new w.drew _, hge, hcm, ?_, ?_⟩⟩, ?_⟩
  · have hn : ¬ (n + m ≤ cap) := by omega
    have hwr := IntWalk.i64_in (m : Int) (by omega)
    have hneg : ¬ ((m : Int) < 0) := by omega
    have hm48 : (m : Nat) * bytes ≤ 140737488355328 := Nat.le_trans (Nat.mul_le_mul_right _ (by omega)) hbytes
    have hm48' : ¬ ((281474976710656 : Int) < (m : Int) * (i.bytes : Int)) := by
      rw [hby, ← Int.natCast_mul]
      omega
    have h63' : ¬ (9223372036854775807 < ((n : Int) + (m : Int))) := by omega
    have hfit := growslice_fits (need := n + m) (old := cap) (bytes := bytes) hg hbytes
    have h48' : ¬ (281474976710656 < Builtin.nextslicecap (n + m) cap * i.bytes) := by rw [hby]; omega
    have hm0 : ¬ (m = 0) := by omega
    have hfo := run_firstCells_some (P := P) w.drew i.size n ⟨g, 0, none⟩ n cap xs (by rw [hsize]; exact hlo) (by simpa using holds)
    rw [hsize] at hfo
    simp [Builtin.append_, run_underlying ht, run_underlying hx, sizeOf, typeInfo, zeroValue, hi, hz, Builtin.lenOf, hn, h63', h48', hm48', hwr, hneg, hm0, hsize, Question.forced, hfo, newRow, grownCap, asInt, asIntOf, hzs]
  · simp [hlo]
  · have e0 : (Builtin.zeroCells #[z] m).size = m := by rw [← Array.length_toList, zeroCells_one]; simp
    have e1 : (Builtin.zeroCells #[z] (grownCap w (n + m) cap e - (n + m))).size = grownCap w (n + m) cap e - (n + m) := by rw [← Array.length_toList, zeroCells_one]; simp
    rw [Array.size_append, Array.size_append, List.size_toArray, e0, e1, hlo]
    omega
  · simp only [Array.toList_append, zeroCells_one]
    rw [List.take_append_of_le_length (by simp [hlo])]
    exact List.take_of_length_le (by simp [hlo])
  · exact (Below.drew (Below.refl _ _)).alloc (Nat.le_refl _) _
theorem wpList_append_made {P : Program} (w : World) {ops : Array Oper} {rest : List Oper} {o : Oper} {a : Act} {Q : Exit → Act → World → Prop} (hgd : o.guard = none) (s x : Operand) (t tx : TypeId)
    (ho : o.op = .call { callee := .builtin .append, args := #[s, x], argTypes := #[t, tx] })
    (e : TypeId) (i : TypeInfo) (z : Value) (bytes : Nat) (ht : P.underlying t = some (.slice e)) (hx : P.underlying tx = some (.int .i64)) (hi : P.info? e = some i) (hz : i.zero = some z)
    (hsize : i.size = 1) (hby : i.bytes = bytes) (hzs : z.cells = #[z]) (g n cap : Nat) (hs : a.eval s = .slice (some ⟨g, 0, none⟩) n cap) (m : Nat) (hm : a.eval x = .int .i64 (m : Int))
    (xs : List Value) (hown : w.ownsRow 0 e 1 (.slice (some ⟨g, 0, none⟩) n cap) n xs)
    (h0 : 0 < m) (hg : cap < n + m) (h63 : n + m ≤ maxLen) (hbytes : (n + m) * bytes ≤ 140737488355328)
    (h : ∀ c' w', w'.ownsRow 0 e 1 (.slice (some ⟨w.heap.size, 0, none⟩) (n + m) c') (n + m) (xs ++ List.replicate m z) → Below w.heap.size w w' → wpList P ops Q rest (a.put o.dst (.slice (some ⟨w.heap.size, 0, none⟩) (n + m) c')) w') : wpList P ops Q (o :: rest) a w := by
  refine wpList_plain hgd fun K hK => ?_
  obtain ⟨c', w', hr, h2, h3⟩ := run_append_made (P := P) w t o.type e tx i z bytes ht hx hi hz hsize hby hzs g n cap xs hown m h0 hg h63 hbytes
  unfold Oper.wp execOp
  simp only [ho, resolve, invoke, builtin, Sem.run_bind, Sem.run_pure, Result.andThen_ok, List.map_toArray, List.map_cons, List.map_nil, hs, hm, hr]
  exact hK _ _ (h c' w' h2 h3)
theorem own_new (w : World) (e : TypeId) (xs : List Value) (n : Nat) (hn : xs.length = n) (hm : n ≤ maxLen) : (w.alloc (.cells xs.toArray e)).ownsRow 0 e 1 (.slice (some ⟨w.heap.size, 0, none⟩) n n) n xs :=
  ⟨by omega, .inr ⟨w.heap.size, n, xs.toArray, rfl, Nat.zero_le _, heap_alloc_new w _, Nat.le_refl _, hm, by simp [hn], by subst hn; simp⟩⟩
theorem own_new' (w : World) (e : TypeId) (xs : List Value) (n g : Nat) (hg : w.heap.size = g) (hn : xs.length = n) (hm : n ≤ maxLen) : (w.alloc (.cells xs.toArray e)).ownsRow 0 e 1 (.slice (some ⟨g, 0, none⟩) n n) n xs := by
  subst hg
  exact own_new w e xs n hn hm
end Go.Proofs.YtpmbbbgmaipmbaaDoor
