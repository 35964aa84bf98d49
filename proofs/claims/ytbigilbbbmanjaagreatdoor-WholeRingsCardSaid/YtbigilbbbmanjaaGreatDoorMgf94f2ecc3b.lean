/-
  Parts of one proof, one behind the other.
-/
import Derived.WalkKit
import Derived.WalkSpells
import Derived.WalkLawsBesides
import Derived.Lib.Hide
import Derived.Test.YtbigilbbbmanjaaGreatDoorRows
import Derived.ProofKit
import Derived.OpenShut
import Derived.Lib.SmallJoins
import Derived.LaidMore
import Derived.LaidEql
import Derived.Stop.LaidErr
import Derived.BigQuiet
import Derived.Deep.RegionWith
import Derived.Deep.RegionHeld3
import Derived.Stop.Asserts
import Derived.RowKitTokens
import Derived.WalkSmall
import Derived.Maps.AppendAt
import Derived.Test.YtbigilbbbmanjaaGreatDoorMg33c314d72b
import Derived.Test.YtbigilbbbmanjaaGreatDoorMgebd75d63c3
/-
  Plain facts on 32-bit words and on results: no program in sight.
-/
namespace Go.Proofs.YtbigilbbbmanjaaGreatDoor
open Go Go.RowKit

theorem ret_bool {a b : Bool} (h : a = b) : Ending.returned (.bool a) = .returned (.bool b) := by rw [h]

theorem bcell {W w1 : World} (hb : Below W.heap.size W w1) : (∀ b o, b < W.heap.size → w1.cell? ⟨b, o, none⟩ = W.cell? ⟨b, o, none⟩) ∧ (∀ b o, b < W.heap.size → w1.frozen? ⟨b, o, none⟩ = W.frozen? ⟨b, o, none⟩) :=
  ⟨fun b o h => hb.cell (p := ⟨b, o, none⟩) h, fun b o h => hb.frozen (p := ⟨b, o, none⟩) h⟩

/-! A block known whole: its cells, none of them frozen; how it is carried on. -/
theorem blk_cell {w : World} {b : Nat} {cs : Array Value} {t : TypeId} {fr : Nat × Nat} (h : w.heap[b]? = some (.cells cs t fr)) (o : Nat) : w.cell? ⟨b, o, none⟩ = cs[o]? := by
  simp [World.cell?, h]
theorem blk_free {w : World} {b : Nat} {cs : Array Value} {t : TypeId} (h : w.heap[b]? = some (.cells cs t (0, 0))) (o : Nat) : w.frozen? ⟨b, o, none⟩ = false := by
  simp [World.frozen?, h]
theorem blk_new (w : World) (o : Obj) : (w.alloc o).heap[w.heap.size]? = some o := by
  show (w.heap.push o)[w.heap.size]? = some o
  simp
theorem blk_lt {w : World} {b : Nat} {x : Obj} (h : w.heap[b]? = some x) : b < w.heap.size := by
  rcases Nat.lt_or_ge b w.heap.size with h1 | h1
  · exact h1
  · rw [Array.getElem?_eq_none h1] at h; cases h
theorem blk_old {w : World} {b : Nat} {x : Obj} (h : w.heap[b]? = some x) (o : Obj) : (w.alloc o).heap[b]? = some x := by
  rw [Below.heap_alloc _ _ _ (blk_lt h)]; exact h
theorem blk_set {w : World} {b : Nat} {x : Obj} (h : w.heap[b]? = some x) {a : Addr} (ha : b ≠ a.block) (v : Value) : (w.setCell a v).heap[b]? = some x := by
  rw [Below.heap_setCell _ _ _ _ ha]; exact h
theorem blk_drew {w : World} {b : Nat} {x : Obj} (h : w.heap[b]? = some x) : w.drew.heap[b]? = some x := h
theorem blk_below {B : Nat} {w w' : World} {b : Nat} {x : Obj} (h : w.heap[b]? = some x) (hb : Below B w w') (hlt : b < B) : w'.heap[b]? = some x := by
  rw [hb.block b hlt]; exact h
theorem blk_put {w : World} {b : Nat} {cs : Array Value} {t : TypeId} {fr : Nat × Nat} (h : w.heap[b]? = some (.cells cs t fr)) (o : Nat) (v : Value) :
    (w.setCell ⟨b, o, none⟩ v).heap[b]? = some (.cells (cs.setIfInBounds o v) t fr) := by
  simp [World.setCell, Array.getElem?_modify, h]

theorem wrap_u32 {n : Int} (h : 0 ≤ n) (h2 : n ≤ 4294967295) : IntKind.u32.wrap n = n := by
  simp [IntKind.wrap, IntKind.signed, IntKind.bits]
  omega
theorem ofInt_u32 (n : Nat) : (BitVec.ofInt 32 (n : Int)) = BitVec.ofNat 32 n := by
  simp
theorem or_nat (a b : Nat) (h : a < 4294967296) (h2 : b < 4294967296) : bits BinOp.or IntKind.u32 a b = ((a ||| b : Nat) : Int) := by
  have hlt : a ||| b < 2 ^ 32 := Nat.or_lt_two_pow (by simpa using h) (by simpa using h2)
  show IntKind.u32.wrap ((BitVec.ofInt 32 (a : Int) ||| BitVec.ofInt 32 (b : Int)).toNat : Int) = _
  rw [ofInt_u32, ofInt_u32, BitVec.toNat_or, BitVec.toNat_ofNat, BitVec.toNat_ofNat, Nat.mod_eq_of_lt (by simpa using h), Nat.mod_eq_of_lt (by simpa using h2)]
  exact wrap_u32 (by omega) (by omega)
theorem and_nat (a b : Nat) (h : a < 4294967296) (h2 : b < 4294967296) : bits BinOp.and IntKind.u32 a b = ((a &&& b : Nat) : Int) := by
  have hlt : a &&& b < 2 ^ 32 := Nat.and_lt_two_pow a (by simpa using h2)
  show IntKind.u32.wrap ((BitVec.ofInt 32 (a : Int) &&& BitVec.ofInt 32 (b : Int)).toNat : Int) = _
  rw [ofInt_u32, ofInt_u32, BitVec.toNat_and, BitVec.toNat_ofNat, BitVec.toNat_ofNat, Nat.mod_eq_of_lt (by simpa using h), Nat.mod_eq_of_lt (by simpa using h2)]
  exact wrap_u32 (by omega) (by omega)
end Go.Proofs.YtbigilbbbmanjaaGreatDoor

/-
  Rows of cells that a call owns, and what may change: plain facts on worlds, over any program.
-/
namespace Go.Proofs.YtbigilbbbmanjaaGreatDoor
open Go Go.RowKit

/-- words as values -/
def u32s (l : List Int) : List Value := l.map (Value.int .u32)
theorem u32s_one (l : List Int) : ∀ u ∈ u32s l, u.oneCell' = true := ints_oneCell _ _
theorem u32s_len (l : List Int) : (u32s l).length = l.length * 1 := by simp [u32s]

theorem u32s_take (xs : List Int) (k : Nat) (h : k < xs.length) : u32s (xs.take (k + 1)) = u32s (xs.take k) ++ [.int .u32 (xs.getD k 0)] := by
  rw [List.take_succ_eq_append_getElem h, List.getD_eq_getElem?_getD, List.getElem?_eq_getElem h]
  unfold u32s
  rw [List.map_append]
  rfl

/-- w' is w with new blocks, and with writes to blocks of F alone -/
structure Only (F : Nat → Prop) (w w' : World) : Prop where
  os : w'.os = w.os
  tape : w'.tape = w.tape
  output : w'.output = w.output
  size : w.heap.size ≤ w'.heap.size
  block : ∀ k, k < w.heap.size → ¬ F k → w'.heap[k]? = w.heap[k]?

theorem Only.refl (F : Nat → Prop) (w : World) : Only F w w := ⟨rfl, rfl, rfl, Nat.le_refl _, fun _ _ _ => rfl⟩
theorem Only.trans {F : Nat → Prop} {a b c : World} (h : Only F a b) (k : Only F b c) : Only F a c :=
  ⟨k.os.trans h.os, k.tape.trans h.tape, k.output.trans h.output, Nat.le_trans h.size k.size,
    fun i hi hf => (k.block i (Nat.lt_of_lt_of_le hi h.size) hf).trans (h.block i hi hf)⟩
/-- a second step may write to what is new -/
theorem Only.trans' {F G : Nat → Prop} {a b c : World} (h : Only F a b) (k : Only G b c) (hG : ∀ i, G i → F i ∨ a.heap.size ≤ i) : Only F a c :=
  ⟨k.os.trans h.os, k.tape.trans h.tape, k.output.trans h.output, Nat.le_trans h.size k.size,
    fun i hi hf => (k.block i (Nat.lt_of_lt_of_le hi h.size) (fun hg => by rcases hG i hg with h1 | h1; exact hf h1; omega)).trans (h.block i hi hf)⟩
theorem Only.mono {F G : Nat → Prop} {a b : World} (h : Only F a b) (hF : ∀ i, F i → G i ∨ a.heap.size ≤ i) : Only G a b :=
  ⟨h.os, h.tape, h.output, h.size, fun i hi hg => h.block i hi (fun hf => by rcases hF i hf with h1 | h1; exact hg h1; omega)⟩
theorem Only.alloc (F : Nat → Prop) (w : World) (o : Obj) : Only F w (w.alloc o) :=
  ⟨rfl, rfl, rfl, by simp, fun k hk _ => Below.heap_alloc _ _ _ hk⟩
theorem Only.setCell {F : Nat → Prop} {a w : World} (h : Only F a w) {p : Addr} (hp : F p.block ∨ a.heap.size ≤ p.block) (u : Value) : Only F a (w.setCell p u) :=
  ⟨h.os, h.tape, h.output, by simp [World.setCell]; exact h.size, fun k hk hf => by
    rw [Below.heap_setCell _ _ _ _ (fun e => by subst e; rcases hp with h1 | h1; exact hf h1; omega)]
    exact h.block k hk hf⟩
theorem Only.alloc' {F : Nat → Prop} {a w : World} (h : Only F a w) (o : Obj) : Only F a (w.alloc o) := h.trans (Only.alloc F w o)
theorem Only.drew {F : Nat → Prop} {a w : World} (h : Only F a w) : Only F a w.drew := ⟨h.os, h.tape, h.output, h.size, h.block⟩
theorem Only.of_below {F : Nat → Prop} {a w : World} (h : Below a.heap.size a w) : Only F a w := ⟨h.os, h.tape, h.output, h.size, fun k hk _ => h.block k hk⟩
theorem Only.below' {F : Nat → Prop} {a b c : World} (h : Only F a b) (k : Below b.heap.size b c) : Only F a c := h.trans (Only.of_below k)
theorem Only.grown {F : Nat → Prop} {a w w' : World} {row : Option Nat} (h : Only F a w) (hg : w.grownBy w' row) (hr : ∀ k, row = some k → F k ∨ a.heap.size ≤ k) : Only F a w' :=
  h.trans' (G := fun k => some k = row) ⟨hg.os, hg.tape, hg.output, hg.size, fun k hk hne => hg.block k hk hne⟩ (fun i hi => hr i hi.symm)
theorem Only.below {F : Nat → Prop} {a w : World} {B : Nat} (h : Only F a w) (hB : B ≤ a.heap.size) (hF : ∀ k, F k → B ≤ k) : Below B a w :=
  ⟨h.os, h.tape, h.output, h.size, fun k hk => h.block k (by omega) (fun hf => by have := hF k hf; omega)⟩
theorem Only.blk {F : Nat → Prop} {a w : World} {b : Nat} {x : Obj} (h : Only F a w) (hb : a.heap[b]? = some x) (hF : ¬ F b) : w.heap[b]? = some x := by
  rw [h.block b (blk_lt hb) hF]; exact hb

/-- the blocks of a slice value -/
def inRow (v : Value) (k : Nat) : Prop := v.ownBlock = some k

theorem own_frame {w w' : World} {e : TypeId} {size : Nat} {v : Value} {n : Nat} {xs : List Value} (h : w.ownsRow 0 e size v n xs) (hb : ∀ k, inRow v k → w'.heap[k]? = w.heap[k]?) : w'.ownsRow 0 e size v n xs := by
  obtain ⟨h1, h2⟩ := h
  refine ⟨h1, ?_⟩
  rcases h2 with h2 | ⟨g, cap, cur, rfl, hg, hh, r⟩
  · exact .inl h2
  · exact .inr ⟨g, cap, cur, rfl, hg, by rw [hb g rfl]; exact hh, r⟩
theorem own_only {F : Nat → Prop} {w w' : World} {e : TypeId} {size : Nat} {v : Value} {n : Nat} {xs : List Value} (h : w.ownsRow 0 e size v n xs) (ho : Only F w w') (hF : ∀ k, inRow v k → ¬ F k) : w'.ownsRow 0 e size v n xs :=
  own_frame h fun k hk => ho.block k (h.lt k hk).2 (hF k hk)
theorem own_lt {w : World} {e : TypeId} {size : Nat} {v : Value} {n : Nat} {xs : List Value} (h : w.ownsRow 0 e size v n xs) {k : Nat} (hk : inRow v k) : k < w.heap.size := (h.lt k hk).2
theorem own_nil (w : World) (e : TypeId) (size : Nat) : w.ownsRow 0 e size (.slice none 0 0) 0 [] := World.ownsRow_nil w 0 e size
/-- a row's block is of its elements' type -/
theorem own_type {w : World} {e : TypeId} {size : Nat} {v : Value} {n : Nat} {xs : List Value} (h : w.ownsRow 0 e size v n xs) {k : Nat} (hk : inRow v k) : ∃ cur, w.heap[k]? = some (.cells cur e (0, 0)) := by
  rcases h.2 with ⟨rfl, _⟩ | ⟨g, cap, cur, rfl, hg, hh, r⟩
  · simp [inRow, Value.ownBlock] at hk
  · simp [inRow, Value.ownBlock] at hk; subst hk; exact ⟨cur, hh⟩
/-- the shape of an owned value -/
theorem own_shape {w : World} {e : TypeId} {size : Nat} {v : Value} {n : Nat} {xs : List Value} (h : w.ownsRow 0 e size v n xs) : (v = .slice none 0 0 ∧ n = 0 ∧ xs = []) ∨ ∃ g cap, v = .slice (some ⟨g, 0, none⟩) n cap ∧ n ≤ cap ∧ cap ≤ maxLen := by
  rcases h.2 with ⟨rfl, rfl⟩ | ⟨g, cap, cur, rfl, hg, hh, h1, h2, _⟩
  · exact .inl ⟨rfl, rfl, List.eq_nil_of_length_eq_zero (by simpa using h.1)⟩
  · exact .inr ⟨g, cap, rfl, h1, h2⟩
theorem own_slice {w : World} {e : TypeId} {size : Nat} {v : Value} {n : Nat} {xs : List Value} (h : w.ownsRow 0 e size v n xs) : ∃ ao cap, v = .slice ao n cap := by
  rcases own_shape h with ⟨rfl, rfl, rfl⟩ | ⟨g, cap, rfl, -, -⟩
  · exact ⟨_, _, rfl⟩
  · exact ⟨_, _, rfl⟩
/-- rows of unlike types, a row and a block of another type, are apart -/
theorem own_apart {w : World} {e e' : TypeId} {size size' : Nat} {v v' : Value} {n n' : Nat} {xs xs' : List Value} (h : w.ownsRow 0 e size v n xs) (h' : w.ownsRow 0 e' size' v' n' xs') (he : e ≠ e') {k : Nat} (hk : inRow v k) : ¬ inRow v' k := by
  intro hk'
  obtain ⟨c, hc⟩ := own_type h hk
  obtain ⟨c', hc'⟩ := own_type h' hk'
  rw [hc] at hc'
  simp only [Option.some.injEq, Obj.cells.injEq] at hc'
  exact he hc'.2.1
theorem own_not {w : World} {e t : TypeId} {size : Nat} {v : Value} {n : Nat} {xs : List Value} {b : Nat} {cs : Array Value} {fr : Nat × Nat} (h : w.ownsRow 0 e size v n xs) (hb : w.heap[b]? = some (.cells cs t fr)) (he : t ≠ e) : ¬ inRow v b := by
  intro hk
  obtain ⟨c, hc⟩ := own_type h hk
  rw [hb] at hc
  simp only [Option.some.injEq, Obj.cells.injEq] at hc
  exact he hc.2.1
theorem own_set {w : World} {e t : TypeId} {size : Nat} {v : Value} {n : Nat} {xs : List Value} {b : Nat} {cs : Array Value} {fr : Nat × Nat} (h : w.ownsRow 0 e size v n xs) (hb : w.heap[b]? = some (.cells cs t fr)) (he : t ≠ e) (o : Nat) (u : Value) : (w.setCell ⟨b, o, none⟩ u).ownsRow 0 e size v n xs :=
  own_frame h fun k hk => Below.heap_setCell _ _ _ _ (fun hkb => own_not h hb he (by subst hkb; exact hk))
theorem own_grown {w w' : World} {e : TypeId} {size : Nat} {v u : Value} {n : Nat} {xs : List Value} (h : w.ownsRow 0 e size v n xs) (hg : w.grownBy w' u.ownBlock) (hne : ∀ k, inRow v k → ¬ inRow u k) : w'.ownsRow 0 e size v n xs :=
  own_frame h fun k hk => hg.block k (own_lt h hk) (fun e => hne k hk e.symm)
theorem blk_grown {w w' : World} {b : Nat} {x : Obj} {u : Value} (h : w.heap[b]? = some x) (hg : w.grownBy w' u.ownBlock) (hne : ¬ inRow u b) : w'.heap[b]? = some x := by
  rw [hg.block b (blk_lt h) (fun e => hne e.symm)]; exact h

/-- its cells, read -/
theorem own_cell {w : World} {e : TypeId} {size : Nat} {n g cap : Nat} {xs : List Value} (h : w.ownsRow 0 e size (.slice (some ⟨g, 0, none⟩) n cap) n xs) (j : Nat) (hj : j < n * size) : w.cell? ⟨g, j, none⟩ = xs[j]? := h.cellAt j hj
theorem own_free {w : World} {e : TypeId} {size : Nat} {n g cap : Nat} {xs : List Value} (h : w.ownsRow 0 e size (.slice (some ⟨g, 0, none⟩) n cap) n xs) (j : Nat) : w.frozen? ⟨g, j, none⟩ = false := h.frozenAt j

/-- a cell that is there is there behind a new block -/
theorem blk_cell_old {w : World} {a : Addr} {u : Value} (h : w.cell? a = some u) {o : Obj} : (w.alloc o).heap[a.block]? = w.heap[a.block]? :=
  Below.heap_alloc _ _ _ (World.block_lt_of_cell? w a h)

/-- a slice value of n elements that reads as the cells xs (nil, or at an address) -/
def Reads (w : World) (v : Value) (n : Nat) (xs : List Value) : Prop :=
  (v = .slice none 0 0 ∧ n = 0 ∧ xs = []) ∨ ∃ a cap, v = .slice (some a) n cap ∧ ∀ j u, xs[j]? = some u → w.cell? (a.add j) = some u
theorem own_reads {w : World} {e : TypeId} {size : Nat} {v : Value} {n : Nat} {xs : List Value} (h : w.ownsRow 0 e size v n xs) : Reads w v n xs := by
  rcases own_shape h with ⟨rfl, rfl, rfl⟩ | ⟨g, cap, rfl, -, -⟩
  · exact .inl ⟨rfl, rfl, rfl⟩
  · exact .inr ⟨_, cap, rfl, h.cells (g := g) rfl⟩

theorem reads_at {w : World} {v : Value} {n : Nat} {xs : List Value} (h : Reads w v n xs) (hn : xs ≠ []) : ∃ b off cap, v = .slice (some ⟨b, off, none⟩) n cap ∧ ∀ j u, xs[j]? = some u → w.cell? ⟨b, off + j, none⟩ = some u := by
  rcases h with ⟨-, -, rfl⟩ | ⟨a, cap, rfl, hc⟩
  · exact (hn rfl).elim
  · obtain ⟨b, off, spot⟩ := a
    cases xs with
    | nil => exact (hn rfl).elim
    | cons x xs =>
      have h0 := hc 0 x rfl
      have hspot : spot = none := by simpa [Addr.add] using World.cell?_spot h0
      subst hspot
      exact ⟨b, off, cap, rfl, fun j u hj => by have := hc j u hj; rwa [Addr.add_lit] at this⟩

/-- a slice's shape, and its cells -/
theorem reads_cells {w : World} {v : Value} {n : Nat} {xs : List Value} (h : Reads w v n xs) : ∃ ao cap, v = .slice ao n cap ∧ ∀ j u, xs[j]? = some u → ∃ b off, ao = some ⟨b, off, none⟩ ∧ w.cell? ⟨b, off + j, none⟩ = some u ∧ b < w.heap.size := by
  by_cases hx : xs = []
  · subst hx
    rcases h with ⟨rfl, rfl, -⟩ | ⟨a, cap, rfl, -⟩
    · exact ⟨none, 0, rfl, fun j u hj => by simp at hj⟩
    · exact ⟨some a, cap, rfl, fun j u hj => by simp at hj⟩
  · obtain ⟨b, off, cap, rfl, hc⟩ := reads_at h hx
    exact ⟨_, cap, rfl, fun j u hj => ⟨b, off, rfl, hc j u hj, World.block_lt_of_cell? w ⟨b, off + j, none⟩ (hc j u hj)⟩⟩

section
variable {P : Program}

/-- append to an owned row: in place, or into a new block -/
theorem run_append_sep (w : World) (t ty e : TypeId) (i : TypeInfo) (z : Value) (size bytes : Nat) (ht : P.underlying t = some (.slice e)) (hi : P.info? e = some i) (hz : i.zero = some z)
    (hsize : i.size = size) (hby : i.bytes = bytes) (hzs : z.cells.size = size) (hsz : 0 < size)
    (v : Value) (n : Nat) (xs : List Value) (hown : w.ownsRow 0 e size v n xs)
    (a : Addr) (m c : Nat) (news : List Value) (hl : news.length = m * size) (hnews : ∀ j u, news[j]? = some u → w.cell? (a.add j) = some u) (h1 : ∀ u ∈ news, u.oneCell' = true)
    (h63 : n + m ≤ maxLen) (hbytes : (n + m) * bytes ≤ 140737488355328) :
    ∃ v' w', (Builtin.append_ #[t, t] ty #[v, .slice (some a) m c]).run P w = .ok v' w' ∧ w'.ownsRow 0 e size v' (n + m) (xs ++ news) ∧ w.grownBy w' v.ownBlock ∧
      (∀ k, inRow v' k → inRow v k ∨ w.heap.size ≤ k) := by
  by_cases hroom : ∃ g cap, v = .slice (some ⟨g, 0, none⟩) n cap ∧ n + m ≤ cap
  · obtain ⟨g, cap, rfl, hr⟩ := hroom
    obtain ⟨w', hrun, ho, hg⟩ := run_append_fits (P := P) w 0 t ty e i size ht hi hsize g n cap xs hown a m c news hl hnews h1 hr
    exact ⟨_, _, hrun, ho, hg, fun k hk => .inl hk⟩
  · -- it grows: every block of the new value lies behind the heap's end
    have hsmall : ((n + m : Nat) : Int) ≤ 9223372036854775807 := by simp only [maxLen] at h63; omega
    obtain ⟨v', w', hrun, ho, hg, hnil⟩ := run_append_own (P := P) w 0 t ty e i z size bytes ht hi hz hsize hby hzs hsz v n xs hown a m c news hl hnews h1 h63 hbytes (Nat.zero_le _)
    refine ⟨v', w', hrun, ho, hg, ?_⟩
    subst hsize
    subst hby
    rcases hown.2 with ⟨rfl, rfl⟩ | ⟨g, cap, cur, rfl, hbg, hgg, hnc, hcm, hcs, htake⟩
    · have hx : xs = [] := List.eq_nil_of_length_eq_zero (by simpa using hown.1)
      subst hx
      by_cases hm : m = 0
      · have := hnil.2 ⟨rfl, hm⟩
        subst this
        intro k hk
        simp [inRow, Value.ownBlock] at hk
      · have hr := run_append_nil (P := P) w t ty e i z ht hi hz a m c news hl hnews (by omega) (by omega) (by simp only [Nat.zero_add] at hbytes; omega)
        rw [hr] at hrun
        cases hrun
        intro k hk
        simp [inRow, Value.ownBlock] at hk
        exact .inr (by omega)
    · have hroom' : ¬ n + m ≤ cap := fun h => hroom ⟨g, cap, rfl, h⟩
      have holds : ∀ j u, xs[j]? = some u → w.cell? ((⟨g, 0, none⟩ : Addr).add j) = some u := hown.cells (g := g) rfl
      have hr := run_append_grow (P := P) w t ty e i z ht hi hz ⟨g, 0, none⟩ n cap xs hown.1 holds a m c news hl hnews (by omega) hsmall (growslice_fits (by omega) hbytes)
      rw [hr] at hrun
      cases hrun
      intro k hk
      simp [inRow, Value.ownBlock] at hk
      exact .inr (by omega)

theorem wpList_append_sep (w : World) {ops : Array Oper} {rest : List Oper} {o : Oper} {a : Act} {Q : Exit → Act → World → Prop} (hgd : o.guard = none) (s x : Operand) (t : TypeId)
    (ho : o.op = .call { callee := .builtin .append, args := #[s, x], argTypes := #[t, t] })
    (e : TypeId) (i : TypeInfo) (z : Value) (size bytes : Nat) (ht : P.underlying t = some (.slice e)) (hi : P.info? e = some i) (hz : i.zero = some z)
    (hsize : i.size = size) (hby : i.bytes = bytes) (hzs : z.cells.size = size) (hsz : 0 < size)
    (v : Value) (n : Nat) (xs : List Value) (hs : a.eval s = v) (hown : w.ownsRow 0 e size v n xs)
    (ad : Addr) (m c : Nat) (news : List Value) (hx : a.eval x = .slice (some ad) m c) (hl : news.length = m * size) (hnews : ∀ j u, news[j]? = some u → w.cell? (ad.add j) = some u) (h1 : ∀ u ∈ news, u.oneCell' = true)
    (h63 : n + m ≤ maxLen) (hbytes : (n + m) * bytes ≤ 140737488355328)
    (h : ∀ v' w', w'.ownsRow 0 e size v' (n + m) (xs ++ news) → w.grownBy w' v.ownBlock → (∀ k, inRow v' k → inRow v k ∨ w.heap.size ≤ k) → wpList P ops Q rest (a.put o.dst v') w') : wpList P ops Q (o :: rest) a w := by
  refine wpList_plain hgd fun K hK => ?_
  obtain ⟨v', w', hr, h2, h3, h4⟩ := run_append_sep (P := P) w t o.type e i z size bytes ht hi hz hsize hby hzs hsz v n xs hown ad m c news hl hnews h1 h63 hbytes
  unfold Oper.wp execOp
  simp only [ho, resolve, invoke, builtin, Sem.run_bind, Sem.run_pure, Result.andThen_ok, List.map_toArray, List.map_cons, List.map_nil, hs, hx, hr]
  exact hK _ _ (h v' w' h2 h3 h4)
end
end Go.Proofs.YtbigilbbbmanjaaGreatDoor

/-
  The step from a walk to a law's row: a call that answers true and turns nothing that was there leaves what the row says.
-/
namespace Go.Proofs.YtbigilbbbmanjaaGreatDoor
open Go.ChangeShapes Go.WideShapes Go.ChangeAt Go.RowKit

/-- every parameter type can be read, and is one of the program's -/
def parsOk (P : Program) (ts : List TypeId) : Bool := ts.all fun t => P.readableRec t && decide (t < P.types.size)

theorem trodAll_stays {H : Type} {enc : TypeId × Value → H} {P : Program} {W W' : World} (hl : laidOutB P = true) (hb : Below W.heap.size W W') :
    ∀ {ts : List TypeId} {vs : List Value} {ds : List (DataW H)} {ps : List MemPlace}, parsOk P ts = true →
      DataW.TrodAll enc P W 0 (fun _ => true) true ts vs ds ps → (∀ x ∈ ps, x.block < W.heap.size) →
      DataW.TrodAll enc P W' 0 (fun b => decide (b < W.heap.size)) true ts vs ds ps
  | [], _, _, _, _, h, _ => by
    obtain ⟨rfl, rfl, rfl⟩ := trodAll_nil h
    exact trodAll_mk0
  | t :: ts, _, _, _, hr, h, hlt => by
    obtain ⟨v, vs', d, ds', p, q, rfl, rfl, rfl, h0, h1⟩ := trodAll_cons h
    simp only [parsOk, List.all_cons, Bool.and_eq_true, decide_eq_true_eq] at hr
    exact trodAll_cons_mk (Below.trod hl hr.1.1 hr.1.2 h0 hb fun x hx => hlt x (by simp [hx])) (trodAll_stays hl hb hr.2 h1 fun x hx => hlt x (by simp [hx]))

theorem law_post {H : Type} {enc : TypeId × Value → H} {P : Program} {fn : Func} {s : ChangeSpec} {bt : TypeId} {W W' : World} {args : Array Value} {ds gs : List (DataW H)} {before : List MemPlace}
    (hl : laidOutB P = true) (hrec : parsOk P fn.params.toList = true) (hres : fn.resultTypes = #[bt]) (hbt : P.underlying bt = some .bool)
    (hvars : s.vars = []) (hW : DataW.Whole enc P fn.params.toList s.vars false W args.toList ds gs before)
    (hfn : s.fn H (ds ++ gs) = { results := [.lit (.bool true)], args := ds }) (hb : Below W.heap.size W W') :
    s.post enc P fn false true false false W args (.bool true) W' := by
  have hW' := hW
  obtain ⟨p, q, hA, hV, rfl, hfz, hnd⟩ := hW
  have hlt : ∀ x ∈ p, x.block < W.heap.size := fun x hx => hW'.lt x (by simp [hx])
  rw [hvars] at hV
  obtain ⟨rfl, rfl⟩ := trodVars_none hV
  refine ⟨ds, [], _, [], p, [], hW', ?_, ?_, ?_, hb.frame _, fun h => by cases h⟩
  · rw [hfn, hres]
    exact trodAll_mk1 (shut_bool hbt _)
  · rw [hfn]
    exact trodAll_stays hl hb hrec hA hlt
  · rw [hfn, hvars]; rfl

/-- a slice of integers that came in: the numbers zs -/
theorem open_reads {H : Type} {enc : TypeId × Value → H} {P : Program} {W : World} {t e : TypeId} {k : IntKind} {v : Value} {d : DataW H} {p : List MemPlace} {r : Reach} {b0 : Nat}
    (ht : P.underlying t = some (.slice e)) (he : P.underlying e = some (.int k)) (hc : P.cellsOf e = 1) (hv : Value.okWide P W r b0 t v) (h : DataW.Trod enc P W 0 (fun _ => true) true t v d p) :
    ∃ zs : List Int, Reads W v zs.length (zs.map (Value.int k)) ∧ zs.length ≤ maxLen ∧ ∀ z ∈ zs, (Lit.int k z).wf = true := by
  obtain ⟨a0, len, cap, rfl⟩ := okWide_slice ht hv
  obtain ⟨fuel, hf⟩ := h
  rcases open_ints ht he hc hf with ⟨hcs, _⟩ | ⟨x, l, c, zs, hcs, _, hl, hm, hz, _, hcell, hwz⟩
  · simp [Value.cells] at hcs
    obtain ⟨rfl, rfl, rfl⟩ := hcs
    exact ⟨[], .inl ⟨rfl, rfl, rfl⟩, by simp, by simp⟩
  · simp [Value.cells] at hcs
    obtain ⟨rfl, rfl, rfl⟩ := hcs
    have hzl : zs.length = cap := by simpa using hz
    have hlen : (zs.take len).length = len := by rw [List.length_take]; omega
    refine ⟨zs.take len, ?_, by omega, fun z hz => hwz z (List.mem_of_mem_take hz)⟩
    rw [hlen]
    refine .inr ⟨x, cap, rfl, fun j u hj => ?_⟩
    have hj' := (List.getElem?_eq_some_iff.1 hj).1
    simp only [List.length_map, hlen] at hj'
    rw [hcell j (by omega)]
    simp only [List.getElem?_map, List.getElem?_take_of_lt hj'] at hj
    rw [← hj, List.getD_eq_getElem?_getD, List.getElem?_eq_getElem (by omega)]
    simp
theorem own : ownKnob Tryz.prog.godebug = none := by kernel_rfl
theorem laidOut : laidOutB Tryz.prog = true := by kernel_rfl
end Go.Proofs.YtbigilbbbmanjaaGreatDoor

/-
  The program's sentinels: what the condition on them gives a walk: where each lies, and that no two are one.
-/
namespace Go.Proofs.YtbigilbbbmanjaaGreatDoor
open Go.ChangeShapes Go.WideShapes Go.ChangeAt Go.RowKit

/-- sentinel a is what variable g holds, and lies in a block of its own, not frozen -/
def SentAt (tp : TypeId) (W : World) (g : Nat) (a : Addr) : Prop := W.cell? ⟨g, 0, none⟩ = some (.iface tp (.pointer (some a))) ∧ ∃ c t, W.heap[a.block]? = some (.cells c t (0, 0))
theorem SentAt.mono {tp : TypeId} {W w : World} {g : Nat} {a : Addr} (h : SentAt tp W g a) (hb : Below W.heap.size W w) : SentAt tp w g a := by
  obtain ⟨h1, c, t, h2⟩ := h
  exact ⟨(hb.cell (World.block_lt_of_cell? W _ h1)).trans h1, c, t, by rw [hb.block _ (blk_lt h2)]; exact h2⟩

theorem sents {P : Program} {nm : String} {ti tp te ts : TypeId} {ms : Array (String × TypeId)} {f : Field} {W : World}
    (hi : P.underlying ti = some (.interface ms)) (hrow : ∀ u, P.typeName? 3 u = some nm → u = tp) (hp : P.underlying tp = some (.pointer te)) (he : P.underlying te = some (.struct #[f])) (hft : f.type = ts) (hfo : f.offset = 0)
    (hs : P.underlying ts = some .string) (hc : P.cellsOf te = 1) (hcs : P.cellsOf ts = 1) :
    ∀ (L : List (String × DataW Unit)) (ps : List MemPlace), DataW.LaidVars P W L ps → ps.Nodup →
      (∀ b off, MemPlace.cell b off ∈ ps → (∃ c t, W.heap[b]? = some (.cells c t (0, 0))) ∧ ∀ u v, W.cell? ⟨b, off, none⟩ = some (.iface u v) → Value.okWide P W .any 0 u v) →
      (∀ x ∈ L, (∃ text, x.2 = .iface nm (.ptr (.agg [.lit (.string text)]))) ∧ ∀ g, P.globalNamed x.1 = some g → (P.globals[g]?).map (·.type) = some ti) →
      ∃ A : List Addr, A.length = L.length ∧ A.Nodup ∧ (∀ a ∈ A, MemPlace.cell a.block a.off ∈ ps) ∧ ∀ (i : Nat) x a, L[i]? = some x → A[i]? = some a → ∃ g, P.globalNamed x.1 = some g ∧ SentAt tp W g a
  | [], ps, _, _, _, _ => ⟨[], rfl, by simp, by simp, by simp⟩
  | (n, d) :: L, ps, hv, hnd, hrows, hL => by
    obtain ⟨g, t, cs, fuel, p, q, hg, ht, hvar, hd, hq, rfl⟩ := hv
    obtain ⟨⟨text, hdt⟩, hty⟩ := hL (n, d) (by simp)
    have hdt' : d = .iface nm (.ptr (.agg [.lit (.string text)])) := hdt
    subst hdt'
    obtain rfl := Option.some.inj ((hty g hg).symm.trans ht)
    obtain ⟨l0⟩ := cs
    have hnd2 := List.nodup_append.1 hnd
    have ok0 : ∀ u v, l0 = [.iface u v] → Value.okWide P W .any 0 u v := fun u v e => by
      subst e
      exact (hrows g 0 (by simp [MemPlace.row])).2 u v (by simpa using World.var?_cell hg hvar 0)
    obtain ⟨a, s, rfl, hca, hsa, hza, rfl⟩ := errorString_of_trod hi hrow hp he hft hfo hs hc hcs hd ok0
    obtain ⟨A, h1, h2, h3, h4⟩ := sents hi hrow hp he hft hfo hs hc hcs L q hq hnd2.2.1 (fun b off hm => hrows b off (List.mem_append_right _ hm)) (fun x hx => hL x (by simp [hx]))
    have hin : MemPlace.cell a.block a.off ∈ MemPlace.row a 1 := by simp [MemPlace.row]
    refine ⟨a :: A, by simp [h1], ?_, ?_, ?_⟩
    · rw [List.nodup_cons]
      refine ⟨fun hm => ?_, h2⟩
      have hq' := h3 a hm
      exact hnd2.2.2 _ (List.mem_append_right _ hin) _ hq' rfl
    · intro b hb
      rcases List.mem_cons.1 hb with rfl | hb
      · exact List.mem_append_left _ (List.mem_append_right _ hin)
      · exact List.mem_append_right _ (h3 b hb)
    · intro i x b hx hb
      cases i with
      | zero =>
        simp only [List.getElem?_cons_zero, Option.some.injEq] at hx hb
        subst hx hb
        refine ⟨g, hg, by simpa using World.var?_cell hg hvar 0, ?_⟩
        exact (hrows a.block a.off (List.mem_append_left _ (List.mem_append_right _ hin))).1
      | succ i => exact h4 i x b (by simpa using hx) (by simpa using hb)

/-- the sentinels of the numbers S: sentinel k is at E k, variable G k holds it; no two are one -/
def ErrsAt (tp : TypeId) (G : Nat → Nat) (W : World) (E : Nat → Addr) (S : List Nat) : Prop := (∀ k ∈ S, SentAt tp W (G k) (E k)) ∧ ∀ i ∈ S, ∀ j ∈ S, i ≠ j → E i ≠ E j
theorem ErrsAt.mono {tp : TypeId} {G : Nat → Nat} {W w : World} {E : Nat → Addr} {S : List Nat} (h : ErrsAt tp G W E S) (hb : Below W.heap.size W w) : ErrsAt tp G w E S := ⟨fun k hk => (h.1 k hk).mono hb, h.2⟩

theorem errs_of {P : Program} {tp : TypeId} {G : Nat → Nat} {W : World} (L : List (String × DataW Unit)) (S : List Nat) (hS : S.Nodup) (hlen : L.length = S.length)
    (hG : ∀ (i : Nat) x k, L[i]? = some x → S[i]? = some k → P.globalNamed x.1 = some (G k))
    (h : ∃ A : List Addr, A.length = L.length ∧ A.Nodup ∧ ∀ (i : Nat) x a, L[i]? = some x → A[i]? = some a → ∃ g, P.globalNamed x.1 = some g ∧ SentAt tp W g a) : ∃ E, ErrsAt tp G W E S := by
  obtain ⟨A, h1, h2, h3⟩ := h
  have idx : ∀ k ∈ S, ∃ i, S[i]? = some k ∧ S.idxOf k = i ∧ i < S.length := fun k hk => ⟨S.idxOf k, by rw [List.getElem?_eq_getElem (List.idxOf_lt_length_of_mem hk)]; simp, rfl, List.idxOf_lt_length_of_mem hk⟩
  refine ⟨fun k => A.getD (S.idxOf k) ⟨0, 0, none⟩, fun k hk => ?_, fun i hi j hj hne he => ?_⟩
  · obtain ⟨i, e1, e2, e3⟩ := idx k hk
    have hAi : A[i]? = some (A.getD (S.idxOf k) ⟨0, 0, none⟩) := by
      rw [e2, List.getD_eq_getElem?_getD, List.getElem?_eq_getElem (by omega)]
      rfl
    obtain ⟨x, hx⟩ : ∃ x, L[i]? = some x := ⟨_, List.getElem?_eq_getElem (by omega)⟩
    obtain ⟨g, hg, hs⟩ := h3 i x _ hx hAi
    obtain rfl := Option.some.inj ((hG i x k hx e1).symm.trans hg)
    exact hs
  · obtain ⟨a, a1, a2, a3⟩ := idx i hi
    obtain ⟨b, b1, b2, b3⟩ := idx j hj
    have he' : A.getD (S.idxOf i) ⟨0, 0, none⟩ = A.getD (S.idxOf j) ⟨0, 0, none⟩ := he
    rw [a2, b2, List.getD_eq_getElem?_getD, List.getD_eq_getElem?_getD, List.getElem?_eq_getElem (by omega), List.getElem?_eq_getElem (by omega)] at he'
    simp only [Option.getD_some] at he'
    have hp := List.pairwise_iff_getElem.1 h2
    rcases Nat.lt_trichotomy a b with h | h | h
    · exact hp a b (by omega) (by omega) h he'
    · subst h
      rw [a1] at b1
      exact hne (Option.some.inj b1)
    · exact hp b a (by omega) (by omega) h he'.symm
end Go.Proofs.YtbigilbbbmanjaaGreatDoor

/-
  The sentinels of this seat: which variable holds which; what a list of them gives.
-/
namespace Go.Proofs.YtbigilbbbmanjaaGreatDoor
open Go.ChangeShapes Go.WideShapes Go.ChangeAt Go.RowKit

abbrev errT : TypeId := 471
def gOf : Nat → Nat
  | 0 => 12
  | 1 => 5
  | 2 => 0
  | 3 => 1
  | 4 => 11
  | 5 => 3
  | 6 => 4
  | 7 => 13
  | 8 => 7
  | 9 => 6
  | 10 => 10
  | 11 => 9
  | 12 => 2
  | 13 => 14
  | 14 => 15
  | 15 => 16
  | _ => 0
theorem err_star : "*" ++ "errors.errorString" = "*errors.errorString" := by decide
theorem err_row (u : TypeId) (h : Tryz.prog.typeName? 3 u = some "*errors.errorString") : u = errT :=
  typeName_ptr_named (nm := "errors.errorString") (by rw [err_star]; kernel_rfl) (by kernel_rfl) (by decide) u (by rw [err_star]; exact h)
theorem err_cells : Tryz.prog.cellsOf 492 = 1 := by kernel_rfl
theorem str_cells : Tryz.prog.cellsOf 9 = 1 := by kernel_rfl
theorem errs_sents {W : World} (L : List (String × DataW Unit)) (ps : List MemPlace) (hv : DataW.LaidVars Tryz.prog W L ps) (hnd : ps.Nodup)
    (hrows : ∀ b off, MemPlace.cell b off ∈ ps → (∃ c t, W.heap[b]? = some (.cells c t (0, 0))) ∧ ∀ u v, W.cell? ⟨b, off, none⟩ = some (.iface u v) → Value.okWide Tryz.prog W .any 0 u v)
    (hL : ∀ x ∈ L, (∃ text, x.2 = .iface "*errors.errorString" (.ptr (.agg [.lit (.string text)]))) ∧ ∀ g, Tryz.prog.globalNamed x.1 = some g → (Tryz.prog.globals[g]?).map (·.type) = some 55) :
    ∃ A : List Addr, A.length = L.length ∧ A.Nodup ∧ (∀ a ∈ A, MemPlace.cell a.block a.off ∈ ps) ∧ ∀ (i : Nat) x a, L[i]? = some x → A[i]? = some a → ∃ g, Tryz.prog.globalNamed x.1 = some g ∧ SentAt errT W g a :=
  sents Tryz.underlying55 err_row Tryz.underlying471 Tryz.underlying492 rfl rfl Tryz.underlying9 err_cells str_cells L ps hv hnd hrows hL
end Go.Proofs.YtbigilbbbmanjaaGreatDoor

/-
  facadesee: is an error this one? Over the program's sentinels.
-/
namespace Go.Proofs.YtbigilbbbmanjaaGreatDoor
open Go.RowKit

abbrev errV (a : Addr) : Value := .iface errT (.pointer (some a))
def all16 : List Nat := [0, 1, 2, 3, 4, 5, 6, 7, 8, 9, 10, 11, 12, 13, 14, 15]
theorem mem16 {k : Nat} (h : k < 16) : k ∈ all16 := by
  simp [all16]
  omega
theorem err_comp : (Tryz.prog.info? errT).map (·.comparable) = some true := by kernel_rfl
theorem err_size : (Tryz.prog.info? 492).map (·.size) = some 1 := by kernel_rfl
theorem eql_same (w : World) (a : Addr) : (binOp .eql 55 (errV a) (errV a)).run Tryz.prog w = .ok (.bool true) w := by
  obtain ⟨i, hi, hc⟩ := Option.map_eq_some_iff.1 err_comp
  obtain ⟨j, hj, -⟩ := Option.map_eq_some_iff.1 err_size
  exact run_eql_iface_ptr_same w a Tryz.underlying55 Tryz.underlying471 hi hc hj
theorem eql_other (w : World) {a b : Addr} (hne : a ≠ b) (ha : ∃ c t, w.heap[a.block]? = some (.cells c t (0, 0))) (hb : ∃ c t, w.heap[b.block]? = some (.cells c t (0, 0))) :
    (binOp .eql 55 (errV a) (errV b)).run Tryz.prog w = .ok (.bool false) w := by
  obtain ⟨i, hi, hc⟩ := Option.map_eq_some_iff.1 err_comp
  obtain ⟨j, hj, hs⟩ := Option.map_eq_some_iff.1 err_size
  obtain ⟨ca, ta, ha⟩ := ha
  obtain ⟨cb, tb, hb⟩ := hb
  exact run_eql_iface_ptr_other w Tryz.underlying55 Tryz.underlying471 hi hc hj (by omega) hne ha hb

def errArr (E : Nat → Addr) : Array Value := #[errV (E 0), errV (E 1), errV (E 2), errV (E 3), errV (E 4), errV (E 5), errV (E 6), errV (E 7), errV (E 8), errV (E 9), errV (E 10), errV (E 11), errV (E 12), errV (E 13), errV (E 14), errV (E 15)]
theorem errArr_get (E : Nat → Addr) (j : Nat) (hj : j < 16) : (errArr E)[j]? = some (errV (E j)) := by
  match j, hj with
  | 0, _ => rfl
  | 1, _ => rfl
  | 2, _ => rfl
  | 3, _ => rfl
  | 4, _ => rfl
  | 5, _ => rfl
  | 6, _ => rfl
  | 7, _ => rfl
  | 8, _ => rfl
  | 9, _ => rfl
  | 10, _ => rfl
  | 11, _ => rfl
  | 12, _ => rfl
  | 13, _ => rfl
  | 14, _ => rfl
  | 15, _ => rfl
  | n + 16, h => exact absurd h (by omega)

def UpToN (n : Nat) (i : Value) : Prop := ∃ j : Nat, j ≤ n ∧ i = .int .i64 (j : Int)
end Go.Proofs.YtbigilbbbmanjaaGreatDoor

/-
  errors.Is over the program's sentinels, bare, or within an api.At, or within two.
-/
namespace Go.Proofs.YtbigilbbbmanjaaGreatDoor
open Go.RowKit Go.Extern.Stop Go.Stop Go.Extern

theorem isTypeOf (v : Value) (w : World) : (callFunc 305 #[.iface errT v]).run Tryz.prog w = .ok (.value (.iface 443 (.agg #[.pointer (some ⟨17, errT, none⟩)]))) w := by kernel_rfl
theorem isComparable (w : World) : (callFunc 357 #[.agg #[.pointer (some ⟨17, errT, none⟩)]]).run Tryz.prog w = .ok (.value (.bool true)) w := by kernel_rfl
theorem isMethodComparable (v : Value) (w : World) : (Go.method 604 443 v "Comparable").run Tryz.prog w = .ok (357, v) w := by kernel_rfl
theorem noIsE (v : Value) (xT : TypeId) (w : World) : (Instr.typeAssert (.iface errT v) xT 466 true).run Tryz.prog w = .ok (.tuple #[.nilIface, .bool false]) w := run_typeAssert_lacksB Tryz.underlying466 (by kernel_rfl) (by kernel_rfl) v xT w
theorem noUnwrapE (v : Value) (xT : TypeId) (w : World) : (Instr.typeAssert (.iface errT v) xT 451 true).run Tryz.prog w = .ok (.tuple #[.nilIface, .bool false]) w := run_typeAssert_lacksB Tryz.underlying451 (by kernel_rfl) (by kernel_rfl) v xT w
theorem noUnwrapsE (v : Value) (xT : TypeId) (w : World) : (Instr.typeAssert (.iface errT v) xT 452 true).run Tryz.prog w = .ok (.tuple #[.nilIface, .bool false]) w := run_typeAssert_lacksB Tryz.underlying452 (by kernel_rfl) (by kernel_rfl) v xT w
theorem noIsW (v : Value) (xT : TypeId) (w : World) : (Instr.typeAssert (.iface 314 v) xT 466 true).run Tryz.prog w = .ok (.tuple #[.nilIface, .bool false]) w := run_typeAssert_lacksB Tryz.underlying466 (by kernel_rfl) (by kernel_rfl) v xT w
theorem hasUnwrapW (v : Value) (xT : TypeId) (w : World) : (Instr.typeAssert (.iface 314 v) xT 451 true).run Tryz.prog w = .ok (.tuple #[.iface 314 v, .bool true]) w := run_typeAssert_hasB Tryz.underlying451 (by kernel_rfl) v xT w
theorem methodUnwrap (v : Value) (w : World) : (Go.method 604 314 v "Unwrap").run Tryz.prog w = .ok (351, v) w := by kernel_rfl

theorem eis_same (a : Addr) (w : World) : Calls Tryz.prog 277 #[errV a, errV a] w fun e w' => e = .returned (.bool true) ∧ w = w' := by
  have tT := isTypeOf
  have cT := isComparable
  have mR := isMethodComparable
  have heq := eql_same w a
  go_enter Tryz.func277, Tryz.ntmps277
  go_wp2
  refine wp_loop_rounds 1 ?_
  rw [rounds_succ]
  go_wp2
  go_ret
  exact ⟨rfl, rfl⟩
theorem eis_other (a b : Addr) (w : World) (hne : a ≠ b) (ha : ∃ c t, w.heap[a.block]? = some (.cells c t (0, 0))) (hb : ∃ c t, w.heap[b.block]? = some (.cells c t (0, 0))) :
    Calls Tryz.prog 277 #[errV a, errV b] w fun e w' => e = .returned (.bool false) ∧ w = w' := by
  have tT := isTypeOf
  have cT := isComparable
  have mR := isMethodComparable
  have nE := noIsE
  have uE := noUnwrapE
  have vE := noUnwrapsE
  have heq := eql_other w hne ha hb
  clear hne ha hb
  go_enter Tryz.func277, Tryz.ntmps277
  go_wp2
  refine wp_loop_rounds 1 ?_
  rw [rounds_succ]
  go_wp2
  go_ret
  exact ⟨rfl, rfl⟩
/-- an error with a place, around another one -/
abbrev atV (p : Nat) : Value := .iface 314 (.pointer (some ⟨p, 0, none⟩))
theorem eis_at_same (p : Nat) (b : Addr) (w : World) (h1 : w.cell? ⟨p, 1, none⟩ = some (errV b)) :
    Calls Tryz.prog 277 #[atV p, errV b] w fun e w' => e = .returned (.bool true) ∧ w = w' := by
  have tT := isTypeOf
  have cT := isComparable
  have mR := isMethodComparable
  have nW := noIsW
  have uW := hasUnwrapW
  have mU := methodUnwrap
  have heq := eql_same w b
  have hty := run_eql_iface_types (P := Tryz.prog) 314 errT (.pointer (some ⟨p, 0, none⟩)) (.pointer (some b)) Tryz.underlying55 (by decide) w
  go_enter Tryz.func277, Tryz.ntmps277
  go_wp2
  refine wp_loop_rounds 2 ?_
  rw [rounds_succ]
  go_wp2
  rw [rounds_succ]
  go_wp2
  go_ret
  exact ⟨rfl, rfl⟩
theorem eis_at_other (p : Nat) (a b : Addr) (w : World) (h1 : w.cell? ⟨p, 1, none⟩ = some (errV a)) (hne : a ≠ b) (ha : ∃ c t, w.heap[a.block]? = some (.cells c t (0, 0))) (hb : ∃ c t, w.heap[b.block]? = some (.cells c t (0, 0))) :
    Calls Tryz.prog 277 #[atV p, errV b] w fun e w' => e = .returned (.bool false) ∧ w = w' := by
  have tT := isTypeOf
  have cT := isComparable
  have mR := isMethodComparable
  have nE := noIsE
  have uE := noUnwrapE
  have vE := noUnwrapsE
  have nW := noIsW
  have uW := hasUnwrapW
  have mU := methodUnwrap
  have heq := eql_other w hne ha hb
  have hty := run_eql_iface_types (P := Tryz.prog) 314 errT (.pointer (some ⟨p, 0, none⟩)) (.pointer (some b)) Tryz.underlying55 (by decide) w
  clear hne ha hb
  go_enter Tryz.func277, Tryz.ntmps277
  go_wp2
  refine wp_loop_rounds 2 ?_
  rw [rounds_succ]
  go_wp2
  rw [rounds_succ]
  go_wp2
  go_ret
  exact ⟨rfl, rfl⟩
theorem eis_at2_same (p q : Nat) (b : Addr) (w : World) (h1 : w.cell? ⟨p, 1, none⟩ = some (atV q)) (h2 : w.cell? ⟨q, 1, none⟩ = some (errV b)) :
    Calls Tryz.prog 277 #[atV p, errV b] w fun e w' => e = .returned (.bool true) ∧ w = w' := by
  have tT := isTypeOf
  have cT := isComparable
  have mR := isMethodComparable
  have nW := noIsW
  have uW := hasUnwrapW
  have mU := methodUnwrap
  have heq := eql_same w b
  have hty := run_eql_iface_types (P := Tryz.prog) 314 errT (.pointer (some ⟨p, 0, none⟩)) (.pointer (some b)) Tryz.underlying55 (by decide) w
  have hty2 := run_eql_iface_types (P := Tryz.prog) 314 errT (.pointer (some ⟨q, 0, none⟩)) (.pointer (some b)) Tryz.underlying55 (by decide) w
  go_enter Tryz.func277, Tryz.ntmps277
  go_wp2
  refine wp_loop_rounds 3 ?_
  rw [rounds_succ]
  go_wp2
  rw [rounds_succ]
  go_wp2
  rw [rounds_succ]
  go_wp2
  go_ret
  exact ⟨rfl, rfl⟩
theorem eis_at2_other (p q : Nat) (a b : Addr) (w : World) (h1 : w.cell? ⟨p, 1, none⟩ = some (atV q)) (h2 : w.cell? ⟨q, 1, none⟩ = some (errV a)) (hne : a ≠ b) (ha : ∃ c t, w.heap[a.block]? = some (.cells c t (0, 0))) (hb : ∃ c t, w.heap[b.block]? = some (.cells c t (0, 0))) :
    Calls Tryz.prog 277 #[atV p, errV b] w fun e w' => e = .returned (.bool false) ∧ w = w' := by
  have tT := isTypeOf
  have cT := isComparable
  have mR := isMethodComparable
  have nE := noIsE
  have uE := noUnwrapE
  have vE := noUnwrapsE
  have nW := noIsW
  have uW := hasUnwrapW
  have mU := methodUnwrap
  have heq := eql_other w hne ha hb
  have hty := run_eql_iface_types (P := Tryz.prog) 314 errT (.pointer (some ⟨p, 0, none⟩)) (.pointer (some b)) Tryz.underlying55 (by decide) w
  have hty2 := run_eql_iface_types (P := Tryz.prog) 314 errT (.pointer (some ⟨q, 0, none⟩)) (.pointer (some b)) Tryz.underlying55 (by decide) w
  clear hne ha hb
  go_enter Tryz.func277, Tryz.ntmps277
  go_wp2
  refine wp_loop_rounds 3 ?_
  rw [rounds_succ]
  go_wp2
  rw [rounds_succ]
  go_wp2
  rw [rounds_succ]
  go_wp2
  go_ret
  exact ⟨rfl, rfl⟩
end Go.Proofs.YtbigilbbbmanjaaGreatDoor

/-
  Lists of numbers and of bools as values, and slices that read as them. Plain facts, over any program.
-/
namespace Go.Proofs.YtbigilbbbmanjaaGreatDoor
open Go Go.RowKit

def ints (l : List Int) : List Value := l.map (Value.int .i64)
def bls (l : List Bool) : List Value := l.map Value.bool
theorem ints_one (l : List Int) : ∀ u ∈ ints l, u.oneCell' = true := ints_oneCell _ _
theorem bls_one (l : List Bool) : ∀ u ∈ bls l, u.oneCell' = true := by
  intro u hu
  simp only [bls, List.mem_map] at hu
  obtain ⟨b, -, rfl⟩ := hu
  rfl
theorem ints_len (l : List Int) : (ints l).length = l.length * 1 := by simp [ints]
theorem bls_len (l : List Bool) : (bls l).length = l.length * 1 := by simp [bls]
theorem ints_get (l : List Int) (k : Nat) (h : k < l.length) : (ints l)[k]? = some (.int .i64 (l.getD k 0)) := by simp [ints, h]
theorem bls_get (l : List Bool) (k : Nat) (h : k < l.length) : (bls l)[k]? = some (.bool (l.getD k false)) := by simp [bls, h]
theorem u32s_get (l : List Int) (k : Nat) (h : k < l.length) : (u32s l)[k]? = some (.int .u32 (l.getD k 0)) := by simp [u32s, h]
theorem ints_take (xs : List Int) (k : Nat) (h : k < xs.length) : ints (xs.take (k + 1)) = ints (xs.take k) ++ [.int .i64 (xs.getD k 0)] := by
  rw [List.take_succ_eq_append_getElem h, List.getD_eq_getElem?_getD, List.getElem?_eq_getElem h]
  unfold ints
  rw [List.map_append]
  rfl
theorem bls_take (xs : List Bool) (k : Nat) (h : k < xs.length) : bls (xs.take (k + 1)) = bls (xs.take k) ++ [.bool (xs.getD k false)] := by
  rw [List.take_succ_eq_append_getElem h, List.getD_eq_getElem?_getD, List.getElem?_eq_getElem h]
  unfold bls
  rw [List.map_append]
  rfl

theorem cell_one_new2 (w : World) (o : Obj) (x : Value) (t : TypeId) : ∀ j u, [x][j]? = some u → ((w.alloc o).alloc (.cells #[x] t)).cell? ((⟨w.heap.size + 1, 0, none⟩ : Addr).add j) = some u := by
  have := cell_one_new (w.alloc o) x t
  rw [World.size_alloc] at this
  exact this

/-- a cell that is there is there behind a new block -/
theorem cell_past {w : World} {a : Addr} {u : Value} (h : w.cell? a = some u) (o : Obj) : (w.alloc o).cell? a = some u :=
  (((Below.refl _ _).alloc (Nat.le_refl _) o).cell (World.block_lt_of_cell? w a h)).trans h
theorem cell_under {w w' : World} {a : Addr} {u : Value} (h : w.cell? a = some u) (hb : Below w.heap.size w w') : w'.cell? a = some u :=
  (hb.cell (World.block_lt_of_cell? w a h)).trans h

theorem take_eq {α : Type} [Inhabited α] (d : α) {xs ys : List α} {k : Nat} (hx : k < xs.length) (hy : k < ys.length) (h : xs.take k = ys.take k) (e : xs.getD k d = ys.getD k d) : xs.take (k + 1) = ys.take (k + 1) := by
  rw [List.take_succ_eq_append_getElem hx, List.take_succ_eq_append_getElem hy, h]
  rw [List.getD_eq_getElem?_getD, List.getElem?_eq_getElem hx, List.getD_eq_getElem?_getD, List.getElem?_eq_getElem hy] at e
  simp only [Option.getD_some] at e
  rw [e]

/-- a slice's cells, at an address that may be none -/
def AtL (w : World) (ao : Option Addr) (vs : List Value) : Prop := ∀ k u, vs[k]? = some u → ∃ b off, ao = some ⟨b, off, none⟩ ∧ w.cell? ⟨b, off + k, none⟩ = some u ∧ b < w.heap.size
theorem AtL.mono {W w : World} {ao : Option Addr} {vs : List Value} (h : AtL W ao vs) (hb : Below W.heap.size W w) : AtL w ao vs := fun k u hk => by
  obtain ⟨b, off, e, hc, hl⟩ := h k u hk
  exact ⟨b, off, e, (hb.cell (p := ⟨b, off + k, none⟩) hl).trans hc, Nat.lt_of_lt_of_le hl hb.size⟩
theorem AtL.mono' {W w : World} {ao : Option Addr} {vs : List Value} (h : AtL W ao vs) {B : Nat} (hb : Below B W w) (hB : W.heap.size ≤ B) : AtL w ao vs := fun k u hk => by
  obtain ⟨b, off, e, hc, hl⟩ := h k u hk
  exact ⟨b, off, e, (hb.cell (p := ⟨b, off + k, none⟩) (by exact Nat.lt_of_lt_of_le hl hB)).trans hc, Nat.lt_of_lt_of_le hl hb.size⟩
theorem AtL.drewN {W : World} {ao : Option Addr} {vs : List Value} (h : AtL W ao vs) (n : Nat) : AtL (W.drewN n) ao vs := h.mono (below_drewN (Below.refl _ _) n)
theorem atL_of_reads {w : World} {v : Value} {n : Nat} {xs : List Value} (h : Reads w v n xs) : ∃ ao cap, v = .slice ao n cap ∧ AtL w ao xs := reads_cells h
theorem atL_of_own {w : World} {e : TypeId} {size : Nat} {v : Value} {n : Nat} {xs : List Value} (h : w.ownsRow 0 e size v n xs) : ∃ ao cap, v = .slice ao n cap ∧ AtL w ao xs := reads_cells (own_reads h)
theorem atL_nil (w : World) (ao : Option Addr) : AtL w ao [] := fun k u hk => by simp at hk
theorem AtL.take {w : World} {ao : Option Addr} {vs : List Value} (h : AtL w ao vs) (n : Nat) : AtL w ao (vs.take n) := fun k u hk => h k u (by
  rw [List.getElem?_take] at hk
  split at hk
  · exact hk
  · cases hk)
theorem AtL.reads {w : World} {ao : Option Addr} {vs : List Value} {n cap : Nat} (h : AtL w ao vs) (hn : vs = [] → n = 0 ∧ cap = 0) : Reads w (.slice ao n cap) n vs := by
  cases vs with
  | nil =>
    obtain ⟨rfl, rfl⟩ := hn rfl
    cases ao with
    | none => exact .inl ⟨rfl, rfl, rfl⟩
    | some a => exact .inr ⟨a, 0, rfl, fun j u hj => by simp at hj⟩
  | cons x xs =>
    obtain ⟨b, off, rfl, -, -⟩ := h 0 x rfl
    refine .inr ⟨⟨b, off, none⟩, cap, rfl, fun j u hj => ?_⟩
    obtain ⟨b', off', e, hc, -⟩ := h j u hj
    cases e
    rw [Addr.add_lit]
    exact hc

theorem emod_of_tmod {n m : Int} (hn : n < 0) (hm : 0 < m) : (n.tmod m < 0 → n.tmod m + m = n % m) ∧ (¬ n.tmod m < 0 → n.tmod m = n % m) ∧ -m < n.tmod m ∧ n.tmod m ≤ 0 := by
  have h1 := Int.emod_nonneg n (show m ≠ 0 by omega)
  have h2 := Int.emod_lt_of_pos n hm
  have h3 := @Int.tmod_eq_emod n m
  by_cases hd : m ∣ n
  · rw [if_pos (.inr hd)] at h3
    have h4 := Int.emod_eq_zero_of_dvd hd
    omega
  · have hno : ¬ (0 ≤ n ∨ m ∣ n) := fun h => h.elim (fun h => by omega) hd
    rw [if_neg hno] at h3
    have h4 : n % m ≠ 0 := fun h => hd (Int.dvd_of_emod_eq_zero h)
    omega
end Go.Proofs.YtbigilbbbmanjaaGreatDoor

/-
  facadeworld.Number: any number as one from 0 to below a bound.
-/
namespace Go.Proofs.YtbigilbbbmanjaaGreatDoor
open Go.RowKit

set_option maxHeartbeats 400000 in
theorem number_any (n m : Int) (w : World) (h1 : -9223372036854775808 ≤ n) (h2 : n ≤ 9223372036854775807) (hm : 0 < m) (hm2 : m ≤ 1000000000) :
    Calls Tryz.prog 67 #[.int .i64 n, .int .i64 m] w fun e w' => e = .returned (.int .i64 (n % m)) ∧ w = w' := by
  by_cases hn : 0 ≤ n
  · have h3 := Int.emod_nonneg n (show m ≠ 0 by omega)
    have h4 : ¬ n % m < 0 := by omega
    go_enter Tryz.func67, Tryz.ntmps67
    go_wp2
    go_ret
    exact ⟨rfl, rfl⟩
  · obtain ⟨h3, h4, h5, h6⟩ := emod_of_tmod (show n < 0 by omega) hm
    obtain ⟨t, ht⟩ : ∃ t, n.tmod m = t := ⟨_, rfl⟩
    rw [ht] at h3 h4 h5 h6
    have H3 := Lib.hid h3
    have H4 := Lib.hid h4
    have hw := IntWalk.i64_in (t + m) (by omega)
    clear h3 h4
    by_cases hlt : t < 0
    · go_enter Tryz.func67, Tryz.ntmps67
      go_wp2
      go_ret
      exact ⟨by rw [← H3.out hlt]; rfl, rfl⟩
    · go_enter Tryz.func67, Tryz.ntmps67
      go_wp2
      go_ret
      exact ⟨by rw [← H4.out hlt]; rfl, rfl⟩
end Go.Proofs.YtbigilbbbmanjaaGreatDoor

/-
  hcall: the errors' numbers; the first check of chapter 25.
-/
namespace Go.Proofs.YtbigilbbbmanjaaGreatDoor
open Go.RowKit

set_option maxHeartbeats 400000 in
theorem hall_any (E : Nat → Addr) (w : World) (hE : ErrsAt errT gOf w E all16) :
    Calls Tryz.prog 276 #[] w fun e w' => e = .returned (.slice (some ⟨w.heap.size, 0, none⟩) 16 16) ∧ w' = w.alloc (.cells (errArr E) 55) := by
  have c0 : w.cell? ⟨12, 0, none⟩ = some (errV (E 0)) := (hE.1 0 (by decide)).1
  have c1 : w.cell? ⟨5, 0, none⟩ = some (errV (E 1)) := (hE.1 1 (by decide)).1
  have c2 : w.cell? ⟨0, 0, none⟩ = some (errV (E 2)) := (hE.1 2 (by decide)).1
  have c3 : w.cell? ⟨1, 0, none⟩ = some (errV (E 3)) := (hE.1 3 (by decide)).1
  have c4 : w.cell? ⟨11, 0, none⟩ = some (errV (E 4)) := (hE.1 4 (by decide)).1
  have c5 : w.cell? ⟨3, 0, none⟩ = some (errV (E 5)) := (hE.1 5 (by decide)).1
  have c6 : w.cell? ⟨4, 0, none⟩ = some (errV (E 6)) := (hE.1 6 (by decide)).1
  have c7 : w.cell? ⟨13, 0, none⟩ = some (errV (E 7)) := (hE.1 7 (by decide)).1
  have c8 : w.cell? ⟨7, 0, none⟩ = some (errV (E 8)) := (hE.1 8 (by decide)).1
  have c9 : w.cell? ⟨6, 0, none⟩ = some (errV (E 9)) := (hE.1 9 (by decide)).1
  have c10 : w.cell? ⟨10, 0, none⟩ = some (errV (E 10)) := (hE.1 10 (by decide)).1
  have c11 : w.cell? ⟨9, 0, none⟩ = some (errV (E 11)) := (hE.1 11 (by decide)).1
  have c12 : w.cell? ⟨2, 0, none⟩ = some (errV (E 12)) := (hE.1 12 (by decide)).1
  have c13 : w.cell? ⟨14, 0, none⟩ = some (errV (E 13)) := (hE.1 13 (by decide)).1
  have c14 : w.cell? ⟨15, 0, none⟩ = some (errV (E 14)) := (hE.1 14 (by decide)).1
  have c15 : w.cell? ⟨16, 0, none⟩ = some (errV (E 15)) := (hE.1 15 (by decide)).1
  clear hE
  go_enter Tryz.func276, Tryz.ntmps276
  go_wp2
  go_ret
  exact ⟨rfl, rfl⟩
/-- what the call makes, said on its world -/
theorem hall_at (E : Nat → Addr) (w : World) (hE : ErrsAt errT gOf w E all16) :
    Calls Tryz.prog 276 #[] w fun e w' => ∃ b, e = .returned (.slice (some ⟨b, 0, none⟩) 16 16) ∧ w'.heap[b]? = some (.cells (errArr E) 55 (0, 0)) ∧ Below w.heap.size w w' :=
  (hall_any E w hE).mono fun e w' ⟨he, hw⟩ => ⟨w.heap.size, he, by rw [hw]; exact blk_new _ _, by rw [hw]; exact (Below.refl _ _).alloc (Nat.le_refl _) _⟩

/-- an error is sentinel k, as errors.Is has it, in any later world -/
def IsK (v : Value) (E : Nat → Addr) (k : Nat) (w : World) : Prop := ∀ wx, Below w.heap.size w wx → ∀ j, j ≤ k → Calls Tryz.prog 277 #[v, errV (E j)] wx fun e w' => e = .returned (.bool (decide (j = k))) ∧ wx = w'
theorem IsK.below {v : Value} {E : Nat → Addr} {k : Nat} {w w' : World} (h : IsK v E k w) (hb : Below w.heap.size w w') : IsK v E k w' := fun wx hx j hj => h wx (hb.trans (hx.mono hb.size)) j hj
theorem isK_bare (E : Nat → Addr) (k : Nat) (hk : k < 16) (w : World) (hE : ErrsAt errT gOf w E all16) : IsK (errV (E k)) E k w := fun wx hx j hj => by
  have hE' := hE.mono hx
  by_cases h : j = k
  · subst h
    rw [decide_eq_true rfl]
    exact eis_same _ _
  · rw [decide_eq_false h]
    exact eis_other _ _ _ (hE'.2 k (mem16 hk) j (mem16 (by omega)) (fun e => h e.symm)) (hE'.1 k (mem16 hk)).2 (hE'.1 j (mem16 (by omega))).2
theorem isK_at (E : Nat → Addr) (k p : Nat) (hk : k < 16) (w : World) (hE : ErrsAt errT gOf w E all16) (h1 : w.cell? ⟨p, 1, none⟩ = some (errV (E k))) : IsK (atV p) E k w := fun wx hx j hj => by
  have hE' := hE.mono hx
  have h1' : wx.cell? ⟨p, 1, none⟩ = some (errV (E k)) := (hx.cell (p := ⟨p, 1, none⟩) (World.block_lt_of_cell? w _ h1)).trans h1
  by_cases h : j = k
  · subst h
    rw [decide_eq_true rfl]
    exact eis_at_same _ _ _ h1'
  · rw [decide_eq_false h]
    exact eis_at_other _ _ _ _ h1' (hE'.2 k (mem16 hk) j (mem16 (by omega)) (fun e => h e.symm)) (hE'.1 k (mem16 hk)).2 (hE'.1 j (mem16 (by omega))).2
theorem isK_at2 (E : Nat → Addr) (k p q : Nat) (hk : k < 16) (w : World) (hE : ErrsAt errT gOf w E all16) (h1 : w.cell? ⟨p, 1, none⟩ = some (atV q)) (h2 : w.cell? ⟨q, 1, none⟩ = some (errV (E k))) : IsK (atV p) E k w := fun wx hx j hj => by
  have hE' := hE.mono hx
  have h1' : wx.cell? ⟨p, 1, none⟩ = some (atV q) := (hx.cell (p := ⟨p, 1, none⟩) (World.block_lt_of_cell? w _ h1)).trans h1
  have h2' : wx.cell? ⟨q, 1, none⟩ = some (errV (E k)) := (hx.cell (p := ⟨q, 1, none⟩) (World.block_lt_of_cell? w _ h2)).trans h2
  by_cases h : j = k
  · subst h
    rw [decide_eq_true rfl]
    exact eis_at2_same _ _ _ _ h1' h2'
  · rw [decide_eq_false h]
    exact eis_at2_other _ _ _ _ _ h1' h2' (hE'.2 k (mem16 hk) j (mem16 (by omega)) (fun e => h e.symm)) (hE'.1 k (mem16 hk)).2 (hE'.1 j (mem16 (by omega))).2

theorem code_nil (w : World) : Calls Tryz.prog 228 #[.nilIface] w fun e w' => e = .returned (.int .u32 0) ∧ w = w' := by
  go_enter Tryz.func228, Tryz.ntmps228
  go_wp2
  go_ret
  exact ⟨rfl, rfl⟩
set_option maxHeartbeats 800000 in
theorem code_any (E : Nat → Addr) (t : TypeId) (a : Addr) (k : Nat) (hk : k < 16) (w : World) (hE : ErrsAt errT gOf w E all16) (h : IsK (.iface t (.pointer (some a))) E k w) :
    Calls Tryz.prog 228 #[.iface t (.pointer (some a))] w fun e w' => e = .returned (.int .u32 ((k + 1 : Nat) : Int)) ∧ Below w.heap.size w w' := by
  have HA := Lib.hid (hall_at E w hE)
  have HK := Lib.hid h
  clear hE h
  go_enter Tryz.func228, Tryz.ntmps228
  go_wp2_with fail
  refine HA.out.mono ?_
  rintro e w1 ⟨b, rfl, hblk, hb1⟩
  have HB := Lib.hid hb1
  have HBK := Lib.hid hblk
  clear hb1 hblk
  go_wp2_with fail
  go_loop [9] (fun i => UpToN k i) (fun i => 16 - (intOf i).toNat)
  case atStart => exact ⟨0, Nat.zero_le _, rfl⟩
  case round =>
    obtain ⟨j, hj, rfl⟩ := hrel
    have cj := (blk_cell HBK.out j).trans (errArr_get E j (by omega))
    have hj16 : (j : Int) < 16 := by omega
    have HI := Lib.hid (HK.out w1 HB.out j hj)
    by_cases hlt : j < k
    · rw [decide_eq_false (show ¬ j = k by omega)] at HI
      go_wp2_with fail
      refine HI.out.mono ?_
      rintro e w2 ⟨rfl, rfl⟩
      go_wp2
      go_round
      case rel => exact ⟨j + 1, by omega, by go_num⟩
      case measure => simp [intOf]; omega
    · obtain rfl : j = k := by omega
      rw [decide_eq_true rfl] at HI
      have hw := IntWalk.u32_in ((j : Int) + 1) (by omega)
      go_wp2_with fail
      refine HI.out.mono ?_
      rintro e w2 ⟨rfl, rfl⟩
      go_wp2
      go_ret
      exact ⟨by simp, HB.out⟩
end Go.Proofs.YtbigilbbbmanjaaGreatDoor

/-
  WholeRings: hcall.Code is known by its contract; the cases, each evaluated, in a world.
-/
set_option linter.unusedVariables false
set_option linter.unusedSimpArgs false
namespace Go.Proofs.YtbigilbbbmanjaaGreatDoor
open Go.Ev Go.RowKit

theorem val_worksR : fWorksR.val = 10 := by decide +kernel
theorem val_code : fCode.val = 228 := by decide +kernel
theorem val_rings : fRings.val = 8 := by decide +kernel
theorem globalsR : Tryz.prog.globals.size = 17 := by decide +kernel
theorem gOf_sent : ∀ k, k < 16 → gOf k = gSent.getD k 0 := by decide +kernel
theorem sentIdx_true {L : N} {j : Nat} (h : sentIdx L = some j) : j < 16 ∧ L = sentN j := by
  unfold sentIdx at h
  have h1 := List.find?_some h
  have h2 := List.mem_of_find?_eq_some h
  exact ⟨List.mem_range.1 h2, N.beq_eq _ _ h1⟩
theorem isRow_true {o : Option O} {k : Nat} (h : isRow o k = true) : ∃ z ls, o = some (.arg [.ifc errTy (.ptr (sentN k) 0)] z ls) := by
  unfold isRow at h
  split at h
  · rename_i t L z ls
    simp only [Bool.and_eq_true] at h
    rw [Nat.eq_of_beq_eq_true h.1, N.beq_eq _ _ h.2]
    exact ⟨z, ls, rfl⟩
  · cases h
theorem isSent_true {o : Option O} (h : isSent o = true) : ∃ c ls, o = some (.arg c true ls) ∧ ∀ j, j < 16 → ls[j]? = some (sentN j) := by
  unfold isSent at h
  split at h
  · rename_i c ls
    refine ⟨c, ls, rfl, fun j hj => ?_⟩
    have := List.all_eq_true.1 h j (List.mem_range.2 hj)
    split at this
    · rename_i L hL
      rw [hL, N.beq_eq _ _ this]
    · cases this
  · cases h
theorem sents_errs {E : Nm} {h : H} {w : World} (g : Go.Ev.Good Tryz.prog E h w) (hs : sentsOk h = true) : ∃ S : Nat → Addr, ErrsAt errT gOf w S all16 ∧ ∀ k, k < 16 → ∀ l, E (sentN k) = some l → S k = ⟨l.bl, l.of, none⟩ := by
  have hs : ∀ k, k < 16 → isRow (T.get (ofN 12 (gSent.getD k 0)) h.t) k = true ∧ isSent (T.get (sentN k) h.t) = true := fun k hk => by
    have := List.all_eq_true.1 hs k (List.mem_range.2 hk)
    simpa only [Bool.and_eq_true] using this
  have hE : ∀ k, k < 16 → ∃ l, E (sentN k) = some l ∧ ∃ c t, w.heap[l.bl]? = some (.cells c t (0, 0)) := fun k hk => by
    obtain ⟨c, ls, e1, _⟩ := isSent_true (hs k hk).2
    obtain ⟨l, h1, cs, pre, rest, e, fz, _, _, h2, h3, _⟩ := g.stand _ _ e1 (by simp)
    rw [h3 rfl] at h2
    exact ⟨l, h1, _, _, h2⟩
  refine ⟨fun k => match E (sentN k) with | some l => ⟨l.bl, l.of, none⟩ | none => default, ⟨fun k hk => ?_, fun i hi j hj hne he => ?_⟩, fun k hk l hl => by simp only [hl]⟩
  · have hk : k < 16 := by simp [all16] at hk; omega
    obtain ⟨l, h1, c, t, h2⟩ := hE k hk
    obtain ⟨z, ls, e1⟩ := isRow_true (hs k hk).1
    obtain ⟨l', h3, cs, pre, rest, e, fz, h4, h5, h6, _⟩ := g.stand _ _ e1 (by simp)
    have hg := gSent_lt k hk
    obtain ⟨m, q1, q2, q3⟩ := g.glob (gSent.getD k 0) (by rw [globalsR]; exact hg)
    have hto : toN (gSent.getD k 0) = ofN 12 (gSent.getD k 0) := N.val_inj _ _ (by rw [toN_val, gSent_val k hk])
    rw [hto, h3] at q1
    cases q1
    rw [q3, List.length_eq_zero_iff] at h5
    subst h5
    obtain ⟨y, z', d1, d2, rfl⟩ := denL_cons.1 h4
    simp only [den, h1, Nat.add_zero] at d1
    cases d1
    refine ⟨?_, c, t, ?_⟩
    · rw [gOf_sent k hk]
      simp only [h1]
      rw [← q2]
      simp [World.cell?, h6]
      rfl
    · simp only [h1]; exact h2
  · have hi : i < 16 := by simp [all16] at hi; omega
    have hj : j < 16 := by simp [all16] at hj; omega
    obtain ⟨c, ls, e1, hls⟩ := isSent_true (hs 0 (by omega)).2
    obtain ⟨l, _, cs, pre, rest, e, fz, _, _, _, _, hap⟩ := g.stand _ _ e1 (by simp)
    obtain ⟨la, lb, p1, p2, p3⟩ := hap i j _ _ (hls i hi) (hls j hj) hne
    simp only [p1, p2] at he
    injection he with he1 he2 he3
    exact p3 ⟨he1, he2⟩
theorem code_known : KnownOk Tryz.prog fCode.val codeK := fun xs h k hk => by
  rw [val_code]
  unfold codeK at hk
  split at hk
  · refine ⟨_, _, hk, fun E w xs' g hd => ?_⟩
    obtain ⟨a, b, d1, d2, rfl⟩ := denL_cons.1 hd
    simp only [denL, Option.some.injEq] at d2
    subst d2
    simp only [den, Option.some.injEq] at d1
    subst d1
    refine Calls.mono (code_nil w) fun e w' he => ?_
    obtain ⟨rfl, rfl⟩ := he
    exact ⟨_, E, rfl, Step.refl g, int_den (k := .u32) (n := 0) (by decide)⟩
  · rename_i t L
    split at hk
    · rename_i j ht hj hs
      have ht := Nat.eq_of_beq_eq_true ht
      subst ht
      obtain ⟨hj16, rfl⟩ := sentIdx_true hj
      refine ⟨_, _, hk, fun E w xs' g hd => ?_⟩
      obtain ⟨a, b, d1, d2, rfl⟩ := denL_cons.1 hd
      simp only [denL, Option.some.injEq] at d2
      subst d2
      obtain ⟨S, hE, hS⟩ := sents_errs g hs
      simp only [den] at d1
      split at d1
      · rename_i y hy
        cases d1
        split at hy
        · rename_i l hl
          cases hy
          have e := hS j hj16 l hl
          rw [Nat.add_zero, ← e]
          refine Calls.mono (code_any S errT (S j) j hj16 w hE (isK_bare S j hj16 w hE)) fun e w' he => ?_
          obtain ⟨rfl, hb⟩ := he
          refine ⟨_, E, rfl, step_below g hb, ?_⟩
          rw [int_den (k := .u32) (n := j + 1) (by have : full .u32 = 4294967296 := rfl; omega)]
          congr 2
          rw [u32_wrap]
          omega
        · cases hy
      · cases d1
    · cases hk
  · cases hk
theorem worksR_known : Callable Tryz.prog fWorksR.val ∧ KnownOk Tryz.prog fWorksR.val trueK := known_of_run rtab_ok (by rw [globalsR]; decide +kernel) worksR_ev
theorem code_callable : Callable Tryz.prog fCode.val := ⟨_, by rw [val_code]; exact Tryz.func228, by kernel_rfl, by kernel_rfl⟩
theorem tabR_ok : TabOk Tryz.prog tabR := tabOk_set (tabOk_set rtab_ok code_callable code_known) worksR_known.1 worksR_known.2
theorem rings_run {n r : Nat} {b : Bool} {v0 : V} {x0 : Value} (I : RingIn) (w : World) (hn : I.ws.length = n) (hr : r < 8) (hI : RingAt w I) (h0 : 0 ≤ I.fr) (h1 : I.fr < 4294967296) (h2 : I.fr % 8 = (r : Int))
    (hv0 : den (ringE Tryz.prog.globals.size I r) v0 = some x0)
    (hev : evF tabR 60 fRings [v0, .bool b, .opq (fromN r)] (ringH n) (fun v _ => v.onBool true false) = true) :
    Calls Tryz.prog 8 #[x0, .bool b, .int .u32 I.fr] w fun e w' => e = .returned (.bool true) ∧ Below w.heap.size w w' := by
  subst hn
  obtain ⟨_, v, h', hv, hrun⟩ := evF_ok tabR_ok 60 _ _ _ _ hev
  have hd : denL (ringE Tryz.prog.globals.size I r) [v0, .bool b, .opq (fromN r)] = some [x0, .bool b, .int .u32 I.fr] :=
    denL_cons.2 ⟨_, _, hv0, denL_cons.2 ⟨_, _, den_bool _ _, denL_cons.2 ⟨_, _, from_den (by rw [globalsR]; omega) hr h0 h1 h2, rfl, rfl⟩, rfl⟩, rfl⟩
  have hc := hrun (ringE Tryz.prog.globals.size I r) w _ (ring_good (by rw [globalsR]; omega) (by rw [globalsR]; omega) hI) hd
  rw [val_rings] at hc
  refine Calls.mono hc fun e w' hb => ?_
  obtain ⟨x, E', rfl, st, d⟩ := hb
  rcases V.onBool_true hv with ⟨rfl, _⟩ | ⟨_, hf⟩
  · rw [den_bool] at d
    cases d
    exact ⟨rfl, ring_below st⟩
  · cases hf
end Go.Proofs.YtbigilbbbmanjaaGreatDoor

