/-
  Parts of one proof, one behind the other.
-/
import Derived.WalkKit
import Derived.WalkSpells
import Derived.WalkLawsBesides
import Derived.Lib.Hide
import Derived.Test.YtaoaachgnnengaaGreatDoorRows
import Derived.ProofKit
import Derived.OpenShut
import Derived.Lib.SmallJoins
import Derived.LaidMore
import Derived.LaidEql
import Derived.Stop.LaidErr
import Derived.BigQuiet
import Derived.Deep.RegionWith
import Derived.Deep.RegionHeld3
import Derived.WalkSmall
import Derived.Maps.AppendAt
/-
  Plain facts on 32-bit words and on results: no program in sight.
-/
namespace Go.Proofs.YtaoaachgnnengaaGreatDoor
open Go Go.RowKit

theorem ret_bool {a b : Bool} (h : a = b) : Ending.returned (.bool a) = .returned (.bool b) := by rw [h]

theorem bcell {W w1 : World} (hb : Below W.heap.size W w1) : (∀ b o, b < W.heap.size → w1.cell? ⟨b, o, none⟩ = W.cell? ⟨b, o, none⟩) ∧ (∀ b o, b < W.heap.size → w1.frozen? ⟨b, o, none⟩ = W.frozen? ⟨b, o, none⟩) :=
  ⟨fun b o h => hb.cell (p := ⟨b, o, none⟩) h, fun b o h => hb.frozen (p := ⟨b, o, none⟩) h⟩

/-! A block known whole: its cells, none of them frozen; how it is carried on. -/
theorem blk_cell {w : World} {b : Nat} {cs : Array Value} {t : TypeId} {fr : Nat × Nat} (h : w.heap[b]? = some (.cells cs t fr)) (o : Nat) : w.cell? ⟨b, o, none⟩ = cs[o]? := by
  simp [World.cell?, h]
theorem blk_free {w : World} {b : Nat} {cs : Array Value} {t : TypeId} (h : w.heap[b]? = some (.cells cs t (0, 0))) (o : Nat) : w.frozen? ⟨b, o, none⟩ = false := by
  simp [World.frozen?, h]
theorem blk_new (w : World) (o : Obj) : (w.alloc o).heap[w.heap.size]? = some o := by
  show (w.heap.push o)[w.heap.size]? = some o
  simp
theorem blk_lt {w : World} {b : Nat} {x : Obj} (h : w.heap[b]? = some x) : b < w.heap.size := by
  rcases Nat.lt_or_ge b w.heap.size with h1 | h1
  · exact h1
  · rw [Array.getElem?_eq_none h1] at h; cases h
theorem blk_old {w : World} {b : Nat} {x : Obj} (h : w.heap[b]? = some x) (o : Obj) : (w.alloc o).heap[b]? = some x := by
  rw [Below.heap_alloc _ _ _ (blk_lt h)]; exact h
theorem blk_set {w : World} {b : Nat} {x : Obj} (h : w.heap[b]? = some x) {a : Addr} (ha : b ≠ a.block) (v : Value) : (w.setCell a v).heap[b]? = some x := by
  rw [Below.heap_setCell _ _ _ _ ha]; exact h
theorem blk_drew {w : World} {b : Nat} {x : Obj} (h : w.heap[b]? = some x) : w.drew.heap[b]? = some x := h
theorem blk_below {B : Nat} {w w' : World} {b : Nat} {x : Obj} (h : w.heap[b]? = some x) (hb : Below B w w') (hlt : b < B) : w'.heap[b]? = some x := by
  rw [hb.block b hlt]; exact h
theorem blk_put {w : World} {b : Nat} {cs : Array Value} {t : TypeId} {fr : Nat × Nat} (h : w.heap[b]? = some (.cells cs t fr)) (o : Nat) (v : Value) :
    (w.setCell ⟨b, o, none⟩ v).heap[b]? = some (.cells (cs.setIfInBounds o v) t fr) := by
  simp [World.setCell, Array.getElem?_modify, h]

theorem wrap_u32 {n : Int} (h : 0 ≤ n) (h2 : n ≤ 4294967295) : IntKind.u32.wrap n = n := by
  simp [IntKind.wrap, IntKind.signed, IntKind.bits]
  omega
theorem ofInt_u32 (n : Nat) : (BitVec.ofInt 32 (n : Int)) = BitVec.ofNat 32 n := by
  simp
theorem or_nat (a b : Nat) (h : a < 4294967296) (h2 : b < 4294967296) : bits BinOp.or IntKind.u32 a b = ((a ||| b : Nat) : Int) := by
  have hlt : a ||| b < 2 ^ 32 := Nat.or_lt_two_pow (by simpa using h) (by simpa using h2)
  show IntKind.u32.wrap ((BitVec.ofInt 32 (a : Int) ||| BitVec.ofInt 32 (b : Int)).toNat : Int) = _
  rw [ofInt_u32, ofInt_u32, BitVec.toNat_or, BitVec.toNat_ofNat, BitVec.toNat_ofNat, Nat.mod_eq_of_lt (by simpa using h), Nat.mod_eq_of_lt (by simpa using h2)]
  exact wrap_u32 (by omega) (by omega)
theorem and_nat (a b : Nat) (h : a < 4294967296) (h2 : b < 4294967296) : bits BinOp.and IntKind.u32 a b = ((a &&& b : Nat) : Int) := by
  have hlt : a &&& b < 2 ^ 32 := Nat.and_lt_two_pow a (by simpa using h2)
  show IntKind.u32.wrap ((BitVec.ofInt 32 (a : Int) &&& BitVec.ofInt 32 (b : Int)).toNat : Int) = _
  rw [ofInt_u32, ofInt_u32, BitVec.toNat_and, BitVec.toNat_ofNat, BitVec.toNat_ofNat, Nat.mod_eq_of_lt (by simpa using h), Nat.mod_eq_of_lt (by simpa using h2)]
  exact wrap_u32 (by omega) (by omega)
end Go.Proofs.YtaoaachgnnengaaGreatDoor

/-
  Rows of cells that a call owns, and what may change: plain facts on worlds, over any program.
-/
namespace Go.Proofs.YtaoaachgnnengaaGreatDoor
open Go Go.RowKit

/-- words as values -/
def u32s (l : List Int) : List Value := l.map (Value.int .u32)
theorem u32s_one (l : List Int) : ∀ u ∈ u32s l, u.oneCell' = true := ints_oneCell _ _
theorem u32s_len (l : List Int) : (u32s l).length = l.length * 1 := by simp [u32s]

theorem u32s_take (xs : List Int) (k : Nat) (h : k < xs.length) : u32s (xs.take (k + 1)) = u32s (xs.take k) ++ [.int .u32 (xs.getD k 0)] := by
  rw [List.take_succ_eq_append_getElem h, List.getD_eq_getElem?_getD, List.getElem?_eq_getElem h]
  unfold u32s
  rw [List.map_append]
  rfl

/-- w' is w with new blocks, and with writes to blocks of F alone -/
structure Only (F : Nat → Prop) (w w' : World) : Prop where
  os : w'.os = w.os
  tape : w'.tape = w.tape
  output : w'.output = w.output
  size : w.heap.size ≤ w'.heap.size
  block : ∀ k, k < w.heap.size → ¬ F k → w'.heap[k]? = w.heap[k]?

theorem Only.refl (F : Nat → Prop) (w : World) : Only F w w := ⟨rfl, rfl, rfl, Nat.le_refl _, fun _ _ _ => rfl⟩
theorem Only.trans {F : Nat → Prop} {a b c : World} (h : Only F a b) (k : Only F b c) : Only F a c :=
  ⟨k.os.trans h.os, k.tape.trans h.tape, k.output.trans h.output, Nat.le_trans h.size k.size,
    fun i hi hf => (k.block i (Nat.lt_of_lt_of_le hi h.size) hf).trans (h.block i hi hf)⟩
/-- a second step may write to what is new -/
theorem Only.trans' {F G : Nat → Prop} {a b c : World} (h : Only F a b) (k : Only G b c) (hG : ∀ i, G i → F i ∨ a.heap.size ≤ i) : Only F a c :=
  ⟨k.os.trans h.os, k.tape.trans h.tape, k.output.trans h.output, Nat.le_trans h.size k.size,
    fun i hi hf => (k.block i (Nat.lt_of_lt_of_le hi h.size) (fun hg => by rcases hG i hg with h1 | h1; exact hf h1; omega)).trans (h.block i hi hf)⟩
theorem Only.mono {F G : Nat → Prop} {a b : World} (h : Only F a b) (hF : ∀ i, F i → G i ∨ a.heap.size ≤ i) : Only G a b :=
  ⟨h.os, h.tape, h.output, h.size, fun i hi hg => h.block i hi (fun hf => by rcases hF i hf with h1 | h1; exact hg h1; omega)⟩
theorem Only.alloc (F : Nat → Prop) (w : World) (o : Obj) : Only F w (w.alloc o) :=
  ⟨rfl, rfl, rfl, by simp, fun k hk _ => Below.heap_alloc _ _ _ hk⟩
theorem Only.setCell {F : Nat → Prop} {a w : World} (h : Only F a w) {p : Addr} (hp : F p.block ∨ a.heap.size ≤ p.block) (u : Value) : Only F a (w.setCell p u) :=
  ⟨h.os, h.tape, h.output, by simp [World.setCell]; exact h.size, fun k hk hf => by
    rw [Below.heap_setCell _ _ _ _ (fun e => by subst e; rcases hp with h1 | h1; exact hf h1; omega)]
    exact h.block k hk hf⟩
theorem Only.alloc' {F : Nat → Prop} {a w : World} (h : Only F a w) (o : Obj) : Only F a (w.alloc o) := h.trans (Only.alloc F w o)
theorem Only.drew {F : Nat → Prop} {a w : World} (h : Only F a w) : Only F a w.drew := ⟨h.os, h.tape, h.output, h.size, h.block⟩
theorem Only.of_below {F : Nat → Prop} {a w : World} (h : Below a.heap.size a w) : Only F a w := ⟨h.os, h.tape, h.output, h.size, fun k hk _ => h.block k hk⟩
theorem Only.below' {F : Nat → Prop} {a b c : World} (h : Only F a b) (k : Below b.heap.size b c) : Only F a c := h.trans (Only.of_below k)
theorem Only.grown {F : Nat → Prop} {a w w' : World} {row : Option Nat} (h : Only F a w) (hg : w.grownBy w' row) (hr : ∀ k, row = some k → F k ∨ a.heap.size ≤ k) : Only F a w' :=
  h.trans' (G := fun k => some k = row) ⟨hg.os, hg.tape, hg.output, hg.size, fun k hk hne => hg.block k hk hne⟩ (fun i hi => hr i hi.symm)
theorem Only.below {F : Nat → Prop} {a w : World} {B : Nat} (h : Only F a w) (hB : B ≤ a.heap.size) (hF : ∀ k, F k → B ≤ k) : Below B a w :=
  ⟨h.os, h.tape, h.output, h.size, fun k hk => h.block k (by omega) (fun hf => by have := hF k hf; omega)⟩
theorem Only.blk {F : Nat → Prop} {a w : World} {b : Nat} {x : Obj} (h : Only F a w) (hb : a.heap[b]? = some x) (hF : ¬ F b) : w.heap[b]? = some x := by
  rw [h.block b (blk_lt hb) hF]; exact hb

/-- the blocks of a slice value -/
def inRow (v : Value) (k : Nat) : Prop := v.ownBlock = some k

theorem own_frame {w w' : World} {e : TypeId} {size : Nat} {v : Value} {n : Nat} {xs : List Value} (h : w.ownsRow 0 e size v n xs) (hb : ∀ k, inRow v k → w'.heap[k]? = w.heap[k]?) : w'.ownsRow 0 e size v n xs := by
  obtain ⟨h1, h2⟩ := h
  refine ⟨h1, ?_⟩
  rcases h2 with h2 | ⟨g, cap, cur, rfl, hg, hh, r⟩
  · exact .inl h2
  · exact .inr ⟨g, cap, cur, rfl, hg, by rw [hb g rfl]; exact hh, r⟩
theorem own_only {F : Nat → Prop} {w w' : World} {e : TypeId} {size : Nat} {v : Value} {n : Nat} {xs : List Value} (h : w.ownsRow 0 e size v n xs) (ho : Only F w w') (hF : ∀ k, inRow v k → ¬ F k) : w'.ownsRow 0 e size v n xs :=
  own_frame h fun k hk => ho.block k (h.lt k hk).2 (hF k hk)
theorem own_lt {w : World} {e : TypeId} {size : Nat} {v : Value} {n : Nat} {xs : List Value} (h : w.ownsRow 0 e size v n xs) {k : Nat} (hk : inRow v k) : k < w.heap.size := (h.lt k hk).2
theorem own_nil (w : World) (e : TypeId) (size : Nat) : w.ownsRow 0 e size (.slice none 0 0) 0 [] := World.ownsRow_nil w 0 e size
/-- a row's block is of its elements' type -/
theorem own_type {w : World} {e : TypeId} {size : Nat} {v : Value} {n : Nat} {xs : List Value} (h : w.ownsRow 0 e size v n xs) {k : Nat} (hk : inRow v k) : ∃ cur, w.heap[k]? = some (.cells cur e (0, 0)) := by
  rcases h.2 with ⟨rfl, _⟩ | ⟨g, cap, cur, rfl, hg, hh, r⟩
  · simp [inRow, Value.ownBlock] at hk
  · simp [inRow, Value.ownBlock] at hk; subst hk; exact ⟨cur, hh⟩
/-- the shape of an owned value -/
theorem own_shape {w : World} {e : TypeId} {size : Nat} {v : Value} {n : Nat} {xs : List Value} (h : w.ownsRow 0 e size v n xs) : (v = .slice none 0 0 ∧ n = 0 ∧ xs = []) ∨ ∃ g cap, v = .slice (some ⟨g, 0, none⟩) n cap ∧ n ≤ cap ∧ cap ≤ maxLen := by
  rcases h.2 with ⟨rfl, rfl⟩ | ⟨g, cap, cur, rfl, hg, hh, h1, h2, _⟩
  · exact .inl ⟨rfl, rfl, List.eq_nil_of_length_eq_zero (by simpa using h.1)⟩
  · exact .inr ⟨g, cap, rfl, h1, h2⟩
theorem own_slice {w : World} {e : TypeId} {size : Nat} {v : Value} {n : Nat} {xs : List Value} (h : w.ownsRow 0 e size v n xs) : ∃ ao cap, v = .slice ao n cap := by
  rcases own_shape h with ⟨rfl, rfl, rfl⟩ | ⟨g, cap, rfl, -, -⟩
  · exact ⟨_, _, rfl⟩
  · exact ⟨_, _, rfl⟩
/-- rows of unlike types, a row and a block of another type, are apart -/
theorem own_apart {w : World} {e e' : TypeId} {size size' : Nat} {v v' : Value} {n n' : Nat} {xs xs' : List Value} (h : w.ownsRow 0 e size v n xs) (h' : w.ownsRow 0 e' size' v' n' xs') (he : e ≠ e') {k : Nat} (hk : inRow v k) : ¬ inRow v' k := by
  intro hk'
  obtain ⟨c, hc⟩ := own_type h hk
  obtain ⟨c', hc'⟩ := own_type h' hk'
  rw [hc] at hc'
  simp only [Option.some.injEq, Obj.cells.injEq] at hc'
  exact he hc'.2.1
theorem own_not {w : World} {e t : TypeId} {size : Nat} {v : Value} {n : Nat} {xs : List Value} {b : Nat} {cs : Array Value} {fr : Nat × Nat} (h : w.ownsRow 0 e size v n xs) (hb : w.heap[b]? = some (.cells cs t fr)) (he : t ≠ e) : ¬ inRow v b := by
  intro hk
  obtain ⟨c, hc⟩ := own_type h hk
  rw [hb] at hc
  simp only [Option.some.injEq, Obj.cells.injEq] at hc
  exact he hc.2.1
theorem own_set {w : World} {e t : TypeId} {size : Nat} {v : Value} {n : Nat} {xs : List Value} {b : Nat} {cs : Array Value} {fr : Nat × Nat} (h : w.ownsRow 0 e size v n xs) (hb : w.heap[b]? = some (.cells cs t fr)) (he : t ≠ e) (o : Nat) (u : Value) : (w.setCell ⟨b, o, none⟩ u).ownsRow 0 e size v n xs :=
  own_frame h fun k hk => Below.heap_setCell _ _ _ _ (fun hkb => own_not h hb he (by subst hkb; exact hk))
theorem own_grown {w w' : World} {e : TypeId} {size : Nat} {v u : Value} {n : Nat} {xs : List Value} (h : w.ownsRow 0 e size v n xs) (hg : w.grownBy w' u.ownBlock) (hne : ∀ k, inRow v k → ¬ inRow u k) : w'.ownsRow 0 e size v n xs :=
  own_frame h fun k hk => hg.block k (own_lt h hk) (fun e => hne k hk e.symm)
theorem blk_grown {w w' : World} {b : Nat} {x : Obj} {u : Value} (h : w.heap[b]? = some x) (hg : w.grownBy w' u.ownBlock) (hne : ¬ inRow u b) : w'.heap[b]? = some x := by
  rw [hg.block b (blk_lt h) (fun e => hne e.symm)]; exact h

/-- its cells, read -/
theorem own_cell {w : World} {e : TypeId} {size : Nat} {n g cap : Nat} {xs : List Value} (h : w.ownsRow 0 e size (.slice (some ⟨g, 0, none⟩) n cap) n xs) (j : Nat) (hj : j < n * size) : w.cell? ⟨g, j, none⟩ = xs[j]? := h.cellAt j hj
theorem own_free {w : World} {e : TypeId} {size : Nat} {n g cap : Nat} {xs : List Value} (h : w.ownsRow 0 e size (.slice (some ⟨g, 0, none⟩) n cap) n xs) (j : Nat) : w.frozen? ⟨g, j, none⟩ = false := h.frozenAt j

/-- a cell that is there is there behind a new block -/
theorem blk_cell_old {w : World} {a : Addr} {u : Value} (h : w.cell? a = some u) {o : Obj} : (w.alloc o).heap[a.block]? = w.heap[a.block]? :=
  Below.heap_alloc _ _ _ (World.block_lt_of_cell? w a h)

/-- a slice value of n elements that reads as the cells xs (nil, or at an address) -/
def Reads (w : World) (v : Value) (n : Nat) (xs : List Value) : Prop :=
  (v = .slice none 0 0 ∧ n = 0 ∧ xs = []) ∨ ∃ a cap, v = .slice (some a) n cap ∧ ∀ j u, xs[j]? = some u → w.cell? (a.add j) = some u
theorem own_reads {w : World} {e : TypeId} {size : Nat} {v : Value} {n : Nat} {xs : List Value} (h : w.ownsRow 0 e size v n xs) : Reads w v n xs := by
  rcases own_shape h with ⟨rfl, rfl, rfl⟩ | ⟨g, cap, rfl, -, -⟩
  · exact .inl ⟨rfl, rfl, rfl⟩
  · exact .inr ⟨_, cap, rfl, h.cells (g := g) rfl⟩

theorem reads_at {w : World} {v : Value} {n : Nat} {xs : List Value} (h : Reads w v n xs) (hn : xs ≠ []) : ∃ b off cap, v = .slice (some ⟨b, off, none⟩) n cap ∧ ∀ j u, xs[j]? = some u → w.cell? ⟨b, off + j, none⟩ = some u := by
  rcases h with ⟨-, -, rfl⟩ | ⟨a, cap, rfl, hc⟩
  · exact (hn rfl).elim
  · obtain ⟨b, off, spot⟩ := a
    cases xs with
    | nil => exact (hn rfl).elim
    | cons x xs =>
      have h0 := hc 0 x rfl
      have hspot : spot = none := by simpa [Addr.add] using World.cell?_spot h0
      subst hspot
      exact ⟨b, off, cap, rfl, fun j u hj => by have := hc j u hj; rwa [Addr.add_lit] at this⟩

/-- a slice's shape, and its cells -/
theorem reads_cells {w : World} {v : Value} {n : Nat} {xs : List Value} (h : Reads w v n xs) : ∃ ao cap, v = .slice ao n cap ∧ ∀ j u, xs[j]? = some u → ∃ b off, ao = some ⟨b, off, none⟩ ∧ w.cell? ⟨b, off + j, none⟩ = some u ∧ b < w.heap.size := by
  by_cases hx : xs = []
  · subst hx
    rcases h with ⟨rfl, rfl, -⟩ | ⟨a, cap, rfl, -⟩
    · exact ⟨none, 0, rfl, fun j u hj => by simp at hj⟩
    · exact ⟨some a, cap, rfl, fun j u hj => by simp at hj⟩
  · obtain ⟨b, off, cap, rfl, hc⟩ := reads_at h hx
    exact ⟨_, cap, rfl, fun j u hj => ⟨b, off, rfl, hc j u hj, World.block_lt_of_cell? w ⟨b, off + j, none⟩ (hc j u hj)⟩⟩

section
variable {P : Program}

/-- append to an owned row: in place, or into a new block -/
theorem run_append_sep (w : World) (t ty e : TypeId) (i : TypeInfo) (z : Value) (size bytes : Nat) (ht : P.underlying t = some (.slice e)) (hi : P.info? e = some i) (hz : i.zero = some z)
    (hsize : i.size = size) (hby : i.bytes = bytes) (hzs : z.cells.size = size) (hsz : 0 < size)
    (v : Value) (n : Nat) (xs : List Value) (hown : w.ownsRow 0 e size v n xs)
    (a : Addr) (m c : Nat) (news : List Value) (hl : news.length = m * size) (hnews : ∀ j u, news[j]? = some u → w.cell? (a.add j) = some u) (h1 : ∀ u ∈ news, u.oneCell' = true)
    (h63 : n + m ≤ maxLen) (hbytes : (n + m) * bytes ≤ 140737488355328) :
    ∃ v' w', (Builtin.append_ #[t, t] ty #[v, .slice (some a) m c]).run P w = .ok v' w' ∧ w'.ownsRow 0 e size v' (n + m) (xs ++ news) ∧ w.grownBy w' v.ownBlock ∧
      (∀ k, inRow v' k → inRow v k ∨ w.heap.size ≤ k) := by
  by_cases hroom : ∃ g cap, v = .slice (some ⟨g, 0, none⟩) n cap ∧ n + m ≤ cap
  · obtain ⟨g, cap, rfl, hr⟩ := hroom
    obtain ⟨w', hrun, ho, hg⟩ := run_append_fits (P := P) w 0 t ty e i size ht hi hsize g n cap xs hown a m c news hl hnews h1 hr
    exact ⟨_, _, hrun, ho, hg, fun k hk => .inl hk⟩
  · -- it grows: every block of the new value lies behind the heap's end
    have hsmall : ((n + m : Nat) : Int) ≤ 9223372036854775807 := by simp only [maxLen] at h63; omega
    obtain ⟨v', w', hrun, ho, hg, hnil⟩ := run_append_own (P := P) w 0 t ty e i z size bytes ht hi hz hsize hby hzs hsz v n xs hown a m c news hl hnews h1 h63 hbytes (Nat.zero_le _)
    refine ⟨v', w', hrun, ho, hg, ?_⟩
    subst hsize
    subst hby
    rcases hown.2 with ⟨rfl, rfl⟩ | ⟨g, cap, cur, rfl, hbg, hgg, hnc, hcm, hcs, htake⟩
    · have hx : xs = [] := List.eq_nil_of_length_eq_zero (by simpa using hown.1)
      subst hx
      by_cases hm : m = 0
      · have := hnil.2 ⟨rfl, hm⟩
        subst this
        intro k hk
        simp [inRow, Value.ownBlock] at hk
      · have hr := run_append_nil (P := P) w t ty e i z ht hi hz a m c news hl hnews (by omega) (by omega) (by simp only [Nat.zero_add] at hbytes; omega)
        rw [hr] at hrun
        cases hrun
        intro k hk
        simp [inRow, Value.ownBlock] at hk
        exact .inr (by omega)
    · have hroom' : ¬ n + m ≤ cap := fun h => hroom ⟨g, cap, rfl, h⟩
      have holds : ∀ j u, xs[j]? = some u → w.cell? ((⟨g, 0, none⟩ : Addr).add j) = some u := hown.cells (g := g) rfl
      have hr := run_append_grow (P := P) w t ty e i z ht hi hz ⟨g, 0, none⟩ n cap xs hown.1 holds a m c news hl hnews (by omega) hsmall (growslice_fits (by omega) hbytes)
      rw [hr] at hrun
      cases hrun
      intro k hk
      simp [inRow, Value.ownBlock] at hk
      exact .inr (by omega)

theorem wpList_append_sep (w : World) {ops : Array Oper} {rest : List Oper} {o : Oper} {a : Act} {Q : Exit → Act → World → Prop} (hgd : o.guard = none) (s x : Operand) (t : TypeId)
    (ho : o.op = .call { callee := .builtin .append, args := #[s, x], argTypes := #[t, t] })
    (e : TypeId) (i : TypeInfo) (z : Value) (size bytes : Nat) (ht : P.underlying t = some (.slice e)) (hi : P.info? e = some i) (hz : i.zero = some z)
    (hsize : i.size = size) (hby : i.bytes = bytes) (hzs : z.cells.size = size) (hsz : 0 < size)
    (v : Value) (n : Nat) (xs : List Value) (hs : a.eval s = v) (hown : w.ownsRow 0 e size v n xs)
    (ad : Addr) (m c : Nat) (news : List Value) (hx : a.eval x = .slice (some ad) m c) (hl : news.length = m * size) (hnews : ∀ j u, news[j]? = some u → w.cell? (ad.add j) = some u) (h1 : ∀ u ∈ news, u.oneCell' = true)
    (h63 : n + m ≤ maxLen) (hbytes : (n + m) * bytes ≤ 140737488355328)
    (h : ∀ v' w', w'.ownsRow 0 e size v' (n + m) (xs ++ news) → w.grownBy w' v.ownBlock → (∀ k, inRow v' k → inRow v k ∨ w.heap.size ≤ k) → wpList P ops Q rest (a.put o.dst v') w') : wpList P ops Q (o :: rest) a w := by
  refine wpList_plain hgd fun K hK => ?_
  obtain ⟨v', w', hr, h2, h3, h4⟩ := run_append_sep (P := P) w t o.type e i z size bytes ht hi hz hsize hby hzs hsz v n xs hown ad m c news hl hnews h1 h63 hbytes
  unfold Oper.wp execOp
  simp only [ho, resolve, invoke, builtin, Sem.run_bind, Sem.run_pure, Result.andThen_ok, List.map_toArray, List.map_cons, List.map_nil, hs, hx, hr]
  exact hK _ _ (h v' w' h2 h3 h4)
end
end Go.Proofs.YtaoaachgnnengaaGreatDoor

/-
  The step from a walk to a law's row: a call that answers true and turns nothing that was there leaves what the row says.
-/
namespace Go.Proofs.YtaoaachgnnengaaGreatDoor
open Go.ChangeShapes Go.WideShapes Go.ChangeAt Go.RowKit

/-- every parameter type can be read, and is one of the program's -/
def parsOk (P : Program) (ts : List TypeId) : Bool := ts.all fun t => P.readableRec t && decide (t < P.types.size)

theorem trodAll_stays {H : Type} {enc : TypeId × Value → H} {P : Program} {W W' : World} (hl : laidOutB P = true) (hb : Below W.heap.size W W') :
    ∀ {ts : List TypeId} {vs : List Value} {ds : List (DataW H)} {ps : List MemPlace}, parsOk P ts = true →
      DataW.TrodAll enc P W 0 (fun _ => true) true ts vs ds ps → (∀ x ∈ ps, x.block < W.heap.size) →
      DataW.TrodAll enc P W' 0 (fun b => decide (b < W.heap.size)) true ts vs ds ps
  | [], _, _, _, _, h, _ => by
    obtain ⟨rfl, rfl, rfl⟩ := trodAll_nil h
    exact trodAll_mk0
  | t :: ts, _, _, _, hr, h, hlt => by
    obtain ⟨v, vs', d, ds', p, q, rfl, rfl, rfl, h0, h1⟩ := trodAll_cons h
    simp only [parsOk, List.all_cons, Bool.and_eq_true, decide_eq_true_eq] at hr
    exact trodAll_cons_mk (Below.trod hl hr.1.1 hr.1.2 h0 hb fun x hx => hlt x (by simp [hx])) (trodAll_stays hl hb hr.2 h1 fun x hx => hlt x (by simp [hx]))

theorem law_post {H : Type} {enc : TypeId × Value → H} {P : Program} {fn : Func} {s : ChangeSpec} {bt : TypeId} {W W' : World} {args : Array Value} {ds gs : List (DataW H)} {before : List MemPlace}
    (hl : laidOutB P = true) (hrec : parsOk P fn.params.toList = true) (hres : fn.resultTypes = #[bt]) (hbt : P.underlying bt = some .bool)
    (hvars : s.vars = []) (hW : DataW.Whole enc P fn.params.toList s.vars false W args.toList ds gs before)
    (hfn : s.fn H (ds ++ gs) = { results := [.lit (.bool true)], args := ds }) (hb : Below W.heap.size W W') :
    s.post enc P fn false true false false W args (.bool true) W' := by
  have hW' := hW
  obtain ⟨p, q, hA, hV, rfl, hfz, hnd⟩ := hW
  have hlt : ∀ x ∈ p, x.block < W.heap.size := fun x hx => hW'.lt x (by simp [hx])
  rw [hvars] at hV
  obtain ⟨rfl, rfl⟩ := trodVars_none hV
  refine ⟨ds, [], _, [], p, [], hW', ?_, ?_, ?_, hb.frame _, fun h => by cases h⟩
  · rw [hfn, hres]
    exact trodAll_mk1 (shut_bool hbt _)
  · rw [hfn]
    exact trodAll_stays hl hb hrec hA hlt
  · rw [hfn, hvars]; rfl

/-- a slice of integers that came in: the numbers zs -/
theorem open_reads {H : Type} {enc : TypeId × Value → H} {P : Program} {W : World} {t e : TypeId} {k : IntKind} {v : Value} {d : DataW H} {p : List MemPlace} {r : Reach} {b0 : Nat}
    (ht : P.underlying t = some (.slice e)) (he : P.underlying e = some (.int k)) (hc : P.cellsOf e = 1) (hv : Value.okWide P W r b0 t v) (h : DataW.Trod enc P W 0 (fun _ => true) true t v d p) :
    ∃ zs : List Int, Reads W v zs.length (zs.map (Value.int k)) ∧ zs.length ≤ maxLen ∧ ∀ z ∈ zs, (Lit.int k z).wf = true := by
  obtain ⟨a0, len, cap, rfl⟩ := okWide_slice ht hv
  obtain ⟨fuel, hf⟩ := h
  rcases open_ints ht he hc hf with ⟨hcs, _⟩ | ⟨x, l, c, zs, hcs, _, hl, hm, hz, _, hcell, hwz⟩
  · simp [Value.cells] at hcs
    obtain ⟨rfl, rfl, rfl⟩ := hcs
    exact ⟨[], .inl ⟨rfl, rfl, rfl⟩, by simp, by simp⟩
  · simp [Value.cells] at hcs
    obtain ⟨rfl, rfl, rfl⟩ := hcs
    have hzl : zs.length = cap := by simpa using hz
    have hlen : (zs.take len).length = len := by rw [List.length_take]; omega
    refine ⟨zs.take len, ?_, by omega, fun z hz => hwz z (List.mem_of_mem_take hz)⟩
    rw [hlen]
    refine .inr ⟨x, cap, rfl, fun j u hj => ?_⟩
    have hj' := (List.getElem?_eq_some_iff.1 hj).1
    simp only [List.length_map, hlen] at hj'
    rw [hcell j (by omega)]
    simp only [List.getElem?_map, List.getElem?_take_of_lt hj'] at hj
    rw [← hj, List.getD_eq_getElem?_getD, List.getElem?_eq_getElem (by omega)]
    simp
theorem own : ownKnob Tryz.prog.godebug = none := by kernel_rfl
theorem laidOut : laidOutB Tryz.prog = true := by kernel_rfl
end Go.Proofs.YtaoaachgnnengaaGreatDoor

/-
  The program's sentinels: what the condition on them gives a walk: where each lies, and that no two are one.
-/
namespace Go.Proofs.YtaoaachgnnengaaGreatDoor
open Go.ChangeShapes Go.WideShapes Go.ChangeAt Go.RowKit

/-- sentinel a is what variable g holds, and lies in a block of its own, not frozen -/
def SentAt (tp : TypeId) (W : World) (g : Nat) (a : Addr) : Prop := W.cell? ⟨g, 0, none⟩ = some (.iface tp (.pointer (some a))) ∧ ∃ c t, W.heap[a.block]? = some (.cells c t (0, 0))
theorem SentAt.mono {tp : TypeId} {W w : World} {g : Nat} {a : Addr} (h : SentAt tp W g a) (hb : Below W.heap.size W w) : SentAt tp w g a := by
  obtain ⟨h1, c, t, h2⟩ := h
  exact ⟨(hb.cell (World.block_lt_of_cell? W _ h1)).trans h1, c, t, by rw [hb.block _ (blk_lt h2)]; exact h2⟩

theorem sents {P : Program} {nm : String} {ti tp te ts : TypeId} {ms : Array (String × TypeId)} {f : Field} {W : World}
    (hi : P.underlying ti = some (.interface ms)) (hrow : ∀ u, P.typeName? 3 u = some nm → u = tp) (hp : P.underlying tp = some (.pointer te)) (he : P.underlying te = some (.struct #[f])) (hft : f.type = ts) (hfo : f.offset = 0)
    (hs : P.underlying ts = some .string) (hc : P.cellsOf te = 1) (hcs : P.cellsOf ts = 1) :
    ∀ (L : List (String × DataW Unit)) (ps : List MemPlace), DataW.LaidVars P W L ps → ps.Nodup →
      (∀ b off, MemPlace.cell b off ∈ ps → (∃ c t, W.heap[b]? = some (.cells c t (0, 0))) ∧ ∀ u v, W.cell? ⟨b, off, none⟩ = some (.iface u v) → Value.okWide P W .any 0 u v) →
      (∀ x ∈ L, (∃ text, x.2 = .iface nm (.ptr (.agg [.lit (.string text)]))) ∧ ∀ g, P.globalNamed x.1 = some g → (P.globals[g]?).map (·.type) = some ti) →
      ∃ A : List Addr, A.length = L.length ∧ A.Nodup ∧ (∀ a ∈ A, MemPlace.cell a.block a.off ∈ ps) ∧ ∀ (i : Nat) x a, L[i]? = some x → A[i]? = some a → ∃ g, P.globalNamed x.1 = some g ∧ SentAt tp W g a
  | [], ps, _, _, _, _ => ⟨[], rfl, by simp, by simp, by simp⟩
  | (n, d) :: L, ps, hv, hnd, hrows, hL => by
    obtain ⟨g, t, cs, fuel, p, q, hg, ht, hvar, hd, hq, rfl⟩ := hv
    obtain ⟨⟨text, hdt⟩, hty⟩ := hL (n, d) (by simp)
    have hdt' : d = .iface nm (.ptr (.agg [.lit (.string text)])) := hdt
    subst hdt'
    obtain rfl := Option.some.inj ((hty g hg).symm.trans ht)
    obtain ⟨l0⟩ := cs
    have hnd2 := List.nodup_append.1 hnd
    have ok0 : ∀ u v, l0 = [.iface u v] → Value.okWide P W .any 0 u v := fun u v e => by
      subst e
      exact (hrows g 0 (by simp [MemPlace.row])).2 u v (by simpa using World.var?_cell hg hvar 0)
    obtain ⟨a, s, rfl, hca, hsa, hza, rfl⟩ := errorString_of_trod hi hrow hp he hft hfo hs hc hcs hd ok0
    obtain ⟨A, h1, h2, h3, h4⟩ := sents hi hrow hp he hft hfo hs hc hcs L q hq hnd2.2.1 (fun b off hm => hrows b off (List.mem_append_right _ hm)) (fun x hx => hL x (by simp [hx]))
    have hin : MemPlace.cell a.block a.off ∈ MemPlace.row a 1 := by simp [MemPlace.row]
    refine ⟨a :: A, by simp [h1], ?_, ?_, ?_⟩
    · rw [List.nodup_cons]
      refine ⟨fun hm => ?_, h2⟩
      have hq' := h3 a hm
      exact hnd2.2.2 _ (List.mem_append_right _ hin) _ hq' rfl
    · intro b hb
      rcases List.mem_cons.1 hb with rfl | hb
      · exact List.mem_append_left _ (List.mem_append_right _ hin)
      · exact List.mem_append_right _ (h3 b hb)
    · intro i x b hx hb
      cases i with
      | zero =>
        simp only [List.getElem?_cons_zero, Option.some.injEq] at hx hb
        subst hx hb
        refine ⟨g, hg, by simpa using World.var?_cell hg hvar 0, ?_⟩
        exact (hrows a.block a.off (List.mem_append_left _ (List.mem_append_right _ hin))).1
      | succ i => exact h4 i x b (by simpa using hx) (by simpa using hb)

/-- the sentinels of the numbers S: sentinel k is at E k, variable G k holds it; no two are one -/
def ErrsAt (tp : TypeId) (G : Nat → Nat) (W : World) (E : Nat → Addr) (S : List Nat) : Prop := (∀ k ∈ S, SentAt tp W (G k) (E k)) ∧ ∀ i ∈ S, ∀ j ∈ S, i ≠ j → E i ≠ E j
theorem ErrsAt.mono {tp : TypeId} {G : Nat → Nat} {W w : World} {E : Nat → Addr} {S : List Nat} (h : ErrsAt tp G W E S) (hb : Below W.heap.size W w) : ErrsAt tp G w E S := ⟨fun k hk => (h.1 k hk).mono hb, h.2⟩

theorem errs_of {P : Program} {tp : TypeId} {G : Nat → Nat} {W : World} (L : List (String × DataW Unit)) (S : List Nat) (hS : S.Nodup) (hlen : L.length = S.length)
    (hG : ∀ (i : Nat) x k, L[i]? = some x → S[i]? = some k → P.globalNamed x.1 = some (G k))
    (h : ∃ A : List Addr, A.length = L.length ∧ A.Nodup ∧ ∀ (i : Nat) x a, L[i]? = some x → A[i]? = some a → ∃ g, P.globalNamed x.1 = some g ∧ SentAt tp W g a) : ∃ E, ErrsAt tp G W E S := by
  obtain ⟨A, h1, h2, h3⟩ := h
  have idx : ∀ k ∈ S, ∃ i, S[i]? = some k ∧ S.idxOf k = i ∧ i < S.length := fun k hk => ⟨S.idxOf k, by rw [List.getElem?_eq_getElem (List.idxOf_lt_length_of_mem hk)]; simp, rfl, List.idxOf_lt_length_of_mem hk⟩
  refine ⟨fun k => A.getD (S.idxOf k) ⟨0, 0, none⟩, fun k hk => ?_, fun i hi j hj hne he => ?_⟩
  · obtain ⟨i, e1, e2, e3⟩ := idx k hk
    have hAi : A[i]? = some (A.getD (S.idxOf k) ⟨0, 0, none⟩) := by
      rw [e2, List.getD_eq_getElem?_getD, List.getElem?_eq_getElem (by omega)]
      rfl
    obtain ⟨x, hx⟩ : ∃ x, L[i]? = some x := ⟨_, List.getElem?_eq_getElem (by omega)⟩
    obtain ⟨g, hg, hs⟩ := h3 i x _ hx hAi
    obtain rfl := Option.some.inj ((hG i x k hx e1).symm.trans hg)
    exact hs
  · obtain ⟨a, a1, a2, a3⟩ := idx i hi
    obtain ⟨b, b1, b2, b3⟩ := idx j hj
    have he' : A.getD (S.idxOf i) ⟨0, 0, none⟩ = A.getD (S.idxOf j) ⟨0, 0, none⟩ := he
    rw [a2, b2, List.getD_eq_getElem?_getD, List.getD_eq_getElem?_getD, List.getElem?_eq_getElem (by omega), List.getElem?_eq_getElem (by omega)] at he'
    simp only [Option.getD_some] at he'
    have hp := List.pairwise_iff_getElem.1 h2
    rcases Nat.lt_trichotomy a b with h | h | h
    · exact hp a b (by omega) (by omega) h he'
    · subst h
      rw [a1] at b1
      exact hne (Option.some.inj b1)
    · exact hp b a (by omega) (by omega) h he'.symm
end Go.Proofs.YtaoaachgnnengaaGreatDoor

/-
  The sentinels of this seat: which variable holds which; what a list of them gives.
-/
namespace Go.Proofs.YtaoaachgnnengaaGreatDoor
open Go.ChangeShapes Go.WideShapes Go.ChangeAt Go.RowKit

abbrev errT : TypeId := 149
def gOf : Nat → Nat
  | 0 => 8
  | 1 => 9
  | 2 => 0
  | 3 => 2
  | 4 => 10
  | 5 => 7
  | 6 => 3
  | 7 => 11
  | 8 => 12
  | 9 => 4
  | 10 => 6
  | 11 => 5
  | 12 => 1
  | 13 => 13
  | 14 => 14
  | 15 => 15
  | _ => 0
theorem err_star : "*" ++ "errors.errorString" = "*errors.errorString" := by decide
theorem err_row (u : TypeId) (h : Tryz.prog.typeName? 3 u = some "*errors.errorString") : u = errT :=
  typeName_ptr_named (nm := "errors.errorString") (by rw [err_star]; kernel_rfl) (by kernel_rfl) (by decide) u (by rw [err_star]; exact h)
theorem err_cells : Tryz.prog.cellsOf 165 = 1 := by kernel_rfl
theorem str_cells : Tryz.prog.cellsOf 9 = 1 := by kernel_rfl
theorem errs_sents {W : World} (L : List (String × DataW Unit)) (ps : List MemPlace) (hv : DataW.LaidVars Tryz.prog W L ps) (hnd : ps.Nodup)
    (hrows : ∀ b off, MemPlace.cell b off ∈ ps → (∃ c t, W.heap[b]? = some (.cells c t (0, 0))) ∧ ∀ u v, W.cell? ⟨b, off, none⟩ = some (.iface u v) → Value.okWide Tryz.prog W .any 0 u v)
    (hL : ∀ x ∈ L, (∃ text, x.2 = .iface "*errors.errorString" (.ptr (.agg [.lit (.string text)]))) ∧ ∀ g, Tryz.prog.globalNamed x.1 = some g → (Tryz.prog.globals[g]?).map (·.type) = some 49) :
    ∃ A : List Addr, A.length = L.length ∧ A.Nodup ∧ (∀ a ∈ A, MemPlace.cell a.block a.off ∈ ps) ∧ ∀ (i : Nat) x a, L[i]? = some x → A[i]? = some a → ∃ g, Tryz.prog.globalNamed x.1 = some g ∧ SentAt errT W g a :=
  sents Tryz.underlying49 err_row Tryz.underlying149 Tryz.underlying165 rfl rfl Tryz.underlying9 err_cells str_cells L ps hv hnd hrows hL
end Go.Proofs.YtaoaachgnnengaaGreatDoor

/-
  facadesee: is an error this one? Over the program's sentinels.
-/
namespace Go.Proofs.YtaoaachgnnengaaGreatDoor
open Go.RowKit

abbrev errV (a : Addr) : Value := .iface errT (.pointer (some a))
def all16 : List Nat := [0, 1, 2, 3, 4, 5, 6, 7, 8, 9, 10, 11, 12, 13, 14, 15]
theorem mem16 {k : Nat} (h : k < 16) : k ∈ all16 := by
  simp [all16]
  omega
theorem err_comp : (Tryz.prog.info? errT).map (·.comparable) = some true := by kernel_rfl
theorem err_size : (Tryz.prog.info? 165).map (·.size) = some 1 := by kernel_rfl
theorem eql_same (w : World) (a : Addr) : (binOp .eql 49 (errV a) (errV a)).run Tryz.prog w = .ok (.bool true) w := by
  obtain ⟨i, hi, hc⟩ := Option.map_eq_some_iff.1 err_comp
  obtain ⟨j, hj, -⟩ := Option.map_eq_some_iff.1 err_size
  exact run_eql_iface_ptr_same w a Tryz.underlying49 Tryz.underlying149 hi hc hj
theorem eql_other (w : World) {a b : Addr} (hne : a ≠ b) (ha : ∃ c t, w.heap[a.block]? = some (.cells c t (0, 0))) (hb : ∃ c t, w.heap[b.block]? = some (.cells c t (0, 0))) :
    (binOp .eql 49 (errV a) (errV b)).run Tryz.prog w = .ok (.bool false) w := by
  obtain ⟨i, hi, hc⟩ := Option.map_eq_some_iff.1 err_comp
  obtain ⟨j, hj, hs⟩ := Option.map_eq_some_iff.1 err_size
  obtain ⟨ca, ta, ha⟩ := ha
  obtain ⟨cb, tb, hb⟩ := hb
  exact run_eql_iface_ptr_other w Tryz.underlying49 Tryz.underlying149 hi hc hj (by omega) hne ha hb

set_option maxHeartbeats 400000 in
theorem alike_same (a : Addr) (w : World) : Calls Tryz.prog 106 #[errV a, errV a] w fun e w' => e = .returned (.bool true) ∧ w = w' := by
  have heq := fun wx => eql_same wx a
  go_enter Tryz.func106, Tryz.ntmps106
  go_wp2
  go_ret
  exact ⟨rfl, rfl⟩
set_option maxHeartbeats 400000 in
theorem alike_other (a b : Addr) (w : World) (hne : a ≠ b) (ha : ∃ c t, w.heap[a.block]? = some (.cells c t (0, 0))) (hb : ∃ c t, w.heap[b.block]? = some (.cells c t (0, 0))) :
    Calls Tryz.prog 106 #[errV a, errV b] w fun e w' => e = .returned (.bool false) ∧ w = w' := by
  have heq := eql_other w hne ha hb
  clear hne ha hb
  go_enter Tryz.func106, Tryz.ntmps106
  go_wp2
  go_ret
  exact ⟨rfl, rfl⟩

def errArr (E : Nat → Addr) : Array Value := #[errV (E 0), errV (E 1), errV (E 2), errV (E 3), errV (E 4), errV (E 5), errV (E 6), errV (E 7), errV (E 8), errV (E 9), errV (E 10), errV (E 11), errV (E 12), errV (E 13), errV (E 14), errV (E 15)]
theorem errArr_get (E : Nat → Addr) (j : Nat) (hj : j < 16) : (errArr E)[j]? = some (errV (E j)) := by
  match j, hj with
  | 0, _ => rfl
  | 1, _ => rfl
  | 2, _ => rfl
  | 3, _ => rfl
  | 4, _ => rfl
  | 5, _ => rfl
  | 6, _ => rfl
  | 7, _ => rfl
  | 8, _ => rfl
  | 9, _ => rfl
  | 10, _ => rfl
  | 11, _ => rfl
  | 12, _ => rfl
  | 13, _ => rfl
  | 14, _ => rfl
  | 15, _ => rfl
  | n + 16, h => exact absurd h (by omega)
set_option maxHeartbeats 400000 in
theorem sentinels_any (E : Nat → Addr) (w : World) (hE : ErrsAt errT gOf w E all16) :
    Calls Tryz.prog 105 #[] w fun e w' => e = .returned (.slice (some ⟨w.heap.size, 0, none⟩) 16 16) ∧ w' = w.alloc (.cells (errArr E) 49) := by
  have c0 : w.cell? ⟨8, 0, none⟩ = some (errV (E 0)) := (hE.1 0 (by decide)).1
  have c1 : w.cell? ⟨9, 0, none⟩ = some (errV (E 1)) := (hE.1 1 (by decide)).1
  have c2 : w.cell? ⟨0, 0, none⟩ = some (errV (E 2)) := (hE.1 2 (by decide)).1
  have c3 : w.cell? ⟨2, 0, none⟩ = some (errV (E 3)) := (hE.1 3 (by decide)).1
  have c4 : w.cell? ⟨10, 0, none⟩ = some (errV (E 4)) := (hE.1 4 (by decide)).1
  have c5 : w.cell? ⟨7, 0, none⟩ = some (errV (E 5)) := (hE.1 5 (by decide)).1
  have c6 : w.cell? ⟨3, 0, none⟩ = some (errV (E 6)) := (hE.1 6 (by decide)).1
  have c7 : w.cell? ⟨11, 0, none⟩ = some (errV (E 7)) := (hE.1 7 (by decide)).1
  have c8 : w.cell? ⟨12, 0, none⟩ = some (errV (E 8)) := (hE.1 8 (by decide)).1
  have c9 : w.cell? ⟨4, 0, none⟩ = some (errV (E 9)) := (hE.1 9 (by decide)).1
  have c10 : w.cell? ⟨6, 0, none⟩ = some (errV (E 10)) := (hE.1 10 (by decide)).1
  have c11 : w.cell? ⟨5, 0, none⟩ = some (errV (E 11)) := (hE.1 11 (by decide)).1
  have c12 : w.cell? ⟨1, 0, none⟩ = some (errV (E 12)) := (hE.1 12 (by decide)).1
  have c13 : w.cell? ⟨13, 0, none⟩ = some (errV (E 13)) := (hE.1 13 (by decide)).1
  have c14 : w.cell? ⟨14, 0, none⟩ = some (errV (E 14)) := (hE.1 14 (by decide)).1
  have c15 : w.cell? ⟨15, 0, none⟩ = some (errV (E 15)) := (hE.1 15 (by decide)).1
  clear hE
  go_enter Tryz.func105, Tryz.ntmps105
  go_wp2
  go_ret
  exact ⟨rfl, rfl⟩

def UpToN (n : Nat) (i : Value) : Prop := ∃ j : Nat, j ≤ n ∧ i = .int .i64 (j : Int)
set_option maxHeartbeats 800000 in
theorem sentinel_any (E : Nat → Addr) (k : Nat) (hk : k < 16) (w : World) (hE : ErrsAt errT gOf w E all16) :
    Calls Tryz.prog 101 #[errV (E k)] w fun e w' => e = .returned (.int .i64 ((101 + k : Nat) : Int)) ∧ Below w.heap.size w w' := by
  have HE := Lib.hid hE
  clear hE
  go_enter Tryz.func101, Tryz.ntmps101
  go_wp2_with fail
  refine (sentinels_any E _ HE.out).mono ?_
  rintro e w1 ⟨rfl, hw1⟩
  have hb1 : Below w.heap.size w w1 := by rw [hw1]; exact (Below.refl _ _).alloc (Nat.le_refl _) _
  have hblk : w1.heap[w.heap.size]? = some (.cells (errArr E) 49 (0, 0)) := by rw [hw1]; exact blk_new _ _
  have HE1 := Lib.hid (HE.out.mono hb1)
  have HB := Lib.hid hb1
  have HBK := Lib.hid hblk
  clear hw1 hb1 hblk HE
  go_wp2_with fail
  go_loop [4] (fun i => UpToN k i) (fun i => 16 - (intOf i).toNat)
  case atStart => exact ⟨0, Nat.zero_le _, rfl⟩
  case round =>
    obtain ⟨j, hj, rfl⟩ := hrel
    have cj := (blk_cell HBK.out j).trans (errArr_get E j (by omega))
    have hj16 : (j : Int) < 16 := by omega
    by_cases hlt : j < k
    · have hne := HE1.out.2 j (mem16 (by omega)) k (mem16 hk) (by omega)
      have HA := Lib.hid (alike_other (E k) (E j) w1 (fun e => hne e.symm) (HE1.out.1 k (mem16 hk)).2 (HE1.out.1 j (mem16 (by omega))).2)
      clear hne
      go_wp2_with fail
      refine HA.out.mono ?_
      rintro e w2 ⟨rfl, rfl⟩
      go_wp2
      go_round
      case rel => exact ⟨j + 1, by omega, by go_num⟩
      case measure => simp [intOf]; omega
    · obtain rfl : j = k := by omega
      have hw := IntWalk.i64_in (101 + (j : Int)) (by omega)
      go_wp2_with fail
      refine (alike_same (E j) _).mono ?_
      rintro e w2 ⟨rfl, rfl⟩
      go_wp2
      go_ret
      exact ⟨by simp, HB.out⟩

theorem bare_any (c : Int) (w : World) : Calls Tryz.prog 62 #[.int .i64 c] w fun e w' => e = .returned (.agg #[.int .i64 c, .bool false, .int .i64 0]) ∧ Below w.heap.size w w' := by
  go_enter Tryz.func62, Tryz.ntmps62
  go_wp2
  exact bodyPost_ret (v := .agg #[.int .i64 c, .bool false, .int .i64 0]) (by simp [results, Tryz.results62, go_sem]) rfl ⟨rfl, (Below.refl _ _).alloc (Nat.le_refl _) _⟩
theorem none_any (w : World) : Calls Tryz.prog 100 #[] w fun e w' => e = .returned (.agg #[.int .i64 0, .bool false, .int .i64 0]) ∧ Below w.heap.size w w' := by
  go_enter Tryz.func100, Tryz.ntmps100
  go_wp2
  exact bodyPost_ret (v := .agg #[.int .i64 0, .bool false, .int .i64 0]) (by simp [results, Tryz.results100, go_sem]) rfl ⟨rfl, (Below.refl _ _).alloc (Nat.le_refl _) _⟩
set_option maxHeartbeats 400000 in
theorem sameFault_any (c d : Int) (w : World) : Calls Tryz.prog 93 #[.agg #[.int .i64 c, .bool false, .int .i64 0], .agg #[.int .i64 d, .bool false, .int .i64 0]] w fun e w' => e = .returned (.bool (decide (c = d))) ∧ Below w.heap.size w w' := by
  by_cases h : c = d
  · subst h
    go_enter Tryz.func93, Tryz.ntmps93
    go_wp2
    go_ret
    exact ⟨ret_bool (by simp), by repeat (first | exact Below.refl _ _ | refine Below.alloc ?_ (by simp) _)⟩
  · have hb : (c == d) = false := by simp [h]
    have H := Lib.hid h
    clear h
    go_enter Tryz.func93, Tryz.ntmps93
    go_wp2
    go_ret
    exact ⟨ret_bool (by simp [H.out]), by repeat (first | exact Below.refl _ _ | refine Below.alloc ?_ (by simp) _)⟩

theorem flt_cells {w w1 : World} (hb : Below (w.heap.size + 1) (w.alloc (.cells #[.int .i64 0, .bool false, .int .i64 0] 119)) w1) :
    w1.heap[w.heap.size]? = some (.cells #[.int .i64 0, .bool false, .int .i64 0] 119 (0, 0)) := by
  rw [hb.block _ (by omega)]
  exact blk_new _ _
set_option maxHeartbeats 800000 in
theorem fault_nil (w : World) : Calls Tryz.prog 94 #[.nilIface] w fun e w' => e = .returned (.agg #[.int .i64 0, .bool false, .int .i64 0]) ∧ Below w.heap.size w w' := by
  go_enter Tryz.func94, Tryz.ntmps94
  go_wp2_with fail
  refine (none_any _).mono ?_
  rintro e w1 ⟨rfl, hb1⟩
  have hblk := flt_cells (w := w) (by simpa using hb1)
  have c0 := blk_cell hblk 0
  have c1 := blk_cell hblk 1
  have c2 := blk_cell hblk 2
  have f0 := blk_free hblk 0
  have f1 := blk_free hblk 1
  have f2 := blk_free hblk 2
  have hlt := blk_lt hblk
  have HB := Lib.hid (show Below w.heap.size w w1 from ((Below.refl _ _).alloc (Nat.le_refl _) _).trans (hb1.mono (by simp)))
  clear hb1 hblk
  go_wp2
  exact bodyPost_ret (v := .agg #[.int .i64 0, .bool false, .int .i64 0]) (by simp [results, Tryz.results94, go_sem, c0, c1, c2, f0, f1, f2, hlt]) rfl ⟨rfl, ((HB.out.setCell (Nat.le_refl _) _).setCell (Nat.le_refl _) _).setCell (Nat.le_refl _) _⟩
set_option maxRecDepth 100000 in
set_option maxHeartbeats 800000 in
theorem fault_err (E : Nat → Addr) (k : Nat) (hk : k < 16) (w : World) (hE : ErrsAt errT gOf w E all16) :
    Calls Tryz.prog 94 #[errV (E k)] w fun e w' => e = .returned (.agg #[.int .i64 ((101 + k : Nat) : Int), .bool false, .int .i64 0]) ∧ Below w.heap.size w w' := by
  have HE := Lib.hid (hE.mono ((Below.refl _ _).alloc (Nat.le_refl _) (.cells #[.int .i64 0, .bool false, .int .i64 0] 119)))
  have hta : ∀ wx, (Instr.typeAssert (errV (E k)) 49 141 true).run Tryz.prog wx = .ok (.tuple #[.pointer none, .bool false]) wx := fun _ => by kernel_rfl
  clear hE
  go_enter Tryz.func94, Tryz.ntmps94
  go_wp2_with fail
  refine (sentinel_any E k hk _ HE.out).mono ?_
  rintro e w0 ⟨rfl, hb0⟩
  have HB0 := Lib.hid hb0
  clear hb0
  go_wp2_with fail
  refine (bare_any _ _).mono ?_
  rintro e w1 ⟨rfl, hb1'⟩
  have hb1 := HB0.out.trans (hb1'.mono HB0.out.size)
  have hblk := flt_cells (w := w) (by simpa using hb1)
  have c0 := blk_cell hblk 0
  have c1 := blk_cell hblk 1
  have c2 := blk_cell hblk 2
  have f0 := blk_free hblk 0
  have f1 := blk_free hblk 1
  have f2 := blk_free hblk 2
  have hlt := blk_lt hblk
  have HB := Lib.hid (show Below w.heap.size w w1 from ((Below.refl _ _).alloc (Nat.le_refl _) _).trans (hb1.mono (by simp)))
  clear hb1 hb1' hblk
  go_wp2
  exact bodyPost_ret (v := .agg #[.int .i64 ((101 + k : Nat) : Int), .bool false, .int .i64 0]) (by simp [results, Tryz.results94, go_sem, c0, c1, c2, f0, f1, f2, hlt]) rfl ⟨rfl, ((HB.out.setCell (Nat.le_refl _) _).setCell (Nat.le_refl _) _).setCell (Nat.le_refl _) _⟩

/-- an error that is sentinel k, or none: its number -/
def errNum (v : Value) (E : Nat → Addr) (c : Int) : Prop := (v = .nilIface ∧ c = 0) ∨ ∃ k, k < 16 ∧ v = errV (E k) ∧ c = ((101 + k : Nat) : Int)
theorem fault_any (E : Nat → Addr) (v : Value) (c : Int) (hv : errNum v E c) (w : World) (hE : ErrsAt errT gOf w E all16) :
    Calls Tryz.prog 94 #[v] w fun e w' => e = .returned (.agg #[.int .i64 c, .bool false, .int .i64 0]) ∧ Below w.heap.size w w' := by
  rcases hv with ⟨rfl, rfl⟩ | ⟨k, hk, rfl, rfl⟩
  · exact fault_nil w
  · exact fault_err E k hk w hE
set_option maxHeartbeats 800000 in
theorem same_any (E : Nat → Addr) (v : Value) (c d : Int) (hv : errNum v E c) (w : World) (hE : ErrsAt errT gOf w E all16) :
    Calls Tryz.prog 61 #[v, .agg #[.int .i64 d, .bool false, .int .i64 0]] w fun e w' => e = .returned (.bool (decide (c = d))) ∧ Below w.heap.size w w' := by
  have hb0 : Below w.heap.size w (w.alloc (.cells #[.int .i64 d, .bool false, .int .i64 0] 119)) := (Below.refl _ _).alloc (Nat.le_refl _) _
  have HF : Hid (∀ wx, Below (w.heap.size + 1) (w.alloc (.cells #[.int .i64 d, .bool false, .int .i64 0] 119)) wx → ErrsAt errT gOf wx E all16) := Lib.hid fun wx hwx => hE.mono (hb0.trans (hwx.mono (by omega)))
  have hblk := blk_new w (.cells #[.int .i64 d, .bool false, .int .i64 0] 119)
  have HB0 := Lib.hid hb0
  have HBK := Lib.hid hblk
  have HV := Lib.hid hv
  clear hE hb0 hblk hv
  go_enter Tryz.func61, Tryz.ntmps61
  have HK : Hid (∀ wx, Below (w.heap.size + 1) (w.alloc (.cells #[.int .i64 d, .bool false, .int .i64 0] 119)) wx → (Below (w.heap.size + 1) (w.alloc (.cells #[.int .i64 d, .bool false, .int .i64 0] 119)) wx ∧ wx.cell? ⟨w.heap.size, 0, none⟩ = some (.int .i64 d) ∧ wx.cell? ⟨w.heap.size, 1, none⟩ = some (.bool false) ∧ wx.cell? ⟨w.heap.size, 2, none⟩ = some (.int .i64 0))) := Lib.hid fun wx hwx => by
    have h : wx.heap[w.heap.size]? = some (.cells #[.int .i64 d, .bool false, .int .i64 0] 119 (0, 0)) := by rw [hwx.block _ (by omega)]; exact HBK.out
    exact ⟨hwx, blk_cell h 0, blk_cell h 1, blk_cell h 2⟩
  have hbD : Below (w.heap.size + 1) (w.alloc (.cells #[.int .i64 d, .bool false, .int .i64 0] 119)) (w.alloc (.cells #[.int .i64 d, .bool false, .int .i64 0] 119)).drew := (Below.refl _ _).drew
  go_wp2_with fail
  go_region_held3 (fun wx => Below (w.heap.size + 1) (w.alloc (.cells #[.int .i64 d, .bool false, .int .i64 0] 119)) wx ∧ wx.cell? ⟨w.heap.size, 0, none⟩ = some (.int .i64 d) ∧ wx.cell? ⟨w.heap.size, 1, none⟩ = some (.bool false) ∧ wx.cell? ⟨w.heap.size, 2, none⟩ = some (.int .i64 0)) (exact HK.out _ (by assumption))
    (first
      | (go_at_call 94; refine (fault_any E v c HV.out _ (HF.out _ hbD)).mono ?_; rintro e w2 ⟨rfl, hb2⟩; have hbS : Below (w.heap.size + 1) (w.alloc (.cells #[.int .i64 d, .bool false, .int .i64 0] 119)) w2 := hbD.trans (hb2.mono (by simp)))
      | (go_at_call 93; refine (sameFault_any c d _).mono ?_; rintro e w3 ⟨rfl, hb3⟩; have hbS3 : Below (w.heap.size + 1) (w.alloc (.cells #[.int .i64 d, .bool false, .int .i64 0] 119)) w3 := hbS.trans (hb3.mono (by have := hbS.size; simp at this; omega))))
  all_goals
    go_wp2
    go_ret
    exact ⟨rfl, HB0.out.trans (hbS3.mono (by omega))⟩

theorem is_any (E : Nat → Addr) (v : Value) (c d : Int) (hv : errNum v E c) (w : World) (hE : ErrsAt errT gOf w E all16) :
    Calls Tryz.prog 23 #[v, .int .i64 d] w fun e w' => e = .returned (.bool (decide (c = d))) ∧ Below w.heap.size w w' := by
  have HE := Lib.hid hE
  have HV := Lib.hid hv
  clear hE hv
  go_enter Tryz.func23, Tryz.ntmps23
  go_wp2_with fail
  refine (bare_any _ _).mono ?_
  rintro e w1 ⟨rfl, hb1⟩
  have HB1 := Lib.hid hb1
  clear hb1
  go_wp2_with fail
  refine (same_any E v c d HV.out _ (HE.out.mono HB1.out)).mono ?_
  rintro e w2 ⟨rfl, hb2⟩
  have HB2 := Lib.hid (HB1.out.trans (hb2.mono HB1.out.size))
  clear hb2
  go_wp2
  go_ret
  exact ⟨rfl, HB2.out⟩
end Go.Proofs.YtaoaachgnnengaaGreatDoor

/-
  Lists of numbers and of bools as values, and slices that read as them. Plain facts, over any program.
-/
namespace Go.Proofs.YtaoaachgnnengaaGreatDoor
open Go Go.RowKit

def ints (l : List Int) : List Value := l.map (Value.int .i64)
def bls (l : List Bool) : List Value := l.map Value.bool
theorem ints_one (l : List Int) : ∀ u ∈ ints l, u.oneCell' = true := ints_oneCell _ _
theorem bls_one (l : List Bool) : ∀ u ∈ bls l, u.oneCell' = true := by
  intro u hu
  simp only [bls, List.mem_map] at hu
  obtain ⟨b, -, rfl⟩ := hu
  rfl
theorem ints_len (l : List Int) : (ints l).length = l.length * 1 := by simp [ints]
theorem bls_len (l : List Bool) : (bls l).length = l.length * 1 := by simp [bls]
theorem ints_get (l : List Int) (k : Nat) (h : k < l.length) : (ints l)[k]? = some (.int .i64 (l.getD k 0)) := by simp [ints, h]
theorem bls_get (l : List Bool) (k : Nat) (h : k < l.length) : (bls l)[k]? = some (.bool (l.getD k false)) := by simp [bls, h]
theorem u32s_get (l : List Int) (k : Nat) (h : k < l.length) : (u32s l)[k]? = some (.int .u32 (l.getD k 0)) := by simp [u32s, h]
theorem ints_take (xs : List Int) (k : Nat) (h : k < xs.length) : ints (xs.take (k + 1)) = ints (xs.take k) ++ [.int .i64 (xs.getD k 0)] := by
  rw [List.take_succ_eq_append_getElem h, List.getD_eq_getElem?_getD, List.getElem?_eq_getElem h]
  unfold ints
  rw [List.map_append]
  rfl
theorem bls_take (xs : List Bool) (k : Nat) (h : k < xs.length) : bls (xs.take (k + 1)) = bls (xs.take k) ++ [.bool (xs.getD k false)] := by
  rw [List.take_succ_eq_append_getElem h, List.getD_eq_getElem?_getD, List.getElem?_eq_getElem h]
  unfold bls
  rw [List.map_append]
  rfl

theorem cell_one_new2 (w : World) (o : Obj) (x : Value) (t : TypeId) : ∀ j u, [x][j]? = some u → ((w.alloc o).alloc (.cells #[x] t)).cell? ((⟨w.heap.size + 1, 0, none⟩ : Addr).add j) = some u := by
  have := cell_one_new (w.alloc o) x t
  rw [World.size_alloc] at this
  exact this

/-- a cell that is there is there behind a new block -/
theorem cell_past {w : World} {a : Addr} {u : Value} (h : w.cell? a = some u) (o : Obj) : (w.alloc o).cell? a = some u :=
  (((Below.refl _ _).alloc (Nat.le_refl _) o).cell (World.block_lt_of_cell? w a h)).trans h
theorem cell_under {w w' : World} {a : Addr} {u : Value} (h : w.cell? a = some u) (hb : Below w.heap.size w w') : w'.cell? a = some u :=
  (hb.cell (World.block_lt_of_cell? w a h)).trans h

theorem take_eq {α : Type} [Inhabited α] (d : α) {xs ys : List α} {k : Nat} (hx : k < xs.length) (hy : k < ys.length) (h : xs.take k = ys.take k) (e : xs.getD k d = ys.getD k d) : xs.take (k + 1) = ys.take (k + 1) := by
  rw [List.take_succ_eq_append_getElem hx, List.take_succ_eq_append_getElem hy, h]
  rw [List.getD_eq_getElem?_getD, List.getElem?_eq_getElem hx, List.getD_eq_getElem?_getD, List.getElem?_eq_getElem hy] at e
  simp only [Option.getD_some] at e
  rw [e]

/-- a slice's cells, at an address that may be none -/
def AtL (w : World) (ao : Option Addr) (vs : List Value) : Prop := ∀ k u, vs[k]? = some u → ∃ b off, ao = some ⟨b, off, none⟩ ∧ w.cell? ⟨b, off + k, none⟩ = some u ∧ b < w.heap.size
theorem AtL.mono {W w : World} {ao : Option Addr} {vs : List Value} (h : AtL W ao vs) (hb : Below W.heap.size W w) : AtL w ao vs := fun k u hk => by
  obtain ⟨b, off, e, hc, hl⟩ := h k u hk
  exact ⟨b, off, e, (hb.cell (p := ⟨b, off + k, none⟩) hl).trans hc, Nat.lt_of_lt_of_le hl hb.size⟩
theorem AtL.mono' {W w : World} {ao : Option Addr} {vs : List Value} (h : AtL W ao vs) {B : Nat} (hb : Below B W w) (hB : W.heap.size ≤ B) : AtL w ao vs := fun k u hk => by
  obtain ⟨b, off, e, hc, hl⟩ := h k u hk
  exact ⟨b, off, e, (hb.cell (p := ⟨b, off + k, none⟩) (by exact Nat.lt_of_lt_of_le hl hB)).trans hc, Nat.lt_of_lt_of_le hl hb.size⟩
theorem AtL.drewN {W : World} {ao : Option Addr} {vs : List Value} (h : AtL W ao vs) (n : Nat) : AtL (W.drewN n) ao vs := h.mono (below_drewN (Below.refl _ _) n)
theorem atL_of_reads {w : World} {v : Value} {n : Nat} {xs : List Value} (h : Reads w v n xs) : ∃ ao cap, v = .slice ao n cap ∧ AtL w ao xs := reads_cells h
theorem atL_of_own {w : World} {e : TypeId} {size : Nat} {v : Value} {n : Nat} {xs : List Value} (h : w.ownsRow 0 e size v n xs) : ∃ ao cap, v = .slice ao n cap ∧ AtL w ao xs := reads_cells (own_reads h)
theorem atL_nil (w : World) (ao : Option Addr) : AtL w ao [] := fun k u hk => by simp at hk
theorem AtL.take {w : World} {ao : Option Addr} {vs : List Value} (h : AtL w ao vs) (n : Nat) : AtL w ao (vs.take n) := fun k u hk => h k u (by
  rw [List.getElem?_take] at hk
  split at hk
  · exact hk
  · cases hk)
theorem AtL.reads {w : World} {ao : Option Addr} {vs : List Value} {n cap : Nat} (h : AtL w ao vs) (hn : vs = [] → n = 0 ∧ cap = 0) : Reads w (.slice ao n cap) n vs := by
  cases vs with
  | nil =>
    obtain ⟨rfl, rfl⟩ := hn rfl
    cases ao with
    | none => exact .inl ⟨rfl, rfl, rfl⟩
    | some a => exact .inr ⟨a, 0, rfl, fun j u hj => by simp at hj⟩
  | cons x xs =>
    obtain ⟨b, off, rfl, -, -⟩ := h 0 x rfl
    refine .inr ⟨⟨b, off, none⟩, cap, rfl, fun j u hj => ?_⟩
    obtain ⟨b', off', e, hc, -⟩ := h j u hj
    cases e
    rw [Addr.add_lit]
    exact hc

theorem emod_of_tmod {n m : Int} (hn : n < 0) (hm : 0 < m) : (n.tmod m < 0 → n.tmod m + m = n % m) ∧ (¬ n.tmod m < 0 → n.tmod m = n % m) ∧ -m < n.tmod m ∧ n.tmod m ≤ 0 := by
  have h1 := Int.emod_nonneg n (show m ≠ 0 by omega)
  have h2 := Int.emod_lt_of_pos n hm
  have h3 := @Int.tmod_eq_emod n m
  by_cases hd : m ∣ n
  · rw [if_pos (.inr hd)] at h3
    have h4 := Int.emod_eq_zero_of_dvd hd
    omega
  · have hno : ¬ (0 ≤ n ∨ m ∣ n) := fun h => h.elim (fun h => by omega) hd
    rw [if_neg hno] at h3
    have h4 : n % m ≠ 0 := fun h => hd (Int.dvd_of_emod_eq_zero h)
    omega
end Go.Proofs.YtaoaachgnnengaaGreatDoor

/-
  slices.Clone at uint32: the copy is in new memory and reads as what was copied; nothing that was there is turned.
-/
namespace Go.Proofs.YtaoaachgnnengaaGreatDoor
open Go.RowKit
theorem infoU32 : (Tryz.prog.info? 115).map (fun i => (i.zero, i.size, i.bytes)) = some (some (.int .u32 0), 1, 4) := by kernel_rfl

set_option maxHeartbeats 400000 in
theorem cloneU32 (v : Value) (n : Nat) (xs : List Value) (w : World) (hr : Reads w v n xs) (hn : n * 4 ≤ 140737488355328) (hl : xs.length = n * 1) (h1 : ∀ u ∈ xs, u.oneCell' = true) :
    Calls Tryz.prog 64 #[v] w fun e w' => ∃ v', e = .returned v' ∧ w'.ownsRow 0 115 1 v' n xs ∧ (∀ k, inRow v' k → w.heap.size ≤ k) ∧ Below w.heap.size w w' := by
  obtain ⟨i0, hi, hz0, hz1, hz2⟩ := info_parts infoU32
  rcases hr with ⟨rfl, rfl, rfl⟩ | ⟨a, cap, rfl, hc⟩
  · have heq := fun wx => Lib.run_eql_slice_nil (P := Tryz.prog) wx 65 115 none 0 0 0 0 Tryz.underlying65
    clear hl h1 hn
    go_enter Tryz.func64, Tryz.ntmps64
    go_wp2
    go_ret
    exact ⟨_, rfl, own_nil _ _ _, fun k hk => by simp [inRow, Value.ownBlock] at hk, Below.refl _ _⟩
  · have heq := fun wx => Lib.run_eql_slice_nil (P := Tryz.prog) wx 65 115 (some a) n cap 0 0 Tryz.underlying65
    have HC := Lib.hid hc
    have HL := Lib.hid hl
    have H1 := Lib.hid h1
    clear hc hl h1
    go_enter Tryz.func64, Tryz.ntmps64
    go_wp2_with (at_builtin; refine wpList_append_sep _ rfl _ _ 65 rfl 115 i0 (.int .u32 0) 1 4 Tryz.underlying65 hi hz0 hz1 hz2 rfl (by decide) (.slice (some ⟨w.heap.size, 0, none⟩) 0 0) 0 [] rfl (World.ownsRow_made w #[] 0 (Nat.zero_le _) (Nat.zero_le _) rfl) a n cap xs rfl HL.out ?_ H1.out (by unfold maxLen; omega) (by omega) ?_)
    · intro j u hj
      have := HC.out j u hj
      exact (World.cell?_of_block (blk_cell_old this)).trans this
    · intro v' w' ho hg hs
      have hk' : ∀ k, inRow v' k → w.heap.size ≤ k := fun k hk => by
        rcases hs k hk with h | h
        · simp [inRow, Value.ownBlock] at h; omega
        · exact Nat.le_trans (by simp) h
      have hb : Below w.heap.size w w' := ((Below.refl _ _).alloc (Nat.le_refl _) _).grown hg (by simp) (fun k hk => by simp [Value.ownBlock] at hk; omega)
      have ho' : w'.ownsRow 0 115 1 v' n xs := by simpa using ho
      clear ho hg hs HC HL H1
      go_wp2
      go_ret
      exact ⟨_, rfl, ho', hk', hb⟩
end Go.Proofs.YtaoaachgnnengaaGreatDoor

