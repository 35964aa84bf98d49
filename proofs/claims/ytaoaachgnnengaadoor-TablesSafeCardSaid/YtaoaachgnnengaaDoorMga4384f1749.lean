/-
  Parts of one proof, one behind the other.
-/
import Derived.Test.YtaoaachgnnengaaDoorMg27fb478bb6
import Derived.Test.YtaoaachgnnengaaDoorMg171693961a
import Derived.Test.YtaoaachgnnengaaDoorMgdb2dba5253
import Derived.Test.YtaoaachgnnengaaDoorRows
import Derived.BigQuiet
import Derived.Test.YtaoaachgnnengaaDoorMg423b7060be
import Derived.Test.YtaoaachgnnengaaDoorMgc64a197dac
/-
  Things that tables are told: what they make of them.
-/
namespace Go.Proofs.YtaoaachgnnengaaDoor
open Go.ChangeShapes Go.WideShapes Go.ChangeAt Go.RowKit Go.Joins Go.Deep

structure TDo where
  kind : Int
  a : Int
  b : Int
  e : Ent
  is : Bool
instance : Inhabited TDo := ⟨⟨0, 0, 0, Ent.z, false⟩⟩
def tdoCells (d : TDo) : List Value := [.int .i64 d.kind, .int .i64 d.a, .int .i64 d.b, .int .i64 d.e.f, .bool d.e.t, .bool d.e.w, .bool d.e.u, .bool d.is]
theorem tdo_len (d : TDo) : (tdoCells d).length = 8 := rfl
set_option maxRecDepth 100000 in
theorem open_tdo {H : Type} {enc : TypeId × Value → H} {W : World} {v : Value} {d : DataW H} {p : List MemPlace} {r : Reach} {b0 : Nat}
    (hv : Value.okWide Tryd.prog W r b0 63 v) (h : DataW.Trod enc Tryd.prog W 0 (fun _ => true) true 63 v d p) :
    ∃ (ao : Option Addr) (cap : Nat) (l : List TDo), v = .slice ao l.length cap ∧ l.length ≤ maxLen ∧ (∀ x ∈ l, True) ∧ AtL W ao (l.flatMap tdoCells) ∧ l.length ≤ cap :=
  open_structs (C := 8) Tryd.underlying63 (by kernel_rfl) (by decide) tdoCells (fun _ => True) hv h fun n cs y hl hd => by
    obtain ⟨xs, n', -, -, hxl, hx, hi⟩ := DataW.trod_struct Tryd.underlying70 hd
    have hx5 : xs.length = 5 := hx
    have get : ∀ i, i < 5 → ∃ y, xs[i]? = some y := fun i hi => ⟨_, List.getElem?_eq_getElem (by omega)⟩
    obtain ⟨y0, g0⟩ := get 0 (by omega)
    obtain ⟨y1, g1⟩ := get 1 (by omega)
    obtain ⟨y2, g2⟩ := get 2 (by omega)
    obtain ⟨y3, g3⟩ := get 3 (by omega)
    obtain ⟨y4, g4⟩ := get 4 (by omega)
    obtain ⟨a, e0, -⟩ := fld_int Tryd.underlying3 (by kernel_rfl) ((hi 0 _ rfl).trans g0)
    obtain ⟨b, e1, -⟩ := fld_int Tryd.underlying3 (by kernel_rfl) ((hi 1 _ rfl).trans g1)
    obtain ⟨c, e2, -⟩ := fld_int Tryd.underlying3 (by kernel_rfl) ((hi 2 _ rfl).trans g2)
    obtain ⟨zs, n2, -, -, hzl, hz, hj⟩ := DataW.trod_struct Tryd.underlying68 ((hi 3 _ rfl).trans g3)
    have hz4 : zs.length = 4 := hz
    have getz : ∀ i, i < 4 → ∃ y, zs[i]? = some y := fun i hi => ⟨_, List.getElem?_eq_getElem (by omega)⟩
    obtain ⟨z0, k0⟩ := getz 0 (by omega)
    obtain ⟨z1, k1⟩ := getz 1 (by omega)
    obtain ⟨z2, k2⟩ := getz 2 (by omega)
    obtain ⟨z3, k3⟩ := getz 3 (by omega)
    obtain ⟨ef, e3, -⟩ := fld_int Tryd.underlying3 (by kernel_rfl) ((hj 0 _ rfl).trans k0)
    obtain ⟨et, e4⟩ := fld_bool Tryd.underlying4 (by kernel_rfl) ((hj 1 _ rfl).trans k1)
    obtain ⟨ew, e5⟩ := fld_bool Tryd.underlying4 (by kernel_rfl) ((hj 2 _ rfl).trans k2)
    obtain ⟨eu, e6⟩ := fld_bool Tryd.underlying4 (by kernel_rfl) ((hj 3 _ rfl).trans k3)
    obtain ⟨g, e7⟩ := fld_bool Tryd.underlying4 (by kernel_rfl) ((hi 4 _ rfl).trans g4)
    refine ⟨⟨a, b, c, ⟨ef, et, ew, eu⟩, g⟩, ?_, trivial⟩
    match cs, hl with
    | [b0, b1, b2, b3, b4, b5, b6, b7], _ =>
      have q0 : some b0 = some _ := e0
      have q1 : some b1 = some _ := e1
      have q2 : some b2 = some _ := e2
      have q3 : some b3 = some _ := e3
      have q4 : some b4 = some _ := e4
      have q5 : some b5 = some _ := e5
      have q6 : some b6 = some _ := e6
      have q7 : some b7 = some _ := e7
      cases q0
      cases q1
      cases q2
      cases q3
      cases q4
      cases q5
      cases q6
      cases q7
      rfl

def tDo (s : Ts) (d : TDo) : Ts := if d.kind = 1 then (tAdd s).1 else if d.kind = 2 then (tPut s d.a d.e).1 else if d.kind = 3 then (tLend s d.a d.b d.is).1 else (tDrop s d.a).1
theorem tDo_inv {m : Int} {s : Ts} (h : TInv m s) (hw : s.who ≠ -1) (d : TDo) : TInv (m + 1 + 1) (tDo s d) := by
  unfold tDo
  split
  · exact (tAdd_inv h hw).mono
  · split
    · exact tPut_inv h d.a d.e
    · split
      · exact tLend_inv h d.a d.b d.is
      · exact (tDrop_inv h d.a).mono
theorem tDo_safe {m : Int} {s : Ts} (h : TSafe m s) (d : TDo) (h3 : d.kind ≠ 3) : TSafe (m + 1 + 1) (tDo s d) := by
  unfold tDo
  split
  · exact (tAdd_safe h).mono
  · split
    · exact tPut_safe h d.a d.e
    · exact (tDrop_safe h d.a).mono
theorem tDo_who (s : Ts) (d : TDo) : (tDo s d).who = s.who ∧ (tDo s d).n = s.n := by
  have hd := fun s page => (tDrop_P s page).2
  have hs : ∀ s page f w, (tSet s page f w).1.who = s.who ∧ (tSet s page f w).1.n = s.n := fun s page f w => ⟨(tSet_P s page f w).2.2, (tSet_P s page f w).2.1⟩
  unfold tDo
  split
  · unfold tAdd
    split
    · exact ⟨rfl, rfl⟩
    · split <;> exact ⟨rfl, rfl⟩
  · split
    · unfold tPut
      split
      · split
        · split
          · split
            · exact hs _ _ _ _
            · exact ⟨rfl, rfl⟩
          · exact ⟨rfl, rfl⟩
        · split
          · exact ⟨(hd _ _).2, (hd _ _).1⟩
          · exact ⟨rfl, rfl⟩
      · exact ⟨rfl, rfl⟩
    · split
      · unfold tLend
        split
        · split
          · exact hs _ _ _ _
          · exact ⟨rfl, rfl⟩
        · exact ⟨rfl, rfl⟩
      · exact ⟨(hd _ _).2, (hd _ _).1⟩
/-- the first k that were told -/
def tDos (s : Ts) (l : List TDo) : Nat → Ts
  | 0 => s
  | k + 1 => tDo (tDos s l k) (l.getD k default)
theorem tDos_inv {m : Int} {s : Ts} (h : TInv m s) (hw : s.who ≠ -1) (l : List TDo) : ∀ k : Nat, TInv (m + 2 * (k : Int)) (tDos s l k) ∧ (tDos s l k).who = s.who ∧ (tDos s l k).n = s.n
  | 0 => ⟨by rw [show m + 2 * ((0 : Nat) : Int) = m by omega]; exact h, rfl, rfl⟩
  | k + 1 => by
    obtain ⟨h1, h2, h3⟩ := tDos_inv h hw l k
    have hd := tDo_who (tDos s l k) (l.getD k default)
    refine ⟨?_, hd.1.trans h2, hd.2.trans h3⟩
    rw [show m + 2 * ((k + 1 : Nat) : Int) = m + 2 * (k : Int) + 1 + 1 by omega]
    exact tDo_inv h1 (by rw [h2]; exact hw) _
/-- the same, but what is lent is left out -/
def tDosN (s : Ts) (l : List TDo) : Nat → Ts
  | 0 => s
  | k + 1 => if (l.getD k default).kind = 3 then tDosN s l k else tDo (tDosN s l k) (l.getD k default)
theorem tDosN_safe {m : Int} {s : Ts} (h : TSafe m s) (l : List TDo) : ∀ k : Nat, TSafe (m + 2 * (k : Int)) (tDosN s l k) ∧ (tDosN s l k).who = s.who ∧ (tDosN s l k).n = s.n
  | 0 => ⟨by rw [show m + 2 * ((0 : Nat) : Int) = m by omega]; exact h, rfl, rfl⟩
  | k + 1 => by
    obtain ⟨h1, h2, h3⟩ := tDosN_safe h l k
    have hd := tDo_who (tDosN s l k) (l.getD k default)
    rw [show m + 2 * ((k + 1 : Nat) : Int) = m + 2 * (k : Int) + 1 + 1 by omega]
    unfold tDosN
    split
    · exact ⟨h1.mono.mono, h2, h3⟩
    · rename_i hk
      exact ⟨tDo_safe h1 _ hk, hd.1.trans h2, hd.2.trans h3⟩
end Go.Proofs.YtaoaachgnnengaaDoor

/-
  slices.Equal at words: are two lists the same?
-/
namespace Go.Proofs.YtaoaachgnnengaaDoor
open Go.RowKit

/-- the first k are the same -/
def EqWordsTo (xs ys : List Int) (w : World) (i : Value) (wr : World) : Prop := ∃ k : Nat, k ≤ xs.length ∧ i = .int .i64 k ∧ xs.take k = ys.take k ∧ ∃ n, wr = w.drewN n
end Go.Proofs.YtaoaachgnnengaaDoor

/-
  mem.Differ: the frames that differ.
-/
namespace Go.Proofs.YtaoaachgnnengaaDoor
open Go.RowKit

theorem infoMInt : (Tryd.prog.info? 3).map (fun i => (i.zero, i.size, i.bytes)) = some (some (.int .i64 0), 1, 8) := by kernel_rfl

def fw (l : List Int) (n f : Nat) : List Int := if f < n then frameW l f else []

theorem mm_frame_any (l : List Int) (b n f : Nat) (v : Value) (w : World) (h : MAt w b v n l) (hn : n ≤ 1024) :
    Calls Tryd.prog 43 #[.pointer (some ⟨b, 0, none⟩), .int .i64 f] w fun e w' => ∃ av cap, e = .returned (.tuple #[.slice av (fw l n f).length cap, .bool (decide (f < n))]) ∧ AtL w' av (u32s (fw l n f)) ∧ Below w.heap.size w w' := by
  by_cases hf : f < n
  · refine (mm_frame l b n f v w h hn hf).mono ?_
    rintro e w' ⟨v', rfl, ho, -, hb⟩
    obtain ⟨av, cap, rfl, hat⟩ := atL_of_own ho
    have e1 : fw l n f = frameW l f := by unfold fw; rw [if_pos hf]
    rw [e1, frameW_len l n f h.2.2 hf, decide_eq_true hf]
    exact ⟨av, cap, rfl, hat, hb⟩
  · refine (mm_frame_none l b n v f w h hn (.inr (by omega))).mono ?_
    rintro e w' ⟨rfl, rfl⟩
    have e1 : fw l n f = [] := by unfold fw; rw [if_neg hf]
    rw [e1, decide_eq_false hf]
    exact ⟨none, 0, rfl, atL_nil _ _, Below.refl _ _⟩

def dif (l1 : List Int) (n1 : Nat) (l2 : List Int) (n2 f : Nat) : Bool := (decide (f < n1) != decide (f < n2)) || !decide (fw l1 n1 f = fw l2 n2 f)
def difL (l1 : List Int) (n1 : Nat) (l2 : List Int) (n2 k : Nat) : List Int := ((List.range k).filter (dif l1 n1 l2 n2)).map fun (f : Nat) => (f : Int)
theorem difL_succ (l1 : List Int) (n1 : Nat) (l2 : List Int) (n2 k : Nat) : difL l1 n1 l2 n2 (k + 1) = if dif l1 n1 l2 n2 k then difL l1 n1 l2 n2 k ++ [(k : Int)] else difL l1 n1 l2 n2 k := by
  unfold difL
  rw [List.range_succ, List.filter_append, List.map_append]
  cases h : dif l1 n1 l2 n2 k <;> simp [h]
theorem difL_len (l1 : List Int) (n1 : Nat) (l2 : List Int) (n2 k : Nat) : (difL l1 n1 l2 n2 k).length ≤ k := by
  unfold difL
  rw [List.length_map]
  exact Nat.le_trans (List.length_filter_le _ _) (by simp)
end Go.Proofs.YtaoaachgnnengaaDoor

/-
  mem.Differ: the frames that differ.
-/
namespace Go.Proofs.YtaoaachgnnengaaDoor
open Go.RowKit

def DiffTo (l1 : List Int) (n1 : Nat) (l2 : List Int) (n2 : Nat) (w : World) (v i : Value) (wr : World) : Prop :=
  ∃ k : Nat, k ≤ max n1 n2 ∧ i = .int .i64 k ∧ wr.ownsRow 0 3 1 v (difL l1 n1 l2 n2 k).length (ints (difL l1 n1 l2 n2 k)) ∧ (∀ j, inRow v j → w.heap.size ≤ j) ∧ Below w.heap.size w wr ∧ ∃ ao cap, v = .slice ao (difL l1 n1 l2 n2 k).length cap
end Go.Proofs.YtaoaachgnnengaaDoor

/-
  mem.Mem: the chapter's examples; what differs where one frame was filled.
-/
namespace Go.Proofs.YtaoaachgnnengaaDoor
open Go.RowKit

theorem mm_write_in (l : List Int) (b n j : Nat) (v : Value) (x : Int) (w : World) (h : MAt w b v n l) (hj : j < 16 * n) :
    Calls Tryd.prog 81 #[.pointer (some ⟨b, 0, none⟩), .int .i64 j, .int .u32 x] w fun e w' => e = .returned (.bool true) ∧ MAt w' b v n (l.set j x) ∧ Only (fun k => inRow v k) w w' := by
  have hl := h.2.2
  have e1 : writeL l (j : Int) x = l.set j x := by unfold writeL; rw [if_pos (by omega), Int.toNat_natCast]
  have e2 : (decide (0 ≤ (j : Int)) && decide ((j : Int) < (l.length : Int))) = true := by simp; omega
  have := mm_write l b n v (j : Int) x w h
  rw [e1, e2] at this
  exact this
theorem mm_write_out (l : List Int) (b n : Nat) (v : Value) (i x : Int) (w : World) (h : MAt w b v n l) (hj : i < 0 ∨ (16 * n : Nat) ≤ i) :
    Calls Tryd.prog 81 #[.pointer (some ⟨b, 0, none⟩), .int .i64 i, .int .u32 x] w fun e w' => e = .returned (.bool false) ∧ MAt w' b v n l ∧ Only (fun k => inRow v k) w w' := by
  have hl := h.2.2
  have e1 : writeL l i x = l := by unfold writeL; rw [if_neg (by omega)]
  have e2 : (decide (0 ≤ i) && decide (i < (l.length : Int))) = false := by simp; omega
  have := mm_write l b n v i x w h
  rw [e1, e2] at this
  exact this

theorem dif_self (l : List Int) (n f : Nat) : dif l n l n f = false := by simp [dif]
theorem filter_none {p : Nat → Bool} : ∀ (l : List Nat), (∀ j ∈ l, p j = false) → l.filter p = []
  | [], _ => rfl
  | x :: l, h => by rw [List.filter_cons_of_neg (by rw [h x (by simp)]; decide), filter_none l (fun j hj => h j (by simp [hj]))]
theorem difL_none (l l' : List Int) (n n' k : Nat) (h : ∀ j, j < k → dif l n l' n' j = false) : difL l n l' n' k = [] := by
  unfold difL
  rw [filter_none _ (fun j hj => h j (List.mem_range.1 hj))]
  rfl
theorem difL_self (l : List Int) (n k : Nat) : difL l n l n k = [] := difL_none _ _ _ _ _ fun j _ => dif_self l n j
theorem difL_one (l l' : List Int) (n n' f : Nat) (h : ∀ j, j ≠ f → dif l n l' n' j = false) : ∀ k, (difL l n l' n' k).length ≤ 1
  | 0 => by simp [difL]
  | k + 1 => by
    by_cases hf : k = f
    · subst hf
      rw [difL_succ, difL_none l l' n n' k (fun j hj => h j (by omega))]
      split <;> simp
    · rw [difL_succ, h k hf, if_neg (by decide)]
      exact difL_one l l' n n' f h k
theorem ext_getD {xs ys : List Int} (hl : xs.length = ys.length) (h : ∀ j, j < xs.length → xs.getD j 0 = ys.getD j 0) : xs = ys := by
  apply List.ext_getElem hl
  intro j h1 h2
  have := h j h1
  simpa [List.getD_eq_getElem?_getD, h1, h2] using this
theorem fw_get (l : List Int) (n f j : Nat) (hl : l.length = 16 * n) (hf : f < n) (hj : j < 16) : (fw l n f).getD j 0 = l.getD (16 * f + j) 0 := by
  unfold fw
  rw [if_pos hf, frameW_get l n f j hl hf hj]
theorem fw_len (l : List Int) (n f : Nat) (hl : l.length = 16 * n) (hf : f < n) : (fw l n f).length = 16 := by
  unfold fw
  rw [if_pos hf, frameW_len l n f hl hf]
theorem fw_ext (l l' : List Int) (n n' f : Nat) (hl : l.length = 16 * n) (hl' : l'.length = 16 * n') (hf : f < n) (hf' : f < n') (h : ∀ j, j < 16 → l.getD (16 * f + j) 0 = l'.getD (16 * f + j) 0) : fw l n f = fw l' n' f := by
  refine ext_getD (by rw [fw_len l n f hl hf, fw_len l' n' f hl' hf']) fun j hj => ?_
  rw [fw_len l n f hl hf] at hj
  rw [fw_get l n f j hl hf hj, fw_get l' n' f j hl' hf' hj, h j hj]
theorem fw_past (l : List Int) (n f : Nat) (hf : n ≤ f) : fw l n f = [] := by
  unfold fw
  rw [if_neg (by omega)]
theorem fw_fill (l : List Int) (n f g : Nat) (xs : List Int) (hl : l.length = 16 * n) (hf : f < n) (hx : xs.length ≤ 16) (hg : g ≠ f) : fw (fillL l f xs) n g = fw l n g := by
  by_cases hgn : g < n
  · refine fw_ext _ _ n n g (by rw [fillL_len, hl]) hl hgn hgn fun j hj => ?_
    rw [fillL_get l n f xs _ hl hf hx, if_neg (by omega)]
  · rw [fw_past _ _ _ (by omega), fw_past _ _ _ (by omega)]
theorem fw_filled (l : List Int) (n f j : Nat) (xs : List Int) (hl : l.length = 16 * n) (hf : f < n) (hx : xs.length ≤ 16) (hj : j < 16) : (fw (fillL l f xs) n f).getD j 0 = xs.getD j 0 := by
  rw [fw_get _ n f j (by rw [fillL_len, hl]) hf hj, fillL_get l n f xs _ hl hf hx, if_pos (by omega)]
  congr 1
  omega
theorem dif_fill (l : List Int) (n f g : Nat) (xs : List Int) (hl : l.length = 16 * n) (hf : f < n) (hx : xs.length ≤ 16) (hg : g ≠ f) : dif l n (fillL l f xs) n g = false := by
  unfold dif
  rw [fw_fill l n f g xs hl hf hx hg]
  simp
end Go.Proofs.YtaoaachgnnengaaDoor

/-
  mem.Mem: a word that is there; what differs between a memory and a greater one.
-/
namespace Go.Proofs.YtaoaachgnnengaaDoor
open Go.RowKit

theorem mm_read_in (l : List Int) (b n j : Nat) (v : Value) (w : World) (h : MAt w b v n l) (hj : j < 16 * n) :
    Calls Tryd.prog 46 #[.pointer (some ⟨b, 0, none⟩), .int .i64 j] w fun e w' => e = .returned (.tuple #[.int .u32 (l.getD j 0), .bool true]) ∧ w = w' := by
  have hl := h.2.2
  have e1 : readAns l (j : Int) = .tuple #[.int .u32 (l.getD j 0), .bool true] := by unfold readAns; rw [if_pos (by omega), Int.toNat_natCast]
  have := mm_read l b n v (j : Int) w h
  rw [e1] at this
  exact this
theorem own_atL {w : World} {e : TypeId} {size : Nat} {ao : Option Addr} {m n cap : Nat} {xs : List Value} (h : w.ownsRow 0 e size (.slice ao m cap) n xs) : AtL w ao xs := by
  obtain ⟨ao', cap', e, hat⟩ := atL_of_own h
  cases e
  exact hat
theorem set_getDm (l : List Int) (a k : Nat) (x : Int) (ha : a < l.length) : (l.set a x).getD k 0 = if k = a then x else l.getD k 0 := by
  by_cases h : k = a
  · subst h
    simp [List.getD_eq_getElem?_getD, ha]
  · rw [if_neg h]
    simp [List.getD_eq_getElem?_getD, List.getElem?_set_ne (fun e => h e.symm)]
theorem rep_getD (n k : Nat) : (List.replicate n (0 : Int)).getD k 0 = 0 := by
  simp only [List.getD_eq_getElem?_getD, List.getElem?_replicate]
  split <;> rfl
theorem dif_comm (l l' : List Int) (n n' f : Nat) : dif l n l' n' f = dif l' n' l n f := by
  unfold dif
  have e1 : (decide (f < n) != decide (f < n')) = (decide (f < n') != decide (f < n)) := by cases decide (f < n) <;> cases decide (f < n') <;> rfl
  have e2 : decide (fw l n f = fw l' n' f) = decide (fw l' n' f = fw l n f) := by rw [decide_eq_decide]; exact eq_comm
  rw [e1, e2]
theorem difL_comm (l l' : List Int) (n n' k : Nat) : difL l n l' n' k = difL l' n' l n k := by
  unfold difL
  congr 2
  funext f
  exact dif_comm l l' n n' f
/-- the same memory, and two frames more -/
theorem difL_two (n a : Nat) (x : Int) (ha : a < 16 * n) : difL ((List.replicate (16 * n) 0).set a x) n ((List.replicate (16 * (n + 2)) 0).set a x) (n + 2) (n + 2) = [(n : Int), (n : Int) + 1] := by
  have l1 : ((List.replicate (16 * n) (0 : Int)).set a x).length = 16 * n := by simp
  have l2 : ((List.replicate (16 * (n + 2)) (0 : Int)).set a x).length = 16 * (n + 2) := by simp
  have h0 : ∀ j, j < n → dif ((List.replicate (16 * n) 0).set a x) n ((List.replicate (16 * (n + 2)) 0).set a x) (n + 2) j = false := fun j hj => by
    unfold dif
    rw [fw_ext _ _ n (n + 2) j l1 l2 hj (by omega) fun i hi => by rw [set_getDm _ _ _ _ (by simp; exact ha), set_getDm _ _ _ _ (by simp; omega), rep_getD, rep_getD], decide_eq_true hj, decide_eq_true (show j < n + 2 by omega)]
    simp
  have h1 : dif ((List.replicate (16 * n) 0).set a x) n ((List.replicate (16 * (n + 2)) 0).set a x) (n + 2) n = true := by
    unfold dif
    rw [decide_eq_false (show ¬ n < n by omega), decide_eq_true (show n < n + 2 by omega)]
    rfl
  have h2 : dif ((List.replicate (16 * n) 0).set a x) n ((List.replicate (16 * (n + 2)) 0).set a x) (n + 2) (n + 1) = true := by
    unfold dif
    rw [decide_eq_false (show ¬ n + 1 < n by omega), decide_eq_true (show n + 1 < n + 2 by omega)]
    rfl
  rw [difL_succ, h2, if_pos rfl, difL_succ, h1, if_pos rfl, difL_none _ _ _ _ _ h0]
  simp
end Go.Proofs.YtaoaachgnnengaaDoor

/-
  facaderef.Words: a copy, in new memory.
-/
namespace Go.Proofs.YtaoaachgnnengaaDoor
open Go.RowKit

theorem infoWords : (Tryd.prog.info? 88).map (fun i => (i.zero, i.size, i.bytes)) = some (some (.int .u32 0), 1, 4) := by kernel_rfl

/-- the first k are copied -/
def CopyWordsTo (xs : List Int) (w : World) (v i : Value) (wr : World) : Prop :=
  ∃ k : Nat, k ≤ xs.length ∧ i = .int .i64 k ∧ wr.ownsRow 0 88 1 v k (u32s (xs.take k)) ∧ (∀ j, inRow v j → w.heap.size ≤ j) ∧ Below w.heap.size w wr ∧ ∃ ao cap, v = .slice ao k cap
end Go.Proofs.YtaoaachgnnengaaDoor

/-
  facaderef1.Mem: what its functions answer, over the list of its words.
-/
namespace Go.Proofs.YtaoaachgnnengaaDoor
open Go.RowKit

theorem atL_of_mr {w : World} {b n f g cap : Nat} {l : List Int} (h : MAr w b (.slice (some ⟨g, 0, none⟩) (16 * n) cap) n l) (hf : f < n) : AtL w (some ⟨g, 16 * f, none⟩) (u32s (frameW l f)) := fun j u hj => by
  have hlen := h.2.2
  have hj16 : j < 16 := by
    have := (List.getElem?_eq_some_iff.mp hj).1
    rw [u32s, List.length_map, frameW_len l n f hlen hf] at this
    exact this
  rw [u32s_get _ j (by rw [frameW_len l n f hlen hf]; exact hj16), frameW_get l n f j hlen hf hj16] at hj
  have hc : w.cell? ⟨g, 16 * f + j, none⟩ = some u := by
    rw [← hj]
    exact (own_cell h.2.1 (16 * f + j) (by omega)).trans (u32s_get l (16 * f + j) (by omega))
  exact ⟨g, 16 * f, rfl, hc, World.block_lt_of_cell? w ⟨g, 16 * f + j, none⟩ hc⟩

end Go.Proofs.YtaoaachgnnengaaDoor

/-
  facaderef1.Mem and mem.Mem: Fill; every function for every number.
-/
namespace Go.Proofs.YtaoaachgnnengaaDoor
open Go.RowKit

set_option maxHeartbeats 800000 in
theorem mr_fill_no (l : List Int) (b n m c1 : Nat) (ao : Option Addr) (v : Value) (f : Int) (w : World) (h : MAr w b v n l) (hn : n ≤ 1024) (hno : f < 0 ∨ (n : Int) ≤ f ∨ 16 < m) :
    Calls Tryd.prog 92 #[.pointer (some ⟨b, 0, none⟩), .int .i64 f, .slice ao m c1] w fun e w' => e = .returned (.bool false) ∧ w = w' := by
  have HM := Lib.hid h
  clear h
  by_cases h0 : f < 0
  · clear hno
    go_enter Tryd.func92, Tryd.ntmps92
    go_wp2
    go_ret
    exact ⟨rfl, rfl⟩
  · by_cases h1 : (n : Int) ≤ f
    · clear hno
      go_enter Tryd.func92, Tryd.ntmps92
      go_wp2_with fail
      refine (mr_frames l b n v _ HM.out hn).mono ?_
      rintro e w1 ⟨rfl, rfl⟩
      go_wp2
      go_ret
      exact ⟨rfl, rfl⟩
    · have h2 : (16 : Int) < (m : Int) := by omega
      clear hno
      go_enter Tryd.func92, Tryd.ntmps92
      go_wp2_with fail
      refine (mr_frames l b n v _ HM.out hn).mono ?_
      rintro e w1 ⟨rfl, rfl⟩
      go_wp2
      go_ret
      exact ⟨rfl, rfl⟩

theorem MAr.set {w : World} {b n g cap : Nat} {l : List Int} (h : MAr w b (.slice (some ⟨g, 0, none⟩) (16 * n) cap) n l) (j : Nat) (x : Int) :
    MAr (w.setCell ⟨g, j, none⟩ (.int .u32 x)) b (.slice (some ⟨g, 0, none⟩) (16 * n) cap) n (l.set j x) ∧ Only (fun k => inRow (.slice (some ⟨g, 0, none⟩) (16 * n) cap) k) w (w.setCell ⟨g, j, none⟩ (.int .u32 x)) := by
  have hgb : ¬ b = g := fun e => h.not (by subst e; rfl)
  exact ⟨⟨blk_set h.1 (by exact hgb) _, by rw [← u32s_set]; exact (h.2.1.stored j _).1, by rw [List.length_set]; exact h.2.2⟩,
    Only.setCell (F := fun k => inRow (.slice (some ⟨g, 0, none⟩) (16 * n) cap) k) (Only.refl _ _) (p := ⟨g, j, none⟩) (.inl rfl) _⟩
/-- the first k words are written -/
def FillsTo (w : World) (b : Nat) (v : Value) (n f : Nat) (l xs : List Int) (i : Value) (wr : World) : Prop :=
  ∃ (k : Nat) (l' : List Int), k ≤ 16 ∧ i = .int .i64 (k : Int) ∧ MAr wr b v n l' ∧ (∀ j, l'.getD j 0 = if 16 * f ≤ j ∧ j < 16 * f + k then xs.getD (j - 16 * f) 0 else l.getD j 0) ∧ Only (fun k => inRow v k) w wr

set_option maxRecDepth 100000 in
set_option maxHeartbeats 1600000 in
theorem mr_fill_ok (l xs : List Int) (b n f m c1 : Nat) (ao : Option Addr) (v : Value) (w : World) (h : MAr w b v n l) (hn : n ≤ 1024) (hf : f < n) (hs : AtL w ao (u32s xs)) (hm : xs.length = m) (hx : m ≤ 16) (hap : ∀ a, 0 < m → ao = some a → ¬ inRow v a.block) :
    Calls Tryd.prog 92 #[.pointer (some ⟨b, 0, none⟩), .int .i64 f, .slice ao m c1] w fun e w' => e = .returned (.bool true) ∧ MAr w' b v n (fillL l f xs) ∧ Only (fun k => inRow v k) w w' := by
  have HM := Lib.hid h
  have HS := Lib.hid hs
  have HAP := Lib.hid hap
  obtain ⟨g, cap, rfl, hcap⟩ := h.own (by omega)
  subst hm
  have hfi : (f : Int) < (n : Int) := by omega
  have hf0 : (0 : Int) ≤ (f : Int) := by omega
  have g4 : (xs.length : Int) ≤ 16 := by omega
  have hw1 := IntWalk.i64_in (16 * (f : Int)) (by omega)
  have HLL : Hid (l.length = 16 * n) := Lib.hid h.2.2
  have HF := Lib.hid hf
  have HN := Lib.hid hn
  clear h hs hap
  go_enter Tryd.func92, Tryd.ntmps92
  go_wp2_with fail
  refine (mr_frames l b n _ _ HM.out hn).mono ?_
  rintro e w1 ⟨rfl, rfl⟩
  go_wp2_with fail
  go_loopw [7] (fun i wr => FillsTo w b (.slice (some ⟨g, 0, none⟩) (16 * n) cap) n f l xs i wr) (fun i _ => 16 - (intOf i).toNat)
  case atStart => exact ⟨0, l, Nat.zero_le _, rfl, HM.out, fun j => by rw [if_neg (by omega)], Only.refl _ _⟩
  case round =>
    obtain ⟨k, l', hk, rfl, hm, hg, ho⟩ := hrel
    have HMR := Lib.hid hm
    have HG := Lib.hid hg
    have HO := Lib.hid ho
    clear hm hg ho
    by_cases hlt : k < 16
    · have hki : (k : Int) < 16 := by omega
      have hk0 : (0 : Int) ≤ (k : Int) := by omega
      have HST := Lib.hid (HMR.out.set (16 * f + k))
      have HGN : Hid (∀ z, z = xs.getD k 0 → ∀ j, (l'.set (16 * f + k) z).getD j 0 = if 16 * f ≤ j ∧ j < 16 * f + (k + 1) then xs.getD (j - 16 * f) 0 else l.getD j 0) := Lib.hid fun z hz j => by
        rw [set_getDm l' (16 * f + k) j z (by have := HMR.out.2.2; omega), HG.out j]
        by_cases e : j = 16 * f + k
        · subst e
          rw [if_pos rfl, if_pos ⟨by omega, by omega⟩, hz]
          congr 1
          omega
        · rw [if_neg e]
          by_cases h1 : 16 * f ≤ j ∧ j < 16 * f + k
          · rw [if_pos h1, if_pos ⟨h1.1, by omega⟩]
          · rw [if_neg h1, if_neg (by omega)]
      have g0 := (own_cell HMR.out.2.1 (16 * f + k) (by omega)).trans (u32s_get l' (16 * f + k) (by have := HMR.out.2.2; omega))
      have g1 := own_free HMR.out.2.1 (16 * f + k)
      have cm := HMR.out.cell
      have hpi : 16 * (f : Int) + (k : Int) < ((16 * n : Nat) : Int) := by omega
      have hw2 := IntWalk.i64_in (16 * (f : Int) + (k : Int)) (by omega)
      obtain ⟨p, hp⟩ : ∃ p, 16 * f + k = p := ⟨_, rfl⟩
      have hpe : 16 * (f : Int) + (k : Int) = (p : Int) := by omega
      rw [hpe] at hpi
      rw [hp] at HST HGN g0 g1
      obtain ⟨N, hN⟩ : ∃ N, 16 * n = N := ⟨_, rfl⟩
      rw [hN] at hpi HST cm
      have HNN := Lib.hid hN
      clear hp hlt hN
      have hw3 := IntWalk.i64_in ((k : Int) + 1) (by omega)
      by_cases hkx : k < xs.length
      · have hkxi : (k : Int) < (xs.length : Int) := by omega
        obtain ⟨sb, so, rfl, q0, hql⟩ := HS.out k _ (u32s_get xs k hkx)
        have q1 : wr.cell? ⟨sb, so + k, none⟩ = some (.int .u32 (xs.getD k 0)) := by
          rw [← q0]
          exact World.cell?_of_block (HO.out.block sb hql (HAP.out _ (by omega) rfl))
        obtain ⟨z, hz⟩ : ∃ z, xs.getD k 0 = z := ⟨_, rfl⟩
        have HZ := Lib.hid hz
        rw [hz] at q1
        clear hz q0 hql
        go_wp2
        go_roundw
        case rel => exact ⟨k + 1, _, by omega, by go_num, by rw [HNN.out]; exact (HST.out z).1, HGN.out z HZ.out.symm, by rw [HNN.out] at HO ⊢; exact HO.out.trans (HST.out z).2⟩
        case measure => simp [intOf]; omega
      · have hkxi : ¬ (k : Int) < (xs.length : Int) := by omega
        have HZ : Hid (xs.getD k 0 = 0) := Lib.hid (by simp [List.getD_eq_getElem?_getD, List.getElem?_eq_none (show xs.length ≤ k by omega)])
        clear hkx
        go_wp2
        go_roundw
        case rel => exact ⟨k + 1, _, by omega, by go_num, by rw [HNN.out]; exact (HST.out 0).1, HGN.out 0 HZ.out.symm, by rw [HNN.out] at HO ⊢; exact HO.out.trans (HST.out 0).2⟩
        case measure => simp [intOf]; omega
    · obtain rfl : k = 16 := by omega
      have HE : Hid (l' = fillL l f xs) := Lib.hid (by
        refine ext_getD (by rw [HMR.out.2.2, fillL_len, HLL.out]) fun j _ => ?_
        rw [HG.out j, fillL_get l n f xs j HLL.out HF.out hx])
      go_wp2
      go_ret
      exact ⟨rfl, HE.out ▸ HMR.out, HO.out⟩

def fillB (n : Nat) (f : Int) (m : Nat) : Bool := decide (0 ≤ f ∧ f < n ∧ m ≤ 16)
def fillA (l : List Int) (n : Nat) (f : Int) (xs : List Int) : List Int := if 0 ≤ f ∧ f < n ∧ xs.length ≤ 16 then fillL l f.toNat xs else l
def fwI (l : List Int) (n : Nat) (f : Int) : List Int := if 0 ≤ f then fw l n f.toNat else []
def inI (n : Nat) (f : Int) : Bool := decide (0 ≤ f ∧ f < n)

theorem mm_fill_any (l xs : List Int) (b n m c1 : Nat) (f : Int) (ao : Option Addr) (v : Value) (w : World) (h : MAt w b v n l) (hn : n ≤ 1024) (hs : AtL w ao (u32s xs)) (hm : xs.length = m) (hap : ∀ a, 0 < m → ao = some a → ¬ inRow v a.block) :
    Calls Tryd.prog 64 #[.pointer (some ⟨b, 0, none⟩), .int .i64 f, .slice ao m c1] w fun e w' => e = .returned (.bool (fillB n f m)) ∧ MAt w' b v n (fillA l n f xs) ∧ Only (fun k => inRow v k) w w' := by
  subst hm
  by_cases hc : 0 ≤ f ∧ f < (n : Int) ∧ xs.length ≤ 16
  · obtain ⟨k, rfl⟩ : ∃ k : Nat, f = (k : Int) := ⟨f.toNat, by omega⟩
    have e1 : fillB n (k : Int) xs.length = true := decide_eq_true hc
    have e2 : fillA l n (k : Int) xs = fillL l k xs := by unfold fillA; rw [if_pos hc, Int.toNat_natCast]
    rw [e1, e2]
    exact mm_fill_ok l xs b n k xs.length c1 ao v w h hn (by omega) hs rfl hc.2.2 hap
  · have e1 : fillB n f xs.length = false := decide_eq_false hc
    have e2 : fillA l n f xs = l := by unfold fillA; rw [if_neg hc]
    rw [e1, e2]
    refine (mm_fill_no l b n xs.length c1 ao v f w h hn (by omega)).mono ?_
    rintro e w' ⟨rfl, rfl⟩
    exact ⟨rfl, h, Only.refl _ _⟩
theorem mm_frame_int (l : List Int) (b n : Nat) (v : Value) (f : Int) (w : World) (h : MAt w b v n l) (hn : n ≤ 1024) :
    Calls Tryd.prog 43 #[.pointer (some ⟨b, 0, none⟩), .int .i64 f] w fun e w' => ∃ av cap, e = .returned (.tuple #[.slice av (fwI l n f).length cap, .bool (inI n f)]) ∧ AtL w' av (u32s (fwI l n f)) ∧ Below w.heap.size w w' := by
  by_cases h0 : 0 ≤ f
  · obtain ⟨k, rfl⟩ : ∃ k : Nat, f = (k : Int) := ⟨f.toNat, by omega⟩
    have e1 : fwI l n (k : Int) = fw l n k := by unfold fwI; rw [if_pos h0, Int.toNat_natCast]
    have e2 : inI n (k : Int) = decide (k < n) := by unfold inI; simp
    rw [e1, e2]
    exact mm_frame_any l b n k v w h hn
  · have e1 : fwI l n f = [] := by unfold fwI; rw [if_neg h0]
    have e2 : inI n f = false := decide_eq_false (by omega)
    rw [e1, e2]
    refine (mm_frame_none l b n v f w h hn (.inl (by omega))).mono ?_
    rintro e w' ⟨rfl, rfl⟩
    exact ⟨none, 0, rfl, atL_nil _ _, Below.refl _ _⟩

set_option maxHeartbeats 800000 in
theorem mm_new_err (E : Nat → Addr) (f : Int) (w : World) (hE : ErrsAt errT gOf w E all16) (h : f < 1 ∨ 1024 < f) :
    Calls Tryd.prog 31 #[.int .i64 f] w fun e w' => e = .returned (.tuple #[.pointer none, errV (E 2)]) ∧ Below w.heap.size w w' := by
  have c2 : w.cell? ⟨0, 0, none⟩ = some (errV (E 2)) := (hE.1 2 (by decide)).1
  clear hE
  by_cases h1 : f < 1
  · clear h
    go_enter Tryd.func31, Tryd.ntmps31
    go_wp2
    go_quiet (fail)
    go_wp2
    go_ret2
    exact ⟨rfl, below_drewN (Below.refl _ _) _⟩
  · have h2 : 1024 < f := by omega
    clear h
    go_enter Tryd.func31, Tryd.ntmps31
    go_wp2
    go_quiet (fail)
    go_wp2
    go_ret2
    exact ⟨rfl, below_drewN (Below.refl _ _) _⟩
end Go.Proofs.YtaoaachgnnengaaDoor

