/-
  Parts of one proof, one behind the other.
-/
import GoSem.Step
/-
  The evaluator of closed calls: a part.
-/
set_option linter.unusedVariables false
set_option linter.unusedSimpArgs false
namespace Go.Ev

/-- numbers: nothing is 0; a n is 4 n + 1, .. d n is 4 n + 4 -/
inductive N where
  | e
  | a (n : N)
  | b (n : N)
  | c (n : N)
  | d (n : N)
inductive Cap where
  | n (c : Nat)
  | v (d : Nat)
inductive V where
  | int (k : IntKind) (n : Nat)
  | bool (b : Bool)
  | str (s : ByteArray)
  | ptr (b : N) (o : Nat)
  | nilp
  | sl (b : N) (o len : Nat) (cap : Cap)
  | nils
  | slz (x : N)
  | map (r : N)
  | nilm
  | fn (f : N) (first cap : List V)
  | nilf
  | ifc (t : Nat) (v : V)
  | nili
  | agg (l : List V)
  | tup (l : List V)
  | opq (x : N)
def V.undef : V := .tup []
inductive T (α : Type) where
  | l
  | n (v : Option α) (x y z w : T α)
inductive O where
  | row (elem : Nat) (c : List V) (tail : Bool)
  | map (es : List (V × V × Nat)) (clock : Nat)
  | dead
  | arg (c : List V) (z : Bool) (ls : List N)
inductive H where
  | mk (t : T O) (n : N)
abbrev A := T V
abbrev Call := N → List V → H → (V → H → Bool) → Bool
abbrev KA := A → H → Bool
abbrev KV := V → Bool
abbrev KH := V → H → Bool
abbrev CK := Call → A → H → KA → KA → (Nat → KA) → Bool
inductive RV where
  | tmp (t : N)
  | cell1 (t : N)
  | cellA (t : N) (size : Nat)
inductive F where
  | mk (np : Nat) (res : List RV) (body : CK)
  | known (f : List V → H → KH → Bool)

/-! Numbers, tables -/
def N.succ : N → N
  | .e => .a .e
  | .a n => .b n
  | .b n => .c n
  | .c n => .d n
  | .d n => .a n.succ
def N.val : N → Nat
  | .e => 0
  | .a n => 4 * n.val + 1
  | .b n => 4 * n.val + 2
  | .c n => 4 * n.val + 3
  | .d n => 4 * n.val + 4
noncomputable def N.succK (n : N) : (N → Bool) → Bool :=
  N.rec (motive := fun _ => (N → Bool) → Bool) (fun k => k (.a .e)) (fun n _ k => k (.b n)) (fun n _ k => k (.c n)) (fun n _ k => k (.d n))
    (fun _ ih k => ih (fun m => k (.a m))) n
noncomputable def N.beq (x : N) : N → Bool :=
  N.rec (motive := fun _ => N → Bool)
    (fun y => N.rec true (fun _ _ => false) (fun _ _ => false) (fun _ _ => false) (fun _ _ => false) y)
    (fun _ ih y => N.rec false (fun y _ => ih y) (fun _ _ => false) (fun _ _ => false) (fun _ _ => false) y)
    (fun _ ih y => N.rec false (fun _ _ => false) (fun y _ => ih y) (fun _ _ => false) (fun _ _ => false) y)
    (fun _ ih y => N.rec false (fun _ _ => false) (fun _ _ => false) (fun y _ => ih y) (fun _ _ => false) y)
    (fun _ ih y => N.rec false (fun _ _ => false) (fun _ _ => false) (fun _ _ => false) (fun y _ => ih y) y) x
noncomputable def T.getK {α : Type} (i : N) : T α → (α → Bool) → Bool → Bool :=
  N.rec (motive := fun _ => T α → (α → Bool) → Bool → Bool)
    (fun t k z => T.rec z (fun v _ _ _ _ _ _ _ _ => Option.rec z k v) t)
    (fun _ ih t k z => T.rec z (fun _ x _ _ _ _ _ _ _ => ih x k z) t)
    (fun _ ih t k z => T.rec z (fun _ _ y _ _ _ _ _ _ => ih y k z) t)
    (fun _ ih t k z => T.rec z (fun _ _ _ x _ _ _ _ _ => ih x k z) t)
    (fun _ ih t k z => T.rec z (fun _ _ _ _ x _ _ _ _ => ih x k z) t) i
noncomputable def T.setK {α : Type} (i : N) (a : α) : T α → (T α → Bool) → Bool :=
  N.rec (motive := fun _ => T α → (T α → Bool) → Bool)
    (fun t k => T.rec (k (.n (some a) .l .l .l .l)) (fun _ x y z w _ _ _ _ => k (.n (some a) x y z w)) t)
    (fun _ ih t k => T.rec (ih .l (fun x => k (.n none x .l .l .l))) (fun v x y z w _ _ _ _ => ih x (fun x => k (.n v x y z w))) t)
    (fun _ ih t k => T.rec (ih .l (fun x => k (.n none .l x .l .l))) (fun v x y z w _ _ _ _ => ih y (fun y => k (.n v x y z w))) t)
    (fun _ ih t k => T.rec (ih .l (fun x => k (.n none .l .l x .l))) (fun v x y z w _ _ _ _ => ih z (fun z => k (.n v x y z w))) t)
    (fun _ ih t k => T.rec (ih .l (fun x => k (.n none .l .l .l x))) (fun v x y z w _ _ _ _ => ih w (fun w => k (.n v x y z w))) t) i

noncomputable def condK (b : Bool) (no yes : Bool) : Bool := Bool.rec no yes b
noncomputable def natK (n : Nat) (k : Nat → Bool) : Bool := Nat.rec (k 0) (fun m _ => k (Nat.succ m)) n
noncomputable def nthK {α : Type} (l : List α) : Nat → (α → Bool) → Bool :=
  List.rec (motive := fun _ => Nat → (α → Bool) → Bool) (fun _ _ => false)
    (fun x _ ih n k => Nat.rec (k x) (fun m _ => ih m k) n) l
noncomputable def dropK {α : Type} (l : List α) : Nat → (List α → Bool) → Bool :=
  List.rec (motive := fun _ => Nat → (List α → Bool) → Bool) (fun n k => Nat.rec (k []) (fun _ _ => false) n)
    (fun x r ih n k => Nat.rec (k (x :: r)) (fun m _ => ih m k) n) l
noncomputable def takeK {α : Type} (l : List α) : Nat → (List α → Bool) → Bool :=
  List.rec (motive := fun _ => Nat → (List α → Bool) → Bool) (fun n k => Nat.rec (k []) (fun _ _ => false) n)
    (fun x _ ih n k => Nat.rec (k []) (fun m _ => ih m (fun r => k (x :: r))) n) l
/-- the values laid over the head of a list -/
noncomputable def overK (vs : List V) : List V → (List V → Bool) → Bool :=
  List.rec (motive := fun _ => List V → (List V → Bool) → Bool) (fun l k => k l)
    (fun v _ ih l k => List.rec false (fun _ r _ => ih r (fun r' => k (v :: r'))) l) vs
noncomputable def putK (l : List V) (vs : List V) : Nat → (List V → Bool) → Bool :=
  List.rec (motive := fun _ => Nat → (List V → Bool) → Bool) (fun n k => Nat.rec (overK vs [] k) (fun _ _ => false) n)
    (fun x r ih n k => Nat.rec (overK vs (x :: r) k) (fun m _ => ih m (fun r' => k (x :: r'))) n) l
noncomputable def appK {α : Type} (l m : List α) : (List α → Bool) → Bool :=
  List.rec (motive := fun _ => (List α → Bool) → Bool) (fun k => k m) (fun x _ ih k => ih (fun r => k (x :: r))) l
noncomputable def repK (l : List V) (n : Nat) : (List V → Bool) → Bool :=
  Nat.rec (motive := fun _ => (List V → Bool) → Bool) (fun k => k []) (fun _ ih k => ih (fun r => appK l r k)) n
noncomputable def lenK {α : Type} (l : List α) : (Nat → Bool) → Bool :=
  List.rec (motive := fun _ => (Nat → Bool) → Bool) (fun k => k 0) (fun _ _ ih k => ih (fun n => natK (Nat.succ n) k)) l

noncomputable def V.onPtr (v : V) (k : N → Nat → Bool) : Bool :=
  V.rec (motive_1 := fun _ => Bool) (motive_2 := fun _ => Unit) (fun _ _ => false) (fun _ => false) (fun _ => false) (fun b o => k b o) false (fun _ _ _ _ => false) false (fun _ => false) (fun _ => false) false (fun _ _ _ _ _ => false) false (fun _ _ _ => false) false (fun _ _ => false) (fun _ _ => false) (fun _ => false) () (fun _ _ _ _ => ()) v
noncomputable def V.onBool (v : V) (t f : Bool) : Bool :=
  V.rec (motive_1 := fun _ => Bool) (motive_2 := fun _ => Unit) (fun _ _ => false) (fun b => condK b f t) (fun _ => false) (fun _ _ => false) false (fun _ _ _ _ => false) false (fun _ => false) (fun _ => false) false (fun _ _ _ _ _ => false) false (fun _ _ _ => false) false (fun _ _ => false) (fun _ _ => false) (fun _ => false) () (fun _ _ _ _ => ()) v
noncomputable def V.onInt (v : V) (k : IntKind → Nat → Bool) : Bool :=
  V.rec (motive_1 := fun _ => Bool) (motive_2 := fun _ => Unit) (fun j n => k j n) (fun _ => false) (fun _ => false) (fun _ _ => false) false (fun _ _ _ _ => false) false (fun _ => false) (fun _ => false) false (fun _ _ _ _ _ => false) false (fun _ _ _ => false) false (fun _ _ => false) (fun _ _ => false) (fun _ => false) () (fun _ _ _ _ => ()) v
noncomputable def V.onTup (v : V) (k : List V → Bool) : Bool :=
  V.rec (motive_1 := fun _ => Bool) (motive_2 := fun _ => Unit) (fun _ _ => false) (fun _ => false) (fun _ => false) (fun _ _ => false) false (fun _ _ _ _ => false) false (fun _ => false) (fun _ => false) false (fun _ _ _ _ _ => false) false (fun _ _ _ => false) false (fun _ _ => false) (fun l _ => k l) (fun _ => false) () (fun _ _ _ _ => ()) v
noncomputable def V.onAgg (v : V) (k : List V → Bool) : Bool :=
  V.rec (motive_1 := fun _ => Bool) (motive_2 := fun _ => Unit) (fun _ _ => false) (fun _ => false) (fun _ => false) (fun _ _ => false) false (fun _ _ _ _ => false) false (fun _ => false) (fun _ => false) false (fun _ _ _ _ _ => false) false (fun _ _ _ => false) false (fun l _ => k l) (fun _ _ => false) (fun _ => false) () (fun _ _ _ _ => ()) v
noncomputable def V.onStr (v : V) (k : ByteArray → Bool) : Bool :=
  V.rec (motive_1 := fun _ => Bool) (motive_2 := fun _ => Unit) (fun _ _ => false) (fun _ => false) (fun s => k s) (fun _ _ => false) false (fun _ _ _ _ => false) false (fun _ => false) (fun _ => false) false (fun _ _ _ _ _ => false) false (fun _ _ _ => false) false (fun _ _ => false) (fun _ _ => false) (fun _ => false) () (fun _ _ _ _ => ()) v
noncomputable def V.onFn (v : V) (k : N → List V → List V → Bool) : Bool :=
  V.rec (motive_1 := fun _ => Bool) (motive_2 := fun _ => Unit) (fun _ _ => false) (fun _ => false) (fun _ => false) (fun _ _ => false) false (fun _ _ _ _ => false) false (fun _ => false) (fun _ => false) false (fun f l m _ _ => k f l m) false (fun _ _ _ => false) false (fun _ _ => false) (fun _ _ => false) (fun _ => false) () (fun _ _ _ _ => ()) v
/-- a map: nil, or not -/
noncomputable def V.onMap (v : V) (nil : Bool) (k : N → Bool) : Bool :=
  V.rec (motive_1 := fun _ => Bool) (motive_2 := fun _ => Unit) (fun _ _ => false) (fun _ => false) (fun _ => false) (fun _ _ => false) false (fun _ _ _ _ => false) false (fun _ => false) (fun r => k r) nil (fun _ _ _ _ _ => false) false (fun _ _ _ => false) false (fun _ _ => false) (fun _ _ => false) (fun _ => false) () (fun _ _ _ _ => ()) v
/-- a slice: empty (nil, or at a place that is not known), or not -/
noncomputable def V.onSl (v : V) (nil : Bool) (k : N → Nat → Nat → Cap → Bool) : Bool :=
  V.rec (motive_1 := fun _ => Bool) (motive_2 := fun _ => Unit) (fun _ _ => false) (fun _ => false) (fun _ => false) (fun _ _ => false) false (fun b o l c => k b o l c) nil (fun _ => nil) (fun _ => false) false (fun _ _ _ _ _ => false) false (fun _ _ _ => false) false (fun _ _ => false) (fun _ _ => false) (fun _ => false) () (fun _ _ _ _ => ()) v
/-- a slice: nil, or not -/
noncomputable def V.onSl' (v : V) (nil : Bool) (k : N → Nat → Nat → Cap → Bool) : Bool :=
  V.rec (motive_1 := fun _ => Bool) (motive_2 := fun _ => Unit) (fun _ _ => false) (fun _ => false) (fun _ => false) (fun _ _ => false) false (fun b o l c => k b o l c) nil (fun _ => false) (fun _ => false) false (fun _ _ _ _ _ => false) false (fun _ _ _ => false) false (fun _ _ => false) (fun _ _ => false) (fun _ => false) () (fun _ _ _ _ => ()) v
noncomputable def V.onOpq (v : V) (k : N → Bool) : Bool :=
  V.rec (motive_1 := fun _ => Bool) (motive_2 := fun _ => Unit) (fun _ _ => false) (fun _ => false) (fun _ => false) (fun _ _ => false) false (fun _ _ _ _ => false) false (fun _ => false) (fun _ => false) false (fun _ _ _ _ _ => false) false (fun _ _ _ => false) false (fun _ _ => false) (fun _ _ => false) (fun x => k x) () (fun _ _ _ _ => ()) v
noncomputable def V.onKey (v : V) (k : Bool) : Bool :=
  V.rec (motive_1 := fun _ => Bool) (motive_2 := fun _ => Unit) (fun _ _ => k) (fun _ => k) (fun _ => k) (fun _ _ => false) false (fun _ _ _ _ => false) false (fun _ => false) (fun _ => false) false (fun _ _ _ _ _ => false) false (fun _ _ _ => false) false (fun _ _ => false) (fun _ _ => false) (fun _ => false) () (fun _ _ _ _ => ()) v
/-- nilCheck: there -/
noncomputable def V.onThere (v : V) (k : Bool) : Bool :=
  V.rec (motive_1 := fun _ => Bool) (motive_2 := fun _ => Unit) (fun _ _ => k) (fun _ => k) (fun _ => k) (fun _ _ => k) false (fun _ _ _ _ => k) k (fun _ => k) (fun _ => k) k (fun _ _ _ _ _ => k) false (fun _ _ _ => k) false (fun _ _ => k) (fun _ _ => false) (fun _ => false) () (fun _ _ _ _ => ()) v
noncomputable def V.cells (v : V) (k : List V → Bool) : Bool :=
  V.rec (motive_1 := fun _ => Bool) (motive_2 := fun _ => Unit) (fun _ _ => k [v]) (fun _ => k [v]) (fun _ => k [v]) (fun _ _ => k [v]) (k [v]) (fun _ _ _ _ => k [v]) (k [v]) (fun _ => k [v]) (fun _ => k [v]) (k [v]) (fun _ _ _ _ _ => k [v]) (k [v]) (fun _ _ _ => k [v]) (k [v]) (fun l _ => k l) (fun _ _ => false) (fun _ => k [v]) () (fun _ _ _ _ => ()) v
/-- a value of one cell -/
noncomputable def V.one (v : V) (k : Bool) : Bool :=
  V.rec (motive_1 := fun _ => Bool) (motive_2 := fun _ => Unit) (fun _ _ => k) (fun _ => k) (fun _ => k) (fun _ _ => k) k (fun _ _ _ _ => k) k (fun _ => k) (fun _ => k) k (fun _ _ _ _ _ => k) k (fun _ _ _ => k) k (fun _ _ => false) (fun _ _ => false) (fun _ => k) () (fun _ _ _ _ => ()) v

def half (k : IntKind) : Nat := match k with | .i8 => 128 | .i16 => 32768 | .i32 => 2147483648 | .i64 => 9223372036854775808 | _ => 0
def full (k : IntKind) : Nat := match k with | .i8 | .u8 => 256 | .i16 | .u16 => 65536 | .i32 | .u32 => 4294967296 | _ => 18446744073709551616
def ltB (k : IntKind) (x y : Nat) : Bool := Nat.ble (Nat.succ (Nat.mod (Nat.add x (half k)) (full k))) (Nat.mod (Nat.add y (half k)) (full k))
noncomputable def wr (k : IntKind) (n : Nat) (c : KV) : Bool := natK (Nat.mod n (full k)) (fun n => c (.int k n))
/-- a number that is not below 0 -/
def pos (k : IntKind) (n : Nat) : Bool := Nat.ble (Nat.succ n) (Nat.sub (full k) (half k))
noncomputable def onPos (k : IntKind) (n : Nat) (c : Bool) : Bool := condK (pos k n) false c
noncomputable def V.onNat (v : V) (k : Nat → Bool) : Bool := v.onInt (fun j n => onPos j n (k n))
def sameStr (a b : ByteArray) : Bool := a.data.toList == b.data.toList

/-! Equality -/
noncomputable def nilP (x y : V) (eq ne : KV → Bool) : KV → Bool :=
  V.rec (motive_1 := fun _ => (KV → Bool)) (motive_2 := fun _ => Unit) (fun _ _ => fun _ => false) (fun _ => fun _ => false) (fun _ => fun _ => false) (fun a o => V.rec (motive_1 := fun _ => (KV → Bool)) (motive_2 := fun _ => Unit) (fun _ _ => fun _ => false) (fun _ => fun _ => false) (fun _ => fun _ => false) (fun b p => fun k => condK (N.beq a b) false (condK (Nat.beq o p) (ne k) (eq k))) ne (fun _ _ _ _ => fun _ => false) (fun _ => false) (fun _ => fun _ => false) (fun _ => fun _ => false) (fun _ => false) (fun _ _ _ _ _ => fun _ => false) (fun _ => false) (fun _ _ _ => fun _ => false) (fun _ => false) (fun _ _ => fun _ => false) (fun _ _ => fun _ => false) (fun _ => fun _ => false) () (fun _ _ _ _ => ()) y) (V.rec (motive_1 := fun _ => (KV → Bool)) (motive_2 := fun _ => Unit) (fun _ _ => fun _ => false) (fun _ => fun _ => false) (fun _ => fun _ => false) (fun _ _ => ne) eq (fun _ _ _ _ => fun _ => false) (fun _ => false) (fun _ => fun _ => false) (fun _ => fun _ => false) (fun _ => false) (fun _ _ _ _ _ => fun _ => false) (fun _ => false) (fun _ _ _ => fun _ => false) (fun _ => false) (fun _ _ => fun _ => false) (fun _ _ => fun _ => false) (fun _ => fun _ => false) () (fun _ _ _ _ => ()) y) (fun _ _ _ _ => fun _ => false) (fun _ => false) (fun _ => fun _ => false) (fun _ => fun _ => false) (fun _ => false) (fun _ _ _ _ _ => fun _ => false) (fun _ => false) (fun _ _ _ => fun _ => false) (fun _ => false) (fun _ _ => fun _ => false) (fun _ _ => fun _ => false) (fun _ => fun _ => false) () (fun _ _ _ _ => ()) x
noncomputable def r_eqP (neg : Bool) (x y : V) (k : KV) : Bool := nilP x y (fun k => k (.bool (Bool.not neg))) (fun k => k (.bool neg)) k
noncomputable def nilL (x y : V) (eq ne : KV → Bool) : KV → Bool :=
  V.rec (motive_1 := fun _ => (KV → Bool)) (motive_2 := fun _ => Unit) (fun _ _ => fun _ => false) (fun _ => fun _ => false) (fun _ => fun _ => false) (fun _ _ => fun _ => false) (fun _ => false) (fun _ _ _ _ => V.rec (motive_1 := fun _ => (KV → Bool)) (motive_2 := fun _ => Unit) (fun _ _ => fun _ => false) (fun _ => fun _ => false) (fun _ => fun _ => false) (fun _ _ => fun _ => false) (fun _ => false) (fun _ _ _ _ => fun _ => false) ne (fun _ => fun _ => false) (fun _ => fun _ => false) (fun _ => false) (fun _ _ _ _ _ => fun _ => false) (fun _ => false) (fun _ _ _ => fun _ => false) (fun _ => false) (fun _ _ => fun _ => false) (fun _ _ => fun _ => false) (fun _ => fun _ => false) () (fun _ _ _ _ => ()) y) (V.rec (motive_1 := fun _ => (KV → Bool)) (motive_2 := fun _ => Unit) (fun _ _ => fun _ => false) (fun _ => fun _ => false) (fun _ => fun _ => false) (fun _ _ => fun _ => false) (fun _ => false) (fun _ _ _ _ => ne) eq (fun _ => ne) (fun _ => fun _ => false) (fun _ => false) (fun _ _ _ _ _ => fun _ => false) (fun _ => false) (fun _ _ _ => fun _ => false) (fun _ => false) (fun _ _ => fun _ => false) (fun _ _ => fun _ => false) (fun _ => fun _ => false) () (fun _ _ _ _ => ()) y) (fun _ => V.rec (motive_1 := fun _ => (KV → Bool)) (motive_2 := fun _ => Unit) (fun _ _ => fun _ => false) (fun _ => fun _ => false) (fun _ => fun _ => false) (fun _ _ => fun _ => false) (fun _ => false) (fun _ _ _ _ => fun _ => false) ne (fun _ => fun _ => false) (fun _ => fun _ => false) (fun _ => false) (fun _ _ _ _ _ => fun _ => false) (fun _ => false) (fun _ _ _ => fun _ => false) (fun _ => false) (fun _ _ => fun _ => false) (fun _ _ => fun _ => false) (fun _ => fun _ => false) () (fun _ _ _ _ => ()) y) (fun _ => fun _ => false) (fun _ => false) (fun _ _ _ _ _ => fun _ => false) (fun _ => false) (fun _ _ _ => fun _ => false) (fun _ => false) (fun _ _ => fun _ => false) (fun _ _ => fun _ => false) (fun _ => fun _ => false) () (fun _ _ _ _ => ()) x
noncomputable def r_eqL (neg : Bool) (x y : V) (k : KV) : Bool := nilL x y (fun k => k (.bool (Bool.not neg))) (fun k => k (.bool neg)) k
noncomputable def nilM (x y : V) (eq ne : KV → Bool) : KV → Bool :=
  V.rec (motive_1 := fun _ => (KV → Bool)) (motive_2 := fun _ => Unit) (fun _ _ => fun _ => false) (fun _ => fun _ => false) (fun _ => fun _ => false) (fun _ _ => fun _ => false) (fun _ => false) (fun _ _ _ _ => fun _ => false) (fun _ => false) (fun _ => fun _ => false) (fun _ => V.rec (motive_1 := fun _ => (KV → Bool)) (motive_2 := fun _ => Unit) (fun _ _ => fun _ => false) (fun _ => fun _ => false) (fun _ => fun _ => false) (fun _ _ => fun _ => false) (fun _ => false) (fun _ _ _ _ => fun _ => false) (fun _ => false) (fun _ => fun _ => false) (fun _ => fun _ => false) ne (fun _ _ _ _ _ => fun _ => false) (fun _ => false) (fun _ _ _ => fun _ => false) (fun _ => false) (fun _ _ => fun _ => false) (fun _ _ => fun _ => false) (fun _ => fun _ => false) () (fun _ _ _ _ => ()) y) (V.rec (motive_1 := fun _ => (KV → Bool)) (motive_2 := fun _ => Unit) (fun _ _ => fun _ => false) (fun _ => fun _ => false) (fun _ => fun _ => false) (fun _ _ => fun _ => false) (fun _ => false) (fun _ _ _ _ => fun _ => false) (fun _ => false) (fun _ => fun _ => false) (fun _ => ne) eq (fun _ _ _ _ _ => fun _ => false) (fun _ => false) (fun _ _ _ => fun _ => false) (fun _ => false) (fun _ _ => fun _ => false) (fun _ _ => fun _ => false) (fun _ => fun _ => false) () (fun _ _ _ _ => ()) y) (fun _ _ _ _ _ => fun _ => false) (fun _ => false) (fun _ _ _ => fun _ => false) (fun _ => false) (fun _ _ => fun _ => false) (fun _ _ => fun _ => false) (fun _ => fun _ => false) () (fun _ _ _ _ => ()) x
noncomputable def r_eqM (neg : Bool) (x y : V) (k : KV) : Bool := nilM x y (fun k => k (.bool (Bool.not neg))) (fun k => k (.bool neg)) k
noncomputable def nilF (x y : V) (eq ne : KV → Bool) : KV → Bool :=
  V.rec (motive_1 := fun _ => (KV → Bool)) (motive_2 := fun _ => Unit) (fun _ _ => fun _ => false) (fun _ => fun _ => false) (fun _ => fun _ => false) (fun _ _ => fun _ => false) (fun _ => false) (fun _ _ _ _ => fun _ => false) (fun _ => false) (fun _ => fun _ => false) (fun _ => fun _ => false) (fun _ => false) (fun _ _ _ _ _ => V.rec (motive_1 := fun _ => (KV → Bool)) (motive_2 := fun _ => Unit) (fun _ _ => fun _ => false) (fun _ => fun _ => false) (fun _ => fun _ => false) (fun _ _ => fun _ => false) (fun _ => false) (fun _ _ _ _ => fun _ => false) (fun _ => false) (fun _ => fun _ => false) (fun _ => fun _ => false) (fun _ => false) (fun _ _ _ _ _ => fun _ => false) ne (fun _ _ _ => fun _ => false) (fun _ => false) (fun _ _ => fun _ => false) (fun _ _ => fun _ => false) (fun _ => fun _ => false) () (fun _ _ _ _ => ()) y) (V.rec (motive_1 := fun _ => (KV → Bool)) (motive_2 := fun _ => Unit) (fun _ _ => fun _ => false) (fun _ => fun _ => false) (fun _ => fun _ => false) (fun _ _ => fun _ => false) (fun _ => false) (fun _ _ _ _ => fun _ => false) (fun _ => false) (fun _ => fun _ => false) (fun _ => fun _ => false) (fun _ => false) (fun _ _ _ _ _ => ne) eq (fun _ _ _ => fun _ => false) (fun _ => false) (fun _ _ => fun _ => false) (fun _ _ => fun _ => false) (fun _ => fun _ => false) () (fun _ _ _ _ => ()) y) (fun _ _ _ => fun _ => false) (fun _ => false) (fun _ _ => fun _ => false) (fun _ _ => fun _ => false) (fun _ => fun _ => false) () (fun _ _ _ _ => ()) x
noncomputable def r_eqF (neg : Bool) (x y : V) (k : KV) : Bool := nilF x y (fun k => k (.bool (Bool.not neg))) (fun k => k (.bool neg)) k
noncomputable def nilN (x y : V) (eq ne : KV → Bool) : KV → Bool :=
  V.rec (motive_1 := fun _ => (KV → Bool)) (motive_2 := fun _ => Unit) (fun _ _ => fun _ => false) (fun _ => fun _ => false) (fun _ => fun _ => false) (fun _ _ => fun _ => false) (fun _ => false) (fun _ _ _ _ => fun _ => false) (fun _ => false) (fun _ => fun _ => false) (fun _ => fun _ => false) (fun _ => false) (fun _ _ _ _ _ => fun _ => false) (fun _ => false) (fun _ _ _ => V.rec (motive_1 := fun _ => (KV → Bool)) (motive_2 := fun _ => Unit) (fun _ _ => fun _ => false) (fun _ => fun _ => false) (fun _ => fun _ => false) (fun _ _ => fun _ => false) (fun _ => false) (fun _ _ _ _ => fun _ => false) (fun _ => false) (fun _ => fun _ => false) (fun _ => fun _ => false) (fun _ => false) (fun _ _ _ _ _ => fun _ => false) (fun _ => false) (fun _ _ _ => fun _ => false) ne (fun _ _ => fun _ => false) (fun _ _ => fun _ => false) (fun _ => fun _ => false) () (fun _ _ _ _ => ()) y) (V.rec (motive_1 := fun _ => (KV → Bool)) (motive_2 := fun _ => Unit) (fun _ _ => fun _ => false) (fun _ => fun _ => false) (fun _ => fun _ => false) (fun _ _ => fun _ => false) (fun _ => false) (fun _ _ _ _ => fun _ => false) (fun _ => false) (fun _ => fun _ => false) (fun _ => fun _ => false) (fun _ => false) (fun _ _ _ _ _ => fun _ => false) (fun _ => false) (fun _ _ _ => ne) eq (fun _ _ => fun _ => false) (fun _ _ => fun _ => false) (fun _ => fun _ => false) () (fun _ _ _ _ => ()) y) (fun _ _ => fun _ => false) (fun _ _ => fun _ => false) (fun _ => fun _ => false) () (fun _ _ _ _ => ()) x
noncomputable def r_eqN (neg : Bool) (x y : V) (k : KV) : Bool := nilN x y (fun k => k (.bool (Bool.not neg))) (fun k => k (.bool neg)) k
noncomputable def r_eqS (neg : Bool) (x y : V) (k : KV) : Bool := x.onStr (fun a => y.onStr (fun b => condK (sameStr a b) (k (.bool neg)) (k (.bool (Bool.not neg)))))
noncomputable def r_eqB (neg : Bool) (x y : V) (k : KV) : Bool := x.onBool (y.onBool (k (.bool (Bool.not neg))) (k (.bool neg))) (y.onBool (k (.bool neg)) (k (.bool (Bool.not neg))))
noncomputable def eqC1 (c : Bool) (x y : V) (eq ne : Bool) : Bool :=
  Bool.rec (x.onBool (y.onBool eq ne) (y.onBool ne eq)) (x.onInt (fun i a => y.onInt (fun j b => condK (Nat.beq i.ctorIdx j.ctorIdx) false (condK (Nat.beq a b) ne eq)))) c
/-- cell by cell: numbers (true) and truth values -/
noncomputable def eqCs (cs : List Bool) : List V → List V → Bool → Bool → Bool :=
  List.rec (motive := fun _ => List V → List V → Bool → Bool → Bool) (fun l m eq _ => List.rec (List.rec eq (fun _ _ _ => false) m) (fun _ _ _ => false) l)
    (fun c _ ih l m eq ne => List.rec false (fun x l _ => List.rec false (fun y m _ => eqC1 c x y (ih l m eq ne) ne) m) l) cs
noncomputable def r_eqA (neg : Bool) (cs : List Bool) (x y : V) (k : KV) : Bool := x.onAgg (fun l => y.onAgg (fun m => eqCs cs l m (k (.bool (Bool.not neg))) (k (.bool neg))))
noncomputable def same1 (x y : V) (k : Bool) : Bool :=
  V.rec (motive_1 := fun _ => Bool) (motive_2 := fun _ => Unit) (fun i a => y.onInt (fun j b => condK (Nat.beq i.ctorIdx j.ctorIdx) false (condK (Nat.beq a b) false k))) (fun a => y.onBool (condK a false k) (condK a k false)) (fun s => y.onStr (fun t => condK (sameStr s t) false k)) (fun a o => y.onPtr (fun b p => condK (Nat.beq o p) false (condK (N.beq a b) false k))) (V.rec (motive_1 := fun _ => Bool) (motive_2 := fun _ => Unit) (fun _ _ => false) (fun _ => false) (fun _ => false) (fun _ _ => false) k (fun _ _ _ _ => false) false (fun _ => false) (fun _ => false) false (fun _ _ _ _ _ => false) false (fun _ _ _ => false) false (fun _ _ => false) (fun _ _ => false) (fun _ => false) () (fun _ _ _ _ => ()) y) (fun a o l c => V.rec (motive_1 := fun _ => Bool) (motive_2 := fun _ => Unit) (fun _ _ => false) (fun _ => false) (fun _ => false) (fun _ _ => false) false (fun b p m d => condK (N.beq a b) false (condK (Nat.beq o p) false (condK (Nat.beq l m) false (Cap.rec (fun i => Cap.rec (fun j => condK (Nat.beq i j) false k) (fun _ => false) d) (fun i => Cap.rec (fun _ => false) (fun j => condK (Nat.beq i j) false k) d) c)))) false (fun _ => false) (fun _ => false) false (fun _ _ _ _ _ => false) false (fun _ _ _ => false) false (fun _ _ => false) (fun _ _ => false) (fun _ => false) () (fun _ _ _ _ => ()) y) (V.rec (motive_1 := fun _ => Bool) (motive_2 := fun _ => Unit) (fun _ _ => false) (fun _ => false) (fun _ => false) (fun _ _ => false) false (fun _ _ _ _ => false) k (fun _ => false) (fun _ => false) false (fun _ _ _ _ _ => false) false (fun _ _ _ => false) false (fun _ _ => false) (fun _ _ => false) (fun _ => false) () (fun _ _ _ _ => ()) y) (fun a => V.rec (motive_1 := fun _ => Bool) (motive_2 := fun _ => Unit) (fun _ _ => false) (fun _ => false) (fun _ => false) (fun _ _ => false) false (fun _ _ _ _ => false) false (fun b => condK (N.beq a b) false k) (fun _ => false) false (fun _ _ _ _ _ => false) false (fun _ _ _ => false) false (fun _ _ => false) (fun _ _ => false) (fun _ => false) () (fun _ _ _ _ => ()) y) (fun a => V.rec (motive_1 := fun _ => Bool) (motive_2 := fun _ => Unit) (fun _ _ => false) (fun _ => false) (fun _ => false) (fun _ _ => false) false (fun _ _ _ _ => false) false (fun _ => false) (fun b => condK (N.beq a b) false k) false (fun _ _ _ _ _ => false) false (fun _ _ _ => false) false (fun _ _ => false) (fun _ _ => false) (fun _ => false) () (fun _ _ _ _ => ()) y) (V.rec (motive_1 := fun _ => Bool) (motive_2 := fun _ => Unit) (fun _ _ => false) (fun _ => false) (fun _ => false) (fun _ _ => false) false (fun _ _ _ _ => false) false (fun _ => false) (fun _ => false) k (fun _ _ _ _ _ => false) false (fun _ _ _ => false) false (fun _ _ => false) (fun _ _ => false) (fun _ => false) () (fun _ _ _ _ => ()) y) (fun _ _ _ _ _ => false) (V.rec (motive_1 := fun _ => Bool) (motive_2 := fun _ => Unit) (fun _ _ => false) (fun _ => false) (fun _ => false) (fun _ _ => false) false (fun _ _ _ _ => false) false (fun _ => false) (fun _ => false) false (fun _ _ _ _ _ => false) k (fun _ _ _ => false) false (fun _ _ => false) (fun _ _ => false) (fun _ => false) () (fun _ _ _ _ => ()) y) (fun _ _ _ => false) (V.rec (motive_1 := fun _ => Bool) (motive_2 := fun _ => Unit) (fun _ _ => false) (fun _ => false) (fun _ => false) (fun _ _ => false) false (fun _ _ _ _ => false) false (fun _ => false) (fun _ => false) false (fun _ _ _ _ _ => false) false (fun _ _ _ => false) k (fun _ _ => false) (fun _ _ => false) (fun _ => false) () (fun _ _ _ _ => ()) y) (fun _ _ => false) (fun l _ => y.onTup (fun m => List.rec (List.rec k (fun _ _ _ => false) m) (fun _ _ _ => false) l)) (fun a => V.rec (motive_1 := fun _ => Bool) (motive_2 := fun _ => Unit) (fun _ _ => false) (fun _ => false) (fun _ => false) (fun _ _ => false) false (fun _ _ _ _ => false) false (fun _ => false) (fun _ => false) false (fun _ _ _ _ _ => false) false (fun _ _ _ => false) false (fun _ _ => false) (fun _ _ => false) (fun b => condK (N.beq a b) false k) () (fun _ _ _ _ => ()) y) () (fun _ _ _ _ => ()) x
noncomputable def sames (l : List V) : List V → Bool → Bool :=
  List.rec (motive := fun _ => List V → Bool → Bool) (fun m k => List.rec k (fun _ _ _ => false) m)
    (fun x _ ih m k => List.rec false (fun y m _ => same1 x y (ih m k)) m) l
/-- the very same value (of the plain kinds) -/
noncomputable def sameK (x y : V) (k : Bool) : Bool :=
  V.rec (motive_1 := fun _ => Bool) (motive_2 := fun _ => Unit) (fun _ _ => same1 x y k) (fun _ => same1 x y k) (fun _ => same1 x y k) (fun _ _ => same1 x y k) (same1 x y k) (fun _ _ _ _ => same1 x y k) (same1 x y k) (fun _ => same1 x y k) (fun _ => same1 x y k) (same1 x y k) (fun _ _ _ _ _ => same1 x y k) (same1 x y k) (fun t v _ => V.rec (motive_1 := fun _ => Bool) (motive_2 := fun _ => Unit) (fun _ _ => false) (fun _ => false) (fun _ => false) (fun _ _ => false) false (fun _ _ _ _ => false) false (fun _ => false) (fun _ => false) false (fun _ _ _ _ _ => false) false (fun u w _ => condK (Nat.beq t u) false (same1 v w k)) false (fun _ _ => false) (fun _ _ => false) (fun _ => false) () (fun _ _ _ _ => ()) y) (same1 x y k) (fun l _ => y.onAgg (fun m => sames l m k)) (fun _ _ => same1 x y k) (fun _ => same1 x y k) () (fun _ _ _ _ => ()) x

/-! Numbers -/
abbrev BK := IntKind → Nat → IntKind → Nat → KV → Bool
noncomputable def b_add : BK := fun k a _ b c => wr k (Nat.add a b) c
noncomputable def b_sub : BK := fun k a _ b c => wr k (Nat.sub (Nat.add a (full k)) b) c
noncomputable def b_mul : BK := fun k a _ b c => wr k (Nat.mul a b) c
noncomputable def b_quo : BK := fun k a _ b c => onPos k a (onPos k b (Nat.rec false (fun _ _ => natK (Nat.div a b) (fun n => c (.int k n))) b))
noncomputable def b_rem : BK := fun k a _ b c => onPos k a (onPos k b (Nat.rec false (fun _ _ => natK (Nat.mod a b) (fun n => c (.int k n))) b))
noncomputable def b_and : BK := fun k a _ b c => natK (Nat.land a b) (fun n => c (.int k n))
noncomputable def b_or : BK := fun k a _ b c => natK (Nat.lor a b) (fun n => c (.int k n))
noncomputable def b_xor : BK := fun k a _ b c => natK (Nat.xor a b) (fun n => c (.int k n))
noncomputable def b_andNot : BK := fun k a _ b c => natK (Nat.xor a (Nat.land a b)) (fun n => c (.int k n))
noncomputable def b_shl : BK := fun k a j b c => onPos j b (condK (Nat.ble b 64) false (wr k (Nat.shiftLeft a b) c))
noncomputable def b_shr : BK := fun k a j b c => onPos j b (onPos k a (condK (Nat.ble b 64) false (natK (Nat.shiftRight a b) (fun n => c (.int k n)))))
noncomputable def b_lss : BK := fun k a _ b c => condK (ltB k a b) (c (.bool false)) (c (.bool true))
noncomputable def b_leq : BK := fun k a _ b c => condK (ltB k b a) (c (.bool true)) (c (.bool false))
noncomputable def b_gtr : BK := fun k a _ b c => condK (ltB k b a) (c (.bool false)) (c (.bool true))
noncomputable def b_geq : BK := fun k a _ b c => condK (ltB k a b) (c (.bool true)) (c (.bool false))
noncomputable def b_eql : BK := fun _ a _ b c => condK (Nat.beq a b) (c (.bool false)) (c (.bool true))
noncomputable def b_neq : BK := fun _ a _ b c => condK (Nat.beq a b) (c (.bool true)) (c (.bool false))
noncomputable def r_bin (f : BK) (x y : V) (k : KV) : Bool := x.onInt (fun i m => y.onInt (fun j n => f i m j n k))
/-- an operation on numbers of one kind -/
noncomputable def r_bin1 (f : BK) (x y : V) (k : KV) : Bool := x.onInt (fun i m => y.onInt (fun j n => condK (Nat.beq i.ctorIdx j.ctorIdx) false (f i m j n k)))
/-! Letters for numbers: letters 14 + 16 (j + 16 c), j below 16, are one number and what is j more than it; its rest by 8 is that of c -/
noncomputable def N.force (x : N) : (N → Bool) → Bool :=
  N.rec (motive := fun _ => (N → Bool) → Bool) (fun k => k .e) (fun _ ih k => ih (fun m => k (.a m))) (fun _ ih k => ih (fun m => k (.b m)))
    (fun _ ih k => ih (fun m => k (.c m))) (fun _ ih k => ih (fun m => k (.d m))) x
def ofN : Nat → Nat → N
  | 0, _ => .e
  | _ + 1, 0 => .e
  | f + 1, n + 1 => match n % 4 with | 0 => .a (ofN f (n / 4)) | 1 => .b (ofN f (n / 4)) | 2 => .c (ofN f (n / 4)) | _ => .d (ofN f (n / 4))
noncomputable def linK (x : N) (k : Nat → Nat → Bool) : Bool :=
  natK x.val (fun v => condK (Nat.beq (Nat.mod v 16) 14) false (natK (Nat.mod (Nat.div v 16) 16) (fun j => natK (Nat.div v 256) (fun c => k j c))))
noncomputable def newLin (n : Nat) (k : KV) : Bool := (ofN 12 n).force (fun y => condK (Nat.beq y.val n) false (k (.opq y)))
def isU32 : IntKind → Bool | .u32 => true | _ => false
abbrev OK := N → V → KV → Bool
noncomputable def o_add : OK := fun x y k => linK x (fun j c => y.onInt (fun q n => condK (isU32 q) false (condK (Nat.ble (Nat.add j n) 15) false (newLin (14 + 16 * ((j + n) + 16 * c)) k))))
noncomputable def o_sub : OK := fun x y k => linK x (fun j c => y.onOpq (fun z => linK z (fun i d => condK (Nat.beq c d) false (wr .u32 (Nat.sub (Nat.add j (full .u32)) i) k))))
noncomputable def o_rem : OK := fun x y k => linK x (fun j c => y.onInt (fun q n => condK (isU32 q) false (condK (Nat.beq n 8) false (natK (Nat.mod (Nat.add c j) 8) (fun n => k (.int .u32 n))))))
noncomputable def o_eq (neg : Bool) : OK := fun x y k => y.onOpq (fun z => condK (N.beq x z)
  (linK x (fun j c => linK z (fun i d => condK (Nat.beq c d) false (condK (Nat.beq j i) (k (.bool neg)) false))))
  (condK (Nat.ble 14 (Nat.mod x.val 16)) false (k (.bool (Bool.not neg)))))
noncomputable def r_num (f : BK) (g : OK) (x y : V) (k : KV) : Bool :=
  V.rec (motive_1 := fun _ => Bool) (motive_2 := fun _ => Unit) (fun i m => y.onInt (fun j n => condK (Nat.beq i.ctorIdx j.ctorIdx) false (f i m j n k))) (fun _ => false) (fun _ => false) (fun _ _ => false) false (fun _ _ _ _ => false) false (fun _ => false) (fun _ => false) false (fun _ _ _ _ _ => false) false (fun _ _ _ => false) false (fun _ _ => false) (fun _ _ => false) (fun a => g a y k) () (fun _ _ _ _ => ()) x

/-! Memory -/
noncomputable def O.onRow (o : O) (k : Nat → List V → Bool → Bool) : Bool := O.rec k (fun _ _ => false) false (fun _ _ _ => false) o
noncomputable def O.onMap (o : O) (k : List (V × V × Nat) → Nat → Bool) : Bool := O.rec (fun _ _ _ => false) k false (fun _ _ _ => false) o
/-- cells that can be read -/
noncomputable def O.onCells (o : O) (k : List V → Bool) : Bool := O.rec (fun _ c _ => k c) (fun _ _ => false) false (fun c _ _ => k c) o
noncomputable def H.rowK (h : H) (b : N) (k : Nat → List V → Bool → Bool) : Bool :=
  H.rec (fun t _ => T.getK b t (fun o => o.onRow k) false) h
noncomputable def H.cellsK (h : H) (b : N) (k : List V → Bool) : Bool :=
  H.rec (fun t _ => T.getK b t (fun o => o.onCells k) false) h
noncomputable def H.mapK (h : H) (b : N) (k : List (V × V × Nat) → Nat → Bool) : Bool :=
  H.rec (fun t _ => T.getK b t (fun o => o.onMap k) false) h
noncomputable def H.putK (h : H) (b : N) (o : O) (k : H → Bool) : Bool :=
  H.rec (fun t n => T.setK b o t (fun t => k (.mk t n))) h
/-- a letter that is new -/
noncomputable def H.nextK (h : H) (k : N → H → Bool) : Bool :=
  H.rec (fun t n => N.succK n (fun n' => k n (.mk t n'))) h
noncomputable def H.newK (h : H) (o : O) (k : N → H → Bool) : Bool :=
  H.rec (fun t n => T.setK n o t (fun t => N.succK n (fun n' => k n (.mk t n')))) h
/-- a row with a tail that is not known, and its letter -/
noncomputable def H.grownK (h : H) (e : Nat) (c : List V) (k : N → H → Bool) : Bool :=
  H.rec (fun t n => T.setK n (.row e c true) t (fun t => N.succK n (fun n' => k n (.mk t n')))) h
noncomputable def H.loadK (h : H) (b : N) (o s : Nat) (k : List V → Bool) : Bool :=
  h.rowK b (fun _ c _ => dropK c o (fun c => takeK c s k))
noncomputable def H.storeK (h : H) (b : N) (o : Nat) (vs : List V) (k : H → Bool) : Bool :=
  h.rowK b (fun e c t => Ev.putK c vs o (fun c => h.putK b (.row e c t) k))
noncomputable def fillK (pl : Nat → (Nat → Nat → Bool) → Bool) (ps : List (Nat × V)) : List V → (List V → Bool) → Bool :=
  List.rec (motive := fun _ => List V → (List V → Bool) → Bool) (fun c k => k c)
    (fun p _ ih c k => Prod.rec (fun i v => pl i (fun off size => v.cells (fun vs => lenK vs (fun n => condK (Nat.beq n size) false
      (Ev.putK c vs off (fun c => ih c k)))))) p) ps
noncomputable def optK (x : Option V) (k : Option Nat → Bool) : Bool :=
  Option.rec (k none) (fun v => v.onNat (fun n => k (some n))) x
noncomputable def orK (x : Option Nat) (n : Nat) (k : Nat → Bool) : Bool := Option.rec (k n) k x
noncomputable def boundsK (len cap : Nat) (lo hi mx : Option Nat) (k : Nat → Nat → Nat → Bool) : Bool :=
  orK mx cap (fun m => condK (Nat.ble m cap) false
    (orK hi len (fun h => condK (Nat.ble h m) false
      (orK lo 0 (fun l => condK (Nat.ble l h) false (k l h m))))))
noncomputable def cutK (b : N) (o s l hh m : Nat) (k : KV) : Bool :=
  natK (Nat.sub hh l) (fun n => natK (Nat.sub m l) (fun c => condK (Nat.beq m l) (natK (Nat.add o (Nat.mul l s)) (fun o => k (.sl b o n (.n c)))) (k (.sl b o n (.n c)))))
/-- a map's key, as a test -/
abbrev Tst := V → Bool → Bool → Bool
noncomputable def keyI (j : IntKind) (v : V) (k : Tst → Bool) : Bool := v.onInt (fun i n => condK (Nat.beq i.ctorIdx j.ctorIdx) false (k (fun a no yes => a.onInt (fun i m => condK (Nat.beq i.ctorIdx j.ctorIdx) false (condK (Nat.beq n m) no yes)))))
noncomputable def keyS (v : V) (k : Tst → Bool) : Bool := v.onStr (fun s => k (fun a no yes => a.onStr (fun t => condK (sameStr s t) no yes)))
noncomputable def findK (eq : Tst) (es : List (V × V × Nat)) : (V → Bool) → Bool → Bool :=
  List.rec (motive := fun _ => (V → Bool) → Bool → Bool) (fun _ no => no)
    (fun e _ ih k no => Prod.rec (fun a vs => Prod.rec (fun v _ => eq a (ih k no) (k v)) vs) e) es
noncomputable def updK (eq : Tst) (key val : V) (es : List (V × V × Nat)) : (List (V × V × Nat) → Bool) → Bool → Bool :=
  List.rec (motive := fun _ => (List (V × V × Nat) → Bool) → Bool → Bool) (fun _ no => no)
    (fun e r ih k no => Prod.rec (fun a vs => Prod.rec (fun v s => eq a (ih (fun r => k ((a, v, s) :: r)) no) (k ((key, val, s) :: r))) vs) e) es
noncomputable def delK (eq : Tst) (es : List (V × V × Nat)) : (List (V × V × Nat) → Bool) → Bool :=
  List.rec (motive := fun _ => (List (V × V × Nat) → Bool) → Bool) (fun k => k [])
    (fun e r ih k => Prod.rec (fun a vs => eq a (ih (fun r => k ((a, vs) :: r))) (k r)) e) es

/-- more than none put behind a slice -/
noncomputable def appendN (h : H) (e s : Nat) (x : V) (n : Nat) (new : List V) (k : KH) : Bool :=
  x.onSl (condK (Nat.ble n 1000000) false (h.grownK e new (fun b h => k (.sl b 0 n (.v 0)) h)))
    (fun b o len cap => natK (Nat.add len n) (fun l => condK (Nat.ble l 1000000) false (Cap.rec
      (fun c => condK (Nat.ble l c)
        (h.loadK b o (Nat.mul len s) (fun old => appK old new (fun cs => h.grownK e cs (fun b h => k (.sl b 0 l (.v 0)) h))))
        (h.storeK b (Nat.add o (Nat.mul len s)) new (fun h => k (.sl b o l (.n c)) h)))
      (fun d => Nat.rec (Nat.rec (h.rowK b (fun e' old t => condK (Nat.beq e' e) false (condK t false (lenK old (fun j => condK (Nat.beq j (Nat.mul len s)) false
        (appK old new (fun cs => h.putK b .dead (fun h => h.grownK e cs (fun b h => k (.sl b 0 l (.v 0)) h))))))))) (fun _ _ => false) o) (fun _ _ => false) d) cap)))

noncomputable def appendV (h : H) (e s : Nat) (x : V) (n : Nat) (new : List V) (k : KH) : Bool :=
  Nat.rec (V.rec (motive_1 := fun _ => Bool) (motive_2 := fun _ => Unit) (fun _ _ => false) (fun _ => false) (fun _ => false) (fun _ _ => false) false (fun _ _ _ _ => k x h) (k x h) (fun _ => k x h) (fun _ => false) false (fun _ _ _ _ _ => false) false (fun _ _ _ => false) false (fun _ _ => false) (fun _ _ => false) (fun _ => false) () (fun _ _ _ _ => ()) x) (fun _ _ => V.rec (motive_1 := fun _ => Bool) (motive_2 := fun _ => Unit) (fun _ _ => false) (fun _ => false) (fun _ => false) (fun _ _ => false) false (fun _ _ _ _ => appendN h e s x n new k) (appendN h e s x n new k) (fun _ => false) (fun _ => false) false (fun _ _ _ _ _ => false) false (fun _ _ _ => false) false (fun _ _ => false) (fun _ _ => false) (fun _ => false) () (fun _ _ _ _ => ()) x) n

/-! The operations: reading ones -/
noncomputable def r_pick (c x y : V) (k : KV) : Bool := (V.rec (motive_1 := fun _ => (KV → Bool)) (motive_2 := fun _ => Unit) (fun _ _ => fun _ => false) (fun b => fun k => condK b (k y) (k x)) (fun _ => fun _ => false) (fun _ _ => fun _ => false) (fun _ => false) (fun _ _ _ _ => fun _ => false) (fun _ => false) (fun _ => fun _ => false) (fun _ => fun _ => false) (fun _ => false) (fun _ _ _ _ _ => fun _ => false) (fun _ => false) (fun _ _ _ => fun _ => false) (fun _ => false) (fun _ _ => fun _ => false) (fun _ _ => fun _ => false) (fun _ => fun _ => false) () (fun _ _ _ _ => ()) c) k
noncomputable def r_build (pl : List (Nat × Nat)) (zs : List V) (ps : List (Nat × V)) (k : KV) : Bool :=
  fillK (fun i k => nthK pl i (fun p => Prod.rec k p)) ps zs (fun c => k (.agg c))
noncomputable def r_buildA (s : Nat) (zs : List V) (ps : List (Nat × V)) (k : KV) : Bool :=
  fillK (fun i k => natK (Nat.mul i s) (fun o => k o s)) ps zs (fun c => k (.agg c))
noncomputable def r_load1 (x : V) (h : H) (k : KV) : Bool := x.onPtr (fun b o => h.cellsK b (fun c => nthK c o k))
noncomputable def r_loadA (s : Nat) (x : V) (h : H) (k : KV) : Bool := x.onPtr (fun b o => h.loadK b o s (fun c => k (.agg c)))
noncomputable def r_nilc (x : V) (k : KV) : Bool := x.onThere (k x)
noncomputable def r_not (x : V) (k : KV) : Bool := (V.rec (motive_1 := fun _ => (KV → Bool)) (motive_2 := fun _ => Unit) (fun _ _ => fun _ => false) (fun b => fun k => condK b (k (.bool true)) (k (.bool false))) (fun _ => fun _ => false) (fun _ _ => fun _ => false) (fun _ => false) (fun _ _ _ _ => fun _ => false) (fun _ => false) (fun _ => fun _ => false) (fun _ => fun _ => false) (fun _ => false) (fun _ _ _ _ _ => fun _ => false) (fun _ => false) (fun _ _ _ => fun _ => false) (fun _ => false) (fun _ _ => fun _ => false) (fun _ _ => fun _ => false) (fun _ => fun _ => false) () (fun _ _ _ _ => ()) x) k
noncomputable def r_conv (j : IntKind) (x : V) (k : KV) : Bool := x.onInt (fun i n => condK (pos i n)
  (wr j (Nat.add n (Nat.sub 18446744073709551616 (full i))) k) (wr j n k))
noncomputable def slice_v (b : N) (o len : Nat) (dd s : Nat) (l hh : Nat) (mx : Option Nat) (m : Nat) (k : KV) : Bool :=
  Option.rec (condK (Nat.ble (Nat.succ l) len)
    (Nat.rec (k (.sl b o hh (.v dd))) (fun _ _ => false) l)
    (natK (Nat.sub hh l) (fun n => natK (Nat.add dd l) (fun dd => natK (Nat.add o (Nat.mul l s)) (fun o => k (.sl b o n (.v dd)))))))
    (fun _ => cutK b o s l hh m k) mx
noncomputable def r_slice (s : Nat) (x : V) (lo hi mx : Option V) (k : KV) : Bool := optK lo (fun lo => optK hi (fun hi => optK mx (fun mx =>
  V.rec (motive_1 := fun _ => Bool) (motive_2 := fun _ => Unit) (fun _ _ => false) (fun _ => false) (fun _ => false) (fun _ _ => false) false (fun b o len cap => Cap.rec (fun c => boundsK len c lo hi mx (fun l hh m => cutK b o s l hh m k)) (fun dd => boundsK len len lo hi mx (fun l hh m => slice_v b o len dd s l hh mx m k)) cap) (boundsK 0 0 lo hi mx (fun _ _ _ => k .nils)) (fun _ => false) (fun _ => false) false (fun _ _ _ _ _ => false) false (fun _ _ _ => false) false (fun _ _ => false) (fun _ _ => false) (fun _ => false) () (fun _ _ _ _ => ()) x)))
noncomputable def r_slarr (n s : Nat) (x : V) (lo hi mx : Option V) (k : KV) : Bool := optK lo (fun lo => optK hi (fun hi => optK mx (fun mx => x.onPtr (fun b o =>
  boundsK n n lo hi mx (fun l hh m => cutK b o s l hh m k)))))
/-- l[k:] of a slice of unknown room, at its very end: an empty slice at a place of its own letter -/
noncomputable def a_tail (x : V) (lo : Option V) (h : H) (k : KH) (no : Bool) : Bool :=
  x.onSl no (fun _ _ len cap => Cap.rec (fun _ => no) (fun _ => optK lo (fun lo => Option.rec no (fun l => condK (Nat.beq l len) no (Nat.rec no (fun _ _ => h.nextK (fun n h => k (.slz n) h)) l)) lo)) cap)
noncomputable def x_slice (s : Nat) (x : V) (lo : Option V) (h : H) (k : KH) : Bool := a_tail x lo h k (r_slice s x lo none none (fun v => k v h))
noncomputable def r_faddr (off : Nat) (x : V) (k : KV) : Bool := x.onPtr (fun b o => natK (Nat.add o off) (fun o => k (.ptr b o)))
noncomputable def r_field1 (off : Nat) (x : V) (k : KV) : Bool := x.onAgg (fun c => nthK c off k)
noncomputable def r_fieldA (s off : Nat) (x : V) (k : KV) : Bool := x.onAgg (fun c => dropK c off (fun c => takeK c s (fun l => k (.agg l))))
noncomputable def r_iaddrS (s : Nat) (x i : V) (k : KV) : Bool := x.onSl false (fun b o len _ => i.onNat (fun n => condK (Nat.ble (Nat.succ n) len) false
  (natK (Nat.add o (Nat.mul n s)) (fun o => k (.ptr b o)))))
noncomputable def r_iaddrA (n s : Nat) (x i : V) (k : KV) : Bool := x.onPtr (fun b o => i.onNat (fun j => condK (Nat.ble (Nat.succ j) n) false
  (natK (Nat.add o (Nat.mul j s)) (fun o => k (.ptr b o)))))
noncomputable def r_index1 (n s : Nat) (x i : V) (k : KV) : Bool := x.onAgg (fun c => i.onNat (fun j => condK (Nat.ble (Nat.succ j) n) false (nthK c (Nat.mul j s) k)))
noncomputable def r_indexA (n s : Nat) (x i : V) (k : KV) : Bool := x.onAgg (fun c => i.onNat (fun j => condK (Nat.ble (Nat.succ j) n) false
  (dropK c (Nat.mul j s) (fun c => takeK c s (fun l => k (.agg l))))))
noncomputable def lookR (ok : Bool) (zv : V) (yes : Bool) (k : KV) : Bool := condK ok (k zv) (k (.tup [zv, .bool yes]))
noncomputable def r_look (key : V → (Tst → Bool) → Bool) (zv : V) (ok : Bool) (m kv : V) (h : H) (k : KV) : Bool := key kv (fun eq => m.onMap (lookR ok zv false k)
  (fun r => h.mapK r (fun es _ => findK eq es (fun v => lookR ok v true k) (lookR ok zv false k))))
noncomputable def r_ext (i : Nat) (x : V) (k : KV) : Bool := x.onTup (fun l => nthK l i k)
noncomputable def lenV (n : Nat) (k : KV) : Bool := condK (Nat.ble n 4294967296) false (k (.int .i64 n))
noncomputable def r_lenS (x : V) (k : KV) : Bool :=
  V.rec (motive_1 := fun _ => Bool) (motive_2 := fun _ => Unit) (fun _ _ => false) (fun _ => false) (fun _ => false) (fun _ _ => false) false (fun _ _ n _ => lenV n k) (k (.int .i64 0)) (fun _ => k (.int .i64 0)) (fun _ => false) false (fun _ _ _ _ _ => false) false (fun _ _ _ => false) false (fun _ _ => false) (fun _ _ => false) (fun _ => false) () (fun _ _ _ _ => ()) x
noncomputable def r_lenT (x : V) (k : KV) : Bool := x.onStr (fun s => natK s.size (fun n => lenV n k))
noncomputable def r_lenM (x : V) (h : H) (k : KV) : Bool := x.onMap (k (.int .i64 0)) (fun r => h.mapK r (fun es _ => lenK es (fun n => lenV n k)))
noncomputable def r_min (x y : V) (k : KV) : Bool := x.onInt (fun i m => y.onInt (fun j n => condK (Nat.beq i.ctorIdx j.ctorIdx) false (condK (ltB i n m) (k (.int i m)) (k (.int i n)))))

/-! The operations: making ones (the value by its letter, and the object) -/
abbrev KO := (N → V) → O → Bool
noncomputable def a_alloc (e : Nat) (zs : List V) (k : KO) : Bool := k (fun b => .ptr b 0) (.row e zs false)
noncomputable def a_box (e : Nat) (x : V) (k : KO) : Bool := x.cells (fun c => k (fun b => .ptr b 0) (.row e c false))
noncomputable def a_buildSl (e s : Nat) (zs : List V) (n : Nat) (ps : List (Nat × V)) (k : KO) : Bool :=
  fillK (fun i k => natK (Nat.mul i s) (fun o => k o s)) ps zs (fun c => k (fun b => .sl b 0 n (.n n)) (.row e c false))
noncomputable def a_mkmap (k : KO) : Bool := k .map (.map [] 0)
noncomputable def a_mksl (e : Nat) (zs : List V) (l c : V) (k : KO) : Bool := l.onNat (fun l => c.onNat (fun c => condK (Nat.ble l c) false (condK (Nat.ble c 1000000) false
  (repK zs c (fun r => k (fun b => .sl b 0 l (.n c)) (.row e r false))))))

/-! The operations: changing ones -/
noncomputable def x_store1 (p v : V) (h : H) (k : KH) : Bool := p.onPtr (fun b o => v.one (h.storeK b o [v] (fun h => k V.undef h)))
noncomputable def x_storeA (s : Nat) (p v : V) (h : H) (k : KH) : Bool := p.onPtr (fun b o => v.onAgg (fun vs => lenK vs (fun n => condK (Nat.beq n s) false
  (h.storeK b o vs (fun h => k V.undef h)))))
noncomputable def x_mupd (key : V → (Tst → Bool) → Bool) (m kv v : V) (h : H) (k : KH) : Bool := key kv (fun eq => m.onMap false (fun r => h.mapK r (fun es c =>
  updK eq kv v es (fun es => h.putK r (.map es c) (fun h => k V.undef h))
    (appK es [(kv, v, c)] (fun es => natK (Nat.succ c) (fun c => h.putK r (.map es c) (fun h => k V.undef h)))))))
noncomputable def x_append (e s : Nat) (x y : V) (h : H) (k : KH) : Bool := y.onSl (appendV h e s x 0 [] k)
  (fun b o len _ => h.loadK b o (Nat.mul len s) (fun c => appendV h e s x len c k))
noncomputable def x_appendz (e s : Nat) (zs : List V) (x y : V) (h : H) (k : KH) : Bool := y.onNat (fun n => condK (Nat.ble n 1000000) false (repK zs n (fun c => appendV h e s x n c k)))
noncomputable def x_clear (zs : List V) (x : V) (h : H) (k : KH) : Bool := x.onSl (k (.tup []) h) (fun b o len _ => repK zs len (fun c => h.storeK b o c (fun h => k (.tup []) h)))
noncomputable def x_copy (s : Nat) (x y : V) (h : H) (k : KH) : Bool := x.onSl (y.onSl (k (.int .i64 0) h) (fun _ _ _ _ => k (.int .i64 0) h))
  (fun b o len _ => y.onSl (k (.int .i64 0) h) (fun b' o' len' _ => natK (Bool.rec len' len (Nat.ble len len')) (fun n => h.loadK b' o' (Nat.mul n s) (fun c => h.storeK b o c (fun h => lenV n (fun v => k v h))))))
noncomputable def x_delete (key : V → (Tst → Bool) → Bool) (m kv : V) (h : H) (k : KH) : Bool := key kv (fun eq => m.onMap false (fun r => h.mapK r (fun es c =>
  delK eq es (fun es => h.putK r (.map es c) (fun h => k (.tup []) h)))))
noncomputable def x_call (f : N) (xs : List V) (call : Call) (h : H) (k : KH) : Bool := call f xs h k
noncomputable def x_callv (x : V) (xs : List V) (call : Call) (h : H) (k : KH) : Bool := x.onFn (fun f fi ca => appK xs ca (fun r => appK fi r (fun r => call f r h k)))
/-- a call put off: kept in the table of temporaries, at 0 -/
noncomputable def x_defer (x : V) (xs : List V) (a : A) (k : A → Bool) : Bool := x.onFn (fun f fi ca => appK xs ca (fun r => appK fi r (fun r =>
  T.getK .e a (fun v => v.onTup (fun l => T.setK .e (.tup (.fn f r [] :: l)) a k)) (T.setK .e (.tup [.fn f r []]) a k))))

/-! Frames -/
noncomputable def getV (t : N) : A → KV → Bool :=
  N.rec (motive := fun _ => A → KV → Bool) (fun a => T.rec (motive := fun _ => KV → Bool) (fun k => k V.undef) (fun v _ _ _ _ _ _ _ _ => Option.rec (motive := fun _ => KV → Bool) (fun k => k V.undef) (fun v k => k v) v) a)
    (fun _ ih a => T.rec (motive := fun _ => KV → Bool) (fun k => k V.undef) (fun _ x _ _ _ _ _ _ _ => ih x) a)
    (fun _ ih a => T.rec (motive := fun _ => KV → Bool) (fun k => k V.undef) (fun _ _ y _ _ _ _ _ _ => ih y) a)
    (fun _ ih a => T.rec (motive := fun _ => KV → Bool) (fun k => k V.undef) (fun _ _ _ z _ _ _ _ _ => ih z) a)
    (fun _ ih a => T.rec (motive := fun _ => KV → Bool) (fun k => k V.undef) (fun _ _ _ _ w _ _ _ _ => ih w) a) t
noncomputable def s_get (t : N) (a : A) (k : KV) : Bool := getV t a k
noncomputable def s_set (t : N) (v : V) (a : A) (k : A → Bool) : Bool := T.setK t v a k
/-- an operation behind a guard -/
noncomputable def s_if {κ : Type} (g : V) (want : Bool) (op no : κ → Bool) (k : κ) : Bool :=
  (V.rec (motive_1 := fun _ => (κ → Bool)) (motive_2 := fun _ => Unit) (fun _ _ => fun _ => false) (fun b => fun k => condK b (condK want (op k) (no k)) (condK want (no k) (op k))) (fun _ => fun _ => false) (fun _ _ => fun _ => false) (fun _ => false) (fun _ _ _ _ => fun _ => false) (fun _ => false) (fun _ => fun _ => false) (fun _ => fun _ => false) (fun _ => false) (fun _ _ _ _ _ => fun _ => false) (fun _ => false) (fun _ _ _ => fun _ => false) (fun _ => false) (fun _ _ => fun _ => false) (fun _ _ => no) (fun _ => fun _ => false) () (fun _ _ _ _ => ()) g) k
noncomputable def c_skip : CK := fun _ a h kn _ _ => kn a h
noncomputable def c_seq (x y : CK) : CK := fun call a h kn kr ke => x call a h (fun a h => y call a h kn kr ke) kr ke
noncomputable def c_cond (t : N) (x y : CK) : CK := fun call a h kn kr ke => s_get t a (fun v => v.onBool (x call a h kn kr ke) (y call a h kn kr ke))
noncomputable def c_condc (v : V) (x y : CK) : CK := fun call a h kn kr ke => v.onBool (x call a h kn kr ke) (y call a h kn kr ke)
noncomputable def c_block (id : Nat) (x : CK) : CK := fun call a h kn kr ke => x call a h kn kr (fun i => Bool.rec (ke i) kn (Nat.beq i id))
noncomputable def iterK (x : CK) (call : Call) (kr : KA) (ke : Nat → KA) (n : Nat) : KA :=
  Nat.rec (motive := fun _ => KA) (fun _ _ => false) (fun _ ih a h => x call a h ih kr ke) n
noncomputable def c_loop (x : CK) : CK := fun call a h _ kr ke => iterK x call kr ke 2000 a h
noncomputable def c_exit (id : Nat) : CK := fun _ a h _ _ ke => ke id a h
noncomputable def c_ret : CK := fun _ a h _ kr _ => kr a h
noncomputable def c_bad : CK := fun _ _ _ _ _ _ => false
noncomputable def argsK (l : List V) : N → A → (A → Bool) → Bool :=
  List.rec (motive := fun _ => N → A → (A → Bool) → Bool) (fun _ a k => k a)
    (fun v _ ih i a k => T.setK i v a (fun a => N.succK i (fun i => ih i a k))) l
noncomputable def runD (call : Call) (d : List V) : H → (H → Bool) → Bool :=
  List.rec (motive := fun _ => H → (H → Bool) → Bool) (fun h k => k h)
    (fun x _ ih h k => x.onFn (fun f xs _ => call f xs h (fun _ h => ih h k))) d
noncomputable def resL (l : List RV) (a : A) (h : H) : (List V → Bool) → Bool :=
  List.rec (motive := fun _ => (List V → Bool) → Bool) (fun k => k [])
    (fun r _ ih k => RV.rec
      (fun t => s_get t a (fun v => ih (fun r => k (v :: r))))
      (fun t => s_get t a (fun p => r_load1 p h (fun v => ih (fun r => k (v :: r)))))
      (fun t s => s_get t a (fun p => r_loadA s p h (fun v => ih (fun r => k (v :: r))))) r) l
noncomputable def outK (l : List V) (k : KV) : Bool := List.rec (k (.tup [])) (fun v r _ => List.rec (k v) (fun _ _ _ => k (.tup l)) r) l
noncomputable def finK (res : List RV) (k : KH) : KA := fun a h => resL res a h (fun l => outK l (fun v => k v h))
/-- leaving: the calls that were put off first -/
noncomputable def leaveK (callD : Call) (res : List RV) (k : KH) : KA := fun a h =>
  T.getK .e a (fun v => v.onTup (fun d => runD callD d h (fun h => finK res k a h))) (finK res k a h)
/-- leaving, where none was put off -/
noncomputable def leaveK0 (res : List RV) (k : KH) : KA := fun a h => T.getK .e a (fun _ => false) (finK res k a h)
noncomputable def noK : Nat → KA := fun _ _ _ => false
noncomputable def enterK (call : Call) (xs : List V) (h : H) (np : Nat) (body : CK) (kl : KA) : Bool :=
  lenK xs (fun n => condK (Nat.beq n np) false (argsK xs (.a .e) .l (fun a => body call a h kl kl noK)))
/-- a call that was put off: of a function that puts none off -/
noncomputable def callD (tab : T F) (call : Call) : Call := fun f xs h k =>
  T.getK f tab (fun fn => F.rec (fun np res body => enterK call xs h np body (leaveK0 res k)) (fun _ => false) fn) false
noncomputable def evF (tab : T F) (n : Nat) : Call :=
  Nat.rec (motive := fun _ => Call) (fun _ _ _ _ => false)
    (fun _ call f xs h k => T.getK f tab (fun fn => F.rec (fun np res body => enterK call xs h np body (leaveK (callD tab call) res k)) (fun f => f xs h k) fn) false) n
end Go.Ev

/-
  The evaluator of closed calls: a part.
-/
set_option linter.unusedVariables false
set_option linter.unusedSimpArgs false
namespace Go.Ev

/-- a value of one cell -/
def V.isOne : V → Bool
  | .agg _ | .tup _ => false
  | _ => true
/-! From the program's code to the evaluator's -/
def toN : Nat → N
  | 0 => .e
  | n + 1 => (toN n).succ
def fixInt (k : IntKind) (n : Int) : Nat := (n % (full k : Int)).toNat
mutual
def cV : Nat → Value → Option V
  | 0, _ => none
  | n + 1, v => match v with
    | .int k i => match k.wrap (fixInt k i : Nat) == i && Nat.blt (fixInt k i) (full k) with | true => some (.int k (fixInt k i)) | false => none
    | .bool b => some (.bool b)
    | .string s => some (.str s)
    | .pointer none => some .nilp
    | .slice none 0 0 => some .nils
    | .map none => some .nilm
    | .func (.func f) first captured => match cVs n first.toList, cVs n captured.toList with | some l, some m => some (.fn (toN f) l m) | _, _ => none
    | .nilFunc => some .nilf
    | .nilIface => some .nili
    | .agg c => match cVs n c.toList with | some l => (match l.all V.isOne with | true => some (.agg l) | false => none) | none => none
    | .tuple c => match cVs n c.toList with | some l => some (.tup l) | none => none
    | _ => none
def cVs : Nat → List Value → Option (List V)
  | 0, _ => none
  | _ + 1, [] => some []
  | n + 1, x :: l => match cV n x, cVs n l with | some v, some r => some (v :: r) | _, _ => none
end
def und (P : Program) (t : Nat) : TypeDesc := (P.underlying t).getD .invalid
/-- of many cells? -/
def aggO (P : Program) (t : Nat) : Option Bool := match P.underlying t with | some (.struct _) | some (.array _ _) => some true | some _ => some false | none => none
def szO (P : Program) (t : Nat) : Option Nat := match P.info? t with | some i => some i.size | none => none
/-- small elements -/
def byO (P : Program) (t : Nat) : Option Nat := match P.info? t with | some i => (match Nat.ble i.bytes 1000000 with | true => some i.bytes | false => none) | none => none
/-- where a struct's fields lie -/
def szs (P : Program) : List Field → Option (List (Nat × Nat))
  | [] => some []
  | f :: l => match szO P f.type, szs P l with | some s, some r => some ((f.offset, s) :: r) | _, _ => none
/-- the cells of a type's zero value -/
def zcells (P : Program) (t : Nat) : Option (List V) := ((P.info? t).bind (·.zero)).bind fun z => cVs 3000 z.cells.toList
def zcells1 (P : Program) (t : Nat) : Option (List V) := match zcells P t with | some l => (match l.all V.isOne with | true => some l | false => none) | none => none
def zval (P : Program) (t : Nat) : Option V := ((P.info? t).bind (·.zero)).bind fun z => cV 3000 z
/-- a small type, whose zero value has as many cells as it says -/
def zs1 (P : Program) (t : Nat) : Option (List V) := match zcells1 P t, szO P t, byO P t with
  | some z, some s, some _ => (match Nat.beq z.length s with | true => some z | false => none)
  | _, _, _ => none
noncomputable def okK {α : Type} (x : Option α) (k : α → Bool) : Bool := Option.rec false k x

/-- a record of plain cells, one by one: a number, or a truth value -/
def flatS (P : Program) : Nat → List Field → Option (List Bool)
  | _, [] => some []
  | i, f :: l => match f.name == "_", Nat.beq f.offset i, flatS P (i + 1) l with
    | false, true, some r => match P.underlying f.type with
      | some .bool => some (false :: r)
      | some (.int _) => some (true :: r)
      | _ => none
    | _, _, _ => none
def isC : Operand → Bool | .const _ => true | _ => false
noncomputable def v1 (vs : List V) (f : V → Bool) : Bool := List.rec false (fun x l _ => List.rec (f x) (fun _ _ _ => false) l) vs
noncomputable def v2 (vs : List V) (f : V → V → Bool) : Bool := List.rec false (fun x l _ => v1 l (f x)) vs
noncomputable def v3 (vs : List V) (f : V → V → V → Bool) : Bool := List.rec false (fun x l _ => v2 l (f x)) vs
noncomputable def vh (vs : List V) (f : V → List V → Bool) : Bool := List.rec false (fun x l _ => f x l) vs
/-- the next value, if one is wanted -/
noncomputable def vo (o : Option Operand) (vs : List V) (f : Option V → List V → Bool) : Bool :=
  Option.rec (f none vs) (fun _ => vh vs (fun x l => f (some x) l)) o
noncomputable def zipP (ps : List (Nat × Operand)) : List V → (List (Nat × V) → Bool) → Bool :=
  List.rec (motive := fun _ => List V → (List (Nat × V) → Bool) → Bool) (fun vs k => List.rec (k []) (fun _ _ _ => false) vs)
    (fun p _ ih vs k => vh vs (fun v vs => ih vs (fun r => k ((p.1, v) :: r)))) ps

noncomputable def evEq (P : Program) (neg : Bool) (t : Nat) (a b : Operand) (x y : V) (k : KV) : Bool :=
  match P.underlying t with
  | some (.int _) => match neg with | true => r_num b_neq (o_eq true) x y k | false => r_num b_eql (o_eq false) x y k
  | some .bool => r_eqB neg x y k
  | some .string => r_eqS neg x y k
  | some (.pointer e) => match szO P e with | none | some 0 => false | _ => r_eqP neg x y k
  | some (.slice _) => r_eqL neg x y k
  | some (.map _ _) => r_eqM neg x y k
  | some (.func _ _ _) => r_eqF neg x y k
  | some (.interface _) => match isC a || isC b with | true => r_eqN neg x y k | false => false
  | some (.struct fs) => match P.stoodInHeld t with | false => okK (flatS P 0 fs.toList) (fun cs => r_eqA neg cs x y k) | true => false
  | _ => false
noncomputable def evBin (P : Program) (op : BinOp) (t : Nat) (a b : Operand) (x y : V) (k : KV) : Bool :=
  match op with
  | .eql => evEq P false t a b x y k
  | .neq => evEq P true t a b x y k
  | .add => r_num b_add o_add x y k
  | .sub => r_num b_sub o_sub x y k
  | .mul => r_bin1 b_mul x y k
  | .quo => r_bin1 b_quo x y k
  | .rem => r_num b_rem o_rem x y k
  | .and => r_bin1 b_and x y k
  | .or => r_bin1 b_or x y k
  | .xor => r_bin1 b_xor x y k
  | .andNot => r_bin1 b_andNot x y k
  | .lss => r_bin1 b_lss x y k
  | .leq => r_bin1 b_leq x y k
  | .gtr => r_bin1 b_gtr x y k
  | .geq => r_bin1 b_geq x y k
  | .shl => r_bin b_shl x y k
  | .shr => r_bin b_shr x y k

noncomputable def evKey (P : Program) (t : Nat) (f : (V → (Tst → Bool) → Bool) → Bool) : Bool :=
  match P.underlying t with
  | some (.int j) => f (keyI j)
  | some .string => f keyS
  | _ => false
noncomputable def evSlice (lo hi mx : Option Operand) (vs : List V) (f : V → Option V → Option V → Option V → Bool) : Bool :=
  vh vs (fun x l => vo lo l (fun lo l => vo hi l (fun hi l => vo mx l (fun mx l => List.rec (f x lo hi mx) (fun _ _ _ => false) l))))

/-- an operation that reads -/
noncomputable def evR (P : Program) (op : Op) (vs : List V) (h : H) (k : KV) : Bool :=
  match op with
  | .move _ | .assign _ => v1 vs k
  | .pick _ _ _ => v3 vs (fun c x y => r_pick c x y k)
  | .build t ps => match P.underlying t with
    | some (.struct fs) => okK (zcells1 P t) (fun z => okK (szs P fs.toList) (fun pl => zipP ps.toList vs (fun ps => r_build pl z ps k)))
    | some (.array _ e) => okK (zcells1 P t) (fun z => okK (szO P e) (fun s => zipP ps.toList vs (fun ps => r_buildA s z ps k)))
    | _ => false
  | .load t _ => match aggO P t with
    | some true => okK (szO P t) (fun s => v1 vs (fun x => r_loadA s x h k))
    | some false => v1 vs (fun x => r_load1 x h k)
    | none => false
  | .nilCheck _ => v1 vs (fun x => r_nilc x k)
  | .binOp op t a b _ => v2 vs (fun x y => evBin P op t a b x y k)
  | .unOp .not _ _ => v1 vs (fun x => r_not x k)
  | .convert s d _ => match P.underlying s, P.underlying d with
    | some (.int _), some (.int j) => v1 vs (fun x => r_conv j x k)
    | _, _ => false
  | .makeInterface t _ => match P.underlying t with
    | none | some (.interface _) => false
    | _ => v1 vs (fun x => k (.ifc t x))
  | .makeFunc (.func f) first _ => fnK (toN f) first.toList vs k
  | .slice _ _ _ none (some _) => false
  | .slice t _ lo hi mx => match P.underlying t with
    | some (.slice e) => okK (szO P e) (fun s => evSlice lo hi mx vs (fun x lo hi mx => r_slice s x lo hi mx k))
    | some (.array n e) => okK (szO P e) (fun s => evSlice lo hi mx vs (fun x lo hi mx => r_slarr n s x lo hi mx k))
    | some (.pointer p) => match P.underlying p with
      | some (.array n e) => okK (szO P e) (fun s => evSlice lo hi mx vs (fun x lo hi mx => r_slarr n s x lo hi mx k))
      | _ => false
    | _ => false
  | .fieldAddr t _ f => match P.underlying t with
    | some (.struct fs) => okK fs.toList[f]? (fun fl => match szO P fl.type with | none | some 0 => false | _ => v1 vs (fun x => r_faddr fl.offset x k))
    | _ => false
  | .field t _ f => match P.underlying t with
    | some (.struct fs) => okK fs.toList[f]? (fun fl => match aggO P fl.type with
        | some true => okK (szO P fl.type) (fun s => v1 vs (fun x => r_fieldA s fl.offset x k))
        | some false => v1 vs (fun x => r_field1 fl.offset x k)
        | none => false)
    | _ => false
  | .indexAddr t _ _ => match P.underlying t with
    | some (.slice e) => okK (szO P e) (fun s => v2 vs (fun x i => r_iaddrS s x i k))
    | some (.array n e) => okK (szO P e) (fun s => v2 vs (fun x i => r_iaddrA n s x i k))
    | _ => false
  | .index t _ _ => match P.underlying t with
    | some (.array n e) => okK (szO P e) (fun s => match aggO P e with
      | some true => v2 vs (fun x i => r_indexA n s x i k)
      | some false => v2 vs (fun x i => r_index1 n s x i k)
      | none => false)
    | _ => false
  | .lookup t _ _ ok => match P.underlying t with
    | some (.map key e) => okK (zval P e) (fun z => evKey P key (fun key => v2 vs (fun m kv => r_look key z ok m kv h k)))
    | _ => false
  | .extract _ i => v1 vs (fun x => r_ext i x k)
  | .call { callee := .builtin .len, argTypes, .. } => match argTypes.toList with
    | t :: _ => match P.underlying t with
      | some (.slice _) => v1 vs (fun x => r_lenS x k)
      | some .string => v1 vs (fun x => r_lenT x k)
      | some (.map _ _) => v1 vs (fun x => r_lenM x h k)
      | some (.array n _) => v1 vs (fun _ => lenV n k)
      | some (.pointer p) => match P.underlying p with | some (.array n _) => v1 vs (fun _ => lenV n k) | _ => false
      | _ => false
    | _ => false
  | .call { callee := .builtin .min, .. } => v2 vs (fun x y => r_min x y k)
  | _ => false
 where
  fnK (f : N) : List Operand → List V → KV → Bool
    | first, vs, k => List.rec (motive := fun _ => List V → (List V → List V → Bool) → Bool) (fun vs k => k [] vs)
        (fun _ _ ih vs k => vh vs (fun v vs => ih vs (fun r s => k (v :: r) s))) first vs (fun r s => k (.fn f r s))

/-- an operation that makes -/
noncomputable def evA (P : Program) (op : Op) (vs : List V) (k : KO) : Bool :=
  match op with
  | .alloc e => okK (zcells1 P e) (fun z => a_alloc e z k)
  | .box e _ => v1 vs (fun x => a_box e x k)
  | .buildSlice t n ps => match P.underlying t with
    | some (.slice e) => okK (zs1 P e) (fun z => okK (szO P e) (fun s => match Nat.ble (n * s) 16777216 with
      | true => zipP ps.toList vs (fun ps => repK z n (fun z => a_buildSl e s z n ps k))
      | false => false))
    | _ => false
  | .makeMap _ none => a_mkmap k
  | .makeSlice t _ _ => match P.underlying t with
    | some (.slice e) => okK (zs1 P e) (fun z => v2 vs (fun l c => a_mksl e z l c k))
    | _ => false
  | _ => false

/-- a slice's end, or any part of it -/
noncomputable def evT (P : Program) (op : Op) (vs : List V) (h : H) (k : KH) : Bool :=
  match op with
  | .slice t _ lo none none => match P.underlying t with
    | some (.slice e) => okK (szO P e) (fun s => evSlice lo none none vs (fun x lo _ _ => x_slice s x lo h k))
    | _ => false
  | _ => false

/-- an operation that changes -/
noncomputable def evX (P : Program) (op : Op) (vs : List V) (call : Call) (h : H) (k : KH) : Bool :=
  match op with
  | .store t _ _ => match szO P t with
    | some s => match aggO P t with
      | some true => v2 vs (fun p v => x_storeA s p v h k)
      | some false => match s with | 1 => v2 vs (fun p v => x_store1 p v h k) | _ => false
      | none => false
    | none => false
  | .mapUpdate t _ _ _ | .insert t _ _ _ => match P.underlying t with
    | some (.map key _) => evKey P key (fun key => v3 vs (fun m kv v => x_mupd key m kv v h k))
    | _ => false
  | .call { callee := .value (.func f), .. } => vh vs (fun _ xs => x_call (toN f) xs call h k)
  | .call { callee := .value (.const _), .. } | .call { callee := .value (.tmp _), .. } => vh vs (fun f xs => x_callv f xs call h k)
  | .call { callee := .builtin .append, argTypes, .. } => match argTypes.toList with
    | [t, u] => match P.underlying t, P.underlying u with
      | some (.slice e), some (.slice _) => okK (zs1 P e) (fun _ => okK (szO P e) (fun s => v2 vs (fun x y => x_append e s x y h k)))
      | some (.slice e), some (.int _) => okK (zs1 P e) (fun z => okK (szO P e) (fun s => v2 vs (fun x y => x_appendz e s z x y h k)))
      | _, _ => false
    | _ => false
  | .call { callee := .builtin .clear, argTypes, .. } => match argTypes.toList with
    | t :: _ => match P.underlying t with
      | some (.slice e) => okK (zs1 P e) (fun z => v1 vs (fun x => x_clear z x h k))
      | _ => false
    | _ => false
  | .call { callee := .builtin .copy, argTypes, .. } => match argTypes.toList with
    | [t, u] => match P.underlying t, P.underlying u with
      | some (.slice e), some (.slice _) => okK (szO P e) (fun s => v2 vs (fun x y => x_copy s x y h k))
      | _, _ => false
    | _ => false
  | .call { callee := .builtin .delete, argTypes, .. } => match argTypes.toList with
    | t :: _ => match P.underlying t with
      | some (.map key _) => evKey P key (fun key => v2 vs (fun m kv => x_delete key m kv h k))
      | _ => false
    | _ => false
  | _ => false

/-! Regions -/
inductive It where
  | R (i : Nat)
  | A (i : Nat)
  | B (i : Nat)
  | L (i : Nat)
  | T (i : Nat)
  | X (i : Nat)
  | D (i : Nat)
  | K (i : Nat)
/-- a schedule of a region that draws: operations whose value is told ahead (N: reading ones, B: making ones); a changing one, what is laid before it, what is read again behind it; at the end, what is laid there -/
inductive Dr where
  | N (i : Nat)
  | B (i : Nat)
  | E (i : Nat) (lays reads : List Nat)
  | F (lays : List Nat)
def flat : List Dr → List It
  | [] => []
  | .N i :: l => .R i :: flat l
  | .B i :: l => .B i :: flat l
  | .E i ls ks :: l => ls.map .L ++ .X i :: (ks.map .K ++ flat l)
  | .F ls :: l => ls.map .L ++ flat l
def find {α : Type} (t : Nat) : List (Nat × α) → Option α
  | [] => none
  | (u, v) :: l => match Nat.beq t u with | true => some v | false => find t l
def slotAt (t : Nat) : List Nat → Nat → Option Nat
  | [], _ => none
  | u :: l, i => match Nat.beq t u with | true => some i | false => slotAt t l (i + 1)
noncomputable def slot (ks : List Nat) (t : Nat) : Option N := Option.rec none (fun i => some (toN i)) (slotAt t ks 1)
structure Cx where
  P : Program
  ks : List Nat
  nt : Nat
  ops : List Oper
abbrev Env := List (Nat × V)
noncomputable def fetch (cx : Cx) (env : Env) (x : Operand) (a : A) (k : KV) : Bool :=
  match x with
  | .const v => okK (cV 3000 v) k
  | .func f => k (.fn (toN f) [] [])
  | .global g => match Nat.blt g cx.P.globals.size with | true => k (.ptr (toN g) 0) | false => false
  | .tmp t => match find t env with
    | some v => k v
    | none => okK (slot cx.ks t) (fun s => s_get s a k)
noncomputable def fetchL (cx : Cx) (env : Env) (l : List Operand) (a : A) (k : List V → Bool) : Bool :=
  List.rec (motive := fun _ => (List V → Bool) → Bool) (fun k => k []) (fun x _ ih k => fetch cx env x a (fun v => ih (fun r => k (v :: r)))) l k
noncomputable def guardK {κ : Type} (cx : Cx) (env : Env) (g : Option (Nat × Bool)) (op : κ → Bool) (no : κ → Bool) (k : κ) : Bool :=
  match g with
  | none => op k
  | some (j, w) => okK (((cx.ops[j]?).bind (·.dst)).bind (find · env)) (fun g => s_if g w op no k)
noncomputable def bindK (cx : Cx) (dst : Option Nat) (v : V) (a : A) (k : A → Bool) : Bool :=
  match dst with
  | none => k a
  | some t => match Nat.blt t cx.nt with
    | true => match slot cx.ks t with
      | some s => s_set s v a k
      | none => k a
    | false => false
def push (dst : Option Nat) (v : V) (env : Env) : Env := match dst with | none => env | some t => (t, v) :: env
def isDefer : Op → Bool | .defer { callee := .value _, .. } => true | _ => false
abbrev Ob := Option (N × O)
/-! shorter words for the functions' texts -/
noncomputable def kV (v : V) (k : KV) : Bool := k v
noncomputable def gR (g : V) (w : Bool) (op : KV → Bool) (k : KV) : Bool := s_if (κ := KV) g w op (fun k => k V.undef) k
noncomputable def gH (g : V) (w : Bool) (h : H) (op : KH → Bool) (k : KH) : Bool := s_if (κ := KH) g w op (fun k => k V.undef h) k
noncomputable def gA (g : V) (w : Bool) (a : A) (op : (A → Bool) → Bool) (k : A → Bool) : Bool := s_if (κ := A → Bool) g w op (fun k => k a) k
noncomputable def gB (g : V) (w : Bool) (h : H) (op : (V → Ob → H → Bool) → Bool) (k : V → Ob → H → Bool) : Bool := s_if (κ := V → Ob → H → Bool) g w op (fun k => k V.undef none h) k
noncomputable def aK (op : KO → Bool) (h : H) (k : KH) : Bool := op (fun mk o => H.newK h o (fun n h => k (mk n) h))
noncomputable def bK (op : KO → Bool) (h : H) (k : V → Ob → H → Bool) : Bool := op (fun mk o => H.nextK h (fun n h => k (mk n) (some (n, o)) h))
def badR : KV → Bool := fun _ => false
def badH : KH → Bool := fun _ => false
def badB : (V → Ob → H → Bool) → Bool := fun _ => false
noncomputable def layK (ob : Ob) (h : H) (k : H → Bool) : Bool := Option.rec (k h) (fun p => h.putK p.1 p.2 k) ob
abbrev RK := Env → List (Nat × Ob) → A → H → KA → Bool
noncomputable def evIt (cx : Cx) (call : Call) (it : It) (ih : RK) : RK := fun env obs a h kn =>
  match it with
  | .R i => okK cx.ops[i]? (fun o => fetchL cx env o.op.operands.toList a (fun vs =>
      guardK cx env o.guard (fun k => evR cx.P o.op vs h k) (fun k : KV => k V.undef) (fun v => bindK cx o.dst v a (fun a => ih (push o.dst v env) obs a h kn))))
  | .A i => okK cx.ops[i]? (fun o => fetchL cx env o.op.operands.toList a (fun vs =>
      guardK cx env o.guard (fun k => evA cx.P o.op vs (fun mk ob => h.newK ob (fun n h => k (mk n) h))) (fun k : KH => k V.undef h)
        (fun v h => bindK cx o.dst v a (fun a => ih (push o.dst v env) obs a h kn))))
  | .B i => okK cx.ops[i]? (fun o => fetchL cx env o.op.operands.toList a (fun vs =>
      guardK cx env o.guard (fun k => evA cx.P o.op vs (fun mk ob => h.nextK (fun n h => k (mk n) (some (n, ob)) h))) (fun k : V → Ob → H → Bool => k V.undef none h)
        (fun v ob h => bindK cx o.dst v a (fun a => ih (push o.dst v env) ((i, ob) :: obs) a h kn))))
  | .L i => okK (find i obs) (fun ob => layK ob h (fun h => ih env obs a h kn))
  | .T i => okK cx.ops[i]? (fun o => fetchL cx env o.op.operands.toList a (fun vs =>
      guardK cx env o.guard (fun k => evT cx.P o.op vs h k) (fun k : KH => k V.undef h) (fun v h => bindK cx o.dst v a (fun a => ih (push o.dst v env) obs a h kn))))
  | .X i => okK cx.ops[i]? (fun o => fetchL cx env o.op.operands.toList a (fun vs =>
      guardK cx env o.guard (fun k => evX cx.P o.op vs call h k) (fun k : KH => k V.undef h) (fun v h => bindK cx o.dst v a (fun a => ih (push o.dst v env) obs a h kn))))
  | .D i => okK cx.ops[i]? (fun o => fetchL cx env o.op.operands.toList a (fun vs =>
      guardK cx env o.guard (fun k => match isDefer o.op with | true => vh vs (fun f xs => x_defer f xs a k) | false => false) (fun k : A → Bool => k a) (fun a => bindK cx o.dst V.undef a (fun a => ih (push o.dst V.undef env) obs a h kn))))
  | .K i => okK cx.ops[i]? (fun o => okK (o.dst.bind (find · env)) (fun u => fetchL cx env o.op.operands.toList a (fun vs =>
      guardK cx env o.guard (fun k => evR cx.P o.op vs h k) (fun k : KV => k V.undef) (fun v => sameK v u (ih env obs a h kn)))))
noncomputable def evIts (cx : Cx) (call : Call) (l : List It) : RK :=
  List.rec (motive := fun _ => RK) (fun _ _ a h kn => kn a h) (fun it _ ih => evIt cx call it ih) l

/-- the kind of an operation, in a region whose order is the text's -/
def kindOf (P : Program) (i : Nat) (o : Oper) : It :=
  match o.op with
  | .alloc _ | .box _ _ | .buildSlice _ _ _ | .makeMap _ _ | .makeSlice _ _ _ => .A i
  | .store .. | .mapUpdate .. | .insert .. => .X i
  | .call { callee := .builtin .len, .. } | .call { callee := .builtin .min, .. } => .R i
  | .call _ => .X i
  | .defer _ => .D i
  | .slice t _ _ none none => match P.underlying t with | some (.slice _) => .T i | _ => .R i
  | _ => .R i
def textOrder (P : Program) : Nat → List Oper → List It
  | _, [] => []
  | i, o :: l => kindOf P i o :: textOrder P (i + 1) l

/-! Functions -/
structure Fx where
  P : Program
  ks : List Nat
  nt : Nat
  sch : List (Nat × List Dr)
/-- does an operation read the heap? -/
def heapB (P : Program) : Op → Bool
  | .load _ _ | .lookup _ _ _ _ => true
  | .call { callee := .builtin .len, argTypes, .. } => match argTypes.toList with
    | t :: _ => (match P.underlying t with | some (.map _ _) => true | _ => false)
    | _ => false
  | _ => false
/-! The checker of a schedule -/
def edges (o : Oper) : List Nat := (o.after.toList.filter (Region.binds .any ·)).map (·.on)
/-- what stands before an operation, by its edges -/
def befOne (acc : List (List Nat)) (o : Oper) : List Nat := ((edges o).flatMap fun j => j :: (acc[j]?).getD []).eraseDups
def befs : List Oper → List (List Nat) → List (List Nat)
  | [], acc => acc
  | o :: l, acc => befs l (acc ++ [befOne acc o])
def bOf (B : List (List Nat)) (i : Nat) : List Nat := (B[i]?).getD []
def has (l : List Nat) (i : Nat) : Bool := l.any (Nat.beq i)
def dstOf (ops : List Oper) (i : Nat) : Option Nat := (ops[i]?).bind (·.dst)
def tmpsOf (o : Oper) : List Nat := o.op.operands.toList.filterMap fun | .tmp t => some t | _ => none
/-- a temporary that operation i looks at: made by one that stands before it, or by one that it stands before -/
def tmpOk (ops : List Oper) (B : List (List Nat)) (i : Nat) (C : List Nat) (t : Nat) : Bool :=
  (List.range ops.length).all fun j => match dstOf ops j with
    | some d => !Nat.beq d t || has (bOf B i) j || (has (bOf B j) i && !has C j)
    | none => true
def gOk (B : List (List Nat)) (i : Nat) (o : Oper) : Bool := match o.guard with | none => true | some (g, _) => has (bOf B i) g
def chkOp (ops : List Oper) (B : List (List Nat)) (i : Nat) (C : List Nat) (last : Option Nat) : Bool :=
  match ops[i]? with
  | none => false
  | some o => !has C i && (bOf B i).all (has C) && (match last with | none => true | some e => has (bOf B i) e) && (tmpsOf o).all (tmpOk ops B i C) && gOk B i o
def nodup : List Nat → Bool
  | [] => true
  | i :: l => !has l i && nodup l
def chk (P : Program) (ops : List Oper) (B : List (List Nat)) : List Nat → Option Nat → List Nat → List Dr → Bool
  | C, _, U, [] => U.isEmpty && (List.range ops.length).all (has C)
  | C, last, U, .N i :: l => chkOp ops B i C last && chk P ops B (i :: C) last U l
  | C, last, U, .B i :: l => chkOp ops B i C last && chk P ops B (i :: C) last (i :: U) l
  | C, last, U, .E i ls ks :: l => chkOp ops B i C last && nodup ls && ls.all (fun j => has U j && has (bOf B i) j) &&
      C.all (fun j => (match ops[j]? with | some o => !heapB P o.op | none => false) || has (bOf B i) j || has ks j) &&
      ks.all (fun k => has C k && (match ops[k]? with | some o => (tmpsOf o).all (tmpOk ops B k (i :: C)) && gOk B k o | none => false)) &&
      chk P ops B (i :: C) (some i) (U.filter (fun j => !has ls j)) l
  | C, _, U, .F ls :: l => (match l with | [] => true | _ => false) && (List.range ops.length).all (has C) && nodup ls && ls.all (has U) && U.all (has ls)
/-- each temporary is made once; edges go back -/
def onceOk : List Oper → Bool
  | [] => true
  | o :: l => (match o.dst with | some d => l.all (fun p => match p.dst with | some e => !Nat.beq e d | none => true) | none => true) && onceOk l
def backOk : Nat → List Oper → Bool
  | _, [] => true
  | i, o :: l => (edges o).all (Nat.blt · i) && backOk (i + 1) l
def okOrder (P : Program) (ops : List Oper) (its : List Dr) : Bool :=
  onceOk ops && backOk 0 ops && P.follows .mixedOrders && chk P ops (befs ops []) [] none [] its
noncomputable def evReg (fx : Fx) (id : Nat) (ops : Array Oper) (draw : Bool) : CK :=
  match draw with
  | false => fun call a h kn _ _ => evIts { P := fx.P, ks := fx.ks, nt := fx.nt, ops := ops.toList } call (textOrder fx.P 0 ops.toList) [] [] a h kn
  | true => match find id fx.sch with
    | some its => match okOrder fx.P ops.toList its with
      | true => fun call a h kn _ _ => evIts { P := fx.P, ks := fx.ks, nt := fx.nt, ops := ops.toList } call (flat its) [] [] a h kn
      | false => c_bad
    | none => c_bad
noncomputable def evCond (fx : Fx) (x : Operand) (c d : CK) : CK :=
  match x with
  | .tmp t => match slot fx.ks t with
    | some s => c_cond s c d
    | none => c_bad
  | .const (.bool b) => c_condc (.bool b) c d
  | _ => c_bad
noncomputable def evCode (fx : Fx) (c : Code) : CK :=
  Code.rec (motive := fun _ => CK) c_skip (fun id ops draw => evReg fx id ops draw) (fun _ _ x y => c_seq x y) (fun x _ _ c d => evCond fx x c d)
    (fun id _ c => c_block id c) (fun _ c => c_loop c) (fun _ _ _ _ _ _ => c_bad) c_exit (fun _ _ => c_bad) (fun _ => c_skip) (fun _ => c_bad) c_ret (fun _ => c_bad) c
noncomputable def evRes (P : Program) (ks : List Nat) (r : ResultVar) : Option RV :=
  match r with
  | .tmp t => Option.rec none (fun s => some (.tmp s)) (slot ks t)
  | .cell t u => Option.rec none (fun s => match aggO P u with | some true => Option.rec none (fun n => some (.cellA s n)) (szO P u) | some false => some (.cell1 s) | none => none) (slot ks t)
noncomputable def evRess (P : Program) (ks : List Nat) (l : List ResultVar) : Option (List RV) :=
  List.rec (some []) (fun r _ ih => Option.rec none (fun v => Option.rec none (fun l => some (v :: l)) ih) (evRes P ks r)) l
/-- the parameters stand first among the temporaries that are kept -/
def okPar : Nat → Nat → List Nat → Bool
  | 0, _, _ => true
  | n + 1, i, t :: ks => Nat.beq t i && okPar n (i + 1) ks
  | _ + 1, _, [] => false
noncomputable def evFn (P : Program) (fn : Func) (np : Nat) (ks : List Nat) (sch : List (Nat × List Dr)) : Option F :=
  match okPar np 0 ks with
  | true => Option.rec none (fun body => Option.rec none (fun res => some (.mk np res (evCode { P := P, ks := ks, nt := fn.ntmps, sch := sch } body))) (evRess P ks fn.results.toList)) fn.body
  | false => none
end Go.Ev

