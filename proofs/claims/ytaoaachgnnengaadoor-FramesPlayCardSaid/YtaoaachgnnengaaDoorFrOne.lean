/-
  frames.Frames: Make at any kind; frames of which the first alone is somebody's.
-/
import Derived.Test.YtaoaachgnnengaaDoorFrDo
namespace Go.Proofs.YtaoaachgnnengaaDoor
open Go.RowKit

/-- nobody of that name has any -/
def frOf0 (l : List Fr) (who : Int) : Prop := ∀ x ∈ l, x.owner ≠ who
set_option maxHeartbeats 1600000 in
theorem fmake_bad (E : Nat → Addr) (l : List Fr) (b g cap : Nat) (i who kind : Int) (w : World) (hE : ErrsAt errT gOf w E all16) (h : FrAt 95 33 w b g cap l) (hk : ¬ (kind = 1 ∨ kind = 2)) :
    Calls Tryd.prog 23 #[.pointer (some ⟨b, 0, none⟩), .int .i64 i, .int .i64 who, .int .i64 kind] w (FrQ 95 33 E b g cap ⟨l, 0, 103⟩ w) := by
  have e2 : w.cell? ⟨0, 0, none⟩ = some (errV (E 2)) := (hE.1 2 (by decide)).1
  have h1 : (kind != 1) = true := by simp; omega
  have h2 : (kind != 2) = true := by simp; omega
  have H := Lib.hid h
  clear h hE hk
  unfold FrQ
  dsimp only
  go_enter Tryd.func23, Tryd.ntmps23
  go_wp2
  go_ret
  exact ⟨rfl, H.out, Only.refl _ _⟩
theorem fmake_any (E : Nat → Addr) (l : List Fr) (b g cap : Nat) (i who kind : Int) (w : World) (hE : ErrsAt errT gOf w E all16) (h : FrAt 95 33 w b g cap l) :
    Calls Tryd.prog 23 #[.pointer (some ⟨b, 0, none⟩), .int .i64 i, .int .i64 who, .int .i64 kind] w (FrQ 95 33 E b g cap (frMake l i who kind) w) := by
  unfold frMake
  by_cases h1 : kind = 1
  · subst h1
    rw [if_pos (.inl rfl)]
    exact fmake1 E l b g cap i who w hE h
  · by_cases h2 : kind = 2
    · subst h2
      rw [if_pos (.inr rfl)]
      exact fmake2 E l b g cap i who w hE h
    · rw [if_neg (by omega)]
      exact fmake_bad E l b g cap i who kind w hE h (by omega)

/-- the first is x, the others are nobody's -/
def oneF (a : Nat) (x : Fr) : List Fr := x :: List.replicate a frNo
theorem oneF_at (a : Nat) (x : Fr) (h : x.owner ≠ -1) : frAt (oneF a x) 0 = some 0 := by
  unfold frAt oneF
  rw [if_pos ⟨Int.le_refl 0, by simp <;> omega, h⟩]
  rfl
theorem oneF_mine (a : Nat) (x y : Fr) (c : Int) (k : Fr → Fr × Int) (h : x.owner ≠ -1) (hk : k x = (y, c)) : frMine (oneF a x) 0 x.owner k = ⟨oneF a y, 0, c⟩ := by
  unfold frMine
  rw [oneF_at a x h]
  show (if x.owner = x.owner then FrR.mk ((oneF a x).set 0 (k x).1) 0 (k x).2 else _) = _
  rw [if_pos rfl, hk]
  rfl
theorem oneF_not (a : Nat) (x : Fr) (who : Int) (k : Fr → Fr × Int) (h : x.owner ≠ -1) (hw : x.owner ≠ who) : frMine (oneF a x) 0 who k = ⟨oneF a x, 0, 110⟩ := by
  unfold frMine
  rw [oneF_at a x h]
  show (if x.owner = who then _ else FrR.mk (oneF a x) 0 110) = _
  rw [if_neg hw]
theorem oneF_gone (a : Nat) (who : Int) (k : Fr → Fr × Int) : frMine (oneF a frNo) 0 who k = ⟨oneF a frNo, 0, 107⟩ := by
  unfold frMine
  rw [show frAt (oneF a frNo) 0 = none from by unfold frAt; rw [if_neg (fun h => h.2.2 rfl)]]
theorem oneF_there (a : Nat) (x y : Fr) (c : Int) (k : Fr → Fr × Int) (h : x.owner ≠ -1) (hk : k x = (y, c)) : frThere (oneF a x) 0 k = ⟨oneF a y, 0, c⟩ := by
  unfold frThere
  rw [oneF_at a x h]
  show FrR.mk ((oneF a x).set 0 (k x).1) 0 (k x).2 = _
  rw [hk]
  rfl
theorem oneF_in (a : Nat) (x : Fr) (h : (0 ≤ x.wr ∧ x.wr ≤ 1000000) ∧ (0 ≤ x.us ∧ x.us ≤ 1000000)) : ∀ n, n < (oneF a x).length → (0 ≤ ((oneF a x).getD n default).wr ∧ ((oneF a x).getD n default).wr ≤ 1000000) ∧ (0 ≤ ((oneF a x).getD n default).us ∧ ((oneF a x).getD n default).us ≤ 1000000) := fun n hn => by
  cases n with
  | zero => exact h
  | succ n =>
    have hn' : n < a := by simpa [oneF] using hn
    have : (oneF a x).getD (n + 1) default = frNo := by
      show (List.replicate a frNo).getD n default = frNo
      rw [List.getD_eq_getElem?_getD, List.getElem?_replicate, if_pos hn']
      rfl
    rw [this]
    exact ⟨⟨Int.le_refl 0, by decide⟩, ⟨Int.le_refl 0, by decide⟩⟩
theorem oneF_of (a : Nat) (who : Int) (h : who ≠ -1) : frOf0 (oneF a frNo) who := fun x hx => by
  simp only [oneF, List.mem_cons, List.mem_replicate] at hx
  rcases hx with rfl | ⟨-, rfl⟩
  · exact fun e => h e.symm
  · exact fun e => h e.symm
theorem one_write (E : Nat → Addr) (a b g n : Nat) (x y : Fr) (c : Int) (v : Value) (w : World) (hE : ErrsAt errT gOf w E all16) (h : FrAt 95 33 w b g n (oneF a x)) (ho : x.owner ≠ -1) (hI : (0 ≤ x.wr ∧ x.wr ≤ 1000000) ∧ (0 ≤ x.us ∧ x.us ≤ 1000000)) (hk : kWrite x = (y, c)) (hv : errC E c = v) :
    Calls Tryd.prog 21 #[.pointer (some ⟨b, 0, none⟩), .int .i64 0] w fun e w' => e = .returned v ∧ FrAt 95 33 w' b g n (oneF a y) ∧ Only (fun k => k = g) w w' := by
  have := fwrite_any E (oneF a x) b g n 0 w (oneF_in a x hI) hE h
  rw [oneF_there a x y c kWrite ho hk] at this
  unfold FrQ at this
  dsimp only at this
  rw [hv] at this
  exact this
theorem one_unwrite (E : Nat → Addr) (a b g n : Nat) (x y : Fr) (c : Int) (v : Value) (w : World) (hE : ErrsAt errT gOf w E all16) (h : FrAt 95 33 w b g n (oneF a x)) (ho : x.owner ≠ -1) (hI : (0 ≤ x.wr ∧ x.wr ≤ 1000000) ∧ (0 ≤ x.us ∧ x.us ≤ 1000000)) (hk : kUnwrite x = (y, c)) (hv : errC E c = v) :
    Calls Tryd.prog 26 #[.pointer (some ⟨b, 0, none⟩), .int .i64 0] w fun e w' => e = .returned v ∧ FrAt 95 33 w' b g n (oneF a y) ∧ Only (fun k => k = g) w w' := by
  have := funwrite_any E (oneF a x) b g n 0 w (oneF_in a x hI) hE h
  rw [oneF_there a x y c kUnwrite ho hk] at this
  unfold FrQ at this
  dsimp only at this
  rw [hv] at this
  exact this
theorem one_use (E : Nat → Addr) (a b g n : Nat) (x y : Fr) (c : Int) (v : Value) (w : World) (hE : ErrsAt errT gOf w E all16) (h : FrAt 95 33 w b g n (oneF a x)) (ho : x.owner ≠ -1) (hI : (0 ≤ x.wr ∧ x.wr ≤ 1000000) ∧ (0 ≤ x.us ∧ x.us ≤ 1000000)) (hk : kUse x = (y, c)) (hv : errC E c = v) :
    Calls Tryd.prog 22 #[.pointer (some ⟨b, 0, none⟩), .int .i64 0] w fun e w' => e = .returned v ∧ FrAt 95 33 w' b g n (oneF a y) ∧ Only (fun k => k = g) w w' := by
  have := fuse_any E (oneF a x) b g n 0 w (oneF_in a x hI) hE h
  rw [oneF_there a x y c kUse ho hk] at this
  unfold FrQ at this
  dsimp only at this
  rw [hv] at this
  exact this
theorem one_unuse (E : Nat → Addr) (a b g n : Nat) (x y : Fr) (c : Int) (v : Value) (w : World) (hE : ErrsAt errT gOf w E all16) (h : FrAt 95 33 w b g n (oneF a x)) (ho : x.owner ≠ -1) (hI : (0 ≤ x.wr ∧ x.wr ≤ 1000000) ∧ (0 ≤ x.us ∧ x.us ≤ 1000000)) (hk : kUnuse x = (y, c)) (hv : errC E c = v) :
    Calls Tryd.prog 25 #[.pointer (some ⟨b, 0, none⟩), .int .i64 0] w fun e w' => e = .returned v ∧ FrAt 95 33 w' b g n (oneF a y) ∧ Only (fun k => k = g) w w' := by
  have := funuse_any E (oneF a x) b g n 0 w (oneF_in a x hI) hE h
  rw [oneF_there a x y c kUnuse ho hk] at this
  unfold FrQ at this
  dsimp only at this
  rw [hv] at this
  exact this
theorem one_free (E : Nat → Addr) (a b g n : Nat) (x y : Fr) (c : Int) (v : Value) (who : Int) (w : World) (hE : ErrsAt errT gOf w E all16) (h : FrAt 95 33 w b g n (oneF a x)) (ho : x.owner ≠ -1) (hw : who = x.owner) (hk : kFree x = (y, c)) (hv : errC E c = v) :
    Calls Tryd.prog 15 #[.pointer (some ⟨b, 0, none⟩), .int .i64 0, .int .i64 who] w fun e w' => e = .returned v ∧ FrAt 95 33 w' b g n (oneF a y) ∧ Only (fun k => k = g) w w' := by
  subst hw
  have := ffree_any E (oneF a x) b g n 0 x.owner w hE h
  skip
  rw [oneF_mine a x y c (kFree) ho hk] at this
  unfold FrQ at this
  dsimp only at this
  rw [hv] at this
  exact this
theorem one_plain (E : Nat → Addr) (a b g n : Nat) (x y : Fr) (c : Int) (v : Value) (who : Int) (w : World) (hE : ErrsAt errT gOf w E all16) (h : FrAt 95 33 w b g n (oneF a x)) (ho : x.owner ≠ -1) (hw : who = x.owner) (hk : kPlain x = (y, c)) (hv : errC E c = v) :
    Calls Tryd.prog 24 #[.pointer (some ⟨b, 0, none⟩), .int .i64 0, .int .i64 who] w fun e w' => e = .returned v ∧ FrAt 95 33 w' b g n (oneF a y) ∧ Only (fun k => k = g) w w' := by
  subst hw
  have := fplain_any E (oneF a x) b g n 0 x.owner w hE h
  skip
  rw [oneF_mine a x y c (kPlain) ho hk] at this
  unfold FrQ at this
  dsimp only at this
  rw [hv] at this
  exact this
theorem one_make (E : Nat → Addr) (a b g n : Nat) (x y : Fr) (c : Int) (v : Value) (kind : Int) (who : Int) (w : World) (hE : ErrsAt errT gOf w E all16) (h : FrAt 95 33 w b g n (oneF a x)) (ho : x.owner ≠ -1) (hkd : kind = 1 ∨ kind = 2) (hw : who = x.owner) (hk : kMake kind x = (y, c)) (hv : errC E c = v) :
    Calls Tryd.prog 23 #[.pointer (some ⟨b, 0, none⟩), .int .i64 0, .int .i64 who, .int .i64 kind] w fun e w' => e = .returned v ∧ FrAt 95 33 w' b g n (oneF a y) ∧ Only (fun k => k = g) w w' := by
  subst hw
  have := fmake_any E (oneF a x) b g n 0 x.owner kind w hE h
  unfold frMake at this
  rw [if_pos hkd] at this
  rw [oneF_mine a x y c (kMake kind) ho hk] at this
  unfold FrQ at this
  dsimp only at this
  rw [hv] at this
  exact this
theorem one_make_not (E : Nat → Addr) (a b g n : Nat) (x : Fr) (kind who : Int) (w : World) (hE : ErrsAt errT gOf w E all16) (h : FrAt 95 33 w b g n (oneF a x)) (ho : x.owner ≠ -1) (hkd : kind = 1 ∨ kind = 2) (hw : x.owner ≠ who) :
    Calls Tryd.prog 23 #[.pointer (some ⟨b, 0, none⟩), .int .i64 0, .int .i64 who, .int .i64 kind] w fun e w' => e = .returned (errV (E 9)) ∧ FrAt 95 33 w' b g n (oneF a x) ∧ Only (fun k => k = g) w w' := by
  have := fmake_any E (oneF a x) b g n 0 who kind w hE h
  unfold frMake at this
  rw [if_pos hkd, oneF_not a x who (kMake kind) ho hw] at this
  exact this
theorem one_free_gone (E : Nat → Addr) (a b g n : Nat) (who : Int) (w : World) (hE : ErrsAt errT gOf w E all16) (h : FrAt 95 33 w b g n (oneF a frNo)) :
    Calls Tryd.prog 15 #[.pointer (some ⟨b, 0, none⟩), .int .i64 0, .int .i64 who] w fun e w' => e = .returned (errV (E 6)) ∧ FrAt 95 33 w' b g n (oneF a frNo) ∧ Only (fun k => k = g) w w' := by
  have := ffree_any E (oneF a frNo) b g n 0 who w hE h
  rw [oneF_gone a who kFree] at this
  exact this
end Go.Proofs.YtaoaachgnnengaaDoor
