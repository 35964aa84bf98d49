/-
  A table with one loan. Plain facts.
-/
import Derived.Test.YtfbicbdfmcdadaaDoorGrFirst
import Derived.Test.YtfbicbdfmcdadaaDoorGrLent
namespace Go.Proofs.YtfbicbdfmcdadaaDoor
open Go.RowKit

theorem any_set {α : Type} (p : α → Bool) (d : α) (hd : p d = false) : ∀ (n r : Nat) (x : α), r < n → ((List.replicate n d).set r x).any p = p x
  | 0, r, x, h => by omega
  | n + 1, 0, x, h => by
    have : (List.replicate n d).any p = false := by
      rw [List.any_eq_false]
      intro y hy
      rw [List.eq_of_mem_replicate hy, hd]
      simp
    simp [List.replicate_succ, this]
  | n + 1, r + 1, x, h => by
    have := any_set p d hd n r x (by omega)
    rw [List.replicate_succ, List.set_cons_succ, List.any_cons, this, hd]
    rfl
def one1 (r : Nat) (x : Gr) : List Gr := none16.set r x
theorem one1_set (r : Nat) (x y : Gr) : (one1 r x).set r y = one1 r y := by simp [one1]
theorem one1_get (r : Nat) (x : Gr) (h : r < 16) : (one1 r x).getD r default = x := by
  rw [one1, List.getD_eq_getElem?_getD, List.getElem?_set]
  simp [none16, h]
theorem one1_lent (r : Nat) (x : Gr) (h : r < 16) (f b : Int) : lentIs (one1 r x) f b = lentTo f b x := any_set (lentTo f b) {} rfl 16 r x h
theorem one1_lentW (r : Nat) (x : Gr) (h : r < 16) (f b : Int) : lentW (one1 r x) f b = (lentTo f b x && x.w) := any_set (fun x => lentTo f b x && x.w) {} rfl 16 r x h
theorem one1_live (r : Nat) (x : Gr) (h : r < 16) : liveAt (one1 r x) (r : Int) = if x.live = true then some r else none := by
  unfold liveAt
  rw [Int.toNat_natCast, one1_get r x h]
  by_cases e : x.live = true
  · rw [if_pos e, if_pos ⟨by omega, by omega, e⟩]
  · rw [if_neg e, if_neg (fun h => e h.2.2)]
theorem none16_get (r : Nat) (h : r < 16) : none16.getD r default = {} := by
  rw [none16, List.getD_eq_getElem?_getD, List.getElem?_replicate, if_pos h]
  rfl

/-- Map, Revoke of a table with one loan -/
theorem revoke_one (r b : Nat) (x : Gr) (w : World) (hr : r < 16) (h : GAt w b (one1 r x)) (hl : x.live = true) (hu : x.used = false) :
    Calls Tryd.prog 56 #[.pointer (some ⟨b, 0, none⟩), .int .i64 r] w fun e w' => e = .returned .nilIface ∧ GAt w' b (one1 r {}) ∧ Only (fun k => k = b) w w' := by
  have := revoke_ok (one1 r x) b r r w h (by rw [one1_live r x hr, if_pos hl]) (by rw [one1_get r x hr]; exact hu)
  rw [one1_set] at this
  exact this
theorem map_one (r b : Nat) (x : Gr) (w : World) (hr : r < 16) (h : GAt w b (one1 r x)) (hl : x.live = true) (hu : x.used = false) :
    Calls Tryd.prog 54 #[.pointer (some ⟨b, 0, none⟩), .int .i64 r, .int .i64 x.to_] w fun e w' => e = .returned (.tuple #[.int .i64 x.frame, .bool x.w, .nilIface]) ∧ GAt w' b (one1 r { x with used := true }) ∧ Only (fun k => k = b) w w' := by
  have := map_ok (one1 r x) b r r x.to_ w h (by rw [one1_live r x hr, if_pos hl]) (by rw [one1_get r x hr]) (by rw [one1_get r x hr]; exact hu)
  rw [one1_set, one1_get r x hr] at this
  exact this
theorem unmap_one (r b : Nat) (x : Gr) (w : World) (hr : r < 16) (h : GAt w b (one1 r x)) (hl : x.live = true) (hu : x.used = true) :
    Calls Tryd.prog 57 #[.pointer (some ⟨b, 0, none⟩), .int .i64 r, .int .i64 x.to_] w fun e w' => e = .returned .nilIface ∧ GAt w' b (one1 r { x with used := false }) ∧ Only (fun k => k = b) w w' := by
  have := unmap_ok (one1 r x) b r r x.to_ w h (by rw [one1_live r x hr, if_pos hl]) (by rw [one1_get r x hr]) (by rw [one1_get r x hr]; exact hu)
  rw [one1_set, one1_get r x hr] at this
  exact this
end Go.Proofs.YtfbicbdfmcdadaaDoor
