/-
  grant.Table: Lent.
-/
import Derived.Test.YtmeljclaocgoaaaDoorGr
import Derived.Test.YtmeljclaocgoaaaDoorRow
namespace Go.Proofs.YtmeljclaocgoaaaDoor
open Go.RowKit

theorem index_part {P : Program} {t e : TypeId} {len n : Nat} {d : TypeDesc} (ht : P.underlying t = some (.array len e)) (hd : P.underlying e = some d) (hag : (match d with | .struct _ | .array _ _ => true | _ => false) = true)
    (hn : (P.info? e).map (·.size) = some n) (cs : Array Value) (j : Nat) (hj : j < len) (w : World) : (Instr.index t (.agg cs) (.int .i64 (j : Int))).run P w = .ok (.agg (cs.extract (j * n) (j * n + n))) w := by
  obtain ⟨i, hi, hs⟩ := Option.map_eq_some_iff.1 hn
  have hagg : (isAgg e).run P w = .ok true w := by
    unfold isAgg
    rw [Sem.run_bind, run_underlying hd w]
    cases d <;> simp_all
  simp [Instr.index, asIntOf, run_underlying ht, part, hagg, sizeOf, typeInfo, hi, hs, hj, go_sem]
theorem grCells_extract (l : List Gr) (j : Nat) (hj : j < l.length) : (grCells l).toArray.extract (j * 5) (j * 5 + 5) = (grOne (l.getD j default)).toArray := by
  apply Array.toList_inj.1
  simp only [Array.toList_extract, List.extract_eq_take_drop]
  obtain ⟨c0, c1, c2, c3, c4⟩ := grCells_at l j hj
  apply List.ext_getElem?
  intro i
  rw [show j * 5 + 5 - j * 5 = 5 by omega, List.getElem?_take]
  by_cases hi : i < 5
  · rw [if_pos hi, List.getElem?_drop]
    have hcase : i = 0 ∨ i = 1 ∨ i = 2 ∨ i = 3 ∨ i = 4 := by omega
    rcases hcase with rfl | rfl | rfl | rfl | rfl
    · exact c0
    · exact c1
    · exact c2
    · exact c3
    · exact c4
  · rw [if_neg hi]
    symm
    rw [List.getElem?_eq_none]
    simp [grOne]
    omega
theorem infoGr16 : (Tryd.prog.info? 57).map (·.size) = some 80 := by kernel_rfl
theorem infoGr : (Tryd.prog.info? 56).map (·.size) = some 5 := by kernel_rfl
@[go_sem ↓] theorem load_g16 (a : Addr) : loadVar 57 a = loadT 57 a := rfl
theorem load_gr {w : World} {b : Nat} {l : List Gr} (h : GAt w b l) : (loadT 57 ⟨b, 0, none⟩).run Tryd.prog w = .ok (.agg (grCells l).toArray) w := by
  show (loadVar 57 ⟨b, 0, none⟩).run Tryd.prog w = _
  have := run_load_by (P := Tryd.prog) 57 80 _ Tryd.underlying57 rfl infoGr16 ⟨b, 0, none⟩ w
  rw [this, loadBy_lit, row?_of h.1]
  have hs : (grCells l).toArray.size = 80 := by
    have hl := h.2
    have : ∀ m : List Gr, (grCells m).length = m.length * 5 := fun m => by
      induction m with
      | nil => rfl
      | cons x m ih => rw [grCells_cons, List.length_append, ih]; simp [grOne]; omega
    simp [this, hl]
  simp [hs]
theorem index_gr (l : List Gr) (hl : l.length = 16) (j : Nat) (hj : j < 16) (w : World) : (Instr.index 57 (.agg (grCells l).toArray) (.int .i64 (j : Int))).run Tryd.prog w =
    .ok (.agg #[.bool (l.getD j default).live, .bool (l.getD j default).w, .bool (l.getD j default).used, .int .i64 (l.getD j default).frame, .int .i64 (l.getD j default).to_]) w := by
  rw [index_part (n := 5) Tryd.underlying57 Tryd.underlying56 rfl infoGr _ j hj w, grCells_extract l j (by omega)]
  rfl
theorem any_take {α : Type} [Inhabited α] (p : α → Bool) (l : List α) (k : Nat) (h : k < l.length) : (l.take (k + 1)).any p = ((l.take k).any p || p (l.getD k default)) := by
  rw [List.take_succ_eq_append_getElem h, List.any_append, List.getD_eq_getElem?_getD, List.getElem?_eq_getElem h]
  simp

/-- is a loan used by this one, of this frame? -/
def lentTo (frame by_ : Int) (x : Gr) : Bool := x.live && x.used && decide (x.frame = frame) && decide (x.to_ = by_)
def lentIs (l : List Gr) (frame by_ : Int) : Bool := l.any (lentTo frame by_)
def lentW (l : List Gr) (frame by_ : Int) : Bool := l.any fun x => lentTo frame by_ x && x.w
def LentTo (l : List Gr) (frame by_ : Int) (w : World) (s q i : Value) (wr : World) : Prop :=
  ∃ j : Nat, j ≤ 16 ∧ i = .int .i64 (j : Int) ∧ s = .bool (lentIs (l.take j) frame by_) ∧ q = .bool (lentW (l.take j) frame by_) ∧ Below w.heap.size w wr

set_option maxRecDepth 100000 in
set_option maxHeartbeats 800000 in
theorem lent_any (l : List Gr) (b : Nat) (frame by_ : Int) (w : World) (h : GAt w b l) :
    Calls Tryd.prog 35 #[.pointer (some ⟨b, 0, none⟩), .int .i64 frame, .int .i64 by_] w fun e w' => e = .returned (.tuple #[.bool (lentIs l frame by_), .bool (lentW l frame by_)]) ∧ Below w.heap.size w w' := by
  have hload := load_gr h
  have HIX := Lib.hid (fun j hj wx => index_gr l h.2 j hj wx)
  have HLEN := Lib.hid h.2
  clear h
  go_enter Tryd.func35, Tryd.ntmps35
  go_wp2_with fail
  go_loopw [8, 9, 16] (fun s q i wr => LentTo l frame by_ w s q i wr) (fun _ _ i _ => 16 - (intOf i).toNat)
  case atStart => exact ⟨0, Nat.zero_le _, rfl, rfl, rfl, Below.refl _ _⟩
  case round =>
    obtain ⟨j, hj, rfl, rfl, rfl, hb⟩ := hrel
    have HB := Lib.hid hb
    clear hb hload
    by_cases hlt : j < 16
    · have hix := HIX.out j hlt
      have HI := Lib.hid (any_take (lentTo frame by_) l j (by rw [HLEN.out]; exact hlt))
      have HQ := Lib.hid (any_take (fun x => lentTo frame by_ x && x.w) l j (by rw [HLEN.out]; exact hlt))
      have HI' : Hid (lentIs (l.take (j + 1)) frame by_ = (lentIs (l.take j) frame by_ || lentTo frame by_ (l.getD j default))) := Lib.hid HI.out
      have HQ' : Hid (lentW (l.take (j + 1)) frame by_ = (lentW (l.take j) frame by_ || (lentTo frame by_ (l.getD j default) && (l.getD j default).w))) := Lib.hid HQ.out
      have HD : Hid (lentTo frame by_ (l.getD j default) = ((l.getD j default).live && (l.getD j default).used && decide ((l.getD j default).frame = frame) && decide ((l.getD j default).to_ = by_))) := Lib.hid rfl
      obtain ⟨si, hsi⟩ : ∃ si, lentIs (l.take j) frame by_ = si := ⟨_, rfl⟩
      obtain ⟨qi, hqi⟩ : ∃ qi, lentW (l.take j) frame by_ = qi := ⟨_, rfl⟩
      obtain ⟨⟨lv, xw, us, fr, t⟩, hx⟩ : ∃ x, l.getD j default = x := ⟨_, rfl⟩
      rw [hsi] at HI' ⊢
      rw [hqi] at HQ' ⊢
      rw [hx] at hix HI' HQ' HD
      dsimp only at hix
      have hji : (j : Int) < 16 := by omega
      have HBA := Lib.hid (HB.out.alloc HB.out.size (.cells #[.bool lv, .bool xw, .bool us, .int .i64 fr, .int .i64 t] 56))
      clear hsi hqi hx HI HQ
      have fin : ∀ m : Bool, m = lentTo frame by_ ⟨lv, xw, us, fr, t⟩ → Hid (lentIs (l.take (j + 1)) frame by_ = (si || m) ∧ lentW (l.take (j + 1)) frame by_ = (qi || (m && xw))) := fun m hm => Lib.hid (by rw [hm]; exact ⟨HI'.out, HQ'.out⟩)
      have FIN := Lib.hid fin
      clear fin
      cases lv
      · have FF := FIN.out false (by rw [HD.out]; simp)
        clear FIN
        go_wp2
        go_roundw
        case rel => exact ⟨j + 1, by omega, by go_num, by rw [FF.out.1]; simp, by rw [FF.out.2]; simp, HBA.out⟩
        case measure => simp [intOf]; omega
      · cases us
        · have FF := FIN.out false (by rw [HD.out]; simp)
          clear FIN
          go_wp2
          go_roundw
          case rel => exact ⟨j + 1, by omega, by go_num, by rw [FF.out.1]; simp, by rw [FF.out.2]; simp, HBA.out⟩
          case measure => simp [intOf]; omega
        · by_cases h1 : fr = frame
          · by_cases h2 : t = by_
            · have FF := FIN.out true (by rw [HD.out]; simp [h1, h2])
              subst h1 h2
              clear FIN
              cases qi
              all_goals
                go_wp2_with fail
                go_quiet (fail)
                go_wp2
                go_roundw
                case rel => exact ⟨j + 1, by omega, by go_num, by rw [FF.out.1]; simp, by rw [FF.out.2]; simp, below_drewN HBA.out _⟩
                case measure => simp [intOf]; omega
            · have FF := FIN.out false (by rw [HD.out]; simp [h2])
              have hb2 : (t == by_) = false := by simp [h2]
              subst h1
              clear FIN h2
              go_wp2
              go_roundw
              case rel => exact ⟨j + 1, by omega, by go_num, by rw [FF.out.1]; simp, by rw [FF.out.2]; simp, HBA.out⟩
              case measure => simp [intOf]; omega
          · have FF := FIN.out false (by rw [HD.out]; simp [h1])
            have hb1 : (fr == frame) = false := by simp [h1]
            clear FIN h1
            go_wp2
            go_roundw
            case rel => exact ⟨j + 1, by omega, by go_num, by rw [FF.out.1]; simp, by rw [FF.out.2]; simp, HBA.out⟩
            case measure => simp [intOf]; omega
    · obtain rfl : j = 16 := by omega
      have HT : Hid (l.take 16 = l) := Lib.hid (by rw [List.take_of_length_le (by rw [HLEN.out]; exact Nat.le_refl _)])
      rw [HT.out]
      go_wp2
      go_ret2
      exact ⟨rfl, HB.out⟩
end Go.Proofs.YtmeljclaocgoaaaDoor
