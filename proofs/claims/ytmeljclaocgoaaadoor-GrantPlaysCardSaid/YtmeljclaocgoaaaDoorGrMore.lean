/-
  grant.Table: Clone, Get; facaderef16.Grants: Lent; facaderef.SameGrant; what a table is told.
-/
import Derived.Test.YtmeljclaocgoaaaDoorGrRef
import Derived.Test.YtmeljclaocgoaaaDoorPart
import Derived.Test.YtmeljclaocgoaaaDoorStructs
namespace Go.Proofs.YtmeljclaocgoaaaDoor
open Go.ChangeShapes Go.WideShapes Go.ChangeAt Go.RowKit Go.Joins Go.Deep

theorem grOne_len (x : Gr) : (grOne x).length = 5 := rfl
theorem infoTbl : (Tryd.prog.info? 59).map (·.size) = some (16 * 5) := by kernel_rfl
@[go_sem ↓] theorem load_tbl (a : Addr) : loadVar 59 a = loadT 59 a := rfl
@[go_sem ↓] theorem store_tbl (a : Addr) (v : Value) : storeVar 59 a v = storeT 59 a v := rfl
theorem load_tblB {w : World} {b : Nat} {l : List Gr} (h : GAt w b l) : (loadT 59 ⟨b, 0, none⟩).run Tryd.prog w = .ok (.agg (grCells l).toArray) w := by
  show (loadVar 59 ⟨b, 0, none⟩).run Tryd.prog w = _
  have h1 : RecAt grOne 59 w b l := h.1
  have := load_part (P := Tryd.prog) grOne_len 16 Tryd.underlying59 rfl infoTbl h1 0 (by rw [h.2]; omega)
  rw [Nat.zero_mul, List.drop_zero, List.take_of_length_le (by rw [h.2]; exact Nat.le_refl _)] at this
  exact this
theorem grOne_cell (x : Gr) : ∀ u ∈ grOne x, u.oneCell' = true := by
  intro u hu
  simp only [grOne, List.mem_cons, List.not_mem_nil, or_false] at hu
  rcases hu with rfl | rfl | rfl | rfl | rfl <;> rfl
theorem gr_size (l : List Gr) (h : l.length = 16) : (grCells l).toArray.size = 80 := by
  unfold grCells
  rw [List.size_toArray, rec_len grOne 5 grOne_len, h]
theorem store_tblB (w : World) (l : List Gr) (h : l.length = 16) : (storeT 59 ⟨w.heap.size, 0, none⟩ (.agg (grCells l).toArray)).run Tryd.prog (w.alloc (.cells Tryd.zeroCells59 59)) = .ok () (w.alloc (.cells (grCells l).toArray 59)) := by
  show (storeVar 59 _ _).run Tryd.prog _ = _
  have hz : (Tryd.zeroCells59).size = 80 := by rw [gr_zero]; exact gr_size _ rfl
  have ha : allOne (grCells l).toArray = true := allOne_rec grOne grOne_cell l
  rw [run_store_by (P := Tryd.prog) _ 80 infoTbl, storeBy_lit, row?_alloc_at _ _ _ rfl]
  dsimp only
  rw [if_pos ⟨gr_size l h, ha⟩, if_pos ⟨hz, rfl⟩, setRow_alloc_at _ _ _ _ rfl]
theorem gclone_any (l : List Gr) (b : Nat) (w : World) (h : GAt w b l) :
    Calls Tryd.prog 58 #[.pointer (some ⟨b, 0, none⟩)] w fun e w' => e = .returned (.pointer (some ⟨w.heap.size, 0, none⟩)) ∧ GAt w' w.heap.size l ∧ Below w.heap.size w w' := by
  have hl := load_tblB h
  have hs := store_tblB w l h.2
  have HN : Hid (GAt (w.alloc (.cells (grCells l).toArray 59)) w.heap.size l) := Lib.hid ⟨blk_new _ _, h.2⟩
  have HB : Hid (Below w.heap.size w (w.alloc (.cells (grCells l).toArray 59))) := Lib.hid ((Below.refl _ _).alloc (Nat.le_refl _) _)
  obtain ⟨cs, hcs⟩ : ∃ cs, (grCells l).toArray = cs := ⟨_, rfl⟩
  rw [hcs] at hl hs HN HB
  clear h hcs
  go_enter Tryd.func58, Tryd.ntmps58
  go_wp2
  go_ret
  exact ⟨rfl, HN.out, HB.out⟩

/-- a loan that is live, as it is told -/
def getE (l : List Gr) (ref : Int) : Gr × Bool := match liveAt l ref with
  | none => ({}, false)
  | some r => (l.getD r default, true)
def grV (x : Gr) : Value := .agg #[.bool x.live, .bool x.w, .bool x.used, .int .i64 x.frame, .int .i64 x.to_]
set_option maxRecDepth 100000 in
set_option maxHeartbeats 1600000 in
theorem gget_all (l : List Gr) (b : Nat) (ref : Int) (w : World) (h : GAt w b l) :
    Calls Tryd.prog 59 #[.pointer (some ⟨b, 0, none⟩), .int .i64 ref] w fun e w' => e = .returned (.tuple #[grV (getE l ref).1, .bool (getE l ref).2]) ∧ Below w.heap.size w w' := by
  obtain ⟨R, hR⟩ : ∃ R, getE l ref = R := ⟨_, rfl⟩
  rw [hR]
  unfold getE at hR
  have hb1 : Below w.heap.size w (w.alloc (.cells #[.bool false, .bool false, .bool false, .int .i64 0, .int .i64 0] 56)) := (Below.refl _ _).alloc (Nat.le_refl _) _
  have HL := Lib.hid (live_any l b ref _ (h.below hb1))
  have HB := Lib.hid hb1
  cases hn : liveAt l ref with
  | none =>
    rw [hn] at HL hR
    have HR := Lib.hid hR
    clear h hn hR hb1
    go_enter Tryd.func59, Tryd.ntmps59
    go_wp2_with fail
    refine HL.out.mono ?_
    rintro e w1 ⟨rfl, rfl⟩
    unfold ptrAt
    go_wp2
    rw [← HR.out]
    exact bodyPost_ret (v := .tuple #[.agg #[.bool false, .bool false, .bool false, .int .i64 0, .int .i64 0], .bool false]) (by simp [results, Tryd.results59, go_sem]) rfl ⟨rfl, (Below.refl _ _).alloc (Nat.le_refl _) _⟩
  | some r =>
    rw [hn] at HL hR
    dsimp only at hR
    have HR := Lib.hid hR
    obtain ⟨c0, c1, c2, c3, c4⟩ := h.cells r (liveAt_lt hn).1
    have hlt := blk_lt h.1
    obtain ⟨⟨lv, xw, us, fr, t⟩, hx⟩ : ∃ x, l.getD r default = x := ⟨_, rfl⟩
    rw [hx] at c0 c1 c2 c3 c4 HR
    clear h hn hR hb1 hx
    go_enter Tryd.func59, Tryd.ntmps59
    go_wp2_with fail
    refine HL.out.mono ?_
    rintro e w1 ⟨rfl, rfl⟩
    unfold ptrAt
    go_wp2
    rw [← HR.out]
    exact bodyPost_ret (v := .tuple #[.agg #[.bool lv, .bool xw, .bool us, .int .i64 fr, .int .i64 t], .bool true]) (by simp [results, Tryd.results59, go_sem]) rfl ⟨rfl, (Below.refl _ _).alloc (Nat.le_refl _) _⟩
set_option maxHeartbeats 800000 in
theorem sameGrant_refl (a b c : Bool) (g q : Int) (w : World) : Calls Tryd.prog 64 #[.agg #[.bool a, .bool b, .bool c, .int .i64 g, .int .i64 q], .agg #[.bool a, .bool b, .bool c, .int .i64 g, .int .i64 q]] w fun e w' => e = .returned (.bool true) ∧ Below w.heap.size w w' := by
  go_enter Tryd.func64, Tryd.ntmps64
  go_wp2
  go_ret
  exact ⟨rfl, by repeat (first | exact Below.refl _ _ | refine Below.alloc ?_ (by simp) _)⟩

def RLentTo (l : List Gr) (frame by_ : Int) (w : World) (s q i : Value) (wr : World) : Prop :=
  ∃ j : Nat, j ≤ 16 ∧ i = .int .i64 (j : Int) ∧ s = .bool (lentIs (l.take j) frame by_) ∧ q = .bool (lentW (l.take j) frame by_) ∧ Below w.heap.size w wr
set_option maxRecDepth 100000 in
set_option maxHeartbeats 1600000 in
theorem rlent_any (l : List Gr) (b : Nat) (frame by_ : Int) (w : World) (h : RGr w b l) :
    Calls Tryd.prog 65 #[.pointer (some ⟨b, 0, none⟩), .int .i64 frame, .int .i64 by_] w fun e w' => e = .returned (.tuple #[.bool (lentIs l frame by_), .bool (lentW l frame by_)]) ∧ Below w.heap.size w w' := by
  have HLEN := Lib.hid h.2
  have HG := Lib.hid h
  clear h
  go_enter Tryd.func65, Tryd.ntmps65
  go_wp2_with fail
  go_loopw [8, 9, 10] (fun s q i wr => RLentTo l frame by_ w s q i wr) (fun _ _ i _ => 16 - (intOf i).toNat)
  case atStart => exact ⟨0, Nat.zero_le _, rfl, rfl, rfl, Below.refl _ _⟩
  case round =>
    obtain ⟨j, hj, rfl, rfl, rfl, hb⟩ := hrel
    have HB := Lib.hid hb
    clear hb
    by_cases hlt : j < 16
    · have hGr := HG.out.below HB.out
      obtain ⟨c0, c1, c2, c3, c4⟩ := hGr.cells j hlt
      have hltb := blk_lt hGr.1
      have HI := Lib.hid (any_take (lentTo frame by_) l j (by rw [HLEN.out]; exact hlt))
      have HQ := Lib.hid (any_take (fun x => lentTo frame by_ x && x.w) l j (by rw [HLEN.out]; exact hlt))
      have HI' : Hid (lentIs (l.take (j + 1)) frame by_ = (lentIs (l.take j) frame by_ || lentTo frame by_ (l.getD j default))) := Lib.hid HI.out
      have HQ' : Hid (lentW (l.take (j + 1)) frame by_ = (lentW (l.take j) frame by_ || (lentTo frame by_ (l.getD j default) && (l.getD j default).w))) := Lib.hid HQ.out
      have HD : Hid (lentTo frame by_ (l.getD j default) = ((l.getD j default).live && (l.getD j default).used && decide ((l.getD j default).frame = frame) && decide ((l.getD j default).to_ = by_))) := Lib.hid rfl
      obtain ⟨si, hsi⟩ : ∃ si, lentIs (l.take j) frame by_ = si := ⟨_, rfl⟩
      obtain ⟨qi, hqi⟩ : ∃ qi, lentW (l.take j) frame by_ = qi := ⟨_, rfl⟩
      obtain ⟨⟨lv, xw, us, fr, t⟩, hx⟩ : ∃ x, l.getD j default = x := ⟨_, rfl⟩
      rw [hsi] at HI' ⊢
      rw [hqi] at HQ' ⊢
      rw [hx] at c0 c1 c2 c3 c4 HI' HQ' HD
      have hji : (j : Int) < 16 := by omega
      have HBA := Lib.hid (HB.out.alloc HB.out.size (.cells #[.bool lv, .bool xw, .bool us, .int .i64 fr, .int .i64 t] 56))
      clear hsi hqi hx HI HQ hGr
      have fin : ∀ m : Bool, m = lentTo frame by_ ⟨lv, xw, us, fr, t⟩ → Hid (lentIs (l.take (j + 1)) frame by_ = (si || m) ∧ lentW (l.take (j + 1)) frame by_ = (qi || (m && xw))) := fun m hm => Lib.hid (by rw [hm]; exact ⟨HI'.out, HQ'.out⟩)
      have FIN := Lib.hid fin
      clear fin
      cases lv
      · have FF := FIN.out false (by rw [HD.out]; simp)
        clear FIN
        go_wp2
        go_roundw
        case rel => exact ⟨j + 1, by omega, by go_num, by rw [FF.out.1]; simp, by rw [FF.out.2]; simp, HBA.out⟩
        case measure => simp [intOf]; omega
      · cases us
        · have FF := FIN.out false (by rw [HD.out]; simp)
          clear FIN
          go_wp2
          go_roundw
          case rel => exact ⟨j + 1, by omega, by go_num, by rw [FF.out.1]; simp, by rw [FF.out.2]; simp, HBA.out⟩
          case measure => simp [intOf]; omega
        · by_cases h1 : fr = frame
          · by_cases h2 : t = by_
            · have FF := FIN.out true (by rw [HD.out]; simp [h1, h2])
              subst h1 h2
              clear FIN
              cases qi
              all_goals
                go_wp2
                go_roundw
                case rel => exact ⟨j + 1, by omega, by go_num, by rw [FF.out.1]; simp, by rw [FF.out.2]; simp, HBA.out⟩
                case measure => simp [intOf]; omega
            · have FF := FIN.out false (by rw [HD.out]; simp [h2])
              have hb2 : (t == by_) = false := by simp [h2]
              subst h1
              clear FIN h2
              go_wp2
              go_roundw
              case rel => exact ⟨j + 1, by omega, by go_num, by rw [FF.out.1]; simp, by rw [FF.out.2]; simp, HBA.out⟩
              case measure => simp [intOf]; omega
          · have FF := FIN.out false (by rw [HD.out]; simp [h1])
            have hb1 : (fr == frame) = false := by simp [h1]
            clear FIN h1
            go_wp2
            go_roundw
            case rel => exact ⟨j + 1, by omega, by go_num, by rw [FF.out.1]; simp, by rw [FF.out.2]; simp, HBA.out⟩
            case measure => simp [intOf]; omega
    · obtain rfl : j = 16 := by omega
      have HT : Hid (l.take 16 = l) := Lib.hid (by rw [List.take_of_length_le (by rw [HLEN.out]; exact Nat.le_refl _)])
      rw [HT.out]
      go_wp2
      go_ret2
      exact ⟨rfl, HB.out⟩

structure GDo where
  kind : Int
  a : Int
  b : Int
  c : Int
  is_ : Bool
deriving Inhabited
def gdoCells (x : GDo) : List Value := [.int .i64 x.kind, .int .i64 x.a, .int .i64 x.b, .int .i64 x.c, .bool x.is_]
theorem gdo_len (x : GDo) : (gdoCells x).length = 5 := rfl
set_option maxRecDepth 100000 in
theorem open_gdo {H : Type} {enc : TypeId × Value → H} {W : World} {v : Value} {d : DataW H} {p : List MemPlace} {r : Reach} {b0 : Nat}
    (hv : Value.okWide Tryd.prog W r b0 102 v) (h : DataW.Trod enc Tryd.prog W 0 (fun _ => true) true 102 v d p) :
    ∃ (ao : Option Addr) (cap : Nat) (l : List GDo), v = .slice ao l.length cap ∧ l.length ≤ maxLen ∧ (∀ x ∈ l, True) ∧ AtL W ao (l.flatMap gdoCells) ∧ l.length ≤ cap :=
  open_structs (C := 5) Tryd.underlying102 (by kernel_rfl) (by decide) gdoCells (fun _ => True) hv h fun n cs y hl hd => by
    obtain ⟨xs, n', -, -, hxl, hx, hi⟩ := DataW.trod_struct Tryd.underlying108 hd
    have hx6 : xs.length = 5 := hx
    have get : ∀ i, i < 5 → ∃ y, xs[i]? = some y := fun i hi => ⟨_, List.getElem?_eq_getElem (by omega)⟩
    obtain ⟨y0, g0⟩ := get 0 (by omega)
    obtain ⟨y1, g1⟩ := get 1 (by omega)
    obtain ⟨y2, g2⟩ := get 2 (by omega)
    obtain ⟨y3, g3⟩ := get 3 (by omega)
    obtain ⟨y4, g4⟩ := get 4 (by omega)
    obtain ⟨a, e0, -⟩ := fld_int Tryd.underlying3 (by kernel_rfl) ((hi 0 _ rfl).trans g0)
    obtain ⟨b, e1, -⟩ := fld_int Tryd.underlying3 (by kernel_rfl) ((hi 1 _ rfl).trans g1)
    obtain ⟨c, e2, -⟩ := fld_int Tryd.underlying3 (by kernel_rfl) ((hi 2 _ rfl).trans g2)
    obtain ⟨dd, e3, -⟩ := fld_int Tryd.underlying3 (by kernel_rfl) ((hi 3 _ rfl).trans g3)
    obtain ⟨g, e4⟩ := fld_bool Tryd.underlying4 (by kernel_rfl) ((hi 4 _ rfl).trans g4)
    refine ⟨⟨a, b, c, dd, g⟩, ?_, trivial⟩
    match cs, hl with
    | [b0, b1, b2, b3, b4], _ =>
      have q0 : some b0 = some _ := e0
      have q1 : some b1 = some _ := e1
      have q2 : some b2 = some _ := e2
      have q3 : some b3 = some _ := e3
      have q4 : some b4 = some _ := e4
      cases q0
      cases q1
      cases q2
      cases q3
      cases q4
      rfl
end Go.Proofs.YtmeljclaocgoaaaDoor
