/-
  Parts of one proof, one behind the other.
-/
import Derived.Test.YtaoaachgnnengaaDoorMg8cf07c6ba3
import Derived.BigQuiet
import Derived.Test.YtaoaachgnnengaaDoorRows
import Derived.Test.YtaoaachgnnengaaDoorMg0cc251d182
import Derived.Test.YtaoaachgnnengaaDoorMg742783f498
import Derived.Test.YtaoaachgnnengaaDoorMg5c2929c9f8
import Derived.Test.YtaoaachgnnengaaDoorMg14c76af940
/-
  pt.Tables.Put.
-/
namespace Go.Proofs.YtaoaachgnnengaaDoor
open Go.RowKit

theorem tset_any (E : Nat → Addr) (p : Pl) (s : Ts) (m : Int) (page frame : Int) (wr : Bool) (w : World) (hE : ErrsK E p w) (h : PtAt w p s) (hi : TInv m s) (hm : m + 1 ≤ 1000000) (hp : isPage page = true) :
    Calls Tryd.prog 79 #[.pointer (some ⟨p.tb, 0, none⟩), .int .i64 page, .int .i64 frame, .bool wr] w (PtQ E p (tSet s page frame wr) w) := by
  have hpg : 0 ≤ page ∧ page < 256 := by simpa [isPage] using hp
  obtain ⟨j, rfl⟩ : ∃ j : Nat, page = (j : Int) := ⟨page.toNat, by omega⟩
  cases wr
  · exact tset_false E p s m j frame w hE h hi hm (by omega)
  · exact tset_true E p s m j frame w hE h hi hm (by omega)
theorem PtQ.later {E : Nat → Addr} {p : Pl} {R : Ts × Int} {w w1 w' : World} {e : Ending} (h : PtQ E p R w1 e w') (ho : Only p.zw w w1) : PtQ E p R w e w' := ⟨h.1, h.2.1, ho.trans h.2.2⟩

set_option maxRecDepth 100000 in
set_option maxHeartbeats 6400000 in
theorem tput_nopage (E : Nat → Addr) (p : Pl) (s : Ts) (page ef : Int) (et ew eu : Bool) (w : World) (hE : ErrsK E p w) (h : PtAt w p s) (hp : isPage page = false) :
    Calls Tryd.prog 40 #[.pointer (some ⟨p.tb, 0, none⟩), .int .i64 page, .agg #[.int .i64 ef, .bool et, .bool ew, .bool eu]] w (PtQ E p (tPut s page ⟨ef, et, ew, eu⟩) w) := by
  have hb0 : Below w.heap.size w (w.alloc (.cells #[.int .i64 ef, .bool et, .bool ew, .bool eu] 68)) := (Below.refl _ _).alloc (Nat.le_refl _) _
  have HPA := Lib.hid (fun wx => tpage_any page wx)
  rw [hp] at HPA
  have HR : Hid (tPut s page ⟨ef, et, ew, eu⟩ = (s, 103)) := Lib.hid (by unfold tPut; rw [if_neg (by rw [hp]; decide)])
  rw [HR.out]
  have HH := Lib.hid (h.below hb0)
  have HO := Lib.hid (Only.of_below (F := p.zw) hb0)
  have e2 : (w.alloc (.cells #[.int .i64 ef, .bool et, .bool ew, .bool eu] 68)).cell? ⟨0, 0, none⟩ = some (errV (E 2)) := ((hE _ (Only.of_below hb0)).1 2 (by decide)).1
  have e2' : w.cell? ⟨0, 0, none⟩ = some (errV (E 2)) := ((hE _ (Only.refl _ _)).1 2 (by decide)).1
  have g2 := World.block_lt_of_cell? _ _ e2'
  clear hE h hp HR hb0
  go_enter Tryd.func40, Tryd.ntmps40
  go_wp2_with fail
  refine (HPA.out _).mono ?_
  rintro y w1 ⟨rfl, rfl⟩
  go_wp2
  go_ret
  exact ⟨rfl, HH.out, HO.out⟩

set_option maxRecDepth 100000 in
set_option maxHeartbeats 6400000 in
theorem tput_drop (E : Nat → Addr) (p : Pl) (s : Ts) (m : Int) (page : Int) (w : World) (hE : ErrsK E p w) (h : PtAt w p s) (hi : TInv m s) (hm : m ≤ 1000000) (hp : isPage page = true) :
    Calls Tryd.prog 40 #[.pointer (some ⟨p.tb, 0, none⟩), .int .i64 page, .agg #[.int .i64 0, .bool false, .bool false, .bool false]] w (PtQ E p (tPut s page ⟨0, false, false, false⟩) w) := by
  have hb0 : Below w.heap.size w (w.alloc (.cells #[.int .i64 0, .bool false, .bool false, .bool false] 68)) := (Below.refl _ _).alloc (Nat.le_refl _) _
  have HPA := Lib.hid (fun wx => tpage_any page wx)
  rw [hp] at HPA
  have HR : Hid (tPut s page ⟨0, false, false, false⟩ = tDrop s page) := Lib.hid (by unfold tPut; rw [if_pos hp, if_neg (by decide), if_pos ⟨rfl, rfl, rfl⟩])
  rw [HR.out]
  have HO := Lib.hid (Only.of_below (F := p.zw) hb0)
  have HD := Lib.hid (tdrop_any E p s m page _ (hE.next HO.out) (h.below hb0) hi hm)
  clear hE h hi hp HR hb0
  go_enter Tryd.func40, Tryd.ntmps40
  go_wp2_with fail
  refine (HPA.out _).mono ?_
  rintro y w1 ⟨rfl, rfl⟩
  go_wp2_with fail
  refine HD.out.mono ?_
  rintro y w2 ⟨rfl, h2, ho2⟩
  have HF := Lib.hid (And.intro h2 (HO.out.trans ho2))
  clear h2 ho2
  go_wp2
  go_ret
  exact ⟨rfl, HF.out⟩

set_option maxRecDepth 100000 in
set_option maxHeartbeats 6400000 in
theorem tput_bent (E : Nat → Addr) (p : Pl) (s : Ts) (page ef : Int) (ew eu : Bool) (w : World) (hE : ErrsK E p w) (h : PtAt w p s) (hp : isPage page = true) (hb : ¬ (ef = 0 ∧ ew = false ∧ eu = false)) :
    Calls Tryd.prog 40 #[.pointer (some ⟨p.tb, 0, none⟩), .int .i64 page, .agg #[.int .i64 ef, .bool false, .bool ew, .bool eu]] w (PtQ E p (tPut s page ⟨ef, false, ew, eu⟩) w) := by
  have hb0 : Below w.heap.size w (w.alloc (.cells #[.int .i64 ef, .bool false, .bool ew, .bool eu] 68)) := (Below.refl _ _).alloc (Nat.le_refl _) _
  have HPA := Lib.hid (fun wx => tpage_any page wx)
  rw [hp] at HPA
  have HR : Hid (tPut s page ⟨ef, false, ew, eu⟩ = (s, 103)) := Lib.hid (by unfold tPut; rw [if_pos hp, if_neg (fun h => by cases h), if_neg hb])
  rw [HR.out]
  have HH := Lib.hid (h.below hb0)
  have HO := Lib.hid (Only.of_below (F := p.zw) hb0)
  have e2 : (w.alloc (.cells #[.int .i64 ef, .bool false, .bool ew, .bool eu] 68)).cell? ⟨0, 0, none⟩ = some (errV (E 2)) := ((hE _ (Only.of_below hb0)).1 2 (by decide)).1
  have e2' : w.cell? ⟨0, 0, none⟩ = some (errV (E 2)) := ((hE _ (Only.refl _ _)).1 2 (by decide)).1
  have g2 := World.block_lt_of_cell? _ _ e2'
  have hbb : (ef == 0) = false ∨ ((ef == 0) = true ∧ ew = true) ∨ ((ef == 0) = true ∧ ew = false ∧ eu = true) := by
    by_cases h0 : ef = 0
    · subst h0
      cases ew
      · cases eu
        · exact absurd ⟨rfl, rfl, rfl⟩ hb
        · exact .inr (.inr ⟨by decide, rfl, rfl⟩)
      · exact .inr (.inl ⟨by decide, rfl⟩)
    · exact .inl (by simp [h0])
  clear hE h hp HR hb0 hb
  rcases hbb with h0 | ⟨h0, rfl⟩ | ⟨h0, rfl, rfl⟩
  all_goals
    go_enter Tryd.func40, Tryd.ntmps40
    go_wp2_with fail
    refine (HPA.out _).mono ?_
    rintro y w1 ⟨rfl, rfl⟩
    go_wp2
    go_ret
    exact ⟨rfl, HH.out, HO.out⟩

set_option maxRecDepth 100000 in
set_option maxHeartbeats 16000000 in
theorem tput_none (E : Nat → Addr) (p : Pl) (s : Ts) (m : Int) (page ef : Int) (ew eu : Bool) (w : World) (hE : ErrsK E p w) (h : PtAt w p s) (hi : TInv m s) (hm : m + 1 ≤ 1000000) (hp : isPage page = true) (hn : ¬ (0 ≤ ef ∧ ef < (s.P.length : Int))) :
    Calls Tryd.prog 40 #[.pointer (some ⟨p.tb, 0, none⟩), .int .i64 page, .agg #[.int .i64 ef, .bool true, .bool ew, .bool eu]] w (PtQ E p (tPut s page ⟨ef, true, ew, eu⟩) w) := by
  have hb0 : Below w.heap.size w (w.alloc (.cells #[.int .i64 ef, .bool true, .bool ew, .bool eu] 68)) := (Below.refl _ _).alloc (Nat.le_refl _) _
  have HPA := Lib.hid (fun wx => tpage_any page wx)
  have HR : Hid (tPut s page ⟨ef, true, ew, eu⟩ = (s, 107)) := Lib.hid (by unfold tPut; rw [if_pos hp, if_pos rfl, if_neg hn])
  rw [HR.out]
  have HB := Lib.hid hb0
  have HO := Lib.hid (Only.of_below (F := p.zw) hb0)
  have HK : Hid (∀ wx, Below w.heap.size w wx → PtAt wx p s) := Lib.hid fun wx hx => h.below hx
  have HEE := Lib.hid hE
  have HE : Hid (∀ wx, Below w.heap.size w wx → wx.cell? ⟨3, 0, none⟩ = some (errV (E 6)) ∧ 3 < wx.heap.size ∧ wx.cell? ⟨6, 0, none⟩ = some (errV (E 9)) ∧ 6 < wx.heap.size) := Lib.hid fun wx hx => by
    have e6 := ((hE wx (Only.of_below hx)).1 6 (by decide)).1
    have e9 := ((hE wx (Only.of_below hx)).1 9 (by decide)).1
    exact ⟨e6, World.block_lt_of_cell? _ _ e6, e9, World.block_lt_of_cell? _ _ e9⟩
  have hnew := blk_new w (.cells #[.int .i64 ef, .bool true, .bool ew, .bool eu] 68)
  have HN : Hid (∀ wx, Below (w.alloc (.cells #[.int .i64 ef, .bool true, .bool ew, .bool eu] 68)).heap.size (w.alloc (.cells #[.int .i64 ef, .bool true, .bool ew, .bool eu] 68)) wx → wx.cell? ⟨w.heap.size, 0, none⟩ = some (.int .i64 ef) ∧ wx.cell? ⟨w.heap.size, 2, none⟩ = some (.bool ew)) := Lib.hid fun wx hx => by
    have := blk_below hnew hx (blk_lt hnew)
    exact ⟨blk_cell this 0, blk_cell this 2⟩
  have HG := Lib.hid (fun wx (hx : Below w.heap.size w wx) => pm_get s.P p.pb p.pv ef wx (h.below hx).pm)
  have HGA : Hid (getAns s.P ef = .tuple #[.int .i64 0, .bool false]) := Lib.hid (by unfold getAns; rw [if_neg hn])
  rw [HGA.out] at HG
  rw [hp] at HPA
  obtain ⟨q0, q2⟩ := HN.out _ (Below.refl _ _)
  obtain ⟨c0, c1, c2, c3, c4⟩ := (HK.out _ HB.out).cells
  have ltb := blk_lt (HK.out _ HB.out).row
  obtain ⟨e6, g6, e9, g9⟩ := HE.out _ HB.out
  have HHS := Lib.hid (HK.out _ HB.out)
  clear hE h hi hp HR hb0 hnew hn 
  go_enter Tryd.func40, Tryd.ntmps40
  go_wp2_with fail
  refine (HPA.out _).mono ?_
  rintro y w1 ⟨rfl, rfl⟩
  go_wp2_with fail
  go_quiet ((go_at_call 78; exact Calls.quiet_of_same ((HG.out _ (below_drewN HB.out _)).mono fun e w' h => ⟨h.1, h.2.symm⟩)))
  obtain ⟨wd, hwd⟩ : ∃ wd, (w.alloc (.cells #[.int .i64 ef, .bool true, .bool ew, .bool eu] 68)).drewN nq = wd := ⟨_, rfl⟩
  have HBD : Hid (Below w.heap.size w wd) := Lib.hid (hwd ▸ below_drewN HB.out _)
  have HBN : Hid (Below (w.alloc (.cells #[.int .i64 ef, .bool true, .bool ew, .bool eu] 68)).heap.size (w.alloc (.cells #[.int .i64 ef, .bool true, .bool ew, .bool eu] 68)) wd) := Lib.hid (hwd ▸ below_drewN (Below.refl _ _) _)
  rw [hwd]
  clear hwd q0 q2 c0 c1 c2 c3 c4 ltb e6 g6 e9 g9
  obtain ⟨e6, g6, e9, g9⟩ := HE.out _ HBD.out
  go_wp2
  go_ret
  exact ⟨rfl, HK.out _ HBD.out, Only.of_below HBD.out⟩

set_option maxRecDepth 100000 in
set_option maxHeartbeats 16000000 in
theorem tput_owner (E : Nat → Addr) (p : Pl) (s : Ts) (m : Int) (page ef : Int) (ew eu : Bool) (w : World) (hE : ErrsK E p w) (h : PtAt w p s) (hi : TInv m s) (hm : m + 1 ≤ 1000000) (hp : isPage page = true) (n : Nat) (hf : ef = (n : Int)) (hn : n < s.P.length) (ho : (s.F.getD (s.P.getD n 0).toNat default).owner ≠ s.who) :
    Calls Tryd.prog 40 #[.pointer (some ⟨p.tb, 0, none⟩), .int .i64 page, .agg #[.int .i64 ef, .bool true, .bool ew, .bool eu]] w (PtQ E p (tPut s page ⟨ef, true, ew, eu⟩) w) := by
  subst hf
  have hb0 : Below w.heap.size w (w.alloc (.cells #[.int .i64 (n : Int), .bool true, .bool ew, .bool eu] 68)) := (Below.refl _ _).alloc (Nat.le_refl _) _
  have HPA := Lib.hid (fun wx => tpage_any page wx)
  have HR : Hid (tPut s page ⟨(n : Int), true, ew, eu⟩ = (s, 110)) := Lib.hid (by unfold tPut; rw [if_pos hp, if_pos rfl, if_pos ⟨by show (0 : Int) ≤ (n : Int); omega, by show (n : Int) < _; omega⟩]; show (if (s.F.getD (s.P.getD (n : Int).toNat 0).toNat default).owner = s.who then _ else _) = _; rw [Int.toNat_natCast, if_neg ho])
  rw [HR.out]
  have HB := Lib.hid hb0
  have HO := Lib.hid (Only.of_below (F := p.zw) hb0)
  have HK : Hid (∀ wx, Below w.heap.size w wx → PtAt wx p s) := Lib.hid fun wx hx => h.below hx
  have HEE := Lib.hid hE
  have HE : Hid (∀ wx, Below w.heap.size w wx → wx.cell? ⟨3, 0, none⟩ = some (errV (E 6)) ∧ 3 < wx.heap.size ∧ wx.cell? ⟨6, 0, none⟩ = some (errV (E 9)) ∧ 6 < wx.heap.size) := Lib.hid fun wx hx => by
    have e6 := ((hE wx (Only.of_below hx)).1 6 (by decide)).1
    have e9 := ((hE wx (Only.of_below hx)).1 9 (by decide)).1
    exact ⟨e6, World.block_lt_of_cell? _ _ e6, e9, World.block_lt_of_cell? _ _ e9⟩
  have hnew := blk_new w (.cells #[.int .i64 (n : Int), .bool true, .bool ew, .bool eu] 68)
  have HN : Hid (∀ wx, Below (w.alloc (.cells #[.int .i64 (n : Int), .bool true, .bool ew, .bool eu] 68)).heap.size (w.alloc (.cells #[.int .i64 (n : Int), .bool true, .bool ew, .bool eu] 68)) wx → wx.cell? ⟨w.heap.size, 0, none⟩ = some (.int .i64 (n : Int)) ∧ wx.cell? ⟨w.heap.size, 2, none⟩ = some (.bool ew)) := Lib.hid fun wx hx => by
    have := blk_below hnew hx (blk_lt hnew)
    exact ⟨blk_cell this 0, blk_cell this 2⟩
  have HG := Lib.hid (fun wx (hx : Below w.heap.size w wx) => pm_get s.P p.pb p.pv (n : Int) wx (h.below hx).pm)
  have HGA : Hid (getAns s.P (n : Int) = .tuple #[.int .i64 (s.P.getD n 0), .bool true]) := Lib.hid (by unfold getAns; rw [if_pos ⟨by omega, by omega⟩, Int.toNat_natCast])
  rw [HGA.out] at HG
  have hpin := hi.pin n hn
  obtain ⟨f, hfe⟩ : ∃ f : Nat, s.P.getD n 0 = (f : Int) := ⟨(s.P.getD n 0).toNat, by omega⟩
  rw [hfe] at HG ho
  rw [Int.toNat_natCast] at ho
  have hfl : f < s.F.length := by rw [hi.lf]; omega
  have HFG := Lib.hid (fun wx (hx : Below w.heap.size w wx) => fget_some s.F p.fb p.fg s.n f wx (h.below hx).fr hfl)
  unfold frV at HFG
  obtain ⟨⟨xo, xk, xw, xu⟩, hx⟩ : ∃ x, s.F.getD f default = x := ⟨_, rfl⟩
  rw [hx] at HFG ho
  dsimp only at HFG ho
  have hob : (xo == s.who) = false := by simp [ho]
  rw [hp] at HPA
  obtain ⟨q0, q2⟩ := HN.out _ (Below.refl _ _)
  obtain ⟨c0, c1, c2, c3, c4⟩ := (HK.out _ HB.out).cells
  have ltb := blk_lt (HK.out _ HB.out).row
  obtain ⟨e6, g6, e9, g9⟩ := HE.out _ HB.out
  have HHS := Lib.hid (HK.out _ HB.out)
  clear hE h hi hp HR hb0 hnew hn hpin hfl hx hfe ho 
  go_enter Tryd.func40, Tryd.ntmps40
  go_wp2_with fail
  refine (HPA.out _).mono ?_
  rintro y w1 ⟨rfl, rfl⟩
  go_wp2_with fail
  go_quiet ((go_at_call 78; exact Calls.quiet_of_same ((HG.out _ (below_drewN HB.out _)).mono fun e w' h => ⟨h.1, h.2.symm⟩)))
  obtain ⟨wd, hwd⟩ : ∃ wd, (w.alloc (.cells #[.int .i64 (n : Int), .bool true, .bool ew, .bool eu] 68)).drewN nq = wd := ⟨_, rfl⟩
  have HBD : Hid (Below w.heap.size w wd) := Lib.hid (hwd ▸ below_drewN HB.out _)
  have HBN : Hid (Below (w.alloc (.cells #[.int .i64 (n : Int), .bool true, .bool ew, .bool eu] 68)).heap.size (w.alloc (.cells #[.int .i64 (n : Int), .bool true, .bool ew, .bool eu] 68)) wd) := Lib.hid (hwd ▸ below_drewN (Below.refl _ _) _)
  rw [hwd]
  clear hwd q0 q2 c0 c1 c2 c3 c4 ltb e6 g6 e9 g9
  obtain ⟨-, c1, -, -, -⟩ := (HK.out _ HBD.out).cells
  go_wp2_with fail
  refine (HFG.out _ HBD.out).mono ?_
  rintro y w2 ⟨rfl, hb2⟩
  have hbf := hb2.alloc hb2.size (.cells #[.int .i64 xo, .int .i64 xk, .int .i64 xw, .int .i64 xu] 33)
  have HBF := Lib.hid (HBD.out.trans (hbf.mono HBD.out.size))
  have HBM := Lib.hid (HBN.out.trans (hbf.mono HBN.out.size))
  have hnf := blk_new w2 (.cells #[.int .i64 xo, .int .i64 xk, .int .i64 xw, .int .i64 xu] 33)
  have x0 := blk_cell hnf 0
  obtain ⟨-, -, d2, -, -⟩ := (HK.out _ HBF.out).cells
  obtain ⟨q0, q2⟩ := HN.out _ HBM.out
  clear c1 hb2 hbf hnf
  go_wp2_with fail
  go_quiet (fail)
  obtain ⟨we, hwe⟩ : ∃ we, (w2.alloc (.cells #[.int .i64 xo, .int .i64 xk, .int .i64 xw, .int .i64 xu] 33)).drewN nq = we := ⟨_, rfl⟩
  have HBE : Hid (Below w.heap.size w we) := Lib.hid (hwe ▸ below_drewN HBF.out _)
  have HBQ : Hid (Below (w.alloc (.cells #[.int .i64 (n : Int), .bool true, .bool ew, .bool eu] 68)).heap.size (w.alloc (.cells #[.int .i64 (n : Int), .bool true, .bool ew, .bool eu] 68)) we) := Lib.hid (hwe ▸ below_drewN HBM.out _)
  rw [hwe]
  clear hwe q0 q2 d2 x0
  obtain ⟨e6, g6, e9, g9⟩ := HE.out _ HBE.out
  go_wp2
  go_ret
  exact ⟨rfl, HK.out _ HBE.out, Only.of_below HBE.out⟩

set_option maxRecDepth 100000 in
set_option maxHeartbeats 16000000 in
theorem tput_set (E : Nat → Addr) (p : Pl) (s : Ts) (m : Int) (page ef : Int) (ew eu : Bool) (w : World) (hE : ErrsK E p w) (h : PtAt w p s) (hi : TInv m s) (hm : m + 1 ≤ 1000000) (hp : isPage page = true) (n : Nat) (hf : ef = (n : Int)) (hn : n < s.P.length) (ho : (s.F.getD (s.P.getD n 0).toNat default).owner = s.who) :
    Calls Tryd.prog 40 #[.pointer (some ⟨p.tb, 0, none⟩), .int .i64 page, .agg #[.int .i64 ef, .bool true, .bool ew, .bool eu]] w (PtQ E p (tPut s page ⟨ef, true, ew, eu⟩) w) := by
  subst hf
  have hb0 : Below w.heap.size w (w.alloc (.cells #[.int .i64 (n : Int), .bool true, .bool ew, .bool eu] 68)) := (Below.refl _ _).alloc (Nat.le_refl _) _
  have HPA := Lib.hid (fun wx => tpage_any page wx)
  have HR : Hid (tPut s page ⟨(n : Int), true, ew, eu⟩ = tSet s page (s.P.getD n 0) ew) := Lib.hid (by unfold tPut; rw [if_pos hp, if_pos rfl, if_pos ⟨by show (0 : Int) ≤ (n : Int); omega, by show (n : Int) < _; omega⟩]; show (if (s.F.getD (s.P.getD (n : Int).toNat 0).toNat default).owner = s.who then tSet s page (s.P.getD (n : Int).toNat 0) ew else _) = _; rw [Int.toNat_natCast, if_pos ho])
  rw [HR.out]
  have HB := Lib.hid hb0
  have HO := Lib.hid (Only.of_below (F := p.zw) hb0)
  have HK : Hid (∀ wx, Below w.heap.size w wx → PtAt wx p s) := Lib.hid fun wx hx => h.below hx
  have HEE := Lib.hid hE
  have HE : Hid (∀ wx, Below w.heap.size w wx → wx.cell? ⟨3, 0, none⟩ = some (errV (E 6)) ∧ 3 < wx.heap.size ∧ wx.cell? ⟨6, 0, none⟩ = some (errV (E 9)) ∧ 6 < wx.heap.size) := Lib.hid fun wx hx => by
    have e6 := ((hE wx (Only.of_below hx)).1 6 (by decide)).1
    have e9 := ((hE wx (Only.of_below hx)).1 9 (by decide)).1
    exact ⟨e6, World.block_lt_of_cell? _ _ e6, e9, World.block_lt_of_cell? _ _ e9⟩
  have hnew := blk_new w (.cells #[.int .i64 (n : Int), .bool true, .bool ew, .bool eu] 68)
  have HN : Hid (∀ wx, Below (w.alloc (.cells #[.int .i64 (n : Int), .bool true, .bool ew, .bool eu] 68)).heap.size (w.alloc (.cells #[.int .i64 (n : Int), .bool true, .bool ew, .bool eu] 68)) wx → wx.cell? ⟨w.heap.size, 0, none⟩ = some (.int .i64 (n : Int)) ∧ wx.cell? ⟨w.heap.size, 2, none⟩ = some (.bool ew)) := Lib.hid fun wx hx => by
    have := blk_below hnew hx (blk_lt hnew)
    exact ⟨blk_cell this 0, blk_cell this 2⟩
  have HG := Lib.hid (fun wx (hx : Below w.heap.size w wx) => pm_get s.P p.pb p.pv (n : Int) wx (h.below hx).pm)
  have HGA : Hid (getAns s.P (n : Int) = .tuple #[.int .i64 (s.P.getD n 0), .bool true]) := Lib.hid (by unfold getAns; rw [if_pos ⟨by omega, by omega⟩, Int.toNat_natCast])
  rw [HGA.out] at HG
  have hpin := hi.pin n hn
  obtain ⟨f, hfe⟩ : ∃ f : Nat, s.P.getD n 0 = (f : Int) := ⟨(s.P.getD n 0).toNat, by omega⟩
  rw [hfe] at HG ho
  rw [Int.toNat_natCast] at ho
  have hfl : f < s.F.length := by rw [hi.lf]; omega
  have HFG := Lib.hid (fun wx (hx : Below w.heap.size w wx) => fget_some s.F p.fb p.fg s.n f wx (h.below hx).fr hfl)
  unfold frV at HFG
  obtain ⟨⟨xo, xk, xw, xu⟩, hx⟩ : ∃ x, s.F.getD f default = x := ⟨_, rfl⟩
  rw [hx] at HFG ho
  dsimp only at HFG ho
  subst ho
  rw [hfe]
  have HS := Lib.hid (fun wx (ho : Only p.zw w wx) (hx : PtAt wx p s) => tset_any E p s m page (f : Int) ew wx (HEE.out.next ho) hx hi hm hp)
  rw [hp] at HPA
  obtain ⟨q0, q2⟩ := HN.out _ (Below.refl _ _)
  obtain ⟨c0, c1, c2, c3, c4⟩ := (HK.out _ HB.out).cells
  have ltb := blk_lt (HK.out _ HB.out).row
  obtain ⟨e6, g6, e9, g9⟩ := HE.out _ HB.out
  have HHS := Lib.hid (HK.out _ HB.out)
  clear hE h hi hp HR hb0 hnew hn hpin hfl hx hfe 
  go_enter Tryd.func40, Tryd.ntmps40
  go_wp2_with fail
  refine (HPA.out _).mono ?_
  rintro y w1 ⟨rfl, rfl⟩
  go_wp2_with fail
  go_quiet ((go_at_call 78; exact Calls.quiet_of_same ((HG.out _ (below_drewN HB.out _)).mono fun e w' h => ⟨h.1, h.2.symm⟩)))
  obtain ⟨wd, hwd⟩ : ∃ wd, (w.alloc (.cells #[.int .i64 (n : Int), .bool true, .bool ew, .bool eu] 68)).drewN nq = wd := ⟨_, rfl⟩
  have HBD : Hid (Below w.heap.size w wd) := Lib.hid (hwd ▸ below_drewN HB.out _)
  have HBN : Hid (Below (w.alloc (.cells #[.int .i64 (n : Int), .bool true, .bool ew, .bool eu] 68)).heap.size (w.alloc (.cells #[.int .i64 (n : Int), .bool true, .bool ew, .bool eu] 68)) wd) := Lib.hid (hwd ▸ below_drewN (Below.refl _ _) _)
  rw [hwd]
  clear hwd q0 q2 c0 c1 c2 c3 c4 ltb e6 g6 e9 g9
  obtain ⟨-, c1, -, -, -⟩ := (HK.out _ HBD.out).cells
  go_wp2_with fail
  refine (HFG.out _ HBD.out).mono ?_
  rintro y w2 ⟨rfl, hb2⟩
  have hbf := hb2.alloc hb2.size (.cells #[.int .i64 s.who, .int .i64 xk, .int .i64 xw, .int .i64 xu] 33)
  have HBF := Lib.hid (HBD.out.trans (hbf.mono HBD.out.size))
  have HBM := Lib.hid (HBN.out.trans (hbf.mono HBN.out.size))
  have hnf := blk_new w2 (.cells #[.int .i64 s.who, .int .i64 xk, .int .i64 xw, .int .i64 xu] 33)
  have x0 := blk_cell hnf 0
  obtain ⟨-, -, d2, -, -⟩ := (HK.out _ HBF.out).cells
  obtain ⟨q0, q2⟩ := HN.out _ HBM.out
  clear c1 hb2 hbf hnf
  go_wp2_with fail
  go_quiet (fail)
  obtain ⟨we, hwe⟩ : ∃ we, (w2.alloc (.cells #[.int .i64 s.who, .int .i64 xk, .int .i64 xw, .int .i64 xu] 33)).drewN nq = we := ⟨_, rfl⟩
  have HBE : Hid (Below w.heap.size w we) := Lib.hid (hwe ▸ below_drewN HBF.out _)
  have HBQ : Hid (Below (w.alloc (.cells #[.int .i64 (n : Int), .bool true, .bool ew, .bool eu] 68)).heap.size (w.alloc (.cells #[.int .i64 (n : Int), .bool true, .bool ew, .bool eu] 68)) we) := Lib.hid (hwe ▸ below_drewN HBM.out _)
  rw [hwe]
  clear hwe q0 q2 d2 x0
  obtain ⟨q0, q2⟩ := HN.out _ HBQ.out
  go_wp2_with fail
  refine (HS.out _ (Only.of_below HBE.out) (HK.out _ HBE.out)).mono ?_
  rintro y w3 ⟨rfl, h3, ho3⟩
  have HF := Lib.hid (And.intro h3 ((Only.of_below (F := p.zw) HBE.out).trans ho3))
  clear h3 ho3
  go_wp2
  go_ret
  exact ⟨rfl, HF.out⟩

/-- Put -/
theorem tput_any (E : Nat → Addr) (p : Pl) (s : Ts) (m : Int) (page : Int) (e : Ent) (w : World) (hE : ErrsK E p w) (h : PtAt w p s) (hi : TInv m s) (hm : m + 1 ≤ 1000000) :
    Calls Tryd.prog 40 #[.pointer (some ⟨p.tb, 0, none⟩), .int .i64 page, e.v] w (PtQ E p (tPut s page e) w) := by
  obtain ⟨ef, et, ew, eu⟩ := e
  cases hp : isPage page with
  | false => exact tput_nopage E p s page ef et ew eu w hE h hp
  | true =>
    cases et with
    | false =>
      by_cases hz : ef = 0 ∧ ew = false ∧ eu = false
      · obtain ⟨rfl, rfl, rfl⟩ := hz
        exact tput_drop E p s m page w hE h hi (by omega) hp
      · exact tput_bent E p s page ef ew eu w hE h hp hz
    | true =>
      by_cases hn : 0 ≤ ef ∧ ef < (s.P.length : Int)
      · have hf : ef = ((ef.toNat : Nat) : Int) := by omega
        by_cases ho : (s.F.getD (s.P.getD ef.toNat 0).toNat default).owner = s.who
        · exact tput_set E p s m page ef ew eu w hE h hi hm hp ef.toNat hf (by omega) ho
        · exact tput_owner E p s m page ef ew eu w hE h hi hm hp ef.toNat hf (by omega) ho
      · exact tput_none E p s m page ef ew eu w hE h hi hm hp hn

end Go.Proofs.YtaoaachgnnengaaDoor

/-
  facaderef.SameWords: are two lists the same?
-/
namespace Go.Proofs.YtaoaachgnnengaaDoor
open Go.RowKit

/-- the first k are the same -/
def SameWordsTo (xs ys : List Int) (w : World) (i : Value) (wr : World) : Prop := ∃ k : Nat, k ≤ xs.length ∧ i = .int .i64 k ∧ xs.take k = ys.take k ∧ ∃ n, wr = w.drewN n

set_option maxHeartbeats 800000 in
theorem sameWords_any (xs ys : List Int) (ao bo : Option Addr) (c1 c2 : Nat) (w : World) (hx : AtL w ao (u32s xs)) (hy : AtL w bo (u32s ys)) (hl : xs.length ≤ 1000000000) (hl2 : ys.length ≤ 1000000000) :
    Calls Tryd.prog 44 #[.slice ao xs.length c1, .slice bo ys.length c2] w fun e w' => e = .returned (.bool (decide (xs = ys))) ∧ ∃ n, w' = w.drewN n := by
  by_cases hlen : xs.length = ys.length
  · have HX := Lib.hid hx
    have HY := Lib.hid hy
    have HLEN := Lib.hid hlen
    rw [← HLEN.out]
    clear hx hy hlen
    go_enter Tryd.func44, Tryd.ntmps44
    go_wp2_with fail
    go_loopw [5] (fun i wr => SameWordsTo xs ys w i wr) (fun i _ => xs.length - (intOf i).toNat)
    case atStart => exact ⟨0, Nat.zero_le _, rfl, rfl, 0, rfl⟩
    case round =>
      obtain ⟨k, hk, rfl, hs, n, rfl⟩ := hrel
      have HS := Lib.hid hs
      clear hs
      by_cases hlt : k < xs.length
      · have hlt2 : k < ys.length := by have := HLEN.out; omega
        obtain ⟨b, o, rfl, p0, hb⟩ := HX.out k _ (u32s_get xs k hlt)
        obtain ⟨b2, o2, rfl, q0, hb2⟩ := HY.out k _ (u32s_get ys k hlt2)
        obtain ⟨x, hx⟩ : ∃ x, xs.getD k 0 = x := ⟨_, rfl⟩
        obtain ⟨y, hy⟩ : ∃ y, ys.getD k 0 = y := ⟨_, rfl⟩
        rw [hx] at p0
        rw [hy] at q0
        have HXE := Lib.hid hx
        have HYE := Lib.hid hy
        have hki : (k : Int) < (xs.length : Int) := by omega
        clear hx hy
        by_cases hxy : x = y
        · have hbq : (x == y) = true := by simp [hxy]
          have HXY := Lib.hid hxy
          clear hxy
          go_wp2_with fail
          go_quiet (fail)
          go_wp2
          go_roundw
          case rel => exact ⟨k + 1, by omega, by go_num, take_eq 0 hlt hlt2 HS.out (by rw [HXE.out, HYE.out, HXY.out]), n + nq, rfl⟩
          case measure => simp [intOf]; omega
        · have hbq : (x == y) = false := by simp [hxy]
          have HXY := Lib.hid hxy
          clear hxy
          go_wp2_with fail
          go_quiet (fail)
          go_wp2
          go_ret
          refine ⟨ret_bool ?_, n + nq, rfl⟩
          symm
          rw [decide_eq_false_iff_not]
          intro h
          subst h
          exact HXY.out (HXE.out.symm.trans HYE.out)
      · obtain rfl : k = xs.length := by omega
        go_wp2
        go_ret
        refine ⟨ret_bool ?_, n, rfl⟩
        symm
        rw [decide_eq_true_eq]
        have := HS.out
        rwa [List.take_length, List.take_of_length_le (by rw [HLEN.out]; exact Nat.le_refl _)] at this
  · have hne : ((xs.length : Int) != (ys.length : Int)) = true := by rw [bne_iff_ne]; omega
    have HLEN := Lib.hid hlen
    clear hlen hx hy
    go_enter Tryd.func44, Tryd.ntmps44
    go_wp2
    go_ret
    refine ⟨ret_bool ?_, 0, rfl⟩
    symm
    rw [decide_eq_false_iff_not]
    intro h
    exact HLEN.out (by rw [h])
end Go.Proofs.YtaoaachgnnengaaDoor

/-
  facadeworld.Number: any number as one from 0 to below a bound.
-/
namespace Go.Proofs.YtaoaachgnnengaaDoor
open Go.RowKit

set_option maxHeartbeats 400000 in
theorem number_any (n m : Int) (w : World) (h1 : -9223372036854775808 ≤ n) (h2 : n ≤ 9223372036854775807) (hm : 0 < m) (hm2 : m ≤ 1000000000) :
    Calls Tryd.prog 12 #[.int .i64 n, .int .i64 m] w fun e w' => e = .returned (.int .i64 (n % m)) ∧ w = w' := by
  by_cases hn : 0 ≤ n
  · have h3 := Int.emod_nonneg n (show m ≠ 0 by omega)
    have h4 : ¬ n % m < 0 := by omega
    go_enter Tryd.func12, Tryd.ntmps12
    go_wp2
    go_ret
    exact ⟨rfl, rfl⟩
  · obtain ⟨h3, h4, h5, h6⟩ := emod_of_tmod (show n < 0 by omega) hm
    obtain ⟨t, ht⟩ : ∃ t, n.tmod m = t := ⟨_, rfl⟩
    rw [ht] at h3 h4 h5 h6
    have H3 := Lib.hid h3
    have H4 := Lib.hid h4
    have hw := IntWalk.i64_in (t + m) (by omega)
    clear h3 h4
    by_cases hlt : t < 0
    · go_enter Tryd.func12, Tryd.ntmps12
      go_wp2
      go_ret
      exact ⟨by rw [← H3.out hlt]; rfl, rfl⟩
    · go_enter Tryd.func12, Tryd.ntmps12
      go_wp2
      go_ret
      exact ⟨by rw [← H4.out hlt]; rfl, rfl⟩
end Go.Proofs.YtaoaachgnnengaaDoor

/-
  TablesTwice: the walk. Given where the sentinels lie.
-/
namespace Go.Proofs.YtaoaachgnnengaaDoor
open Go.RowKit

def TtTo (w0 : World) (i : Value) (wr : World) : Prop := ∃ k : Nat, k ≤ 30 ∧ i = .int .i64 (k : Int) ∧ Below w0.heap.size w0 wr
theorem set_frame {w : World} {b : Nat} {a1 a2 a3 a4 b1 b2 b3 b4 : Value} {T : TypeId} (h : w.heap[b]? = some (.cells #[a1, a2, a3, a4] T (0, 0))) : ((((w.setCell ⟨b, 0, none⟩ b1).setCell ⟨b, 1, none⟩ b2).setCell ⟨b, 2, none⟩ b3).setCell ⟨b, 3, none⟩ b4).heap[b]? = some (.cells #[b1, b2, b3, b4] T (0, 0)) := by
  have := blk_put (blk_put (blk_put (blk_put h 0 b1) 1 b2) 2 b3) 3 b4
  exact this
theorem sum_one {m : Int} {S : Ts} {pg : Int} {e : Ent} (h : T2At m S pg e) (hp : isPage pg = true) (k : Nat) (h1 : 18 ≤ k) (h2 : k < 20) (s : Int) (hs : (entIs e true (k : Int) : Int) + (entIs e false (k : Int) : Int) = s) : IntKind.i64.wrap ((S.F.getD k default).wr + (S.F.getD k default).us) = s := by
  obtain ⟨a1, a2, a3⟩ := h.sum hp k h1 h2
  have b1 := entIs_le e true (k : Int)
  have b2 := entIs_le e false (k : Int)
  rw [IntWalk.i64_in _ (by omega)]
  omega
theorem is_sum (f : Nat) (w : Bool) (k : Int) (h : k = ((1 + f : Nat) : Int)) : (entIs ⟨((1 + f : Nat) : Int), true, w, true⟩ true k : Int) + (entIs ⟨((1 + f : Nat) : Int), true, w, true⟩ false k : Int) = 1 := by
  subst h
  cases w <;> simp [entIs]
theorem no_sum (e : Ent) (k : Int) (h : e.t = true → e.f ≠ k) : (entIs e true k : Int) + (entIs e false k : Int) = 0 := by
  have : ∀ b, entIs e b k = 0 := fun b => by
    unfold entIs
    rw [if_neg (fun hh => h hh.1 hh.2.2)]
  rw [this, this]
  rfl

set_option maxRecDepth 100000 in
set_option maxHeartbeats 64000000 in
theorem tablesTwice_walk (E : Nat → Addr) (x0 : Int) (xw xv : Bool) (w : World) (hE : ErrsAt errT gOf w E all16) (h0 : -9223372036854775808 ≤ x0 ∧ x0 ≤ 9223372036854775807) :
    Calls Tryd.prog 9 #[.int .i64 x0, .bool xw, .bool xv] w fun y w' => y = .returned (.bool true) ∧ Below w.heap.size w w' := by
  have HE16 : Hid (∀ wx, Below w.heap.size w wx → ErrsAt errT gOf wx E all16) := Lib.hid fun wx h => hE.mono h
  have HEK : Hid (∀ wx, Below w.heap.size w wx → ErrsAt errT gOf wx E nine) := Lib.hid fun wx h => errs9 (hE.mono h)
  have HF1 := Lib.hid (tfirst_true E w hE)
  have HN1 := Lib.hid (fun wx => number_any x0 256 wx h0.1 h0.2 (by decide) (by decide))
  have hpg : isPage (x0 % 256) = true := by simp [isPage]; omega
  obtain ⟨pg, hpg0⟩ : ∃ pg, x0 % 256 = pg := ⟨_, rfl⟩
  rw [hpg0] at HN1 hpg
  have HPG := Lib.hid hpg
  have HS := Lib.hid (t2_at pg)
  obtain ⟨A1, hA1⟩ : ∃ S, (tPut t2S pg ⟨17, true, xw, false⟩).1 = S := ⟨_, rfl⟩
  obtain ⟨A2, hA2⟩ : ∃ S, (tPut A1 pg ⟨17, true, xw, false⟩).1 = S := ⟨_, rfl⟩
  obtain ⟨A3, hA3⟩ : ∃ S, (tPut A2 pg ⟨18, true, xv, false⟩).1 = S := ⟨_, rfl⟩
  obtain ⟨A4, hA4⟩ : ∃ S, (tDrop A3 pg).1 = S := ⟨_, rfl⟩
  obtain ⟨A5, hA5⟩ : ∃ S, (tDrop A4 pg).1 = S := ⟨_, rfl⟩
  have t0 := HS.out.2.2.2.2.2
  obtain ⟨e1, t1⟩ := t0.put hpg 17 (by decide) (by decide) xw
  have r1 := t2M_put (pg := pg) (S := t2S) (S' := t2S) ⟨rfl, rfl, fun _ _ => rfl⟩ t0 hpg 17 (by decide) (by decide) xw
  have hA1' : (tPut t2S pg ⟨((17 : Nat) : Int), true, xw, false⟩).1 = A1 := hA1
  rw [hA1'] at t1 r1
  obtain ⟨e2, t2⟩ := t1.put hpg 17 (by decide) (by decide) xw
  have r2 := t2M_put r1 t1 hpg 17 (by decide) (by decide) xw
  have hA2' : (tPut A1 pg ⟨((17 : Nat) : Int), true, xw, false⟩).1 = A2 := hA2
  rw [hA2'] at t2 r2
  obtain ⟨e3, t3⟩ := t2.put hpg 18 (by decide) (by decide) xv
  have r3 := t2M_put r2 t2 hpg 18 (by decide) (by decide) xv
  have hA3' : (tPut A2 pg ⟨((18 : Nat) : Int), true, xv, false⟩).1 = A3 := hA3
  rw [hA3'] at t3 r3
  obtain ⟨e4, t4⟩ := t3.drop hpg
  rw [hA4] at t4
  obtain ⟨e5, t5⟩ := t4.drop hpg
  rw [hA5] at t5
  have hsame := t2_same (m' := 0) hpg t3 r3 rfl
  rw [hA4, hA5] at hsame
  have HE1 : Hid (tPut t2S pg ⟨17, true, xw, false⟩ = (A1, 0)) := Lib.hid (Prod.ext hA1 e1)
  have HE2 : Hid (tPut A1 pg ⟨17, true, xw, false⟩ = (A2, 0)) := Lib.hid (Prod.ext hA2 e2)
  have HE3 : Hid (tPut A2 pg ⟨18, true, xv, false⟩ = (A3, 0)) := Lib.hid (Prod.ext hA3 e3)
  have HE4 : Hid (tDrop A3 pg = (A4, 0)) := Lib.hid (Prod.ext hA4 e4)
  have HE5 : Hid (tDrop A4 pg = (A5, 0)) := Lib.hid (Prod.ext hA5 e5)
  have T0 := Lib.hid t0
  have T1 := Lib.hid t1
  have T2 := Lib.hid t2
  have T3 := Lib.hid t3
  have T4 := Lib.hid t4
  have T5 := Lib.hid t5
  have G2 : Hid (tGet A2 pg = ⟨17, true, xw, true⟩) := Lib.hid (t2.get (by decide))
  have G3 : Hid (tGet A3 pg = ⟨18, true, xv, true⟩) := Lib.hid (t3.get (by decide))
  have S2 := Lib.hid (sum_one t2 hpg 18 (by decide) (by decide) 1 (is_sum 17 xw ((18 : Nat) : Int) rfl))
  have S3 := Lib.hid (sum_one t3 hpg 18 (by decide) (by decide) 0 (no_sum _ ((18 : Nat) : Int) (fun _ => by show ((1 + 18 : Nat) : Int) ≠ ((18 : Nat) : Int); decide)))
  have S4 := Lib.hid (sum_one t3 hpg 19 (by decide) (by decide) 1 (is_sum 18 xv ((19 : Nat) : Int) rfl))
  have S5 := Lib.hid (sum_one t5 hpg 19 (by decide) (by decide) 0 (no_sum _ ((19 : Nat) : Int) (fun h => by cases h)))
  have HSAME := Lib.hid hsame
  clear hE h0 hpg0 hpg t0 t1 t2 t3 t4 t5 r1 r2 r3 e1 e2 e3 e4 e5 hA1 hA2 hA3 hA4 hA5 hA1' hA2' hA3' hsame
  go_enter Tryd.func9, Tryd.ntmps9
  go_wp2_with fail
  refine HF1.out.mono ?_
  rintro y w0 ⟨rfl, hb0⟩
  have HB0 := Lib.hid hb0
  have HM := Lib.hid (made_any E 30 1 w0 (HE16.out _ hb0) (by decide) (by decide))
  clear hb0
  go_wp2_with fail
  refine HM.out.mono ?_
  rintro y w1 ⟨p, z, rfl, htw, -⟩
  have HT1 : Hid (Tw w w1 p z (tNew 30 1 1) (tNew 30 1 1)) := Lib.hid ⟨htw.pt, htw.zt, htw.ap, fun k hk => Nat.le_trans HB0.out.size (htw.pb k hk), fun k hk => Nat.le_trans HB0.out.size (htw.zb k hk), HB0.out.trans (htw.b.mono HB0.out.size)⟩
  have had := tadd_any E p (tNew 30 1 1) 1 w1 (HT1.out.errs HEK.out) HT1.out.pt (tNew_inv 30 1 1 (by unfold frOwns; omega) (by decide) (by decide))
  unfold AddQ at had
  rw [HS.out.1, HS.out.2.1] at had
  obtain ⟨tb, htb⟩ : ∃ x, p.tb = x := ⟨_, rfl⟩
  obtain ⟨mb, hmb⟩ : ∃ x, p.mb = x := ⟨_, rfl⟩
  obtain ⟨fb, hfb⟩ : ∃ x, p.fb = x := ⟨_, rfl⟩
  rw [htb] at had
  have HAD := Lib.hid had
  have HPT := Lib.hid (And.intro htb (And.intro hmb hfb))
  rw [htb, hmb, hfb]
  clear htw had htb hmb hfb
  go_wp2_with fail
  refine (HN1.out _).mono ?_
  rintro y wx ⟨rfl, rfl⟩
  go_wp2_with fail
  refine HAD.out.mono ?_
  rintro y w2 ⟨pv2, rfl, hp2, ho2, hv2⟩
  obtain ⟨p1, hp1⟩ : ∃ p1 : Pl, { p with pv := pv2 } = p1 := ⟨_, rfl⟩
  have HT2 : Hid (Tw w w2 p1 z t2S1 (tNew 30 1 1)) := Lib.hid (hp1 ▸ HT1.out.pAdd (by rw [HPT.out.1]; exact hp2) ho2 hv2)
  have HP1 : Hid (p1.tb = tb ∧ p1.mb = mb ∧ p1.fb = fb) := Lib.hid (by rw [← hp1]; exact HPT.out)
  have had := tadd_any E p1 t2S1 2 w2 (HT2.out.errs HEK.out) HT2.out.pt HS.out.2.2.1
  unfold AddQ at had
  rw [HS.out.2.2.2.1, HS.out.2.2.2.2.1, HP1.out.1] at had
  have HAD2 := Lib.hid had
  clear hp2 ho2 hv2 hp1 had HAD
  unfold errC
  rw [if_pos rfl]
  go_wp2_with fail
  refine HAD2.out.mono ?_
  rintro y w3 ⟨pv3, rfl, hp3, ho3, hv3⟩
  obtain ⟨p2, hp2⟩ : ∃ p2 : Pl, { p1 with pv := pv3 } = p2 := ⟨_, rfl⟩
  have HT3 : Hid (Tw w w3 p2 z t2S (tNew 30 1 1)) := Lib.hid (hp2 ▸ HT2.out.pAdd (by rw [HP1.out.1]; exact hp3) ho3 hv3)
  have HPX : Hid (p2.tb = tb ∧ p2.mb = mb ∧ p2.fb = fb) := Lib.hid (by rw [← hp2]; exact HP1.out)
  clear hp3 ho3 hv3 hp2 HAD2
  unfold errC
  rw [if_pos rfl]
  obtain ⟨xb, hxb⟩ : ∃ x, w3.heap.size = x := ⟨_, rfl⟩
  obtain ⟨w4, hw4⟩ : ∃ x, w3.alloc (.cells #[.int .i64 17, .bool true, .bool xw, .bool false] 68) = x := ⟨_, rfl⟩
  have hx4 := blk_new w3 (.cells #[.int .i64 17, .bool true, .bool xw, .bool false] 68)
  have hb4 : Below w3.heap.size w3 w4 := hw4 ▸ (Below.refl _ _).alloc (Nat.le_refl _) _
  rw [hxb, hw4] at hx4
  obtain ⟨yb, hyb⟩ : ∃ x, w4.heap.size = x := ⟨_, rfl⟩
  obtain ⟨w5, hw5⟩ : ∃ x, w4.alloc (.cells #[.int .i64 18, .bool true, .bool xv, .bool false] 68) = x := ⟨_, rfl⟩
  have hy5 := blk_new w4 (.cells #[.int .i64 18, .bool true, .bool xv, .bool false] 68)
  have hb5 : Below w3.heap.size w3 w5 := hw5 ▸ hb4.alloc hb4.size _
  have hx5 := blk_old hx4 (.cells #[.int .i64 18, .bool true, .bool xv, .bool false] 68)
  rw [hyb, hw5] at hy5
  rw [hw5] at hx5
  have HX5 := Lib.hid hx5
  have HY5 := Lib.hid hy5
  have HT5 := Lib.hid (HT3.out.below hb5)
  have HXY : Hid (w3.heap.size ≤ xb ∧ w3.heap.size ≤ yb) := Lib.hid ⟨Nat.le_of_eq hxb, hyb ▸ hb4.size⟩
  have HCL := Lib.hid (mm_clone t2S.M p2.mb t2S.n p2.mv w5 HT5.out.pt.mem T0.out.tb.inv.n1)
  rw [HPX.out.2.1] at HCL
  have HYX : Hid (xb + 1 = yb) := Lib.hid (by rw [← hyb, ← hw4, ← hxb]; simp)
  have HXB := Lib.hid hxb
  have HW4 := Lib.hid hw4
  have HYB := Lib.hid hyb
  have HW5 := Lib.hid hw5
  clear hx4 hy5 hb4 hb5 hx5 hxb hw4 hyb hw5
  go_wp2_with fail
  try rw [HW4.out]
  try rw [HXB.out]
  go_wp2_with fail
  try rw [HW5.out]
  try rw [HYB.out]
  try rw [HYX.out]
  go_wp2_with fail
  try rw [HYX.out]
  clear HYX HXB HW4 HYB HW5
  refine HCL.out.mono ?_
  rintro y wc ⟨cb, cv, rfl, hmc, hcb, hcv, hbc⟩
  have HTC := Lib.hid (HT5.out.below hbc)
  have HOLD : Hid (∀ wx, Only p2.zw wc wx → MAt wx cb cv t2S.n t2S.M) := Lib.hid fun wx ho => hmc.only ho (fun hz => by have := HT5.out.plt cb (.inr hz); omega) (fun j hj hz => by have := HT5.out.plt j (.inr hz); have := hcv j hj; omega)
  have HXC : Hid (∀ wx, Only p2.zw wc wx → wx.heap[xb]? = some (.cells #[.int .i64 17, .bool true, .bool xw, .bool false] 68 (0, 0))) := Lib.hid fun wx ho => ho.blk (blk_below HX5.out hbc (blk_lt HX5.out)) (fun hz => by have := HT3.out.plt xb (.inr hz); have := HXY.out; omega)
  have HYC : Hid (∀ wx, Only p2.zw wc wx → wx.heap[yb]? = some (.cells #[.int .i64 18, .bool true, .bool xv, .bool false] 68 (0, 0))) := Lib.hid fun wx ho => ho.blk (blk_below HY5.out hbc (blk_lt HY5.out)) (fun hz => by have := HT3.out.plt yb (.inr hz); have := HXY.out; omega)
  have HO0 : Hid (Only p2.zw wc wc) := Lib.hid (Only.refl _ _)
  have HP0 : Hid (PtAt wc p2 t2S) := Lib.hid HTC.out.pt
  have HEC : Hid (ErrsK E p2 wc) := Lib.hid (HTC.out.errs HEK.out)
  have HW := Lib.hid (fun wx (ho : Only p2.zw wc wx) => HTC.out.b.trans (ho.below (B := w.heap.size) HTC.out.b.size HTC.out.pb))
  have HZL : Hid (∀ k, (p2.z0 k ∨ p2.zw k) → k < wc.heap.size) := Lib.hid fun k hk => HTC.out.plt k hk
  clear hmc hcb hcv hbc HCL HX5 HY5 HT5 HT3 HXY HT2 HT1
  have xqh := HXC.out _ HO0.out
  have xq0 : wc.cell? ⟨xb, 0, none⟩ = some (.int .i64 17) := blk_cell xqh 0
  have xq1 : wc.cell? ⟨xb, 1, none⟩ = some (.bool true) := blk_cell xqh 1
  have xq2 : wc.cell? ⟨xb, 2, none⟩ = some (.bool xw) := blk_cell xqh 2
  have xq3 : wc.cell? ⟨xb, 3, none⟩ = some (.bool false) := blk_cell xqh 3
  clear xqh
  have q1 := tput_any E p2 t2S 3 pg ⟨17, true, xw, false⟩ wc (HEC.out.next HO0.out) HP0.out T0.out.tb.inv (by decide)
  unfold PtQ at q1
  rw [HPX.out.1, HE1.out] at q1
  try unfold Ent.v at q1
  dsimp only at q1
  rw [show errC E 0 = .nilIface from rfl] at q1
  have HQ1 := Lib.hid q1
  clear q1
  go_wp2_with fail
  refine HQ1.out.mono ?_
  rintro y v1 ⟨rfl, hp, ho⟩
  have HP1 : Hid (PtAt v1 p2 A1) := Lib.hid hp
  have HO1 := Lib.hid (HO0.out.trans ho)
  clear hp ho HQ1 HP0 xq0 xq1 xq2 xq3
  have xqh := HXC.out _ HO1.out
  have xq0 : v1.cell? ⟨xb, 0, none⟩ = some (.int .i64 17) := blk_cell xqh 0
  have xq1 : v1.cell? ⟨xb, 1, none⟩ = some (.bool true) := blk_cell xqh 1
  have xq2 : v1.cell? ⟨xb, 2, none⟩ = some (.bool xw) := blk_cell xqh 2
  have xq3 : v1.cell? ⟨xb, 3, none⟩ = some (.bool false) := blk_cell xqh 3
  clear xqh
  have q2 := tput_any E p2 A1 5 pg ⟨17, true, xw, false⟩ v1 (HEC.out.next HO1.out) HP1.out T1.out.tb.inv (by decide)
  unfold PtQ at q2
  rw [HPX.out.1, HE2.out] at q2
  try unfold Ent.v at q2
  dsimp only at q2
  rw [show errC E 0 = .nilIface from rfl] at q2
  have HQ2 := Lib.hid q2
  clear q2
  go_wp2_with fail
  refine HQ2.out.mono ?_
  rintro y v2 ⟨rfl, hp, ho⟩
  have HP2 : Hid (PtAt v2 p2 A2) := Lib.hid hp
  have HO2 := Lib.hid (HO1.out.trans ho)
  clear hp ho HQ2 HO0 xq0 xq1 xq2 xq3
  have gq3 := tget_any p2 A2 7 pg v2 HP2.out T2.out.tb.inv
  rw [HPX.out.1, G2.out] at gq3
  unfold Ent.v at gq3
  dsimp only at gq3
  have HG3 := Lib.hid gq3
  clear gq3
  go_wp2_with fail
  refine HG3.out.mono ?_
  rintro y g3 ⟨rfl, hb⟩
  have hn := blk_new g3 (.cells #[.int .i64 17, .bool true, .bool xw, .bool true] 68)
  obtain ⟨pbk, hpbk⟩ : ∃ x, g3.heap.size = x := ⟨_, rfl⟩
  obtain ⟨ga3, hga3⟩ : ∃ x, g3.alloc (.cells #[.int .i64 17, .bool true, .bool xw, .bool true] 68) = x := ⟨_, rfl⟩
  have hbg : Below v2.heap.size v2 ga3 := hga3 ▸ hb.alloc hb.size _
  have HLpbk : Hid (wc.heap.size ≤ pbk) := Lib.hid (hpbk ▸ Nat.le_trans HO2.out.size hb.size)
  rw [hpbk, hga3] at hn
  have HBpbk := Lib.hid hn
  have HPG3 := Lib.hid (HP2.out.below hbg)
  have HOG3 := Lib.hid (HO2.out.trans (Only.of_below (F := p2.zw) hbg))
  clear hn hb hbg HG3
  have fq4 := fget_some A2.F p2.fb p2.fg A2.n 18 ga3 HPG3.out.fr (by rw [T2.out.len.2.1]; decide)
  have fs4 := S2.out
  unfold frV at fq4
  obtain ⟨⟨o1, k1, c1, u1⟩, hfx4⟩ : ∃ x, A2.F.getD 18 default = x := ⟨_, rfl⟩
  rw [hfx4] at fq4 fs4
  rw [HPX.out.2.2] at fq4
  dsimp only at fq4 fs4
  have HF4 := Lib.hid fq4
  have HFS4 := Lib.hid fs4
  clear fq4 fs4 hfx4
  go_wp2_with fail
  try rw [hpbk]
  try rw [hga3]
  clear hpbk hga3
  refine HF4.out.mono ?_
  rintro y f4 ⟨rfl, hb⟩
  have hn := blk_new f4 (.cells #[.int .i64 o1, .int .i64 k1, .int .i64 c1, .int .i64 u1] 33)
  obtain ⟨cbk, hcbk⟩ : ∃ x, f4.heap.size = x := ⟨_, rfl⟩
  obtain ⟨fa4, hfa4⟩ : ∃ x, f4.alloc (.cells #[.int .i64 o1, .int .i64 k1, .int .i64 c1, .int .i64 u1] 33) = x := ⟨_, rfl⟩
  have hbg : Below ga3.heap.size ga3 fa4 := hfa4 ▸ hb.alloc hb.size _
  have HLcbk : Hid (wc.heap.size ≤ cbk) := Lib.hid (hcbk ▸ Nat.le_trans HOG3.out.size hb.size)
  have HLWcbk : Hid (ga3.heap.size ≤ cbk) := Lib.hid (hcbk ▸ hb.size)
  rw [hcbk, hfa4] at hn
  have HBcbk := Lib.hid hn
  have HPF4 := Lib.hid (HPG3.out.below hbg)
  have HOF4 := Lib.hid (HOG3.out.trans (Only.of_below (F := p2.zw) hbg))
  have HBF4 := Lib.hid hbg
  clear hn hb hbg HF4
  have hpk := blk_below HBpbk.out HBF4.out (blk_lt HBpbk.out)
  have HBpbk2 := Lib.hid hpk
  have pqh := hpk
  have pq0 : fa4.cell? ⟨pbk, 0, none⟩ = some (.int .i64 17) := blk_cell pqh 0
  have pq1 : fa4.cell? ⟨pbk, 1, none⟩ = some (.bool true) := blk_cell pqh 1
  have pq2 : fa4.cell? ⟨pbk, 2, none⟩ = some (.bool xw) := blk_cell pqh 2
  have pq3 : fa4.cell? ⟨pbk, 3, none⟩ = some (.bool true) := blk_cell pqh 3
  have cqh := HBcbk.out
  have cq0 : fa4.cell? ⟨cbk, 0, none⟩ = some (.int .i64 o1) := blk_cell cqh 0
  have cq1 : fa4.cell? ⟨cbk, 1, none⟩ = some (.int .i64 k1) := blk_cell cqh 1
  have cq2 : fa4.cell? ⟨cbk, 2, none⟩ = some (.int .i64 c1) := blk_cell cqh 2
  have cq3 : fa4.cell? ⟨cbk, 3, none⟩ = some (.int .i64 u1) := blk_cell cqh 3
  have yqh := HYC.out _ HOF4.out
  have yq0 : fa4.cell? ⟨yb, 0, none⟩ = some (.int .i64 18) := blk_cell yqh 0
  have yq1 : fa4.cell? ⟨yb, 1, none⟩ = some (.bool true) := blk_cell yqh 1
  have yq2 : fa4.cell? ⟨yb, 2, none⟩ = some (.bool xv) := blk_cell yqh 2
  have yq3 : fa4.cell? ⟨yb, 3, none⟩ = some (.bool false) := blk_cell yqh 3
  have fs1 := HFS4.out
  clear hpk pqh cqh yqh
  have q5 := tput_any E p2 A2 7 pg ⟨18, true, xv, false⟩ fa4 (HEC.out.next HOF4.out) HPF4.out T2.out.tb.inv (by decide)
  unfold PtQ at q5
  rw [HPX.out.1, HE3.out] at q5
  try unfold Ent.v at q5
  dsimp only at q5
  rw [show errC E 0 = .nilIface from rfl] at q5
  have HQ5 := Lib.hid q5
  clear q5
  go_wp2_with fail
  try rw [hcbk]
  try rw [hfa4]
  clear hcbk hfa4
  refine HQ5.out.mono ?_
  rintro y v5 ⟨rfl, hp, ho⟩
  have HP5 : Hid (PtAt v5 p2 A3) := Lib.hid hp
  have HQX5 := Lib.hid ho
  have HO5 := Lib.hid (HOF4.out.trans ho)
  clear hp ho HQ5 pq0 pq1 pq2 pq3 cq0 cq1 cq2 cq3 yq0 yq1 yq2 yq3 fs1
  have HBcbk5 : Hid (v5.heap[cbk]? = some (.cells #[.int .i64 o1, .int .i64 k1, .int .i64 c1, .int .i64 u1] 33 (0, 0))) := Lib.hid (by
    have hq := HQX5.out.blk HBcbk.out (fun hz => by have := HZL.out cbk (.inr hz); have := HLcbk.out; omega)
    exact hq)
  have gq6 := tget_any p2 A3 9 pg v5 HP5.out T3.out.tb.inv
  rw [HPX.out.1, G3.out] at gq6
  unfold Ent.v at gq6
  dsimp only at gq6
  have HG6 := Lib.hid gq6
  clear gq6
  go_wp2_with fail
  refine HG6.out.mono ?_
  rintro y g6 ⟨rfl, hb⟩
  have hn := blk_new g6 (.cells #[.int .i64 18, .bool true, .bool xv, .bool true] 68)
  obtain ⟨qbk, hqbk⟩ : ∃ x, g6.heap.size = x := ⟨_, rfl⟩
  obtain ⟨ga6, hga6⟩ : ∃ x, g6.alloc (.cells #[.int .i64 18, .bool true, .bool xv, .bool true] 68) = x := ⟨_, rfl⟩
  have hbg : Below v5.heap.size v5 ga6 := hga6 ▸ hb.alloc hb.size _
  have HBG6 := Lib.hid hbg
  have HLqX : Hid (cbk < qbk) := Lib.hid (hqbk ▸ Nat.lt_of_lt_of_le (blk_lt HBcbk5.out) hb.size)
  have HLqbk : Hid (wc.heap.size ≤ qbk) := Lib.hid (hqbk ▸ Nat.le_trans HO5.out.size hb.size)
  rw [hqbk, hga6] at hn
  have HBqbk := Lib.hid hn
  have HPG6 := Lib.hid (HP5.out.below hbg)
  have HOG6 := Lib.hid (HO5.out.trans (Only.of_below (F := p2.zw) hbg))
  clear hn hb hbg HG6
  have HBcbk6 := Lib.hid (blk_below HBcbk5.out HBG6.out (blk_lt HBcbk5.out))
  have fq7 := fget_some A3.F p2.fb p2.fg A3.n 18 ga6 HPG6.out.fr (by rw [T3.out.len.2.1]; decide)
  have fs7 := S3.out
  unfold frV at fq7
  obtain ⟨⟨o2, k2, c2, u2⟩, hfx7⟩ : ∃ x, A3.F.getD 18 default = x := ⟨_, rfl⟩
  rw [hfx7] at fq7 fs7
  rw [HPX.out.2.2] at fq7
  dsimp only at fq7 fs7
  have HF7 := Lib.hid fq7
  have HFS7 := Lib.hid fs7
  clear fq7 fs7 hfx7
  go_wp2_with fail
  try rw [hqbk]
  try rw [hga6]
  clear hqbk hga6
  refine HF7.out.mono ?_
  rintro y f7 ⟨rfl, hb⟩
  have hck := blk_below HBcbk6.out hb (blk_lt HBcbk6.out)
  have hqk := blk_below HBqbk.out hb (blk_lt HBqbk.out)
  have HPF7 := Lib.hid (HPG6.out.below hb)
  have HOF7 := Lib.hid (HOG6.out.trans (Only.of_below (F := p2.zw) hb))
  have fc0 := blk_free hck 0
  have fc1 := blk_free hck 1
  have fc2 := blk_free hck 2
  have fc3 := blk_free hck 3
  have zc0 : f7.cell? ⟨cbk, 0, none⟩ = some (.int .i64 o1) := blk_cell hck 0
  have zc1 : f7.cell? ⟨cbk, 1, none⟩ = some (.int .i64 k1) := blk_cell hck 1
  have zc2 : f7.cell? ⟨cbk, 2, none⟩ = some (.int .i64 c1) := blk_cell hck 2
  have zc3 : f7.cell? ⟨cbk, 3, none⟩ = some (.int .i64 u1) := blk_cell hck 3
  have ltc := blk_lt hck
  have hcs := set_frame hck (b1 := .int .i64 o2) (b2 := .int .i64 k2) (b3 := .int .i64 c2) (b4 := .int .i64 u2)
  have HCS := Lib.hid hcs
  have HFREE : Hid (∀ k, (p2.z0 k ∨ p2.zw k) → k ≠ cbk) := Lib.hid fun k hk e => by have := HZL.out k hk; have := HLcbk.out; omega
  have ho7 : Only (fun k => k = cbk) f7 ((((f7.setCell ⟨cbk, 0, none⟩ (.int .i64 o2)).setCell ⟨cbk, 1, none⟩ (.int .i64 k2)).setCell ⟨cbk, 2, none⟩ (.int .i64 c2)).setCell ⟨cbk, 3, none⟩ (.int .i64 u2)) := ((((Only.refl (fun k => k = cbk) _).setCell (p := ⟨cbk, 0, none⟩) (.inl rfl) _).setCell (p := ⟨cbk, 1, none⟩) (.inl rfl) _).setCell (p := ⟨cbk, 2, none⟩) (.inl rfl) _).setCell (p := ⟨cbk, 3, none⟩) (.inl rfl) _
  have HQS := Lib.hid (ho7.blk hqk (fun e => by have := HLqX.out; omega))
  have HPS := Lib.hid (HPF7.out.keep ho7 (fun k hk => HFREE.out k (.inl hk)) (fun k hk => HFREE.out k (.inr (zw_z1 hk))) (fun k hk => HFREE.out k (.inr (zw_z2 hk))) (fun k hk => HFREE.out k (.inr (zw_z3 hk))))
  have HOS := Lib.hid (HOF7.out.trans' ho7 (fun k hk => .inr (by rw [hk]; exact HLcbk.out)))
  obtain ⟨ws, hws⟩ : ∃ x, (((f7.setCell ⟨cbk, 0, none⟩ (.int .i64 o2)).setCell ⟨cbk, 1, none⟩ (.int .i64 k2)).setCell ⟨cbk, 2, none⟩ (.int .i64 c2)).setCell ⟨cbk, 3, none⟩ (.int .i64 u2) = x := ⟨_, rfl⟩
  rw [hws] at HCS HQS HPS HOS
  have HWS := Lib.hid hws
  clear hck hqk hcs ho7 hb HF7 hws
  go_upto_region 23 with fail
  try rw [HWS.out]
  clear zc0 zc1 zc2 zc3 fc0 fc1 fc2 fc3 ltc HWS
  have fq8 := fget_some A3.F p2.fb p2.fg A3.n 19 ws HPS.out.fr (by rw [T3.out.len.2.1]; decide)
  have fs8 := S4.out
  unfold frV at fq8
  obtain ⟨⟨o3, k3, c3, u3⟩, hfx8⟩ : ∃ x, A3.F.getD 19 default = x := ⟨_, rfl⟩
  rw [hfx8] at fq8 fs8
  rw [HPX.out.2.2] at fq8
  dsimp only at fq8 fs8
  have HF8 := Lib.hid fq8
  have HFS8 := Lib.hid fs8
  clear fq8 fs8 hfx8
  go_wp2_with fail
  refine HF8.out.mono ?_
  rintro y f8 ⟨rfl, hb⟩
  have hn := blk_new f8 (.cells #[.int .i64 o3, .int .i64 k3, .int .i64 c3, .int .i64 u3] 33)
  obtain ⟨dbk, hdbk⟩ : ∃ x, f8.heap.size = x := ⟨_, rfl⟩
  obtain ⟨fa8, hfa8⟩ : ∃ x, f8.alloc (.cells #[.int .i64 o3, .int .i64 k3, .int .i64 c3, .int .i64 u3] 33) = x := ⟨_, rfl⟩
  have hbg : Below ws.heap.size ws fa8 := hfa8 ▸ hb.alloc hb.size _
  have HLdbk : Hid (wc.heap.size ≤ dbk) := Lib.hid (hdbk ▸ Nat.le_trans HOS.out.size hb.size)
  have HLWdbk : Hid (ws.heap.size ≤ dbk) := Lib.hid (hdbk ▸ hb.size)
  rw [hdbk, hfa8] at hn
  have HBdbk := Lib.hid hn
  have HPF8 := Lib.hid (HPS.out.below hbg)
  have HOF8 := Lib.hid (HOS.out.trans (Only.of_below (F := p2.zw) hbg))
  have HBF8 := Lib.hid hbg
  clear hn hb hbg HF8
  have hck := blk_below HCS.out HBF8.out (blk_lt HCS.out)
  have hqk := blk_below HQS.out HBF8.out (blk_lt HQS.out)
  have qqh := hqk
  have qq0 : fa8.cell? ⟨qbk, 0, none⟩ = some (.int .i64 18) := blk_cell qqh 0
  have qq1 : fa8.cell? ⟨qbk, 1, none⟩ = some (.bool true) := blk_cell qqh 1
  have qq2 : fa8.cell? ⟨qbk, 2, none⟩ = some (.bool xv) := blk_cell qqh 2
  have qq3 : fa8.cell? ⟨qbk, 3, none⟩ = some (.bool true) := blk_cell qqh 3
  have cqh := hck
  have cq0 : fa8.cell? ⟨cbk, 0, none⟩ = some (.int .i64 o2) := blk_cell cqh 0
  have cq1 : fa8.cell? ⟨cbk, 1, none⟩ = some (.int .i64 k2) := blk_cell cqh 1
  have cq2 : fa8.cell? ⟨cbk, 2, none⟩ = some (.int .i64 c2) := blk_cell cqh 2
  have cq3 : fa8.cell? ⟨cbk, 3, none⟩ = some (.int .i64 u2) := blk_cell cqh 3
  have dqh := HBdbk.out
  have dq0 : fa8.cell? ⟨dbk, 0, none⟩ = some (.int .i64 o3) := blk_cell dqh 0
  have dq1 : fa8.cell? ⟨dbk, 1, none⟩ = some (.int .i64 k3) := blk_cell dqh 1
  have dq2 : fa8.cell? ⟨dbk, 2, none⟩ = some (.int .i64 c3) := blk_cell dqh 2
  have dq3 : fa8.cell? ⟨dbk, 3, none⟩ = some (.int .i64 u3) := blk_cell dqh 3
  have fs2 := HFS7.out
  have fs3 := HFS8.out
  clear hck hqk qqh cqh dqh
  have q9 := tdrop_any E p2 A3 9 pg fa8 (HEC.out.next HOF8.out) HPF8.out T3.out.tb.inv (by decide)
  unfold PtQ at q9
  rw [HPX.out.1, HE4.out] at q9
  try unfold Ent.v at q9
  dsimp only at q9
  rw [show errC E 0 = .nilIface from rfl] at q9
  have HQ9 := Lib.hid q9
  clear q9
  go_wp2_with fail
  try rw [hdbk]
  try rw [hfa8]
  clear hdbk hfa8
  refine HQ9.out.mono ?_
  rintro y v9 ⟨rfl, hp, ho⟩
  have HQX9 := Lib.hid ho
  have HP9 : Hid (PtAt v9 p2 A4) := Lib.hid hp
  have HO9 := Lib.hid (HOF8.out.trans ho)
  clear hp ho HQ9 qq0 qq1 qq2 qq3 cq0 cq1 cq2 cq3 dq0 dq1 dq2 dq3 fs2 fs3
  have q10 := tdrop_any E p2 A4 10 pg v9 (HEC.out.next HO9.out) HP9.out T4.out.tb.inv (by decide)
  unfold PtQ at q10
  rw [HPX.out.1, HE5.out] at q10
  try unfold Ent.v at q10
  dsimp only at q10
  rw [show errC E 0 = .nilIface from rfl] at q10
  have HQ10 := Lib.hid q10
  clear q10
  go_wp2_with fail
  refine HQ10.out.mono ?_
  rintro y v10 ⟨rfl, hp, ho⟩
  have HQX10 := Lib.hid ho
  have HP10 : Hid (PtAt v10 p2 A5) := Lib.hid hp
  have HO10 := Lib.hid (HO9.out.trans ho)
  clear hp ho HQ10 
  have HD10 : Hid (v10.heap[dbk]? = some (.cells #[.int .i64 o3, .int .i64 k3, .int .i64 c3, .int .i64 u3] 33 (0, 0))) := Lib.hid ((HQX9.out.trans HQX10.out).blk HBdbk.out (fun hz => by have := HZL.out dbk (.inr hz); have := HLdbk.out; omega))
  have fq11 := fget_some A5.F p2.fb p2.fg A5.n 19 v10 HP10.out.fr (by rw [T5.out.len.2.1]; decide)
  have fs11 := S5.out
  unfold frV at fq11
  obtain ⟨⟨o4, k4, c4, u4⟩, hfx11⟩ : ∃ x, A5.F.getD 19 default = x := ⟨_, rfl⟩
  rw [hfx11] at fq11 fs11
  rw [HPX.out.2.2] at fq11
  dsimp only at fq11 fs11
  have HF11 := Lib.hid fq11
  have HFS11 := Lib.hid fs11
  clear fq11 fs11 hfx11
  go_wp2_with fail
  refine HF11.out.mono ?_
  rintro y f11 ⟨rfl, hb⟩
  have hdk := blk_below HD10.out hb (blk_lt HD10.out)
  have HPF11 := Lib.hid (HP10.out.below hb)
  have HOF11 := Lib.hid (HO10.out.trans (Only.of_below (F := p2.zw) hb))
  have fc0 := blk_free hdk 0
  have fc1 := blk_free hdk 1
  have fc2 := blk_free hdk 2
  have fc3 := blk_free hdk 3
  have zc0 : f11.cell? ⟨dbk, 0, none⟩ = some (.int .i64 o3) := blk_cell hdk 0
  have zc1 : f11.cell? ⟨dbk, 1, none⟩ = some (.int .i64 k3) := blk_cell hdk 1
  have zc2 : f11.cell? ⟨dbk, 2, none⟩ = some (.int .i64 c3) := blk_cell hdk 2
  have zc3 : f11.cell? ⟨dbk, 3, none⟩ = some (.int .i64 u3) := blk_cell hdk 3
  have ltc := blk_lt hdk
  have hcs := set_frame hdk (b1 := .int .i64 o4) (b2 := .int .i64 k4) (b3 := .int .i64 c4) (b4 := .int .i64 u4)
  have HDS := Lib.hid hcs
  have HFREE2 : Hid (∀ k, (p2.z0 k ∨ p2.zw k) → k ≠ dbk) := Lib.hid fun k hk e => by have := HZL.out k hk; have := HLdbk.out; omega
  have ho11 : Only (fun k => k = dbk) f11 ((((f11.setCell ⟨dbk, 0, none⟩ (.int .i64 o4)).setCell ⟨dbk, 1, none⟩ (.int .i64 k4)).setCell ⟨dbk, 2, none⟩ (.int .i64 c4)).setCell ⟨dbk, 3, none⟩ (.int .i64 u4)) := ((((Only.refl (fun k => k = dbk) _).setCell (p := ⟨dbk, 0, none⟩) (.inl rfl) _).setCell (p := ⟨dbk, 1, none⟩) (.inl rfl) _).setCell (p := ⟨dbk, 2, none⟩) (.inl rfl) _).setCell (p := ⟨dbk, 3, none⟩) (.inl rfl) _
  have HPD := Lib.hid (HPF11.out.keep ho11 (fun k hk => HFREE2.out k (.inl hk)) (fun k hk => HFREE2.out k (.inr (zw_z1 hk))) (fun k hk => HFREE2.out k (.inr (zw_z2 hk))) (fun k hk => HFREE2.out k (.inr (zw_z3 hk))))
  have HOD := Lib.hid (HOF11.out.trans' ho11 (fun k hk => .inr (by rw [hk]; exact HLdbk.out)))
  obtain ⟨wd, hwd⟩ : ∃ x, (((f11.setCell ⟨dbk, 0, none⟩ (.int .i64 o4)).setCell ⟨dbk, 1, none⟩ (.int .i64 k4)).setCell ⟨dbk, 2, none⟩ (.int .i64 c4)).setCell ⟨dbk, 3, none⟩ (.int .i64 u4) = x := ⟨_, rfl⟩
  rw [hwd] at HDS HPD HOD
  have HWD := Lib.hid hwd
  have HST : Hid (TtTo wd (.int .i64 0) wd) := Lib.hid ⟨0, Nat.zero_le _, rfl, Below.refl _ _⟩
  clear hdk hcs ho11 hb HF11 hwd
  go_upto_region 27 with fail
  try rw [HWD.out]
  clear zc0 zc1 zc2 zc3 fc0 fc1 fc2 fc3 ltc HWD
  go_wp2_with fail
  go_loopw [27] (fun i wr => TtTo wd i wr) (fun i _ => 30 - (intOf i).toNat)
  case atStart => exact HST.out
  case round =>
    obtain ⟨k, hk, rfl, hb⟩ := hrel
    have HB := Lib.hid hb
    have HOR := Lib.hid (HOD.out.trans (Only.of_below (F := p2.zw) hb))
    have HPR := Lib.hid (HPD.out.below hb)
    clear hb HST
    by_cases hlt : k < 30
    · have hki : (k : Int) < 30 := by omega
      have wk := IntWalk.i64_in ((k : Int) + 1) (by omega)
      have hm1 := mm_frame_any t2S.M cb t2S.n k cv wr (HOLD.out _ HOR.out) T0.out.tb.inv.n1
      obtain ⟨L, hL⟩ : ∃ L, fw t2S.M t2S.n k = L := ⟨_, rfl⟩
      rw [hL] at hm1
      have HM1 := Lib.hid hm1
      have HM2 : Hid (∀ wx, Below wr.heap.size wr wx → Calls Tryd.prog 43 #[.pointer (some ⟨mb, 0, none⟩), .int .i64 (k : Int)] wx fun e w' => ∃ av cap, e = .returned (.tuple #[.slice av L.length cap, .bool (decide (k < A5.n))]) ∧ AtL w' av (u32s L) ∧ Below wx.heap.size wx w') := Lib.hid fun wx hx => by
        have := mm_frame_any A5.M p2.mb A5.n k p2.mv wx (HPR.out.below hx).mem T5.out.tb.inv.n1
        rw [HPX.out.2.1, HSAME.out] at this
        have hnn : A5.n = t2S.n := T5.out.tb.sn.trans T0.out.tb.sn.symm
        rw [← hL, ← hnn]
        exact this
      have HLL : Hid (L.length ≤ 1000000000) := Lib.hid (by
        rw [← hL]
        unfold fw frameW
        split
        · rw [List.length_take]; omega
        · exact Nat.zero_le _)
      clear hm1 hL
      go_wp2_with fail
      refine HM1.out.mono ?_
      rintro y wa ⟨av, ca, rfl, ha, hba⟩
      have HA := Lib.hid ha
      have HBA := Lib.hid hba
      clear ha hba
      go_wp2_with fail
      refine (HM2.out _ HBA.out).mono ?_
      rintro y wb ⟨bv, cb2, rfl, hbv, hbb⟩
      have HSW := Lib.hid (sameWords_any L L av bv ca cb2 wb (HA.out.mono hbb) hbv HLL.out HLL.out)
      rw [decide_eq_true (rfl : L = L)] at HSW
      have HBB := Lib.hid (HBA.out.trans (hbb.mono HBA.out.size))
      clear hbv hbb
      go_wp2_with fail
      refine HSW.out.mono ?_
      rintro y we ⟨rfl, d, hd⟩
      have HBE : Hid (Below wd.heap.size wd we) := Lib.hid (by rw [hd]; exact HB.out.trans ((below_drewN HBB.out d).mono HB.out.size))
      clear hd
      go_wp2_with fail
      go_roundw
      case rel => exact ⟨k + 1, by omega, by go_num, HBE.out⟩
      case measure => simp [intOf]; omega
    · have hki : ¬ (k : Int) < 30 := by omega
      have hdk := blk_below HDS.out HB.out (blk_lt HDS.out)
      have z0 : wr.cell? ⟨dbk, 0, none⟩ = some (.int .i64 o4) := blk_cell hdk 0
      have z2 : wr.cell? ⟨dbk, 2, none⟩ = some (.int .i64 c4) := blk_cell hdk 2
      have z3 : wr.cell? ⟨dbk, 3, none⟩ = some (.int .i64 u4) := blk_cell hdk 3
      have fs4 := HFS11.out
      have hl := tlive_any p2 A5 11 wr HPR.out T5.out.tb.inv
      rw [HPX.out.1, T5.out.live] at hl
      have HLV := Lib.hid hl
      clear hl hdk hk hlt
      go_wp2_with fail
      refine HLV.out.mono ?_
      rintro y wl ⟨lv, rfl, hol, -, hbl⟩
      obtain ⟨al, cl, rfl⟩ := own_slice hol
      have HBL := Lib.hid (HW.out _ (HOR.out.trans (Only.of_below (F := p2.zw) hbl)))
      clear hol hbl
      go_wp2
      go_ret
      exact ⟨rfl, HBL.out⟩
end Go.Proofs.YtaoaachgnnengaaDoor

