/-
  Parts of one proof, one behind the other.
-/
import Derived.Test.YtaoaachgnnengaaGreatDoorMga6fdb5c765
import Derived.BigQuiet
import Derived.Test.YtaoaachgnnengaaGreatDoorMg0168c28601
import Derived.Test.YtaoaachgnnengaaGreatDoorMg84cf151f3c
import Derived.Deep.Cut
import Derived.Deep.CutRange
import Derived.Deep.RegionWith
/-
  pt.Tables.Put.
-/
namespace Go.Proofs.YtaoaachgnnengaaGreatDoor
open Go.RowKit

theorem tset_any (E : Nat → Addr) (p : Pl) (s : Ts) (m : Int) (page frame : Int) (wr : Bool) (w : World) (hE : ErrsK E p w) (h : PtAt w p s) (hi : TInv m s) (hm : m + 1 ≤ 1000000) (hp : isPage page = true) :
    Calls Tryz.prog 71 #[.pointer (some ⟨p.tb, 0, none⟩), .int .i64 page, .int .i64 frame, .bool wr] w (PtQ E p (tSet s page frame wr) w) := by
  have hpg : 0 ≤ page ∧ page < 256 := by simpa [isPage] using hp
  obtain ⟨j, rfl⟩ : ∃ j : Nat, page = (j : Int) := ⟨page.toNat, by omega⟩
  cases wr
  · exact tset_false E p s m j frame w hE h hi hm (by omega)
  · exact tset_true E p s m j frame w hE h hi hm (by omega)
theorem PtQ.later {E : Nat → Addr} {p : Pl} {R : Ts × Int} {w w1 w' : World} {e : Ending} (h : PtQ E p R w1 e w') (ho : Only p.zw w w1) : PtQ E p R w e w' := ⟨h.1, h.2.1, ho.trans h.2.2⟩

set_option maxRecDepth 100000 in
set_option maxHeartbeats 6400000 in
theorem tput_nopage (E : Nat → Addr) (p : Pl) (s : Ts) (page ef : Int) (et ew eu : Bool) (w : World) (hE : ErrsK E p w) (h : PtAt w p s) (hp : isPage page = false) :
    Calls Tryz.prog 35 #[.pointer (some ⟨p.tb, 0, none⟩), .int .i64 page, .agg #[.int .i64 ef, .bool et, .bool ew, .bool eu]] w (PtQ E p (tPut s page ⟨ef, et, ew, eu⟩) w) := by
  have hb0 : Below w.heap.size w (w.alloc (.cells #[.int .i64 ef, .bool et, .bool ew, .bool eu] 34)) := (Below.refl _ _).alloc (Nat.le_refl _) _
  have HPA := Lib.hid (fun wx => tpage_any page wx)
  rw [hp] at HPA
  have HR : Hid (tPut s page ⟨ef, et, ew, eu⟩ = (s, 103)) := Lib.hid (by unfold tPut; rw [if_neg (by rw [hp]; decide)])
  rw [HR.out]
  have HH := Lib.hid (h.below hb0)
  have HO := Lib.hid (Only.of_below (F := p.zw) hb0)
  have e2 : (w.alloc (.cells #[.int .i64 ef, .bool et, .bool ew, .bool eu] 34)).cell? ⟨0, 0, none⟩ = some (errV (E 2)) := ((hE _ (Only.of_below hb0)).1 2 (by decide)).1
  have e2' : w.cell? ⟨0, 0, none⟩ = some (errV (E 2)) := ((hE _ (Only.refl _ _)).1 2 (by decide)).1
  have g2 := World.block_lt_of_cell? _ _ e2'
  clear hE h hp HR hb0
  go_enter Tryz.func35, Tryz.ntmps35
  go_wp2_with fail
  refine (HPA.out _).mono ?_
  rintro y w1 ⟨rfl, rfl⟩
  go_wp2
  go_ret
  exact ⟨rfl, HH.out, HO.out⟩

set_option maxRecDepth 100000 in
set_option maxHeartbeats 6400000 in
theorem tput_drop (E : Nat → Addr) (p : Pl) (s : Ts) (m : Int) (page : Int) (w : World) (hE : ErrsK E p w) (h : PtAt w p s) (hi : TInv m s) (hm : m ≤ 1000000) (hp : isPage page = true) :
    Calls Tryz.prog 35 #[.pointer (some ⟨p.tb, 0, none⟩), .int .i64 page, .agg #[.int .i64 0, .bool false, .bool false, .bool false]] w (PtQ E p (tPut s page ⟨0, false, false, false⟩) w) := by
  have hb0 : Below w.heap.size w (w.alloc (.cells #[.int .i64 0, .bool false, .bool false, .bool false] 34)) := (Below.refl _ _).alloc (Nat.le_refl _) _
  have HPA := Lib.hid (fun wx => tpage_any page wx)
  rw [hp] at HPA
  have HR : Hid (tPut s page ⟨0, false, false, false⟩ = tDrop s page) := Lib.hid (by unfold tPut; rw [if_pos hp, if_neg (by decide), if_pos ⟨rfl, rfl, rfl⟩])
  rw [HR.out]
  have HO := Lib.hid (Only.of_below (F := p.zw) hb0)
  have HD := Lib.hid (tdrop_any E p s m page _ (hE.next HO.out) (h.below hb0) hi hm)
  clear hE h hi hp HR hb0
  go_enter Tryz.func35, Tryz.ntmps35
  go_wp2_with fail
  refine (HPA.out _).mono ?_
  rintro y w1 ⟨rfl, rfl⟩
  go_wp2_with fail
  refine HD.out.mono ?_
  rintro y w2 ⟨rfl, h2, ho2⟩
  have HF := Lib.hid (And.intro h2 (HO.out.trans ho2))
  clear h2 ho2
  go_wp2
  go_ret
  exact ⟨rfl, HF.out⟩

set_option maxRecDepth 100000 in
set_option maxHeartbeats 6400000 in
theorem tput_bent (E : Nat → Addr) (p : Pl) (s : Ts) (page ef : Int) (ew eu : Bool) (w : World) (hE : ErrsK E p w) (h : PtAt w p s) (hp : isPage page = true) (hb : ¬ (ef = 0 ∧ ew = false ∧ eu = false)) :
    Calls Tryz.prog 35 #[.pointer (some ⟨p.tb, 0, none⟩), .int .i64 page, .agg #[.int .i64 ef, .bool false, .bool ew, .bool eu]] w (PtQ E p (tPut s page ⟨ef, false, ew, eu⟩) w) := by
  have hb0 : Below w.heap.size w (w.alloc (.cells #[.int .i64 ef, .bool false, .bool ew, .bool eu] 34)) := (Below.refl _ _).alloc (Nat.le_refl _) _
  have HPA := Lib.hid (fun wx => tpage_any page wx)
  rw [hp] at HPA
  have HR : Hid (tPut s page ⟨ef, false, ew, eu⟩ = (s, 103)) := Lib.hid (by unfold tPut; rw [if_pos hp, if_neg (fun h => by cases h), if_neg hb])
  rw [HR.out]
  have HH := Lib.hid (h.below hb0)
  have HO := Lib.hid (Only.of_below (F := p.zw) hb0)
  have e2 : (w.alloc (.cells #[.int .i64 ef, .bool false, .bool ew, .bool eu] 34)).cell? ⟨0, 0, none⟩ = some (errV (E 2)) := ((hE _ (Only.of_below hb0)).1 2 (by decide)).1
  have e2' : w.cell? ⟨0, 0, none⟩ = some (errV (E 2)) := ((hE _ (Only.refl _ _)).1 2 (by decide)).1
  have g2 := World.block_lt_of_cell? _ _ e2'
  have hbb : (ef == 0) = false ∨ ((ef == 0) = true ∧ ew = true) ∨ ((ef == 0) = true ∧ ew = false ∧ eu = true) := by
    by_cases h0 : ef = 0
    · subst h0
      cases ew
      · cases eu
        · exact absurd ⟨rfl, rfl, rfl⟩ hb
        · exact .inr (.inr ⟨by decide, rfl, rfl⟩)
      · exact .inr (.inl ⟨by decide, rfl⟩)
    · exact .inl (by simp [h0])
  clear hE h hp HR hb0 hb
  rcases hbb with h0 | ⟨h0, rfl⟩ | ⟨h0, rfl, rfl⟩
  all_goals
    go_enter Tryz.func35, Tryz.ntmps35
    go_wp2_with fail
    refine (HPA.out _).mono ?_
    rintro y w1 ⟨rfl, rfl⟩
    go_wp2
    go_ret
    exact ⟨rfl, HH.out, HO.out⟩

set_option maxRecDepth 100000 in
set_option maxHeartbeats 16000000 in
theorem tput_none (E : Nat → Addr) (p : Pl) (s : Ts) (m : Int) (page ef : Int) (ew eu : Bool) (w : World) (hE : ErrsK E p w) (h : PtAt w p s) (hi : TInv m s) (hm : m + 1 ≤ 1000000) (hp : isPage page = true) (hn : ¬ (0 ≤ ef ∧ ef < (s.P.length : Int))) :
    Calls Tryz.prog 35 #[.pointer (some ⟨p.tb, 0, none⟩), .int .i64 page, .agg #[.int .i64 ef, .bool true, .bool ew, .bool eu]] w (PtQ E p (tPut s page ⟨ef, true, ew, eu⟩) w) := by
  have hb0 : Below w.heap.size w (w.alloc (.cells #[.int .i64 ef, .bool true, .bool ew, .bool eu] 34)) := (Below.refl _ _).alloc (Nat.le_refl _) _
  have HPA := Lib.hid (fun wx => tpage_any page wx)
  have HR : Hid (tPut s page ⟨ef, true, ew, eu⟩ = (s, 107)) := Lib.hid (by unfold tPut; rw [if_pos hp, if_pos rfl, if_neg hn])
  rw [HR.out]
  have HB := Lib.hid hb0
  have HO := Lib.hid (Only.of_below (F := p.zw) hb0)
  have HK : Hid (∀ wx, Below w.heap.size w wx → PtAt wx p s) := Lib.hid fun wx hx => h.below hx
  have HEE := Lib.hid hE
  have HE : Hid (∀ wx, Below w.heap.size w wx → wx.cell? ⟨3, 0, none⟩ = some (errV (E 6)) ∧ 3 < wx.heap.size ∧ wx.cell? ⟨4, 0, none⟩ = some (errV (E 9)) ∧ 4 < wx.heap.size) := Lib.hid fun wx hx => by
    have e6 := ((hE wx (Only.of_below hx)).1 6 (by decide)).1
    have e9 := ((hE wx (Only.of_below hx)).1 9 (by decide)).1
    exact ⟨e6, World.block_lt_of_cell? _ _ e6, e9, World.block_lt_of_cell? _ _ e9⟩
  have hnew := blk_new w (.cells #[.int .i64 ef, .bool true, .bool ew, .bool eu] 34)
  have HN : Hid (∀ wx, Below (w.alloc (.cells #[.int .i64 ef, .bool true, .bool ew, .bool eu] 34)).heap.size (w.alloc (.cells #[.int .i64 ef, .bool true, .bool ew, .bool eu] 34)) wx → wx.cell? ⟨w.heap.size, 0, none⟩ = some (.int .i64 ef) ∧ wx.cell? ⟨w.heap.size, 2, none⟩ = some (.bool ew)) := Lib.hid fun wx hx => by
    have := blk_below hnew hx (blk_lt hnew)
    exact ⟨blk_cell this 0, blk_cell this 2⟩
  have HG := Lib.hid (fun wx (hx : Below w.heap.size w wx) => pm_get s.P p.pb p.pv ef wx (h.below hx).pm)
  have HGA : Hid (getAns s.P ef = .tuple #[.int .i64 0, .bool false]) := Lib.hid (by unfold getAns; rw [if_neg hn])
  rw [HGA.out] at HG
  rw [hp] at HPA
  obtain ⟨q0, q2⟩ := HN.out _ (Below.refl _ _)
  obtain ⟨c0, c1, c2, c3, c4⟩ := (HK.out _ HB.out).cells
  have ltb := blk_lt (HK.out _ HB.out).row
  obtain ⟨e6, g6, e9, g9⟩ := HE.out _ HB.out
  have HHS := Lib.hid (HK.out _ HB.out)
  clear hE h hi hp HR hb0 hnew hn 
  go_enter Tryz.func35, Tryz.ntmps35
  go_wp2_with fail
  refine (HPA.out _).mono ?_
  rintro y w1 ⟨rfl, rfl⟩
  go_wp2_with fail
  go_quiet ((go_at_call 70; exact Calls.quiet_of_same ((HG.out _ (below_drewN HB.out _)).mono fun e w' h => ⟨h.1, h.2.symm⟩)))
  obtain ⟨wd, hwd⟩ : ∃ wd, (w.alloc (.cells #[.int .i64 ef, .bool true, .bool ew, .bool eu] 34)).drewN nq = wd := ⟨_, rfl⟩
  have HBD : Hid (Below w.heap.size w wd) := Lib.hid (hwd ▸ below_drewN HB.out _)
  have HBN : Hid (Below (w.alloc (.cells #[.int .i64 ef, .bool true, .bool ew, .bool eu] 34)).heap.size (w.alloc (.cells #[.int .i64 ef, .bool true, .bool ew, .bool eu] 34)) wd) := Lib.hid (hwd ▸ below_drewN (Below.refl _ _) _)
  rw [hwd]
  clear hwd q0 q2 c0 c1 c2 c3 c4 ltb e6 g6 e9 g9
  obtain ⟨e6, g6, e9, g9⟩ := HE.out _ HBD.out
  go_wp2
  go_ret
  exact ⟨rfl, HK.out _ HBD.out, Only.of_below HBD.out⟩

set_option maxRecDepth 100000 in
set_option maxHeartbeats 16000000 in
theorem tput_owner (E : Nat → Addr) (p : Pl) (s : Ts) (m : Int) (page ef : Int) (ew eu : Bool) (w : World) (hE : ErrsK E p w) (h : PtAt w p s) (hi : TInv m s) (hm : m + 1 ≤ 1000000) (hp : isPage page = true) (n : Nat) (hf : ef = (n : Int)) (hn : n < s.P.length) (ho : (s.F.getD (s.P.getD n 0).toNat default).owner ≠ s.who) :
    Calls Tryz.prog 35 #[.pointer (some ⟨p.tb, 0, none⟩), .int .i64 page, .agg #[.int .i64 ef, .bool true, .bool ew, .bool eu]] w (PtQ E p (tPut s page ⟨ef, true, ew, eu⟩) w) := by
  subst hf
  have hb0 : Below w.heap.size w (w.alloc (.cells #[.int .i64 (n : Int), .bool true, .bool ew, .bool eu] 34)) := (Below.refl _ _).alloc (Nat.le_refl _) _
  have HPA := Lib.hid (fun wx => tpage_any page wx)
  have HR : Hid (tPut s page ⟨(n : Int), true, ew, eu⟩ = (s, 110)) := Lib.hid (by unfold tPut; rw [if_pos hp, if_pos rfl, if_pos ⟨by show (0 : Int) ≤ (n : Int); omega, by show (n : Int) < _; omega⟩]; show (if (s.F.getD (s.P.getD (n : Int).toNat 0).toNat default).owner = s.who then _ else _) = _; rw [Int.toNat_natCast, if_neg ho])
  rw [HR.out]
  have HB := Lib.hid hb0
  have HO := Lib.hid (Only.of_below (F := p.zw) hb0)
  have HK : Hid (∀ wx, Below w.heap.size w wx → PtAt wx p s) := Lib.hid fun wx hx => h.below hx
  have HEE := Lib.hid hE
  have HE : Hid (∀ wx, Below w.heap.size w wx → wx.cell? ⟨3, 0, none⟩ = some (errV (E 6)) ∧ 3 < wx.heap.size ∧ wx.cell? ⟨4, 0, none⟩ = some (errV (E 9)) ∧ 4 < wx.heap.size) := Lib.hid fun wx hx => by
    have e6 := ((hE wx (Only.of_below hx)).1 6 (by decide)).1
    have e9 := ((hE wx (Only.of_below hx)).1 9 (by decide)).1
    exact ⟨e6, World.block_lt_of_cell? _ _ e6, e9, World.block_lt_of_cell? _ _ e9⟩
  have hnew := blk_new w (.cells #[.int .i64 (n : Int), .bool true, .bool ew, .bool eu] 34)
  have HN : Hid (∀ wx, Below (w.alloc (.cells #[.int .i64 (n : Int), .bool true, .bool ew, .bool eu] 34)).heap.size (w.alloc (.cells #[.int .i64 (n : Int), .bool true, .bool ew, .bool eu] 34)) wx → wx.cell? ⟨w.heap.size, 0, none⟩ = some (.int .i64 (n : Int)) ∧ wx.cell? ⟨w.heap.size, 2, none⟩ = some (.bool ew)) := Lib.hid fun wx hx => by
    have := blk_below hnew hx (blk_lt hnew)
    exact ⟨blk_cell this 0, blk_cell this 2⟩
  have HG := Lib.hid (fun wx (hx : Below w.heap.size w wx) => pm_get s.P p.pb p.pv (n : Int) wx (h.below hx).pm)
  have HGA : Hid (getAns s.P (n : Int) = .tuple #[.int .i64 (s.P.getD n 0), .bool true]) := Lib.hid (by unfold getAns; rw [if_pos ⟨by omega, by omega⟩, Int.toNat_natCast])
  rw [HGA.out] at HG
  have hpin := hi.pin n hn
  obtain ⟨f, hfe⟩ : ∃ f : Nat, s.P.getD n 0 = (f : Int) := ⟨(s.P.getD n 0).toNat, by omega⟩
  rw [hfe] at HG ho
  rw [Int.toNat_natCast] at ho
  have hfl : f < s.F.length := by rw [hi.lf]; omega
  have HFG := Lib.hid (fun wx (hx : Below w.heap.size w wx) => fget_some s.F p.fb p.fg s.n f wx (h.below hx).fr hfl)
  unfold frV at HFG
  obtain ⟨⟨xo, xk, xw, xu⟩, hx⟩ : ∃ x, s.F.getD f default = x := ⟨_, rfl⟩
  rw [hx] at HFG ho
  dsimp only at HFG ho
  have hob : (xo == s.who) = false := by simp [ho]
  rw [hp] at HPA
  obtain ⟨q0, q2⟩ := HN.out _ (Below.refl _ _)
  obtain ⟨c0, c1, c2, c3, c4⟩ := (HK.out _ HB.out).cells
  have ltb := blk_lt (HK.out _ HB.out).row
  obtain ⟨e6, g6, e9, g9⟩ := HE.out _ HB.out
  have HHS := Lib.hid (HK.out _ HB.out)
  clear hE h hi hp HR hb0 hnew hn hpin hfl hx hfe ho 
  go_enter Tryz.func35, Tryz.ntmps35
  go_wp2_with fail
  refine (HPA.out _).mono ?_
  rintro y w1 ⟨rfl, rfl⟩
  go_wp2_with fail
  go_quiet ((go_at_call 70; exact Calls.quiet_of_same ((HG.out _ (below_drewN HB.out _)).mono fun e w' h => ⟨h.1, h.2.symm⟩)))
  obtain ⟨wd, hwd⟩ : ∃ wd, (w.alloc (.cells #[.int .i64 (n : Int), .bool true, .bool ew, .bool eu] 34)).drewN nq = wd := ⟨_, rfl⟩
  have HBD : Hid (Below w.heap.size w wd) := Lib.hid (hwd ▸ below_drewN HB.out _)
  have HBN : Hid (Below (w.alloc (.cells #[.int .i64 (n : Int), .bool true, .bool ew, .bool eu] 34)).heap.size (w.alloc (.cells #[.int .i64 (n : Int), .bool true, .bool ew, .bool eu] 34)) wd) := Lib.hid (hwd ▸ below_drewN (Below.refl _ _) _)
  rw [hwd]
  clear hwd q0 q2 c0 c1 c2 c3 c4 ltb e6 g6 e9 g9
  obtain ⟨-, c1, -, -, -⟩ := (HK.out _ HBD.out).cells
  go_wp2_with fail
  refine (HFG.out _ HBD.out).mono ?_
  rintro y w2 ⟨rfl, hb2⟩
  have hbf := hb2.alloc hb2.size (.cells #[.int .i64 xo, .int .i64 xk, .int .i64 xw, .int .i64 xu] 69)
  have HBF := Lib.hid (HBD.out.trans (hbf.mono HBD.out.size))
  have HBM := Lib.hid (HBN.out.trans (hbf.mono HBN.out.size))
  have hnf := blk_new w2 (.cells #[.int .i64 xo, .int .i64 xk, .int .i64 xw, .int .i64 xu] 69)
  have x0 := blk_cell hnf 0
  obtain ⟨-, -, d2, -, -⟩ := (HK.out _ HBF.out).cells
  obtain ⟨q0, q2⟩ := HN.out _ HBM.out
  clear c1 hb2 hbf hnf
  go_wp2_with fail
  go_quiet (fail)
  obtain ⟨we, hwe⟩ : ∃ we, (w2.alloc (.cells #[.int .i64 xo, .int .i64 xk, .int .i64 xw, .int .i64 xu] 69)).drewN nq = we := ⟨_, rfl⟩
  have HBE : Hid (Below w.heap.size w we) := Lib.hid (hwe ▸ below_drewN HBF.out _)
  have HBQ : Hid (Below (w.alloc (.cells #[.int .i64 (n : Int), .bool true, .bool ew, .bool eu] 34)).heap.size (w.alloc (.cells #[.int .i64 (n : Int), .bool true, .bool ew, .bool eu] 34)) we) := Lib.hid (hwe ▸ below_drewN HBM.out _)
  rw [hwe]
  clear hwe q0 q2 d2 x0
  obtain ⟨e6, g6, e9, g9⟩ := HE.out _ HBE.out
  go_wp2
  go_ret
  exact ⟨rfl, HK.out _ HBE.out, Only.of_below HBE.out⟩

set_option maxRecDepth 100000 in
set_option maxHeartbeats 16000000 in
theorem tput_set (E : Nat → Addr) (p : Pl) (s : Ts) (m : Int) (page ef : Int) (ew eu : Bool) (w : World) (hE : ErrsK E p w) (h : PtAt w p s) (hi : TInv m s) (hm : m + 1 ≤ 1000000) (hp : isPage page = true) (n : Nat) (hf : ef = (n : Int)) (hn : n < s.P.length) (ho : (s.F.getD (s.P.getD n 0).toNat default).owner = s.who) :
    Calls Tryz.prog 35 #[.pointer (some ⟨p.tb, 0, none⟩), .int .i64 page, .agg #[.int .i64 ef, .bool true, .bool ew, .bool eu]] w (PtQ E p (tPut s page ⟨ef, true, ew, eu⟩) w) := by
  subst hf
  have hb0 : Below w.heap.size w (w.alloc (.cells #[.int .i64 (n : Int), .bool true, .bool ew, .bool eu] 34)) := (Below.refl _ _).alloc (Nat.le_refl _) _
  have HPA := Lib.hid (fun wx => tpage_any page wx)
  have HR : Hid (tPut s page ⟨(n : Int), true, ew, eu⟩ = tSet s page (s.P.getD n 0) ew) := Lib.hid (by unfold tPut; rw [if_pos hp, if_pos rfl, if_pos ⟨by show (0 : Int) ≤ (n : Int); omega, by show (n : Int) < _; omega⟩]; show (if (s.F.getD (s.P.getD (n : Int).toNat 0).toNat default).owner = s.who then tSet s page (s.P.getD (n : Int).toNat 0) ew else _) = _; rw [Int.toNat_natCast, if_pos ho])
  rw [HR.out]
  have HB := Lib.hid hb0
  have HO := Lib.hid (Only.of_below (F := p.zw) hb0)
  have HK : Hid (∀ wx, Below w.heap.size w wx → PtAt wx p s) := Lib.hid fun wx hx => h.below hx
  have HEE := Lib.hid hE
  have HE : Hid (∀ wx, Below w.heap.size w wx → wx.cell? ⟨3, 0, none⟩ = some (errV (E 6)) ∧ 3 < wx.heap.size ∧ wx.cell? ⟨4, 0, none⟩ = some (errV (E 9)) ∧ 4 < wx.heap.size) := Lib.hid fun wx hx => by
    have e6 := ((hE wx (Only.of_below hx)).1 6 (by decide)).1
    have e9 := ((hE wx (Only.of_below hx)).1 9 (by decide)).1
    exact ⟨e6, World.block_lt_of_cell? _ _ e6, e9, World.block_lt_of_cell? _ _ e9⟩
  have hnew := blk_new w (.cells #[.int .i64 (n : Int), .bool true, .bool ew, .bool eu] 34)
  have HN : Hid (∀ wx, Below (w.alloc (.cells #[.int .i64 (n : Int), .bool true, .bool ew, .bool eu] 34)).heap.size (w.alloc (.cells #[.int .i64 (n : Int), .bool true, .bool ew, .bool eu] 34)) wx → wx.cell? ⟨w.heap.size, 0, none⟩ = some (.int .i64 (n : Int)) ∧ wx.cell? ⟨w.heap.size, 2, none⟩ = some (.bool ew)) := Lib.hid fun wx hx => by
    have := blk_below hnew hx (blk_lt hnew)
    exact ⟨blk_cell this 0, blk_cell this 2⟩
  have HG := Lib.hid (fun wx (hx : Below w.heap.size w wx) => pm_get s.P p.pb p.pv (n : Int) wx (h.below hx).pm)
  have HGA : Hid (getAns s.P (n : Int) = .tuple #[.int .i64 (s.P.getD n 0), .bool true]) := Lib.hid (by unfold getAns; rw [if_pos ⟨by omega, by omega⟩, Int.toNat_natCast])
  rw [HGA.out] at HG
  have hpin := hi.pin n hn
  obtain ⟨f, hfe⟩ : ∃ f : Nat, s.P.getD n 0 = (f : Int) := ⟨(s.P.getD n 0).toNat, by omega⟩
  rw [hfe] at HG ho
  rw [Int.toNat_natCast] at ho
  have hfl : f < s.F.length := by rw [hi.lf]; omega
  have HFG := Lib.hid (fun wx (hx : Below w.heap.size w wx) => fget_some s.F p.fb p.fg s.n f wx (h.below hx).fr hfl)
  unfold frV at HFG
  obtain ⟨⟨xo, xk, xw, xu⟩, hx⟩ : ∃ x, s.F.getD f default = x := ⟨_, rfl⟩
  rw [hx] at HFG ho
  dsimp only at HFG ho
  subst ho
  rw [hfe]
  have HS := Lib.hid (fun wx (ho : Only p.zw w wx) (hx : PtAt wx p s) => tset_any E p s m page (f : Int) ew wx (HEE.out.next ho) hx hi hm hp)
  rw [hp] at HPA
  obtain ⟨q0, q2⟩ := HN.out _ (Below.refl _ _)
  obtain ⟨c0, c1, c2, c3, c4⟩ := (HK.out _ HB.out).cells
  have ltb := blk_lt (HK.out _ HB.out).row
  obtain ⟨e6, g6, e9, g9⟩ := HE.out _ HB.out
  have HHS := Lib.hid (HK.out _ HB.out)
  clear hE h hi hp HR hb0 hnew hn hpin hfl hx hfe 
  go_enter Tryz.func35, Tryz.ntmps35
  go_wp2_with fail
  refine (HPA.out _).mono ?_
  rintro y w1 ⟨rfl, rfl⟩
  go_wp2_with fail
  go_quiet ((go_at_call 70; exact Calls.quiet_of_same ((HG.out _ (below_drewN HB.out _)).mono fun e w' h => ⟨h.1, h.2.symm⟩)))
  obtain ⟨wd, hwd⟩ : ∃ wd, (w.alloc (.cells #[.int .i64 (n : Int), .bool true, .bool ew, .bool eu] 34)).drewN nq = wd := ⟨_, rfl⟩
  have HBD : Hid (Below w.heap.size w wd) := Lib.hid (hwd ▸ below_drewN HB.out _)
  have HBN : Hid (Below (w.alloc (.cells #[.int .i64 (n : Int), .bool true, .bool ew, .bool eu] 34)).heap.size (w.alloc (.cells #[.int .i64 (n : Int), .bool true, .bool ew, .bool eu] 34)) wd) := Lib.hid (hwd ▸ below_drewN (Below.refl _ _) _)
  rw [hwd]
  clear hwd q0 q2 c0 c1 c2 c3 c4 ltb e6 g6 e9 g9
  obtain ⟨-, c1, -, -, -⟩ := (HK.out _ HBD.out).cells
  go_wp2_with fail
  refine (HFG.out _ HBD.out).mono ?_
  rintro y w2 ⟨rfl, hb2⟩
  have hbf := hb2.alloc hb2.size (.cells #[.int .i64 s.who, .int .i64 xk, .int .i64 xw, .int .i64 xu] 69)
  have HBF := Lib.hid (HBD.out.trans (hbf.mono HBD.out.size))
  have HBM := Lib.hid (HBN.out.trans (hbf.mono HBN.out.size))
  have hnf := blk_new w2 (.cells #[.int .i64 s.who, .int .i64 xk, .int .i64 xw, .int .i64 xu] 69)
  have x0 := blk_cell hnf 0
  obtain ⟨-, -, d2, -, -⟩ := (HK.out _ HBF.out).cells
  obtain ⟨q0, q2⟩ := HN.out _ HBM.out
  clear c1 hb2 hbf hnf
  go_wp2_with fail
  go_quiet (fail)
  obtain ⟨we, hwe⟩ : ∃ we, (w2.alloc (.cells #[.int .i64 s.who, .int .i64 xk, .int .i64 xw, .int .i64 xu] 69)).drewN nq = we := ⟨_, rfl⟩
  have HBE : Hid (Below w.heap.size w we) := Lib.hid (hwe ▸ below_drewN HBF.out _)
  have HBQ : Hid (Below (w.alloc (.cells #[.int .i64 (n : Int), .bool true, .bool ew, .bool eu] 34)).heap.size (w.alloc (.cells #[.int .i64 (n : Int), .bool true, .bool ew, .bool eu] 34)) we) := Lib.hid (hwe ▸ below_drewN HBM.out _)
  rw [hwe]
  clear hwe q0 q2 d2 x0
  obtain ⟨q0, q2⟩ := HN.out _ HBQ.out
  go_wp2_with fail
  refine (HS.out _ (Only.of_below HBE.out) (HK.out _ HBE.out)).mono ?_
  rintro y w3 ⟨rfl, h3, ho3⟩
  have HF := Lib.hid (And.intro h3 ((Only.of_below (F := p.zw) HBE.out).trans ho3))
  clear h3 ho3
  go_wp2
  go_ret
  exact ⟨rfl, HF.out⟩

/-- Put -/
theorem tput_any (E : Nat → Addr) (p : Pl) (s : Ts) (m : Int) (page : Int) (e : Ent) (w : World) (hE : ErrsK E p w) (h : PtAt w p s) (hi : TInv m s) (hm : m + 1 ≤ 1000000) :
    Calls Tryz.prog 35 #[.pointer (some ⟨p.tb, 0, none⟩), .int .i64 page, e.v] w (PtQ E p (tPut s page e) w) := by
  obtain ⟨ef, et, ew, eu⟩ := e
  cases hp : isPage page with
  | false => exact tput_nopage E p s page ef et ew eu w hE h hp
  | true =>
    cases et with
    | false =>
      by_cases hz : ef = 0 ∧ ew = false ∧ eu = false
      · obtain ⟨rfl, rfl, rfl⟩ := hz
        exact tput_drop E p s m page w hE h hi (by omega) hp
      · exact tput_bent E p s page ef ew eu w hE h hp hz
    | true =>
      by_cases hn : 0 ≤ ef ∧ ef < (s.P.length : Int)
      · have hf : ef = ((ef.toNat : Nat) : Int) := by omega
        by_cases ho : (s.F.getD (s.P.getD ef.toNat 0).toNat default).owner = s.who
        · exact tput_set E p s m page ef ew eu w hE h hi hm hp ef.toNat hf (by omega) ho
        · exact tput_owner E p s m page ef ew eu w hE h hi hm hp ef.toNat hf (by omega) ho
      · exact tput_none E p s m page ef ew eu w hE h hi hm hp hn

end Go.Proofs.YtaoaachgnnengaaGreatDoor

/-
  pt.Tables: Lend, Root, Owner.
-/
namespace Go.Proofs.YtaoaachgnnengaaGreatDoor
open Go.RowKit

set_option maxRecDepth 100000 in
set_option maxHeartbeats 6400000 in
theorem tlend_nopage (E : Nat → Addr) (p : Pl) (s : Ts) (page frame : Int) (wr : Bool) (w : World) (hE : ErrsK E p w) (h : PtAt w p s) (hp : isPage page = false) :
    Calls Tryz.prog 37 #[.pointer (some ⟨p.tb, 0, none⟩), .int .i64 page, .int .i64 frame, .bool wr] w (PtQ E p (tLend s page frame wr) w) := by
  have HPA := Lib.hid (fun wx => tpage_any page wx)
  rw [hp] at HPA
  have HR : Hid (tLend s page frame wr = (s, 103)) := Lib.hid (by unfold tLend; rw [if_neg (by rw [hp]; decide)])
  rw [HR.out]
  have HH := Lib.hid h
  have e2 : w.cell? ⟨0, 0, none⟩ = some (errV (E 2)) := ((hE _ (Only.refl _ _)).1 2 (by decide)).1
  clear hE h hp HR
  go_enter Tryz.func37, Tryz.ntmps37
  go_wp2_with fail
  refine (HPA.out _).mono ?_
  rintro y w1 ⟨rfl, rfl⟩
  go_wp2
  go_ret
  exact ⟨rfl, HH.out, Only.refl _ _⟩

set_option maxRecDepth 100000 in
set_option maxHeartbeats 6400000 in
theorem tlend_out (E : Nat → Addr) (p : Pl) (s : Ts) (page frame : Int) (wr : Bool) (w : World) (hE : ErrsK E p w) (h : PtAt w p s) (hp : isPage page = true) (hf : ¬ (0 ≤ frame ∧ frame < (s.F.length : Int))) :
    Calls Tryz.prog 37 #[.pointer (some ⟨p.tb, 0, none⟩), .int .i64 page, .int .i64 frame, .bool wr] w (PtQ E p (tLend s page frame wr) w) := by
  have HPA := Lib.hid (fun wx => tpage_any page wx)
  rw [hp] at HPA
  have hat : frAt s.F frame = none := by
    unfold frAt
    rw [if_neg (fun hh => hf ⟨hh.1, hh.2.1⟩)]
  have HR : Hid (tLend s page frame wr = (s, 107)) := Lib.hid (by unfold tLend; rw [if_pos hp, hat]; rfl)
  rw [HR.out]
  have HH := Lib.hid h
  have HFG := Lib.hid (fget_none s.F p.fb p.fg s.n frame w h.fr hf)
  have HE : Hid (∀ wx, Below w.heap.size w wx → wx.cell? ⟨3, 0, none⟩ = some (errV (E 6)) ∧ 3 < wx.heap.size) := Lib.hid fun wx hx => by
    have e6 := ((hE wx (Only.of_below hx)).1 6 (by decide)).1
    exact ⟨e6, World.block_lt_of_cell? _ _ e6⟩
  obtain ⟨-, c1, -, -, -⟩ := h.cells
  have ltb := blk_lt h.row
  clear hE h hp HR hf hat
  go_enter Tryz.func37, Tryz.ntmps37
  go_wp2_with fail
  refine (HPA.out _).mono ?_
  rintro y w1 ⟨rfl, rfl⟩
  go_wp2_with fail
  refine HFG.out.mono ?_
  rintro y w2 ⟨rfl, hb2⟩
  have HB2 := Lib.hid (hb2.alloc hb2.size (.cells #[.int .i64 0, .int .i64 0, .int .i64 0, .int .i64 0] 69))
  obtain ⟨e6, g6⟩ := HE.out _ HB2.out
  clear hb2 c1
  go_wp2
  go_ret
  exact ⟨rfl, HH.out.below HB2.out, Only.of_below HB2.out⟩

set_option maxRecDepth 100000 in
set_option maxHeartbeats 6400000 in
theorem tlend_free (E : Nat → Addr) (p : Pl) (s : Ts) (page : Int) (n : Nat) (wr : Bool) (w : World) (hE : ErrsK E p w) (h : PtAt w p s) (hp : isPage page = true) (hn : n < s.F.length) (ho : (s.F.getD n default).owner = -1) :
    Calls Tryz.prog 37 #[.pointer (some ⟨p.tb, 0, none⟩), .int .i64 page, .int .i64 (n : Int), .bool wr] w (PtQ E p (tLend s page (n : Int) wr) w) := by
  have HPA := Lib.hid (fun wx => tpage_any page wx)
  rw [hp] at HPA
  have hat : frAt s.F (n : Int) = none := by
    unfold frAt
    rw [if_neg (fun hh => hh.2.2 (by rw [Int.toNat_natCast]; exact ho))]
  have HR : Hid (tLend s page (n : Int) wr = (s, 107)) := Lib.hid (by unfold tLend; rw [if_pos hp, hat]; rfl)
  rw [HR.out]
  have HH := Lib.hid h
  have HFG := Lib.hid (fget_some s.F p.fb p.fg s.n n w h.fr hn)
  unfold frV at HFG
  obtain ⟨⟨xo, xk, xw, xu⟩, hx⟩ : ∃ x, s.F.getD n default = x := ⟨_, rfl⟩
  rw [hx] at HFG ho
  dsimp only at HFG ho
  subst ho
  have HE : Hid (∀ wx, Below w.heap.size w wx → wx.cell? ⟨3, 0, none⟩ = some (errV (E 6)) ∧ 3 < wx.heap.size) := Lib.hid fun wx hx => by
    have e6 := ((hE wx (Only.of_below hx)).1 6 (by decide)).1
    exact ⟨e6, World.block_lt_of_cell? _ _ e6⟩
  obtain ⟨-, c1, -, -, -⟩ := h.cells
  have ltb := blk_lt h.row
  clear hE h hp HR hat hx hn
  go_enter Tryz.func37, Tryz.ntmps37
  go_wp2_with fail
  refine (HPA.out _).mono ?_
  rintro y w1 ⟨rfl, rfl⟩
  go_wp2_with fail
  refine HFG.out.mono ?_
  rintro y w2 ⟨rfl, hb2⟩
  have HB2 := Lib.hid (hb2.alloc hb2.size (.cells #[.int .i64 (-1), .int .i64 xk, .int .i64 xw, .int .i64 xu] 69))
  have x0 := blk_cell (blk_new w2 (.cells #[.int .i64 (-1), .int .i64 xk, .int .i64 xw, .int .i64 xu] 69)) 0
  obtain ⟨e6, g6⟩ := HE.out _ HB2.out
  clear hb2 c1
  go_wp2
  go_ret
  exact ⟨rfl, HH.out.below HB2.out, Only.of_below HB2.out⟩

set_option maxRecDepth 100000 in
set_option maxHeartbeats 6400000 in
theorem tlend_set (E : Nat → Addr) (p : Pl) (s : Ts) (m : Int) (page : Int) (n : Nat) (wr : Bool) (w : World) (hE : ErrsK E p w) (h : PtAt w p s) (hi : TInv m s) (hm : m + 1 ≤ 1000000) (hp : isPage page = true) (hn : n < s.F.length) (ho : (s.F.getD n default).owner ≠ -1) :
    Calls Tryz.prog 37 #[.pointer (some ⟨p.tb, 0, none⟩), .int .i64 page, .int .i64 (n : Int), .bool wr] w (PtQ E p (tLend s page (n : Int) wr) w) := by
  have HPA := Lib.hid (fun wx => tpage_any page wx)
  have hat : frAt s.F (n : Int) = some n := by
    unfold frAt
    rw [if_pos ⟨by omega, by omega, by rw [Int.toNat_natCast]; exact ho⟩, Int.toNat_natCast]
  have HR : Hid (tLend s page (n : Int) wr = tSet s page (n : Int) wr) := Lib.hid (by unfold tLend; rw [if_pos hp, hat]; rfl)
  rw [HR.out]
  have HFG := Lib.hid (fget_some s.F p.fb p.fg s.n n w h.fr hn)
  unfold frV at HFG
  have HS : Hid (∀ wx, Below w.heap.size w wx → Calls Tryz.prog 71 #[.pointer (some ⟨p.tb, 0, none⟩), .int .i64 page, .int .i64 (n : Int), .bool wr] wx (PtQ E p (tSet s page (n : Int) wr) wx)) := Lib.hid fun wx hx => tset_any E p s m page (n : Int) wr wx (hE.next (Only.of_below hx)) (h.below hx) hi hm hp
  rw [hp] at HPA
  obtain ⟨⟨xo, xk, xw, xu⟩, hx⟩ : ∃ x, s.F.getD n default = x := ⟨_, rfl⟩
  rw [hx] at HFG ho
  dsimp only at HFG ho
  have hob : (xo == -1) = false := by simpa using ho
  obtain ⟨-, c1, -, -, -⟩ := h.cells
  have ltb := blk_lt h.row
  clear hE h hi hm hp HR hat hx hn ho
  go_enter Tryz.func37, Tryz.ntmps37
  go_wp2_with fail
  refine (HPA.out _).mono ?_
  rintro y w1 ⟨rfl, rfl⟩
  go_wp2_with fail
  refine HFG.out.mono ?_
  rintro y w2 ⟨rfl, hb2⟩
  have HB2 := Lib.hid (hb2.alloc hb2.size (.cells #[.int .i64 xo, .int .i64 xk, .int .i64 xw, .int .i64 xu] 69))
  have x0 := blk_cell (blk_new w2 (.cells #[.int .i64 xo, .int .i64 xk, .int .i64 xw, .int .i64 xu] 69)) 0
  clear hb2 c1
  go_wp2_with fail
  refine (HS.out _ HB2.out).mono ?_
  rintro y w3 hq
  have HQ : Hid (PtQ E p (tSet s page (n : Int) wr) w y w3) := Lib.hid (hq.later (Only.of_below HB2.out))
  obtain ⟨rfl, -, -⟩ := hq
  go_wp2
  go_ret
  exact HQ.out
theorem tlend_any (E : Nat → Addr) (p : Pl) (s : Ts) (m : Int) (page frame : Int) (wr : Bool) (w : World) (hE : ErrsK E p w) (h : PtAt w p s) (hi : TInv m s) (hm : m + 1 ≤ 1000000) :
    Calls Tryz.prog 37 #[.pointer (some ⟨p.tb, 0, none⟩), .int .i64 page, .int .i64 frame, .bool wr] w (PtQ E p (tLend s page frame wr) w) := by
  cases hp : isPage page with
  | false => exact tlend_nopage E p s page frame wr w hE h hp
  | true =>
    by_cases hf : 0 ≤ frame ∧ frame < (s.F.length : Int)
    · obtain ⟨n, rfl⟩ : ∃ n : Nat, frame = (n : Int) := ⟨frame.toNat, by omega⟩
      have hn : n < s.F.length := by omega
      by_cases ho : (s.F.getD n default).owner = -1
      · exact tlend_free E p s page n wr w hE h hp hn ho
      · exact tlend_set E p s m page n wr w hE h hi hm hp hn ho
    · exact tlend_out E p s page frame wr w hE h hp hf
end Go.Proofs.YtaoaachgnnengaaGreatDoor

/-
  The document's tables: bits.
-/
namespace Go.Proofs.YtaoaachgnnengaaGreatDoor
open Go.RowKit

set_option maxHeartbeats 800000 in
theorem zbits_any (f : Int) (b : Bool) (w : World) : Calls Tryz.prog 60 #[.int .i64 f, .bool b] w fun y w' => y = .returned (.int .u32 (bitsA ⟨f, true, b, true⟩).1) ∧ Below w.heap.size w w' := by
  have HR := Lib.hid (rbits_any ⟨f, true, b, true⟩)
  unfold wordV Ent.v at HR
  dsimp only at HR
  go_enter Tryz.func60, Tryz.ntmps60
  go_wp2_with fail
  refine (HR.out _).mono ?_
  rintro y w1 ⟨rfl, hb⟩
  have HB := Lib.hid hb
  clear hb
  go_wp2
  go_ret
  exact ⟨rfl, HB.out⟩
end Go.Proofs.YtaoaachgnnengaaGreatDoor

/-
  The document's tables: set.
-/
namespace Go.Proofs.YtaoaachgnnengaaGreatDoor
open Go.RowKit

theorem tSetR_range {m : Int} {s : Ts} (hi : TInv m s) (frame : Int) (w : Bool) (hc : (tSetR s frame w).c = 0) : 0 ≤ frame ∧ frame < 1024 := by
  unfold tSetR frThere at hc
  cases hN : frAt s.F frame with
  | none => rw [hN] at hc; exact absurd hc (show ¬ ((107 : Int) = 0) by decide)
  | some n =>
    obtain ⟨h1, h2, -⟩ := frAt_some hN
    have := hi.lf
    have := hi.n1
    omega
theorem bits_true (frame : Int) (w : Bool) (h : 0 ≤ frame ∧ frame < 1024) : (bitsA ⟨frame, true, w, true⟩).2 = true := by
  have hok : entOk frame true w true := ⟨h.1, h.2, fun h => by cases h⟩
  unfold bitsA
  rw [if_pos ((entOkB_iff _ _ _ _).2 hok)]
theorem putE_word {m : Int} {S : Ts} (hi : TInv m S) (j : Nat) (hj : j < 256) (e : Ent) (h : (bitsA e).2 = true) : putE S.M (S.P.getD (1 + j / 16) 0) ((j % 16 : Nat) : Int) e = writeL S.M ((tWord S j : Nat) : Int) (bitsA e).1 := by
  have h1 := hi.pin (1 + j / 16) (by have := hi.p17; omega)
  unfold putE
  rw [if_pos h, tw_sum h1.1 (show tWord S j = 16 * (S.P.getD (1 + j / 16) 0).toNat + j % 16 from rfl)]

set_option maxRecDepth 100000 in
set_option maxHeartbeats 16000000 in
theorem zset_false (z : Zl) (s : Ts) (m : Int) (j : Nat) (frame : Int) (w : World) (h : ZtAt w z s) (hi : TInv m s) (hm : m + 1 ≤ 1000000) (hj : j < 256) :
    Calls Tryz.prog 72 #[.pointer (some ⟨z.zb, 0, none⟩), .int .i64 (j : Int), .int .i64 frame, .bool false] w (ZtQ z (tSet s (j : Int) frame false) w) := by
  have HH := Lib.hid h
  have HU : Hid (Calls Tryz.prog 58 #[.pointer (some ⟨z.fb, 0, none⟩), .int .i64 frame] w (FrN 75 72 z.fb z.fg s.n (tSetR s frame false) w)) := Lib.hid (ruse_any s.F z.fb z.fg s.n frame w (frOk_b hi.fok (by omega)) h.fr)
  have HI1 := Lib.hid (tSetR_inv hi frame false)
  obtain ⟨-, c1, -, -, -, ltb⟩ := ZAt.cells h
  by_cases hc : (tSetR s frame false).c = 0
  · have HR : Hid (tSet s (j : Int) frame false = ({ (tDrop { s with F := (tSetR s frame false).l } (j : Int)).1 with M := putE (tDrop { s with F := (tSetR s frame false).l } (j : Int)).1.M (s.P.getD (1 + (j : Int).toNat / 16) 0) (((j : Int).toNat % 16 : Nat) : Int) ⟨frame, true, false, true⟩ }, 0)) := Lib.hid (by unfold tSet; rw [if_pos hc])
    have hbt := bits_true frame false (tSetR_range hi frame false hc)
    rw [HR.out, Int.toNat_natCast]
    obtain ⟨R, hR⟩ : ∃ R, tSetR s frame false = R := ⟨_, rfl⟩
    rw [hR] at HU HI1 hc ⊢
    obtain ⟨Rl, Rn, Rc⟩ := R
    dsimp only at hc HI1 ⊢
    subst hc
    have hDP := (tDrop_P { s with F := Rl } (j : Int)).1
    have hI2 := tDrop_inv HI1.out (j : Int)
    obtain ⟨⟨S2, x2⟩, hS2⟩ : ∃ r, tDrop { s with F := Rl } (j : Int) = r := ⟨_, rfl⟩
    have HTD : Hid (∀ wx, ZtAt wx z { s with F := Rl } → Calls Tryz.prog 40 #[.pointer (some ⟨z.zb, 0, none⟩), .int .i64 (j : Int)] wx (ZtQ z (S2, x2) wx)) := Lib.hid fun wx hx => hS2 ▸ zdrop_any z { s with F := Rl } (m + 1) (j : Int) wx hx HI1.out hm
    rw [hS2] at hDP hI2 ⊢
    dsimp only at hDP hI2 ⊢
    have HPE : Hid (putE S2.M (s.P.getD (1 + j / 16) 0) ((j % 16 : Nat) : Int) ⟨frame, true, false, true⟩ = writeL S2.M ((tWord S2 j : Nat) : Int) (bitsA ⟨frame, true, false, true⟩).1) := Lib.hid (by rw [← hDP]; exact putE_word hI2 j hj _ hbt)
    have HWD := Lib.hid (fun wx (hx : ZtAt wx z S2) => zword_any z S2 _ j wx hx hI2 hj)
    have HBI := Lib.hid (fun wx => zbits_any frame false wx)
    rw [HPE.out]
    obtain ⟨tw, htw⟩ : ∃ t, ((tWord S2 j : Nat) : Int) = t := ⟨_, rfl⟩
    obtain ⟨bv, hbv⟩ : ∃ t, (bitsA ⟨frame, true, false, true⟩).1 = t := ⟨_, rfl⟩
    rw [htw] at HWD ⊢
    rw [hbv] at HBI ⊢
    clear h hi HR hR hS2 hj hDP hI2 HPE htw hbv hbt hm
    go_enter Tryz.func72, Tryz.ntmps72
    go_wp2_with fail
    refine HU.out.mono ?_
    rintro y w3 ⟨rfl, hf3, ho3⟩
    have HO3 := Lib.hid (ztw_f ho3)
    have HH3 : Hid (ZtAt w3 z { s with F := Rl }) := Lib.hid (ZAt.fr' HH.out ho3 hf3)
    clear hf3 ho3 c1 ltb
    go_wp2_with fail
    refine (HTD.out _ HH3.out).mono ?_
    rintro y w4 ⟨rfl, hp4, ho4⟩
    have HH4 : Hid (ZtAt w4 z S2) := Lib.hid hp4
    have HO4 := Lib.hid (HO3.out.trans ho4)
    obtain ⟨c0, -, -, -, -, ltb⟩ := ZAt.cells HH4.out
    clear hp4 ho4
    have HWX : Hid (∀ wx, Below w4.heap.size w4 wx → Calls Tryz.prog 79 #[.pointer (some ⟨z.zb, 0, none⟩), .int .i64 (j : Int)] wx fun y w' => y = .returned (.int .i64 tw) ∧ wx = w') := Lib.hid fun wx hx => HWD.out wx (ZAt.below HH4.out hx)
    have HWR : Hid (∀ wx, Below w4.heap.size w4 wx → Calls Tryz.prog 59 #[.pointer (some ⟨z.mb, 0, none⟩), .int .i64 tw, .int .u32 bv] wx fun e w' => e = .returned (.bool (decide (0 ≤ tw) && decide (tw < S2.M.length))) ∧ MAr w' z.mb z.mv S2.n (writeL S2.M tw bv) ∧ Only (fun k => inRow z.mv k) wx w') := Lib.hid fun wx hx => mr_write S2.M z.mb S2.n z.mv tw bv wx (ZAt.below HH4.out hx).mem
    have HD4 : Hid (Below w4.heap.size w4 w4.drew) := Lib.hid (Below.refl _ _).drew
    go_upto_region 8 with fail
    go_cut [] from 29 to 39 (fun wx => Hid (ZtAt wx z { S2 with M := writeL S2.M tw bv }) ∧ Hid (Only z.zw w wx))
    case first =>
      go_region_with (first | (go_at_call 79; refine (HWX.out _ (by first | exact HD4.out | exact Below.refl _ _ | exact HB5.out | exact HB5.out.drew)).mono ?_; rintro e wz ⟨rfl, rfl⟩) | (go_at_call 60; refine (HBI.out _).mono ?_; rintro e w5 ⟨rfl, hb5⟩; have HB5 : Hid (Below w4.heap.size w4 w5) := Lib.hid (by first | exact hb5 | exact HD4.out.trans (hb5.mono HD4.out.size)); have c0w := cell_under c0 HB5.out; have ltw : z.zb < w5.heap.size := Nat.lt_of_lt_of_le ltb HB5.out.size) | (go_at_call 59; refine (HWR.out _ (by first | exact HB5.out | exact HB5.out.drew)).mono ?_; rintro e w6 ⟨rfl, hm6, ho6⟩))
      all_goals
        have HH6 : Hid (ZtAt w6 z { S2 with M := writeL S2.M tw bv }) := Lib.hid (by first | exact (ZAt.below HH4.out HB5.out).mem' ho6 hm6 | exact (ZAt.below HH4.out HB5.out.drew).mem' ho6 hm6)
        have HO6 : Hid (Only z.zw w w6) := Lib.hid (by first | exact HO4.out.trans ((Only.of_below HB5.out).trans (ztw_m ho6)) | exact HO4.out.trans ((Only.of_below HB5.out.drew).trans (ztw_m ho6)))
        clear hm6 ho6
        go_wp2_with fail
        go_meet
        exact ⟨HH6, HO6⟩
    case rest =>
      obtain ⟨HH6, HO6⟩ := hcut
      go_wp2
      go_ret
      exact ⟨rfl, HH6.out, HO6.out⟩
  · have HR : Hid (tSet s (j : Int) frame false = (s, (tSetR s frame false).c)) := Lib.hid (by unfold tSet; rw [if_neg hc])
    have HS := Lib.hid (tSetR_same s frame false hc)
    rw [HR.out]
    obtain ⟨R, hR⟩ : ∃ R, tSetR s frame false = R := ⟨_, rfl⟩
    rw [hR] at HU HS hc ⊢
    obtain ⟨Rl, Rn, Rc⟩ := R
    dsimp only at hc HS ⊢
    have hcb : (Rc != 0) = true := by simp; exact hc
    clear h hi HR hR HI1 hj hm hc
    go_enter Tryz.func72, Tryz.ntmps72
    go_wp2_with fail
    refine HU.out.mono ?_
    rintro y w3 ⟨rfl, hf3, ho3⟩
    have HO3 := Lib.hid (ztw_f ho3)
    have HH3 : Hid (ZtAt w3 z s) := Lib.hid (ZAt.fr' HH.out ho3 (HS.out ▸ hf3))
    clear hf3 ho3 c1 ltb
    go_wp2
    go_ret
    exact ⟨rfl, HH3.out, HO3.out⟩

set_option maxRecDepth 100000 in
set_option maxHeartbeats 16000000 in
theorem zset_true (z : Zl) (s : Ts) (m : Int) (j : Nat) (frame : Int) (w : World) (h : ZtAt w z s) (hi : TInv m s) (hm : m + 1 ≤ 1000000) (hj : j < 256) :
    Calls Tryz.prog 72 #[.pointer (some ⟨z.zb, 0, none⟩), .int .i64 (j : Int), .int .i64 frame, .bool true] w (ZtQ z (tSet s (j : Int) frame true) w) := by
  have HH := Lib.hid h
  have HU : Hid (Calls Tryz.prog 96 #[.pointer (some ⟨z.fb, 0, none⟩), .int .i64 frame] w (FrN 75 72 z.fb z.fg s.n (tSetR s frame true) w)) := Lib.hid (rwrite_any s.F z.fb z.fg s.n frame w (frOk_b hi.fok (by omega)) h.fr)
  have HI1 := Lib.hid (tSetR_inv hi frame true)
  obtain ⟨-, c1, -, -, -, ltb⟩ := ZAt.cells h
  by_cases hc : (tSetR s frame true).c = 0
  · have HR : Hid (tSet s (j : Int) frame true = ({ (tDrop { s with F := (tSetR s frame true).l } (j : Int)).1 with M := putE (tDrop { s with F := (tSetR s frame true).l } (j : Int)).1.M (s.P.getD (1 + (j : Int).toNat / 16) 0) (((j : Int).toNat % 16 : Nat) : Int) ⟨frame, true, true, true⟩ }, 0)) := Lib.hid (by unfold tSet; rw [if_pos hc])
    have hbt := bits_true frame true (tSetR_range hi frame true hc)
    rw [HR.out, Int.toNat_natCast]
    obtain ⟨R, hR⟩ : ∃ R, tSetR s frame true = R := ⟨_, rfl⟩
    rw [hR] at HU HI1 hc ⊢
    obtain ⟨Rl, Rn, Rc⟩ := R
    dsimp only at hc HI1 ⊢
    subst hc
    have hDP := (tDrop_P { s with F := Rl } (j : Int)).1
    have hI2 := tDrop_inv HI1.out (j : Int)
    obtain ⟨⟨S2, x2⟩, hS2⟩ : ∃ r, tDrop { s with F := Rl } (j : Int) = r := ⟨_, rfl⟩
    have HTD : Hid (∀ wx, ZtAt wx z { s with F := Rl } → Calls Tryz.prog 40 #[.pointer (some ⟨z.zb, 0, none⟩), .int .i64 (j : Int)] wx (ZtQ z (S2, x2) wx)) := Lib.hid fun wx hx => hS2 ▸ zdrop_any z { s with F := Rl } (m + 1) (j : Int) wx hx HI1.out hm
    rw [hS2] at hDP hI2 ⊢
    dsimp only at hDP hI2 ⊢
    have HPE : Hid (putE S2.M (s.P.getD (1 + j / 16) 0) ((j % 16 : Nat) : Int) ⟨frame, true, true, true⟩ = writeL S2.M ((tWord S2 j : Nat) : Int) (bitsA ⟨frame, true, true, true⟩).1) := Lib.hid (by rw [← hDP]; exact putE_word hI2 j hj _ hbt)
    have HWD := Lib.hid (fun wx (hx : ZtAt wx z S2) => zword_any z S2 _ j wx hx hI2 hj)
    have HBI := Lib.hid (fun wx => zbits_any frame true wx)
    rw [HPE.out]
    obtain ⟨tw, htw⟩ : ∃ t, ((tWord S2 j : Nat) : Int) = t := ⟨_, rfl⟩
    obtain ⟨bv, hbv⟩ : ∃ t, (bitsA ⟨frame, true, true, true⟩).1 = t := ⟨_, rfl⟩
    rw [htw] at HWD ⊢
    rw [hbv] at HBI ⊢
    clear h hi HR hR hS2 hj hDP hI2 HPE htw hbv hbt hm
    go_enter Tryz.func72, Tryz.ntmps72
    go_wp2_with fail
    refine HU.out.mono ?_
    rintro y w3 ⟨rfl, hf3, ho3⟩
    have HO3 := Lib.hid (ztw_f ho3)
    have HH3 : Hid (ZtAt w3 z { s with F := Rl }) := Lib.hid (ZAt.fr' HH.out ho3 hf3)
    clear hf3 ho3 c1 ltb
    go_wp2_with fail
    refine (HTD.out _ HH3.out).mono ?_
    rintro y w4 ⟨rfl, hp4, ho4⟩
    have HH4 : Hid (ZtAt w4 z S2) := Lib.hid hp4
    have HO4 := Lib.hid (HO3.out.trans ho4)
    obtain ⟨c0, -, -, -, -, ltb⟩ := ZAt.cells HH4.out
    clear hp4 ho4
    have HWX : Hid (∀ wx, Below w4.heap.size w4 wx → Calls Tryz.prog 79 #[.pointer (some ⟨z.zb, 0, none⟩), .int .i64 (j : Int)] wx fun y w' => y = .returned (.int .i64 tw) ∧ wx = w') := Lib.hid fun wx hx => HWD.out wx (ZAt.below HH4.out hx)
    have HWR : Hid (∀ wx, Below w4.heap.size w4 wx → Calls Tryz.prog 59 #[.pointer (some ⟨z.mb, 0, none⟩), .int .i64 tw, .int .u32 bv] wx fun e w' => e = .returned (.bool (decide (0 ≤ tw) && decide (tw < S2.M.length))) ∧ MAr w' z.mb z.mv S2.n (writeL S2.M tw bv) ∧ Only (fun k => inRow z.mv k) wx w') := Lib.hid fun wx hx => mr_write S2.M z.mb S2.n z.mv tw bv wx (ZAt.below HH4.out hx).mem
    have HD4 : Hid (Below w4.heap.size w4 w4.drew) := Lib.hid (Below.refl _ _).drew
    go_upto_region 8 with fail
    go_cut [] from 29 to 39 (fun wx => Hid (ZtAt wx z { S2 with M := writeL S2.M tw bv }) ∧ Hid (Only z.zw w wx))
    case first =>
      go_region_with (first | (go_at_call 79; refine (HWX.out _ (by first | exact HD4.out | exact Below.refl _ _ | exact HB5.out | exact HB5.out.drew)).mono ?_; rintro e wz ⟨rfl, rfl⟩) | (go_at_call 60; refine (HBI.out _).mono ?_; rintro e w5 ⟨rfl, hb5⟩; have HB5 : Hid (Below w4.heap.size w4 w5) := Lib.hid (by first | exact hb5 | exact HD4.out.trans (hb5.mono HD4.out.size)); have c0w := cell_under c0 HB5.out; have ltw : z.zb < w5.heap.size := Nat.lt_of_lt_of_le ltb HB5.out.size) | (go_at_call 59; refine (HWR.out _ (by first | exact HB5.out | exact HB5.out.drew)).mono ?_; rintro e w6 ⟨rfl, hm6, ho6⟩))
      all_goals
        have HH6 : Hid (ZtAt w6 z { S2 with M := writeL S2.M tw bv }) := Lib.hid (by first | exact (ZAt.below HH4.out HB5.out).mem' ho6 hm6 | exact (ZAt.below HH4.out HB5.out.drew).mem' ho6 hm6)
        have HO6 : Hid (Only z.zw w w6) := Lib.hid (by first | exact HO4.out.trans ((Only.of_below HB5.out).trans (ztw_m ho6)) | exact HO4.out.trans ((Only.of_below HB5.out.drew).trans (ztw_m ho6)))
        clear hm6 ho6
        go_wp2_with fail
        go_meet
        exact ⟨HH6, HO6⟩
    case rest =>
      obtain ⟨HH6, HO6⟩ := hcut
      go_wp2
      go_ret
      exact ⟨rfl, HH6.out, HO6.out⟩
  · have HR : Hid (tSet s (j : Int) frame true = (s, (tSetR s frame true).c)) := Lib.hid (by unfold tSet; rw [if_neg hc])
    have HS := Lib.hid (tSetR_same s frame true hc)
    rw [HR.out]
    obtain ⟨R, hR⟩ : ∃ R, tSetR s frame true = R := ⟨_, rfl⟩
    rw [hR] at HU HS hc ⊢
    obtain ⟨Rl, Rn, Rc⟩ := R
    dsimp only at hc HS ⊢
    have hcb : (Rc != 0) = true := by simp; exact hc
    clear h hi HR hR HI1 hj hm hc
    go_enter Tryz.func72, Tryz.ntmps72
    go_wp2_with fail
    refine HU.out.mono ?_
    rintro y w3 ⟨rfl, hf3, ho3⟩
    have HO3 := Lib.hid (ztw_f ho3)
    have HH3 : Hid (ZtAt w3 z s) := Lib.hid (ZAt.fr' HH.out ho3 (HS.out ▸ hf3))
    clear hf3 ho3 c1 ltb
    go_wp2
    go_ret
    exact ⟨rfl, HH3.out, HO3.out⟩
theorem zset_any (z : Zl) (s : Ts) (m : Int) (page frame : Int) (wr : Bool) (w : World) (h : ZtAt w z s) (hi : TInv m s) (hm : m + 1 ≤ 1000000) (hp : isPage page = true) :
    Calls Tryz.prog 72 #[.pointer (some ⟨z.zb, 0, none⟩), .int .i64 page, .int .i64 frame, .bool wr] w (ZtQ z (tSet s page frame wr) w) := by
  obtain ⟨j, rfl, h1, -, -⟩ := page_nat hp
  cases wr
  · exact zset_false z s m j frame w h hi hm h1
  · exact zset_true z s m j frame w h hi hm h1
end Go.Proofs.YtaoaachgnnengaaGreatDoor

