/-
  pt.Tables.Put.
-/
import Derived.Test.YtnhocmmgdkiepaaDoorPtSet
import Derived.BigQuiet
namespace Go.Proofs.YtnhocmmgdkiepaaDoor
open Go.RowKit

theorem tset_any (E : Nat → Addr) (p : Pl) (s : Ts) (m : Int) (page frame : Int) (wr : Bool) (w : World) (hE : ErrsK E p w) (h : PtAt w p s) (hi : TInv m s) (hm : m + 1 ≤ 1000000) (hp : isPage page = true) :
    Calls Tryd.prog 109 #[.pointer (some ⟨p.tb, 0, none⟩), .int .i64 page, .int .i64 frame, .bool wr] w (PtQ E p (tSet s page frame wr) w) := by
  have hpg : 0 ≤ page ∧ page < 256 := by simpa [isPage] using hp
  obtain ⟨j, rfl⟩ : ∃ j : Nat, page = (j : Int) := ⟨page.toNat, by omega⟩
  cases wr
  · exact tset_false E p s m j frame w hE h hi hm (by omega)
  · exact tset_true E p s m j frame w hE h hi hm (by omega)
theorem PtQ.later {E : Nat → Addr} {p : Pl} {R : Ts × Int} {w w1 w' : World} {e : Ending} (h : PtQ E p R w1 e w') (ho : Only p.zw w w1) : PtQ E p R w e w' := ⟨h.1, h.2.1, ho.trans h.2.2⟩

set_option maxRecDepth 100000 in
set_option maxHeartbeats 6400000 in
theorem tput_nopage (E : Nat → Addr) (p : Pl) (s : Ts) (page ef : Int) (et ew eu : Bool) (w : World) (hE : ErrsK E p w) (h : PtAt w p s) (hp : isPage page = false) :
    Calls Tryd.prog 74 #[.pointer (some ⟨p.tb, 0, none⟩), .int .i64 page, .agg #[.int .i64 ef, .bool et, .bool ew, .bool eu]] w (PtQ E p (tPut s page ⟨ef, et, ew, eu⟩) w) := by
  have hb0 : Below w.heap.size w (w.alloc (.cells #[.int .i64 ef, .bool et, .bool ew, .bool eu] 42)) := (Below.refl _ _).alloc (Nat.le_refl _) _
  have HPA := Lib.hid (fun wx => tpage_any page wx)
  rw [hp] at HPA
  have HR : Hid (tPut s page ⟨ef, et, ew, eu⟩ = (s, 103)) := Lib.hid (by unfold tPut; rw [if_neg (by rw [hp]; decide)])
  rw [HR.out]
  have HH := Lib.hid (h.below hb0)
  have HO := Lib.hid (Only.of_below (F := p.zw) hb0)
  have e2 : (w.alloc (.cells #[.int .i64 ef, .bool et, .bool ew, .bool eu] 42)).cell? ⟨0, 0, none⟩ = some (errV (E 2)) := ((hE _ (Only.of_below hb0)).1 2 (by decide)).1
  have e2' : w.cell? ⟨0, 0, none⟩ = some (errV (E 2)) := ((hE _ (Only.refl _ _)).1 2 (by decide)).1
  have g2 := World.block_lt_of_cell? _ _ e2'
  clear hE h hp HR hb0
  go_enter Tryd.func74, Tryd.ntmps74
  go_wp2_with fail
  refine (HPA.out _).mono ?_
  rintro y w1 ⟨rfl, rfl⟩
  go_wp2
  go_ret
  exact ⟨rfl, HH.out, HO.out⟩

set_option maxRecDepth 100000 in
set_option maxHeartbeats 6400000 in
theorem tput_drop (E : Nat → Addr) (p : Pl) (s : Ts) (m : Int) (page : Int) (w : World) (hE : ErrsK E p w) (h : PtAt w p s) (hi : TInv m s) (hm : m ≤ 1000000) (hp : isPage page = true) :
    Calls Tryd.prog 74 #[.pointer (some ⟨p.tb, 0, none⟩), .int .i64 page, .agg #[.int .i64 0, .bool false, .bool false, .bool false]] w (PtQ E p (tPut s page ⟨0, false, false, false⟩) w) := by
  have hb0 : Below w.heap.size w (w.alloc (.cells #[.int .i64 0, .bool false, .bool false, .bool false] 42)) := (Below.refl _ _).alloc (Nat.le_refl _) _
  have HPA := Lib.hid (fun wx => tpage_any page wx)
  rw [hp] at HPA
  have HR : Hid (tPut s page ⟨0, false, false, false⟩ = tDrop s page) := Lib.hid (by unfold tPut; rw [if_pos hp, if_neg (by decide), if_pos ⟨rfl, rfl, rfl⟩])
  rw [HR.out]
  have HO := Lib.hid (Only.of_below (F := p.zw) hb0)
  have HD := Lib.hid (tdrop_any E p s m page _ (hE.next HO.out) (h.below hb0) hi hm)
  clear hE h hi hp HR hb0
  go_enter Tryd.func74, Tryd.ntmps74
  go_wp2_with fail
  refine (HPA.out _).mono ?_
  rintro y w1 ⟨rfl, rfl⟩
  go_wp2_with fail
  refine HD.out.mono ?_
  rintro y w2 ⟨rfl, h2, ho2⟩
  have HF := Lib.hid (And.intro h2 (HO.out.trans ho2))
  clear h2 ho2
  go_wp2
  go_ret
  exact ⟨rfl, HF.out⟩

set_option maxRecDepth 100000 in
set_option maxHeartbeats 6400000 in
theorem tput_bent (E : Nat → Addr) (p : Pl) (s : Ts) (page ef : Int) (ew eu : Bool) (w : World) (hE : ErrsK E p w) (h : PtAt w p s) (hp : isPage page = true) (hb : ¬ (ef = 0 ∧ ew = false ∧ eu = false)) :
    Calls Tryd.prog 74 #[.pointer (some ⟨p.tb, 0, none⟩), .int .i64 page, .agg #[.int .i64 ef, .bool false, .bool ew, .bool eu]] w (PtQ E p (tPut s page ⟨ef, false, ew, eu⟩) w) := by
  have hb0 : Below w.heap.size w (w.alloc (.cells #[.int .i64 ef, .bool false, .bool ew, .bool eu] 42)) := (Below.refl _ _).alloc (Nat.le_refl _) _
  have HPA := Lib.hid (fun wx => tpage_any page wx)
  rw [hp] at HPA
  have HR : Hid (tPut s page ⟨ef, false, ew, eu⟩ = (s, 103)) := Lib.hid (by unfold tPut; rw [if_pos hp, if_neg (fun h => by cases h), if_neg hb])
  rw [HR.out]
  have HH := Lib.hid (h.below hb0)
  have HO := Lib.hid (Only.of_below (F := p.zw) hb0)
  have e2 : (w.alloc (.cells #[.int .i64 ef, .bool false, .bool ew, .bool eu] 42)).cell? ⟨0, 0, none⟩ = some (errV (E 2)) := ((hE _ (Only.of_below hb0)).1 2 (by decide)).1
  have e2' : w.cell? ⟨0, 0, none⟩ = some (errV (E 2)) := ((hE _ (Only.refl _ _)).1 2 (by decide)).1
  have g2 := World.block_lt_of_cell? _ _ e2'
  have hbb : (ef == 0) = false ∨ ((ef == 0) = true ∧ ew = true) ∨ ((ef == 0) = true ∧ ew = false ∧ eu = true) := by
    by_cases h0 : ef = 0
    · subst h0
      cases ew
      · cases eu
        · exact absurd ⟨rfl, rfl, rfl⟩ hb
        · exact .inr (.inr ⟨by decide, rfl, rfl⟩)
      · exact .inr (.inl ⟨by decide, rfl⟩)
    · exact .inl (by simp [h0])
  clear hE h hp HR hb0 hb
  rcases hbb with h0 | ⟨h0, rfl⟩ | ⟨h0, rfl, rfl⟩
  all_goals
    go_enter Tryd.func74, Tryd.ntmps74
    go_wp2_with fail
    refine (HPA.out _).mono ?_
    rintro y w1 ⟨rfl, rfl⟩
    go_wp2
    go_ret
    exact ⟨rfl, HH.out, HO.out⟩

set_option maxRecDepth 100000 in
set_option maxHeartbeats 16000000 in
theorem tput_none (E : Nat → Addr) (p : Pl) (s : Ts) (m : Int) (page ef : Int) (ew eu : Bool) (w : World) (hE : ErrsK E p w) (h : PtAt w p s) (hi : TInv m s) (hm : m + 1 ≤ 1000000) (hp : isPage page = true) (hn : ¬ (0 ≤ ef ∧ ef < (s.P.length : Int))) :
    Calls Tryd.prog 74 #[.pointer (some ⟨p.tb, 0, none⟩), .int .i64 page, .agg #[.int .i64 ef, .bool true, .bool ew, .bool eu]] w (PtQ E p (tPut s page ⟨ef, true, ew, eu⟩) w) := by
  have hb0 : Below w.heap.size w (w.alloc (.cells #[.int .i64 ef, .bool true, .bool ew, .bool eu] 42)) := (Below.refl _ _).alloc (Nat.le_refl _) _
  have HPA := Lib.hid (fun wx => tpage_any page wx)
  have HR : Hid (tPut s page ⟨ef, true, ew, eu⟩ = (s, 107)) := Lib.hid (by unfold tPut; rw [if_pos hp, if_pos rfl, if_neg hn])
  rw [HR.out]
  have HB := Lib.hid hb0
  have HO := Lib.hid (Only.of_below (F := p.zw) hb0)
  have HK : Hid (∀ wx, Below w.heap.size w wx → PtAt wx p s) := Lib.hid fun wx hx => h.below hx
  have HEE := Lib.hid hE
  have HE : Hid (∀ wx, Below w.heap.size w wx → wx.cell? ⟨2, 0, none⟩ = some (errV (E 6)) ∧ 2 < wx.heap.size ∧ wx.cell? ⟨8, 0, none⟩ = some (errV (E 9)) ∧ 8 < wx.heap.size) := Lib.hid fun wx hx => by
    have e6 := ((hE wx (Only.of_below hx)).1 6 (by decide)).1
    have e9 := ((hE wx (Only.of_below hx)).1 9 (by decide)).1
    exact ⟨e6, World.block_lt_of_cell? _ _ e6, e9, World.block_lt_of_cell? _ _ e9⟩
  have hnew := blk_new w (.cells #[.int .i64 ef, .bool true, .bool ew, .bool eu] 42)
  have HN : Hid (∀ wx, Below (w.alloc (.cells #[.int .i64 ef, .bool true, .bool ew, .bool eu] 42)).heap.size (w.alloc (.cells #[.int .i64 ef, .bool true, .bool ew, .bool eu] 42)) wx → wx.cell? ⟨w.heap.size, 0, none⟩ = some (.int .i64 ef) ∧ wx.cell? ⟨w.heap.size, 2, none⟩ = some (.bool ew)) := Lib.hid fun wx hx => by
    have := blk_below hnew hx (blk_lt hnew)
    exact ⟨blk_cell this 0, blk_cell this 2⟩
  have HG := Lib.hid (fun wx (hx : Below w.heap.size w wx) => pm_get s.P p.pb p.pv ef wx (h.below hx).pm)
  have HGA : Hid (getAns s.P ef = .tuple #[.int .i64 0, .bool false]) := Lib.hid (by unfold getAns; rw [if_neg hn])
  rw [HGA.out] at HG
  rw [hp] at HPA
  obtain ⟨q0, q2⟩ := HN.out _ (Below.refl _ _)
  obtain ⟨c0, c1, c2, c3, c4⟩ := (HK.out _ HB.out).cells
  have ltb := blk_lt (HK.out _ HB.out).row
  obtain ⟨e6, g6, e9, g9⟩ := HE.out _ HB.out
  have HHS := Lib.hid (HK.out _ HB.out)
  clear hE h hi hp HR hb0 hnew hn 
  go_enter Tryd.func74, Tryd.ntmps74
  go_wp2_with fail
  refine (HPA.out _).mono ?_
  rintro y w1 ⟨rfl, rfl⟩
  go_wp2_with fail
  go_quiet ((go_at_call 107; exact Calls.quiet_of_same ((HG.out _ (below_drewN HB.out _)).mono fun e w' h => ⟨h.1, h.2.symm⟩)))
  obtain ⟨wd, hwd⟩ : ∃ wd, (w.alloc (.cells #[.int .i64 ef, .bool true, .bool ew, .bool eu] 42)).drewN nq = wd := ⟨_, rfl⟩
  have HBD : Hid (Below w.heap.size w wd) := Lib.hid (hwd ▸ below_drewN HB.out _)
  have HBN : Hid (Below (w.alloc (.cells #[.int .i64 ef, .bool true, .bool ew, .bool eu] 42)).heap.size (w.alloc (.cells #[.int .i64 ef, .bool true, .bool ew, .bool eu] 42)) wd) := Lib.hid (hwd ▸ below_drewN (Below.refl _ _) _)
  rw [hwd]
  clear hwd q0 q2 c0 c1 c2 c3 c4 ltb e6 g6 e9 g9
  obtain ⟨e6, g6, e9, g9⟩ := HE.out _ HBD.out
  go_wp2
  go_ret
  exact ⟨rfl, HK.out _ HBD.out, Only.of_below HBD.out⟩

set_option maxRecDepth 100000 in
set_option maxHeartbeats 16000000 in
theorem tput_owner (E : Nat → Addr) (p : Pl) (s : Ts) (m : Int) (page ef : Int) (ew eu : Bool) (w : World) (hE : ErrsK E p w) (h : PtAt w p s) (hi : TInv m s) (hm : m + 1 ≤ 1000000) (hp : isPage page = true) (n : Nat) (hf : ef = (n : Int)) (hn : n < s.P.length) (ho : (s.F.getD (s.P.getD n 0).toNat default).owner ≠ s.who) :
    Calls Tryd.prog 74 #[.pointer (some ⟨p.tb, 0, none⟩), .int .i64 page, .agg #[.int .i64 ef, .bool true, .bool ew, .bool eu]] w (PtQ E p (tPut s page ⟨ef, true, ew, eu⟩) w) := by
  subst hf
  have hb0 : Below w.heap.size w (w.alloc (.cells #[.int .i64 (n : Int), .bool true, .bool ew, .bool eu] 42)) := (Below.refl _ _).alloc (Nat.le_refl _) _
  have HPA := Lib.hid (fun wx => tpage_any page wx)
  have HR : Hid (tPut s page ⟨(n : Int), true, ew, eu⟩ = (s, 110)) := Lib.hid (by unfold tPut; rw [if_pos hp, if_pos rfl, if_pos ⟨by show (0 : Int) ≤ (n : Int); omega, by show (n : Int) < _; omega⟩]; show (if (s.F.getD (s.P.getD (n : Int).toNat 0).toNat default).owner = s.who then _ else _) = _; rw [Int.toNat_natCast, if_neg ho])
  rw [HR.out]
  have HB := Lib.hid hb0
  have HO := Lib.hid (Only.of_below (F := p.zw) hb0)
  have HK : Hid (∀ wx, Below w.heap.size w wx → PtAt wx p s) := Lib.hid fun wx hx => h.below hx
  have HEE := Lib.hid hE
  have HE : Hid (∀ wx, Below w.heap.size w wx → wx.cell? ⟨2, 0, none⟩ = some (errV (E 6)) ∧ 2 < wx.heap.size ∧ wx.cell? ⟨8, 0, none⟩ = some (errV (E 9)) ∧ 8 < wx.heap.size) := Lib.hid fun wx hx => by
    have e6 := ((hE wx (Only.of_below hx)).1 6 (by decide)).1
    have e9 := ((hE wx (Only.of_below hx)).1 9 (by decide)).1
    exact ⟨e6, World.block_lt_of_cell? _ _ e6, e9, World.block_lt_of_cell? _ _ e9⟩
  have hnew := blk_new w (.cells #[.int .i64 (n : Int), .bool true, .bool ew, .bool eu] 42)
  have HN : Hid (∀ wx, Below (w.alloc (.cells #[.int .i64 (n : Int), .bool true, .bool ew, .bool eu] 42)).heap.size (w.alloc (.cells #[.int .i64 (n : Int), .bool true, .bool ew, .bool eu] 42)) wx → wx.cell? ⟨w.heap.size, 0, none⟩ = some (.int .i64 (n : Int)) ∧ wx.cell? ⟨w.heap.size, 2, none⟩ = some (.bool ew)) := Lib.hid fun wx hx => by
    have := blk_below hnew hx (blk_lt hnew)
    exact ⟨blk_cell this 0, blk_cell this 2⟩
  have HG := Lib.hid (fun wx (hx : Below w.heap.size w wx) => pm_get s.P p.pb p.pv (n : Int) wx (h.below hx).pm)
  have HGA : Hid (getAns s.P (n : Int) = .tuple #[.int .i64 (s.P.getD n 0), .bool true]) := Lib.hid (by unfold getAns; rw [if_pos ⟨by omega, by omega⟩, Int.toNat_natCast])
  rw [HGA.out] at HG
  have hpin := hi.pin n hn
  obtain ⟨f, hfe⟩ : ∃ f : Nat, s.P.getD n 0 = (f : Int) := ⟨(s.P.getD n 0).toNat, by omega⟩
  rw [hfe] at HG ho
  rw [Int.toNat_natCast] at ho
  have hfl : f < s.F.length := by rw [hi.lf]; omega
  have HFG := Lib.hid (fun wx (hx : Below w.heap.size w wx) => fget_some s.F p.fb p.fg s.n f wx (h.below hx).fr hfl)
  unfold frV at HFG
  obtain ⟨⟨xo, xk, xw, xu⟩, hx⟩ : ∃ x, s.F.getD f default = x := ⟨_, rfl⟩
  rw [hx] at HFG ho
  dsimp only at HFG ho
  have hob : (xo == s.who) = false := by simp [ho]
  rw [hp] at HPA
  obtain ⟨q0, q2⟩ := HN.out _ (Below.refl _ _)
  obtain ⟨c0, c1, c2, c3, c4⟩ := (HK.out _ HB.out).cells
  have ltb := blk_lt (HK.out _ HB.out).row
  obtain ⟨e6, g6, e9, g9⟩ := HE.out _ HB.out
  have HHS := Lib.hid (HK.out _ HB.out)
  clear hE h hi hp HR hb0 hnew hn hpin hfl hx hfe ho 
  go_enter Tryd.func74, Tryd.ntmps74
  go_wp2_with fail
  refine (HPA.out _).mono ?_
  rintro y w1 ⟨rfl, rfl⟩
  go_wp2_with fail
  go_quiet ((go_at_call 107; exact Calls.quiet_of_same ((HG.out _ (below_drewN HB.out _)).mono fun e w' h => ⟨h.1, h.2.symm⟩)))
  obtain ⟨wd, hwd⟩ : ∃ wd, (w.alloc (.cells #[.int .i64 (n : Int), .bool true, .bool ew, .bool eu] 42)).drewN nq = wd := ⟨_, rfl⟩
  have HBD : Hid (Below w.heap.size w wd) := Lib.hid (hwd ▸ below_drewN HB.out _)
  have HBN : Hid (Below (w.alloc (.cells #[.int .i64 (n : Int), .bool true, .bool ew, .bool eu] 42)).heap.size (w.alloc (.cells #[.int .i64 (n : Int), .bool true, .bool ew, .bool eu] 42)) wd) := Lib.hid (hwd ▸ below_drewN (Below.refl _ _) _)
  rw [hwd]
  clear hwd q0 q2 c0 c1 c2 c3 c4 ltb e6 g6 e9 g9
  obtain ⟨-, c1, -, -, -⟩ := (HK.out _ HBD.out).cells
  go_wp2_with fail
  refine (HFG.out _ HBD.out).mono ?_
  rintro y w2 ⟨rfl, hb2⟩
  have hbf := hb2.alloc hb2.size (.cells #[.int .i64 xo, .int .i64 xk, .int .i64 xw, .int .i64 xu] 126)
  have HBF := Lib.hid (HBD.out.trans (hbf.mono HBD.out.size))
  have HBM := Lib.hid (HBN.out.trans (hbf.mono HBN.out.size))
  have hnf := blk_new w2 (.cells #[.int .i64 xo, .int .i64 xk, .int .i64 xw, .int .i64 xu] 126)
  have x0 := blk_cell hnf 0
  obtain ⟨-, -, d2, -, -⟩ := (HK.out _ HBF.out).cells
  obtain ⟨q0, q2⟩ := HN.out _ HBM.out
  clear c1 hb2 hbf hnf
  go_wp2_with fail
  go_quiet (fail)
  obtain ⟨we, hwe⟩ : ∃ we, (w2.alloc (.cells #[.int .i64 xo, .int .i64 xk, .int .i64 xw, .int .i64 xu] 126)).drewN nq = we := ⟨_, rfl⟩
  have HBE : Hid (Below w.heap.size w we) := Lib.hid (hwe ▸ below_drewN HBF.out _)
  have HBQ : Hid (Below (w.alloc (.cells #[.int .i64 (n : Int), .bool true, .bool ew, .bool eu] 42)).heap.size (w.alloc (.cells #[.int .i64 (n : Int), .bool true, .bool ew, .bool eu] 42)) we) := Lib.hid (hwe ▸ below_drewN HBM.out _)
  rw [hwe]
  clear hwe q0 q2 d2 x0
  obtain ⟨e6, g6, e9, g9⟩ := HE.out _ HBE.out
  go_wp2
  go_ret
  exact ⟨rfl, HK.out _ HBE.out, Only.of_below HBE.out⟩

set_option maxRecDepth 100000 in
set_option maxHeartbeats 16000000 in
theorem tput_set (E : Nat → Addr) (p : Pl) (s : Ts) (m : Int) (page ef : Int) (ew eu : Bool) (w : World) (hE : ErrsK E p w) (h : PtAt w p s) (hi : TInv m s) (hm : m + 1 ≤ 1000000) (hp : isPage page = true) (n : Nat) (hf : ef = (n : Int)) (hn : n < s.P.length) (ho : (s.F.getD (s.P.getD n 0).toNat default).owner = s.who) :
    Calls Tryd.prog 74 #[.pointer (some ⟨p.tb, 0, none⟩), .int .i64 page, .agg #[.int .i64 ef, .bool true, .bool ew, .bool eu]] w (PtQ E p (tPut s page ⟨ef, true, ew, eu⟩) w) := by
  subst hf
  have hb0 : Below w.heap.size w (w.alloc (.cells #[.int .i64 (n : Int), .bool true, .bool ew, .bool eu] 42)) := (Below.refl _ _).alloc (Nat.le_refl _) _
  have HPA := Lib.hid (fun wx => tpage_any page wx)
  have HR : Hid (tPut s page ⟨(n : Int), true, ew, eu⟩ = tSet s page (s.P.getD n 0) ew) := Lib.hid (by unfold tPut; rw [if_pos hp, if_pos rfl, if_pos ⟨by show (0 : Int) ≤ (n : Int); omega, by show (n : Int) < _; omega⟩]; show (if (s.F.getD (s.P.getD (n : Int).toNat 0).toNat default).owner = s.who then tSet s page (s.P.getD (n : Int).toNat 0) ew else _) = _; rw [Int.toNat_natCast, if_pos ho])
  rw [HR.out]
  have HB := Lib.hid hb0
  have HO := Lib.hid (Only.of_below (F := p.zw) hb0)
  have HK : Hid (∀ wx, Below w.heap.size w wx → PtAt wx p s) := Lib.hid fun wx hx => h.below hx
  have HEE := Lib.hid hE
  have HE : Hid (∀ wx, Below w.heap.size w wx → wx.cell? ⟨2, 0, none⟩ = some (errV (E 6)) ∧ 2 < wx.heap.size ∧ wx.cell? ⟨8, 0, none⟩ = some (errV (E 9)) ∧ 8 < wx.heap.size) := Lib.hid fun wx hx => by
    have e6 := ((hE wx (Only.of_below hx)).1 6 (by decide)).1
    have e9 := ((hE wx (Only.of_below hx)).1 9 (by decide)).1
    exact ⟨e6, World.block_lt_of_cell? _ _ e6, e9, World.block_lt_of_cell? _ _ e9⟩
  have hnew := blk_new w (.cells #[.int .i64 (n : Int), .bool true, .bool ew, .bool eu] 42)
  have HN : Hid (∀ wx, Below (w.alloc (.cells #[.int .i64 (n : Int), .bool true, .bool ew, .bool eu] 42)).heap.size (w.alloc (.cells #[.int .i64 (n : Int), .bool true, .bool ew, .bool eu] 42)) wx → wx.cell? ⟨w.heap.size, 0, none⟩ = some (.int .i64 (n : Int)) ∧ wx.cell? ⟨w.heap.size, 2, none⟩ = some (.bool ew)) := Lib.hid fun wx hx => by
    have := blk_below hnew hx (blk_lt hnew)
    exact ⟨blk_cell this 0, blk_cell this 2⟩
  have HG := Lib.hid (fun wx (hx : Below w.heap.size w wx) => pm_get s.P p.pb p.pv (n : Int) wx (h.below hx).pm)
  have HGA : Hid (getAns s.P (n : Int) = .tuple #[.int .i64 (s.P.getD n 0), .bool true]) := Lib.hid (by unfold getAns; rw [if_pos ⟨by omega, by omega⟩, Int.toNat_natCast])
  rw [HGA.out] at HG
  have hpin := hi.pin n hn
  obtain ⟨f, hfe⟩ : ∃ f : Nat, s.P.getD n 0 = (f : Int) := ⟨(s.P.getD n 0).toNat, by omega⟩
  rw [hfe] at HG ho
  rw [Int.toNat_natCast] at ho
  have hfl : f < s.F.length := by rw [hi.lf]; omega
  have HFG := Lib.hid (fun wx (hx : Below w.heap.size w wx) => fget_some s.F p.fb p.fg s.n f wx (h.below hx).fr hfl)
  unfold frV at HFG
  obtain ⟨⟨xo, xk, xw, xu⟩, hx⟩ : ∃ x, s.F.getD f default = x := ⟨_, rfl⟩
  rw [hx] at HFG ho
  dsimp only at HFG ho
  subst ho
  rw [hfe]
  have HS := Lib.hid (fun wx (ho : Only p.zw w wx) (hx : PtAt wx p s) => tset_any E p s m page (f : Int) ew wx (HEE.out.next ho) hx hi hm hp)
  rw [hp] at HPA
  obtain ⟨q0, q2⟩ := HN.out _ (Below.refl _ _)
  obtain ⟨c0, c1, c2, c3, c4⟩ := (HK.out _ HB.out).cells
  have ltb := blk_lt (HK.out _ HB.out).row
  obtain ⟨e6, g6, e9, g9⟩ := HE.out _ HB.out
  have HHS := Lib.hid (HK.out _ HB.out)
  clear hE h hi hp HR hb0 hnew hn hpin hfl hx hfe 
  go_enter Tryd.func74, Tryd.ntmps74
  go_wp2_with fail
  refine (HPA.out _).mono ?_
  rintro y w1 ⟨rfl, rfl⟩
  go_wp2_with fail
  go_quiet ((go_at_call 107; exact Calls.quiet_of_same ((HG.out _ (below_drewN HB.out _)).mono fun e w' h => ⟨h.1, h.2.symm⟩)))
  obtain ⟨wd, hwd⟩ : ∃ wd, (w.alloc (.cells #[.int .i64 (n : Int), .bool true, .bool ew, .bool eu] 42)).drewN nq = wd := ⟨_, rfl⟩
  have HBD : Hid (Below w.heap.size w wd) := Lib.hid (hwd ▸ below_drewN HB.out _)
  have HBN : Hid (Below (w.alloc (.cells #[.int .i64 (n : Int), .bool true, .bool ew, .bool eu] 42)).heap.size (w.alloc (.cells #[.int .i64 (n : Int), .bool true, .bool ew, .bool eu] 42)) wd) := Lib.hid (hwd ▸ below_drewN (Below.refl _ _) _)
  rw [hwd]
  clear hwd q0 q2 c0 c1 c2 c3 c4 ltb e6 g6 e9 g9
  obtain ⟨-, c1, -, -, -⟩ := (HK.out _ HBD.out).cells
  go_wp2_with fail
  refine (HFG.out _ HBD.out).mono ?_
  rintro y w2 ⟨rfl, hb2⟩
  have hbf := hb2.alloc hb2.size (.cells #[.int .i64 s.who, .int .i64 xk, .int .i64 xw, .int .i64 xu] 126)
  have HBF := Lib.hid (HBD.out.trans (hbf.mono HBD.out.size))
  have HBM := Lib.hid (HBN.out.trans (hbf.mono HBN.out.size))
  have hnf := blk_new w2 (.cells #[.int .i64 s.who, .int .i64 xk, .int .i64 xw, .int .i64 xu] 126)
  have x0 := blk_cell hnf 0
  obtain ⟨-, -, d2, -, -⟩ := (HK.out _ HBF.out).cells
  obtain ⟨q0, q2⟩ := HN.out _ HBM.out
  clear c1 hb2 hbf hnf
  go_wp2_with fail
  go_quiet (fail)
  obtain ⟨we, hwe⟩ : ∃ we, (w2.alloc (.cells #[.int .i64 s.who, .int .i64 xk, .int .i64 xw, .int .i64 xu] 126)).drewN nq = we := ⟨_, rfl⟩
  have HBE : Hid (Below w.heap.size w we) := Lib.hid (hwe ▸ below_drewN HBF.out _)
  have HBQ : Hid (Below (w.alloc (.cells #[.int .i64 (n : Int), .bool true, .bool ew, .bool eu] 42)).heap.size (w.alloc (.cells #[.int .i64 (n : Int), .bool true, .bool ew, .bool eu] 42)) we) := Lib.hid (hwe ▸ below_drewN HBM.out _)
  rw [hwe]
  clear hwe q0 q2 d2 x0
  obtain ⟨q0, q2⟩ := HN.out _ HBQ.out
  go_wp2_with fail
  refine (HS.out _ (Only.of_below HBE.out) (HK.out _ HBE.out)).mono ?_
  rintro y w3 ⟨rfl, h3, ho3⟩
  have HF := Lib.hid (And.intro h3 ((Only.of_below (F := p.zw) HBE.out).trans ho3))
  clear h3 ho3
  go_wp2
  go_ret
  exact ⟨rfl, HF.out⟩

/-- Put -/
theorem tput_any (E : Nat → Addr) (p : Pl) (s : Ts) (m : Int) (page : Int) (e : Ent) (w : World) (hE : ErrsK E p w) (h : PtAt w p s) (hi : TInv m s) (hm : m + 1 ≤ 1000000) :
    Calls Tryd.prog 74 #[.pointer (some ⟨p.tb, 0, none⟩), .int .i64 page, e.v] w (PtQ E p (tPut s page e) w) := by
  obtain ⟨ef, et, ew, eu⟩ := e
  cases hp : isPage page with
  | false => exact tput_nopage E p s page ef et ew eu w hE h hp
  | true =>
    cases et with
    | false =>
      by_cases hz : ef = 0 ∧ ew = false ∧ eu = false
      · obtain ⟨rfl, rfl, rfl⟩ := hz
        exact tput_drop E p s m page w hE h hi (by omega) hp
      · exact tput_bent E p s page ef ew eu w hE h hp hz
    | true =>
      by_cases hn : 0 ≤ ef ∧ ef < (s.P.length : Int)
      · have hf : ef = ((ef.toNat : Nat) : Int) := by omega
        by_cases ho : (s.F.getD (s.P.getD ef.toNat 0).toNat default).owner = s.who
        · exact tput_set E p s m page ef ew eu w hE h hi hm hp ef.toNat hf (by omega) ho
        · exact tput_owner E p s m page ef ew eu w hE h hi hm hp ef.toNat hf (by omega) ho
      · exact tput_none E p s m page ef ew eu w hE h hi hm hp hn

end Go.Proofs.YtnhocmmgdkiepaaDoor
