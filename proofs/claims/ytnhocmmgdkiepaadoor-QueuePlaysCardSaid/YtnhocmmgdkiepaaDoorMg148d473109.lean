/-
  Parts of one proof, one behind the other.
-/
import Derived.Test.YtnhocmmgdkiepaaDoorMga01ee0034f
import Derived.BigQuiet
import Derived.Test.YtnhocmmgdkiepaaDoorMge8e9a5b5ac
/-
  pt.Tables.Put.
-/
namespace Go.Proofs.YtnhocmmgdkiepaaDoor
open Go.RowKit

theorem tset_any (E : Nat → Addr) (p : Pl) (s : Ts) (m : Int) (page frame : Int) (wr : Bool) (w : World) (hE : ErrsK E p w) (h : PtAt w p s) (hi : TInv m s) (hm : m + 1 ≤ 1000000) (hp : isPage page = true) :
    Calls Tryd.prog 109 #[.pointer (some ⟨p.tb, 0, none⟩), .int .i64 page, .int .i64 frame, .bool wr] w (PtQ E p (tSet s page frame wr) w) := by
  have hpg : 0 ≤ page ∧ page < 256 := by simpa [isPage] using hp
  obtain ⟨j, rfl⟩ : ∃ j : Nat, page = (j : Int) := ⟨page.toNat, by omega⟩
  cases wr
  · exact tset_false E p s m j frame w hE h hi hm (by omega)
  · exact tset_true E p s m j frame w hE h hi hm (by omega)
theorem PtQ.later {E : Nat → Addr} {p : Pl} {R : Ts × Int} {w w1 w' : World} {e : Ending} (h : PtQ E p R w1 e w') (ho : Only p.zw w w1) : PtQ E p R w e w' := ⟨h.1, h.2.1, ho.trans h.2.2⟩

set_option maxRecDepth 100000 in
set_option maxHeartbeats 6400000 in
theorem tput_nopage (E : Nat → Addr) (p : Pl) (s : Ts) (page ef : Int) (et ew eu : Bool) (w : World) (hE : ErrsK E p w) (h : PtAt w p s) (hp : isPage page = false) :
    Calls Tryd.prog 74 #[.pointer (some ⟨p.tb, 0, none⟩), .int .i64 page, .agg #[.int .i64 ef, .bool et, .bool ew, .bool eu]] w (PtQ E p (tPut s page ⟨ef, et, ew, eu⟩) w) := by
  have hb0 : Below w.heap.size w (w.alloc (.cells #[.int .i64 ef, .bool et, .bool ew, .bool eu] 42)) := (Below.refl _ _).alloc (Nat.le_refl _) _
  have HPA := Lib.hid (fun wx => tpage_any page wx)
  rw [hp] at HPA
  have HR : Hid (tPut s page ⟨ef, et, ew, eu⟩ = (s, 103)) := Lib.hid (by unfold tPut; rw [if_neg (by rw [hp]; decide)])
  rw [HR.out]
  have HH := Lib.hid (h.below hb0)
  have HO := Lib.hid (Only.of_below (F := p.zw) hb0)
  have e2 : (w.alloc (.cells #[.int .i64 ef, .bool et, .bool ew, .bool eu] 42)).cell? ⟨0, 0, none⟩ = some (errV (E 2)) := ((hE _ (Only.of_below hb0)).1 2 (by decide)).1
  have e2' : w.cell? ⟨0, 0, none⟩ = some (errV (E 2)) := ((hE _ (Only.refl _ _)).1 2 (by decide)).1
  have g2 := World.block_lt_of_cell? _ _ e2'
  clear hE h hp HR hb0
  go_enter Tryd.func74, Tryd.ntmps74
  go_wp2_with fail
  refine (HPA.out _).mono ?_
  rintro y w1 ⟨rfl, rfl⟩
  go_wp2
  go_ret
  exact ⟨rfl, HH.out, HO.out⟩

set_option maxRecDepth 100000 in
set_option maxHeartbeats 6400000 in
theorem tput_drop (E : Nat → Addr) (p : Pl) (s : Ts) (m : Int) (page : Int) (w : World) (hE : ErrsK E p w) (h : PtAt w p s) (hi : TInv m s) (hm : m ≤ 1000000) (hp : isPage page = true) :
    Calls Tryd.prog 74 #[.pointer (some ⟨p.tb, 0, none⟩), .int .i64 page, .agg #[.int .i64 0, .bool false, .bool false, .bool false]] w (PtQ E p (tPut s page ⟨0, false, false, false⟩) w) := by
  have hb0 : Below w.heap.size w (w.alloc (.cells #[.int .i64 0, .bool false, .bool false, .bool false] 42)) := (Below.refl _ _).alloc (Nat.le_refl _) _
  have HPA := Lib.hid (fun wx => tpage_any page wx)
  rw [hp] at HPA
  have HR : Hid (tPut s page ⟨0, false, false, false⟩ = tDrop s page) := Lib.hid (by unfold tPut; rw [if_pos hp, if_neg (by decide), if_pos ⟨rfl, rfl, rfl⟩])
  rw [HR.out]
  have HO := Lib.hid (Only.of_below (F := p.zw) hb0)
  have HD := Lib.hid (tdrop_any E p s m page _ (hE.next HO.out) (h.below hb0) hi hm)
  clear hE h hi hp HR hb0
  go_enter Tryd.func74, Tryd.ntmps74
  go_wp2_with fail
  refine (HPA.out _).mono ?_
  rintro y w1 ⟨rfl, rfl⟩
  go_wp2_with fail
  refine HD.out.mono ?_
  rintro y w2 ⟨rfl, h2, ho2⟩
  have HF := Lib.hid (And.intro h2 (HO.out.trans ho2))
  clear h2 ho2
  go_wp2
  go_ret
  exact ⟨rfl, HF.out⟩

set_option maxRecDepth 100000 in
set_option maxHeartbeats 6400000 in
theorem tput_bent (E : Nat → Addr) (p : Pl) (s : Ts) (page ef : Int) (ew eu : Bool) (w : World) (hE : ErrsK E p w) (h : PtAt w p s) (hp : isPage page = true) (hb : ¬ (ef = 0 ∧ ew = false ∧ eu = false)) :
    Calls Tryd.prog 74 #[.pointer (some ⟨p.tb, 0, none⟩), .int .i64 page, .agg #[.int .i64 ef, .bool false, .bool ew, .bool eu]] w (PtQ E p (tPut s page ⟨ef, false, ew, eu⟩) w) := by
  have hb0 : Below w.heap.size w (w.alloc (.cells #[.int .i64 ef, .bool false, .bool ew, .bool eu] 42)) := (Below.refl _ _).alloc (Nat.le_refl _) _
  have HPA := Lib.hid (fun wx => tpage_any page wx)
  rw [hp] at HPA
  have HR : Hid (tPut s page ⟨ef, false, ew, eu⟩ = (s, 103)) := Lib.hid (by unfold tPut; rw [if_pos hp, if_neg (fun h => by cases h), if_neg hb])
  rw [HR.out]
  have HH := Lib.hid (h.below hb0)
  have HO := Lib.hid (Only.of_below (F := p.zw) hb0)
  have e2 : (w.alloc (.cells #[.int .i64 ef, .bool false, .bool ew, .bool eu] 42)).cell? ⟨0, 0, none⟩ = some (errV (E 2)) := ((hE _ (Only.of_below hb0)).1 2 (by decide)).1
  have e2' : w.cell? ⟨0, 0, none⟩ = some (errV (E 2)) := ((hE _ (Only.refl _ _)).1 2 (by decide)).1
  have g2 := World.block_lt_of_cell? _ _ e2'
  have hbb : (ef == 0) = false ∨ ((ef == 0) = true ∧ ew = true) ∨ ((ef == 0) = true ∧ ew = false ∧ eu = true) := by
    by_cases h0 : ef = 0
    · subst h0
      cases ew
      · cases eu
        · exact absurd ⟨rfl, rfl, rfl⟩ hb
        · exact .inr (.inr ⟨by decide, rfl, rfl⟩)
      · exact .inr (.inl ⟨by decide, rfl⟩)
    · exact .inl (by simp [h0])
  clear hE h hp HR hb0 hb
  rcases hbb with h0 | ⟨h0, rfl⟩ | ⟨h0, rfl, rfl⟩
  all_goals
    go_enter Tryd.func74, Tryd.ntmps74
    go_wp2_with fail
    refine (HPA.out _).mono ?_
    rintro y w1 ⟨rfl, rfl⟩
    go_wp2
    go_ret
    exact ⟨rfl, HH.out, HO.out⟩

set_option maxRecDepth 100000 in
set_option maxHeartbeats 16000000 in
theorem tput_none (E : Nat → Addr) (p : Pl) (s : Ts) (m : Int) (page ef : Int) (ew eu : Bool) (w : World) (hE : ErrsK E p w) (h : PtAt w p s) (hi : TInv m s) (hm : m + 1 ≤ 1000000) (hp : isPage page = true) (hn : ¬ (0 ≤ ef ∧ ef < (s.P.length : Int))) :
    Calls Tryd.prog 74 #[.pointer (some ⟨p.tb, 0, none⟩), .int .i64 page, .agg #[.int .i64 ef, .bool true, .bool ew, .bool eu]] w (PtQ E p (tPut s page ⟨ef, true, ew, eu⟩) w) := by
  have hb0 : Below w.heap.size w (w.alloc (.cells #[.int .i64 ef, .bool true, .bool ew, .bool eu] 42)) := (Below.refl _ _).alloc (Nat.le_refl _) _
  have HPA := Lib.hid (fun wx => tpage_any page wx)
  have HR : Hid (tPut s page ⟨ef, true, ew, eu⟩ = (s, 107)) := Lib.hid (by unfold tPut; rw [if_pos hp, if_pos rfl, if_neg hn])
  rw [HR.out]
  have HB := Lib.hid hb0
  have HO := Lib.hid (Only.of_below (F := p.zw) hb0)
  have HK : Hid (∀ wx, Below w.heap.size w wx → PtAt wx p s) := Lib.hid fun wx hx => h.below hx
  have HEE := Lib.hid hE
  have HE : Hid (∀ wx, Below w.heap.size w wx → wx.cell? ⟨2, 0, none⟩ = some (errV (E 6)) ∧ 2 < wx.heap.size ∧ wx.cell? ⟨8, 0, none⟩ = some (errV (E 9)) ∧ 8 < wx.heap.size) := Lib.hid fun wx hx => by
    have e6 := ((hE wx (Only.of_below hx)).1 6 (by decide)).1
    have e9 := ((hE wx (Only.of_below hx)).1 9 (by decide)).1
    exact ⟨e6, World.block_lt_of_cell? _ _ e6, e9, World.block_lt_of_cell? _ _ e9⟩
  have hnew := blk_new w (.cells #[.int .i64 ef, .bool true, .bool ew, .bool eu] 42)
  have HN : Hid (∀ wx, Below (w.alloc (.cells #[.int .i64 ef, .bool true, .bool ew, .bool eu] 42)).heap.size (w.alloc (.cells #[.int .i64 ef, .bool true, .bool ew, .bool eu] 42)) wx → wx.cell? ⟨w.heap.size, 0, none⟩ = some (.int .i64 ef) ∧ wx.cell? ⟨w.heap.size, 2, none⟩ = some (.bool ew)) := Lib.hid fun wx hx => by
    have := blk_below hnew hx (blk_lt hnew)
    exact ⟨blk_cell this 0, blk_cell this 2⟩
  have HG := Lib.hid (fun wx (hx : Below w.heap.size w wx) => pm_get s.P p.pb p.pv ef wx (h.below hx).pm)
  have HGA : Hid (getAns s.P ef = .tuple #[.int .i64 0, .bool false]) := Lib.hid (by unfold getAns; rw [if_neg hn])
  rw [HGA.out] at HG
  rw [hp] at HPA
  obtain ⟨q0, q2⟩ := HN.out _ (Below.refl _ _)
  obtain ⟨c0, c1, c2, c3, c4⟩ := (HK.out _ HB.out).cells
  have ltb := blk_lt (HK.out _ HB.out).row
  obtain ⟨e6, g6, e9, g9⟩ := HE.out _ HB.out
  have HHS := Lib.hid (HK.out _ HB.out)
  clear hE h hi hp HR hb0 hnew hn 
  go_enter Tryd.func74, Tryd.ntmps74
  go_wp2_with fail
  refine (HPA.out _).mono ?_
  rintro y w1 ⟨rfl, rfl⟩
  go_wp2_with fail
  go_quiet ((go_at_call 107; exact Calls.quiet_of_same ((HG.out _ (below_drewN HB.out _)).mono fun e w' h => ⟨h.1, h.2.symm⟩)))
  obtain ⟨wd, hwd⟩ : ∃ wd, (w.alloc (.cells #[.int .i64 ef, .bool true, .bool ew, .bool eu] 42)).drewN nq = wd := ⟨_, rfl⟩
  have HBD : Hid (Below w.heap.size w wd) := Lib.hid (hwd ▸ below_drewN HB.out _)
  have HBN : Hid (Below (w.alloc (.cells #[.int .i64 ef, .bool true, .bool ew, .bool eu] 42)).heap.size (w.alloc (.cells #[.int .i64 ef, .bool true, .bool ew, .bool eu] 42)) wd) := Lib.hid (hwd ▸ below_drewN (Below.refl _ _) _)
  rw [hwd]
  clear hwd q0 q2 c0 c1 c2 c3 c4 ltb e6 g6 e9 g9
  obtain ⟨e6, g6, e9, g9⟩ := HE.out _ HBD.out
  go_wp2
  go_ret
  exact ⟨rfl, HK.out _ HBD.out, Only.of_below HBD.out⟩

set_option maxRecDepth 100000 in
set_option maxHeartbeats 16000000 in
theorem tput_owner (E : Nat → Addr) (p : Pl) (s : Ts) (m : Int) (page ef : Int) (ew eu : Bool) (w : World) (hE : ErrsK E p w) (h : PtAt w p s) (hi : TInv m s) (hm : m + 1 ≤ 1000000) (hp : isPage page = true) (n : Nat) (hf : ef = (n : Int)) (hn : n < s.P.length) (ho : (s.F.getD (s.P.getD n 0).toNat default).owner ≠ s.who) :
    Calls Tryd.prog 74 #[.pointer (some ⟨p.tb, 0, none⟩), .int .i64 page, .agg #[.int .i64 ef, .bool true, .bool ew, .bool eu]] w (PtQ E p (tPut s page ⟨ef, true, ew, eu⟩) w) := by
  subst hf
  have hb0 : Below w.heap.size w (w.alloc (.cells #[.int .i64 (n : Int), .bool true, .bool ew, .bool eu] 42)) := (Below.refl _ _).alloc (Nat.le_refl _) _
  have HPA := Lib.hid (fun wx => tpage_any page wx)
  have HR : Hid (tPut s page ⟨(n : Int), true, ew, eu⟩ = (s, 110)) := Lib.hid (by unfold tPut; rw [if_pos hp, if_pos rfl, if_pos ⟨by show (0 : Int) ≤ (n : Int); omega, by show (n : Int) < _; omega⟩]; show (if (s.F.getD (s.P.getD (n : Int).toNat 0).toNat default).owner = s.who then _ else _) = _; rw [Int.toNat_natCast, if_neg ho])
  rw [HR.out]
  have HB := Lib.hid hb0
  have HO := Lib.hid (Only.of_below (F := p.zw) hb0)
  have HK : Hid (∀ wx, Below w.heap.size w wx → PtAt wx p s) := Lib.hid fun wx hx => h.below hx
  have HEE := Lib.hid hE
  have HE : Hid (∀ wx, Below w.heap.size w wx → wx.cell? ⟨2, 0, none⟩ = some (errV (E 6)) ∧ 2 < wx.heap.size ∧ wx.cell? ⟨8, 0, none⟩ = some (errV (E 9)) ∧ 8 < wx.heap.size) := Lib.hid fun wx hx => by
    have e6 := ((hE wx (Only.of_below hx)).1 6 (by decide)).1
    have e9 := ((hE wx (Only.of_below hx)).1 9 (by decide)).1
    exact ⟨e6, World.block_lt_of_cell? _ _ e6, e9, World.block_lt_of_cell? _ _ e9⟩
  have hnew := blk_new w (.cells #[.int .i64 (n : Int), .bool true, .bool ew, .bool eu] 42)
  have HN : Hid (∀ wx, Below (w.alloc (.cells #[.int .i64 (n : Int), .bool true, .bool ew, .bool eu] 42)).heap.size (w.alloc (.cells #[.int .i64 (n : Int), .bool true, .bool ew, .bool eu] 42)) wx → wx.cell? ⟨w.heap.size, 0, none⟩ = some (.int .i64 (n : Int)) ∧ wx.cell? ⟨w.heap.size, 2, none⟩ = some (.bool ew)) := Lib.hid fun wx hx => by
    have := blk_below hnew hx (blk_lt hnew)
    exact ⟨blk_cell this 0, blk_cell this 2⟩
  have HG := Lib.hid (fun wx (hx : Below w.heap.size w wx) => pm_get s.P p.pb p.pv (n : Int) wx (h.below hx).pm)
  have HGA : Hid (getAns s.P (n : Int) = .tuple #[.int .i64 (s.P.getD n 0), .bool true]) := Lib.hid (by unfold getAns; rw [if_pos ⟨by omega, by omega⟩, Int.toNat_natCast])
  rw [HGA.out] at HG
  have hpin := hi.pin n hn
  obtain ⟨f, hfe⟩ : ∃ f : Nat, s.P.getD n 0 = (f : Int) := ⟨(s.P.getD n 0).toNat, by omega⟩
  rw [hfe] at HG ho
  rw [Int.toNat_natCast] at ho
  have hfl : f < s.F.length := by rw [hi.lf]; omega
  have HFG := Lib.hid (fun wx (hx : Below w.heap.size w wx) => fget_some s.F p.fb p.fg s.n f wx (h.below hx).fr hfl)
  unfold frV at HFG
  obtain ⟨⟨xo, xk, xw, xu⟩, hx⟩ : ∃ x, s.F.getD f default = x := ⟨_, rfl⟩
  rw [hx] at HFG ho
  dsimp only at HFG ho
  have hob : (xo == s.who) = false := by simp [ho]
  rw [hp] at HPA
  obtain ⟨q0, q2⟩ := HN.out _ (Below.refl _ _)
  obtain ⟨c0, c1, c2, c3, c4⟩ := (HK.out _ HB.out).cells
  have ltb := blk_lt (HK.out _ HB.out).row
  obtain ⟨e6, g6, e9, g9⟩ := HE.out _ HB.out
  have HHS := Lib.hid (HK.out _ HB.out)
  clear hE h hi hp HR hb0 hnew hn hpin hfl hx hfe ho 
  go_enter Tryd.func74, Tryd.ntmps74
  go_wp2_with fail
  refine (HPA.out _).mono ?_
  rintro y w1 ⟨rfl, rfl⟩
  go_wp2_with fail
  go_quiet ((go_at_call 107; exact Calls.quiet_of_same ((HG.out _ (below_drewN HB.out _)).mono fun e w' h => ⟨h.1, h.2.symm⟩)))
  obtain ⟨wd, hwd⟩ : ∃ wd, (w.alloc (.cells #[.int .i64 (n : Int), .bool true, .bool ew, .bool eu] 42)).drewN nq = wd := ⟨_, rfl⟩
  have HBD : Hid (Below w.heap.size w wd) := Lib.hid (hwd ▸ below_drewN HB.out _)
  have HBN : Hid (Below (w.alloc (.cells #[.int .i64 (n : Int), .bool true, .bool ew, .bool eu] 42)).heap.size (w.alloc (.cells #[.int .i64 (n : Int), .bool true, .bool ew, .bool eu] 42)) wd) := Lib.hid (hwd ▸ below_drewN (Below.refl _ _) _)
  rw [hwd]
  clear hwd q0 q2 c0 c1 c2 c3 c4 ltb e6 g6 e9 g9
  obtain ⟨-, c1, -, -, -⟩ := (HK.out _ HBD.out).cells
  go_wp2_with fail
  refine (HFG.out _ HBD.out).mono ?_
  rintro y w2 ⟨rfl, hb2⟩
  have hbf := hb2.alloc hb2.size (.cells #[.int .i64 xo, .int .i64 xk, .int .i64 xw, .int .i64 xu] 126)
  have HBF := Lib.hid (HBD.out.trans (hbf.mono HBD.out.size))
  have HBM := Lib.hid (HBN.out.trans (hbf.mono HBN.out.size))
  have hnf := blk_new w2 (.cells #[.int .i64 xo, .int .i64 xk, .int .i64 xw, .int .i64 xu] 126)
  have x0 := blk_cell hnf 0
  obtain ⟨-, -, d2, -, -⟩ := (HK.out _ HBF.out).cells
  obtain ⟨q0, q2⟩ := HN.out _ HBM.out
  clear c1 hb2 hbf hnf
  go_wp2_with fail
  go_quiet (fail)
  obtain ⟨we, hwe⟩ : ∃ we, (w2.alloc (.cells #[.int .i64 xo, .int .i64 xk, .int .i64 xw, .int .i64 xu] 126)).drewN nq = we := ⟨_, rfl⟩
  have HBE : Hid (Below w.heap.size w we) := Lib.hid (hwe ▸ below_drewN HBF.out _)
  have HBQ : Hid (Below (w.alloc (.cells #[.int .i64 (n : Int), .bool true, .bool ew, .bool eu] 42)).heap.size (w.alloc (.cells #[.int .i64 (n : Int), .bool true, .bool ew, .bool eu] 42)) we) := Lib.hid (hwe ▸ below_drewN HBM.out _)
  rw [hwe]
  clear hwe q0 q2 d2 x0
  obtain ⟨e6, g6, e9, g9⟩ := HE.out _ HBE.out
  go_wp2
  go_ret
  exact ⟨rfl, HK.out _ HBE.out, Only.of_below HBE.out⟩

set_option maxRecDepth 100000 in
set_option maxHeartbeats 16000000 in
theorem tput_set (E : Nat → Addr) (p : Pl) (s : Ts) (m : Int) (page ef : Int) (ew eu : Bool) (w : World) (hE : ErrsK E p w) (h : PtAt w p s) (hi : TInv m s) (hm : m + 1 ≤ 1000000) (hp : isPage page = true) (n : Nat) (hf : ef = (n : Int)) (hn : n < s.P.length) (ho : (s.F.getD (s.P.getD n 0).toNat default).owner = s.who) :
    Calls Tryd.prog 74 #[.pointer (some ⟨p.tb, 0, none⟩), .int .i64 page, .agg #[.int .i64 ef, .bool true, .bool ew, .bool eu]] w (PtQ E p (tPut s page ⟨ef, true, ew, eu⟩) w) := by
  subst hf
  have hb0 : Below w.heap.size w (w.alloc (.cells #[.int .i64 (n : Int), .bool true, .bool ew, .bool eu] 42)) := (Below.refl _ _).alloc (Nat.le_refl _) _
  have HPA := Lib.hid (fun wx => tpage_any page wx)
  have HR : Hid (tPut s page ⟨(n : Int), true, ew, eu⟩ = tSet s page (s.P.getD n 0) ew) := Lib.hid (by unfold tPut; rw [if_pos hp, if_pos rfl, if_pos ⟨by show (0 : Int) ≤ (n : Int); omega, by show (n : Int) < _; omega⟩]; show (if (s.F.getD (s.P.getD (n : Int).toNat 0).toNat default).owner = s.who then tSet s page (s.P.getD (n : Int).toNat 0) ew else _) = _; rw [Int.toNat_natCast, if_pos ho])
  rw [HR.out]
  have HB := Lib.hid hb0
  have HO := Lib.hid (Only.of_below (F := p.zw) hb0)
  have HK : Hid (∀ wx, Below w.heap.size w wx → PtAt wx p s) := Lib.hid fun wx hx => h.below hx
  have HEE := Lib.hid hE
  have HE : Hid (∀ wx, Below w.heap.size w wx → wx.cell? ⟨2, 0, none⟩ = some (errV (E 6)) ∧ 2 < wx.heap.size ∧ wx.cell? ⟨8, 0, none⟩ = some (errV (E 9)) ∧ 8 < wx.heap.size) := Lib.hid fun wx hx => by
    have e6 := ((hE wx (Only.of_below hx)).1 6 (by decide)).1
    have e9 := ((hE wx (Only.of_below hx)).1 9 (by decide)).1
    exact ⟨e6, World.block_lt_of_cell? _ _ e6, e9, World.block_lt_of_cell? _ _ e9⟩
  have hnew := blk_new w (.cells #[.int .i64 (n : Int), .bool true, .bool ew, .bool eu] 42)
  have HN : Hid (∀ wx, Below (w.alloc (.cells #[.int .i64 (n : Int), .bool true, .bool ew, .bool eu] 42)).heap.size (w.alloc (.cells #[.int .i64 (n : Int), .bool true, .bool ew, .bool eu] 42)) wx → wx.cell? ⟨w.heap.size, 0, none⟩ = some (.int .i64 (n : Int)) ∧ wx.cell? ⟨w.heap.size, 2, none⟩ = some (.bool ew)) := Lib.hid fun wx hx => by
    have := blk_below hnew hx (blk_lt hnew)
    exact ⟨blk_cell this 0, blk_cell this 2⟩
  have HG := Lib.hid (fun wx (hx : Below w.heap.size w wx) => pm_get s.P p.pb p.pv (n : Int) wx (h.below hx).pm)
  have HGA : Hid (getAns s.P (n : Int) = .tuple #[.int .i64 (s.P.getD n 0), .bool true]) := Lib.hid (by unfold getAns; rw [if_pos ⟨by omega, by omega⟩, Int.toNat_natCast])
  rw [HGA.out] at HG
  have hpin := hi.pin n hn
  obtain ⟨f, hfe⟩ : ∃ f : Nat, s.P.getD n 0 = (f : Int) := ⟨(s.P.getD n 0).toNat, by omega⟩
  rw [hfe] at HG ho
  rw [Int.toNat_natCast] at ho
  have hfl : f < s.F.length := by rw [hi.lf]; omega
  have HFG := Lib.hid (fun wx (hx : Below w.heap.size w wx) => fget_some s.F p.fb p.fg s.n f wx (h.below hx).fr hfl)
  unfold frV at HFG
  obtain ⟨⟨xo, xk, xw, xu⟩, hx⟩ : ∃ x, s.F.getD f default = x := ⟨_, rfl⟩
  rw [hx] at HFG ho
  dsimp only at HFG ho
  subst ho
  rw [hfe]
  have HS := Lib.hid (fun wx (ho : Only p.zw w wx) (hx : PtAt wx p s) => tset_any E p s m page (f : Int) ew wx (HEE.out.next ho) hx hi hm hp)
  rw [hp] at HPA
  obtain ⟨q0, q2⟩ := HN.out _ (Below.refl _ _)
  obtain ⟨c0, c1, c2, c3, c4⟩ := (HK.out _ HB.out).cells
  have ltb := blk_lt (HK.out _ HB.out).row
  obtain ⟨e6, g6, e9, g9⟩ := HE.out _ HB.out
  have HHS := Lib.hid (HK.out _ HB.out)
  clear hE h hi hp HR hb0 hnew hn hpin hfl hx hfe 
  go_enter Tryd.func74, Tryd.ntmps74
  go_wp2_with fail
  refine (HPA.out _).mono ?_
  rintro y w1 ⟨rfl, rfl⟩
  go_wp2_with fail
  go_quiet ((go_at_call 107; exact Calls.quiet_of_same ((HG.out _ (below_drewN HB.out _)).mono fun e w' h => ⟨h.1, h.2.symm⟩)))
  obtain ⟨wd, hwd⟩ : ∃ wd, (w.alloc (.cells #[.int .i64 (n : Int), .bool true, .bool ew, .bool eu] 42)).drewN nq = wd := ⟨_, rfl⟩
  have HBD : Hid (Below w.heap.size w wd) := Lib.hid (hwd ▸ below_drewN HB.out _)
  have HBN : Hid (Below (w.alloc (.cells #[.int .i64 (n : Int), .bool true, .bool ew, .bool eu] 42)).heap.size (w.alloc (.cells #[.int .i64 (n : Int), .bool true, .bool ew, .bool eu] 42)) wd) := Lib.hid (hwd ▸ below_drewN (Below.refl _ _) _)
  rw [hwd]
  clear hwd q0 q2 c0 c1 c2 c3 c4 ltb e6 g6 e9 g9
  obtain ⟨-, c1, -, -, -⟩ := (HK.out _ HBD.out).cells
  go_wp2_with fail
  refine (HFG.out _ HBD.out).mono ?_
  rintro y w2 ⟨rfl, hb2⟩
  have hbf := hb2.alloc hb2.size (.cells #[.int .i64 s.who, .int .i64 xk, .int .i64 xw, .int .i64 xu] 126)
  have HBF := Lib.hid (HBD.out.trans (hbf.mono HBD.out.size))
  have HBM := Lib.hid (HBN.out.trans (hbf.mono HBN.out.size))
  have hnf := blk_new w2 (.cells #[.int .i64 s.who, .int .i64 xk, .int .i64 xw, .int .i64 xu] 126)
  have x0 := blk_cell hnf 0
  obtain ⟨-, -, d2, -, -⟩ := (HK.out _ HBF.out).cells
  obtain ⟨q0, q2⟩ := HN.out _ HBM.out
  clear c1 hb2 hbf hnf
  go_wp2_with fail
  go_quiet (fail)
  obtain ⟨we, hwe⟩ : ∃ we, (w2.alloc (.cells #[.int .i64 s.who, .int .i64 xk, .int .i64 xw, .int .i64 xu] 126)).drewN nq = we := ⟨_, rfl⟩
  have HBE : Hid (Below w.heap.size w we) := Lib.hid (hwe ▸ below_drewN HBF.out _)
  have HBQ : Hid (Below (w.alloc (.cells #[.int .i64 (n : Int), .bool true, .bool ew, .bool eu] 42)).heap.size (w.alloc (.cells #[.int .i64 (n : Int), .bool true, .bool ew, .bool eu] 42)) we) := Lib.hid (hwe ▸ below_drewN HBM.out _)
  rw [hwe]
  clear hwe q0 q2 d2 x0
  obtain ⟨q0, q2⟩ := HN.out _ HBQ.out
  go_wp2_with fail
  refine (HS.out _ (Only.of_below HBE.out) (HK.out _ HBE.out)).mono ?_
  rintro y w3 ⟨rfl, h3, ho3⟩
  have HF := Lib.hid (And.intro h3 ((Only.of_below (F := p.zw) HBE.out).trans ho3))
  clear h3 ho3
  go_wp2
  go_ret
  exact ⟨rfl, HF.out⟩

/-- Put -/
theorem tput_any (E : Nat → Addr) (p : Pl) (s : Ts) (m : Int) (page : Int) (e : Ent) (w : World) (hE : ErrsK E p w) (h : PtAt w p s) (hi : TInv m s) (hm : m + 1 ≤ 1000000) :
    Calls Tryd.prog 74 #[.pointer (some ⟨p.tb, 0, none⟩), .int .i64 page, e.v] w (PtQ E p (tPut s page e) w) := by
  obtain ⟨ef, et, ew, eu⟩ := e
  cases hp : isPage page with
  | false => exact tput_nopage E p s page ef et ew eu w hE h hp
  | true =>
    cases et with
    | false =>
      by_cases hz : ef = 0 ∧ ew = false ∧ eu = false
      · obtain ⟨rfl, rfl, rfl⟩ := hz
        exact tput_drop E p s m page w hE h hi (by omega) hp
      · exact tput_bent E p s page ef ew eu w hE h hp hz
    | true =>
      by_cases hn : 0 ≤ ef ∧ ef < (s.P.length : Int)
      · have hf : ef = ((ef.toNat : Nat) : Int) := by omega
        by_cases ho : (s.F.getD (s.P.getD ef.toNat 0).toNat default).owner = s.who
        · exact tput_set E p s m page ef ew eu w hE h hi hm hp ef.toNat hf (by omega) ho
        · exact tput_owner E p s m page ef ew eu w hE h hi hm hp ef.toNat hf (by omega) ho
      · exact tput_none E p s m page ef ew eu w hE h hi hm hp hn

end Go.Proofs.YtnhocmmgdkiepaaDoor

/-
  queue.Queue.Flush: those that wait are done, till one is refused.
-/
namespace Go.Proofs.YtnhocmmgdkiepaaDoor
open Go.RowKit

/-- tables, the first k of a list done -/
def qS (s : Ts) (l : List Up) : Nat → Ts
  | 0 => s
  | k + 1 => if (ofA (l.getD k default).word).2 = true then (tPut (qS s l k) (l.getD k default).page (ofA (l.getD k default).word).1).1 else qS s l k
/-- what the one at k is told -/
def qC (s : Ts) (l : List Up) (k : Nat) : Int := if (ofA (l.getD k default).word).2 = true then (tPut (qS s l k) (l.getD k default).page (ofA (l.getD k default).word).1).2 else 102
theorem tDrop_same (s : Ts) (page : Int) (h : (tDrop s page).2 ≠ 0) : (tDrop s page).1 = s := by
  unfold tDrop at h ⊢
  split
  · rename_i hp
    rw [if_pos hp] at h
    split at h <;> exact absurd rfl h
  · rfl
theorem tSet_same (s : Ts) (page frame : Int) (w : Bool) (h : (tSet s page frame w).2 ≠ 0) : (tSet s page frame w).1 = s := by
  unfold tSet at h ⊢
  split
  · rename_i hc
    rw [if_pos hc] at h
    exact absurd rfl h
  · rfl
theorem tPut_same (s : Ts) (page : Int) (e : Ent) (h : (tPut s page e).2 ≠ 0) : (tPut s page e).1 = s := by
  unfold tPut at h ⊢
  by_cases h1 : isPage page = true
  · rw [if_pos h1] at h ⊢
    by_cases h2 : e.t = true
    · rw [if_pos h2] at h ⊢
      by_cases h3 : 0 ≤ e.f ∧ e.f < (s.P.length : Int)
      · rw [if_pos h3] at h ⊢
        by_cases h4 : (s.F.getD (s.P.getD e.f.toNat 0).toNat default).owner = s.who
        · rw [if_pos h4] at h ⊢
          exact tSet_same _ _ _ _ h
        · rw [if_neg h4]
      · rw [if_neg h3]
    · rw [if_neg h2] at h ⊢
      by_cases h3 : e.f = 0 ∧ e.w = false ∧ e.u = false
      · rw [if_pos h3] at h ⊢
        exact tDrop_same _ _ h
      · rw [if_neg h3]
  · rw [if_neg h1]
theorem qS_inv {m : Int} {s : Ts} (h : TInv m s) (l : List Up) : ∀ k : Nat, TInv (m + 2 * (k : Int)) (qS s l k)
  | 0 => by simpa [qS] using h
  | k + 1 => by
    have ih := qS_inv h l k
    rw [show m + 2 * ((k + 1 : Nat) : Int) = m + 2 * (k : Int) + 1 + 1 by omega]
    unfold qS
    split
    · exact tPut_inv ih _ _
    · exact ih.mono.mono
/-- what Flush answers: how many, the error's number -/
def FlIs (s : Ts) (l : List Up) (k : Nat) (c : Int) : Prop := (∀ i, i < k → qC s l i = 0) ∧ ((k = l.length ∧ c = 0) ∨ (k < l.length ∧ c = qC s l k ∧ c ≠ 0))
def Pl.zq (p : Pl) (qb : Nat) (k : Nat) : Prop := p.zw k ∨ k = qb
def FlTo (s : Ts) (l : List Up) (p : Pl) (qb : Nat) (w : World) (i : Value) (wr : World) : Prop := ∃ k : Nat, k ≤ l.length ∧ i = .int .i64 (k : Int) ∧ (∀ i, i < k → qC s l i = 0) ∧ PtAt wr p (qS s l k) ∧ Only (p.zq qb) w wr
def FlQ (E : Nat → Addr) (s : Ts) (l : List Up) (p : Pl) (qb : Nat) (w : World) (e : Ending) (w' : World) : Prop := ∃ k c, FlIs s l k c ∧ e = .returned (.tuple #[.int .i64 (k : Int), errC E c]) ∧ PtAt w' p (qS s l k) ∧ Only (p.zq qb) w w' ∧ QuAt w' qb (.slice none 0 0) []
theorem up_cell {w : World} {g cap : Nat} {l : List Up} (h : w.ownsRow 0 48 2 (.slice (some ⟨g, 0, none⟩) l.length cap) l.length (upCells l)) (k : Nat) (hk : k < l.length) : w.cell? ⟨g, k * 2, none⟩ = some (.int .i64 (l.getD k default).page) ∧ w.cell? ⟨g, k * 2 + 1, none⟩ = some (.int .u32 (l.getD k default).word) :=
  ⟨(own_cell h (k * 2) (by omega)).trans (rec_get upOne 2 upOne_len l k 0 hk (by decide)), (own_cell h (k * 2 + 1) (by omega)).trans (rec_get upOne 2 upOne_len l k 1 hk (by decide))⟩

set_option maxRecDepth 100000 in
set_option maxHeartbeats 16000000 in
theorem qflush_any (E : Nat → Addr) (p : Pl) (s : Ts) (m : Int) (l : List Up) (qb : Nat) (qv : Value) (w : World) (hE : ∀ wx, Only (p.zq qb) w wx → ErrsAt errT gOf wx E nine) (h : PtAt w p s) (hi : TInv m s) (hm : m + 2 * (l.length : Int) + 1 ≤ 1000000) (hll : l.length ≤ 100000) (hq : QuAt w qb qv l) (hw : ∀ u ∈ l, W32 u.word)
    (hap : (∀ k, inRow qv k → ¬ p.zw k) ∧ ¬ p.zw qb ∧ ¬ p.z0 qb) :
    Calls Tryd.prog 36 #[.pointer (some ⟨qb, 0, none⟩), .pointer (some ⟨p.tb, 0, none⟩)] w (FlQ E s l p qb w) := by
  have HEE := Lib.hid hE
  have HCL := Lib.hid (qclear_any l qb qv w hq)
  have HQN := Lib.hid hq.not
  have HAP := Lib.hid hap
  have HI := Lib.hid (qS_inv hi l)
  have c := hq.cell
  have lqb := blk_lt hq.1
  have HPT : Hid (∀ wx, Only (fun k => k = qb) w wx → PtAt wx p s) := Lib.hid fun wx ho => h.keep ho (fun k h0 e => hap.2.2 (e ▸ h0)) (fun k h1 e => hap.2.1 (e ▸ .inl h1)) (fun k h2 e => hap.2.1 (e ▸ .inr (.inl h2))) (fun k h3 e => hap.2.1 (e ▸ (by rcases h3 with h3 | h3; exact .inr (.inr (.inl h3)); exact .inr (.inr (.inr h3)))))
  have HOWN : Hid (∀ wx, Only (p.zq qb) w wx → wx.ownsRow 0 48 2 qv l.length (upCells l)) := Lib.hid fun wx ho => own_only hq.2 ho fun k hk hz => by
    rcases hz with hz | hz
    · exact hap.1 k hk hz
    · exact HQN.out (hz ▸ hk)
  have HW32 : Hid (∀ k, k < l.length → W32 (l.getD k default).word) := Lib.hid fun k hk => by
    rw [List.getD_eq_getElem?_getD, List.getElem?_eq_getElem hk]
    exact hw _ (List.getElem_mem hk)
  have hsh := own_shape hq.2
  obtain ⟨ao, cap, rfl⟩ := hq.slice
  clear hE h hi hq hw hap
  go_enter Tryd.func36, Tryd.ntmps36
  go_wp2_with fail
  refine HCL.out.mono ?_
  rintro y w1 ⟨rfl, hq1, ho1⟩
  have HQ1 := Lib.hid hq1
  have HP1 := Lib.hid (HPT.out _ ho1)
  have HO1 : Hid (Only (p.zq qb) w w1) := Lib.hid (ho1.mono fun _ h => .inl (.inr h))
  have HST : Hid (FlTo s l p qb w (.int .i64 0) w1) := Lib.hid ⟨0, Nat.zero_le _, rfl, fun i hi => absurd hi (by omega), HP1.out, HO1.out⟩
  have HQK : Hid (∀ wx, Only p.zw w1 wx → QuAt wx qb (.slice none 0 0) []) := Lib.hid fun wx ho => HQ1.out.only ho HAP.out.2.1 (fun k hk => by cases hk)
  have HST : Hid (FlTo s l p qb w (.int .i64 0) w1 ∧ Only p.zw w1 w1) := Lib.hid ⟨HST.out, Only.refl _ _⟩
  clear hq1 ho1 c lqb
  go_wp2_with fail
  go_loopw [20] (fun i wr => FlTo s l p qb w i wr ∧ Only p.zw w1 wr) (fun i _ => l.length - (intOf i).toNat)
  case atStart => exact HST.out
  case round =>
    obtain ⟨⟨k, hk, rfl, hok, hp, ho⟩, ho1⟩ := hrel
    have HP := Lib.hid hp
    have HO := Lib.hid ho
    have HOZ := Lib.hid ho1
    have HOK := Lib.hid hok
    have hE1 : ErrsK E p wr := fun wx hx => HEE.out wx (ho.trans (hx.mono fun _ h => .inl (.inl h)))
    have HEK := Lib.hid hE1
    clear HST hp ho ho1 hok hE1
    by_cases hlt : k < l.length
    · have hki : (k : Int) < (l.length : Int) := by omega
      have wk := IntWalk.i64_in ((k : Int) + 1) (by omega)
      rcases hsh with ⟨-, hz, -⟩ | ⟨g, cap2, hv, -⟩
      · omega
      cases hv
      obtain ⟨x0, x1⟩ := up_cell (HOWN.out wr HO.out) k hlt
      have hu := HW32.out k hlt
      have HQS : Hid (qS s l (k + 1) = if (ofA (l.getD k default).word).2 = true then (tPut (qS s l k) (l.getD k default).page (ofA (l.getD k default).word).1).1 else qS s l k) := Lib.hid rfl
      have HQC : Hid (qC s l k = if (ofA (l.getD k default).word).2 = true then (tPut (qS s l k) (l.getD k default).page (ofA (l.getD k default).word).1).2 else 102) := Lib.hid rfl
      have HTP := Lib.hid (fun wx (hx : Only p.zw wr wx) (hh : PtAt wx p (qS s l k)) => tput_any E p (qS s l k) (m + 2 * (k : Int)) (l.getD k default).page (ofA (l.getD k default).word).1 wx (HEK.out.next hx) hh (HI.out k) (by omega))
      have HSM := Lib.hid (tPut_same (qS s l k) (l.getD k default).page (ofA (l.getD k default).word).1)
      have HOF := Lib.hid (fun wx => of_any (l.getD k default).word wx hu)
      obtain ⟨⟨up, uw⟩, hue⟩ : ∃ u, l.getD k default = u := ⟨_, rfl⟩
      rw [hue] at x0 x1 HQS HQC HTP HOF HSM
      dsimp only at x0 x1 HQS HQC HTP HOF HSM
      obtain ⟨⟨⟨ef, et, ew, eu⟩, ok⟩, hoe⟩ : ∃ r, ofA uw = r := ⟨_, rfl⟩
      rw [hoe] at HQS HQC HTP HOF HSM
      unfold Ent.v at HTP HOF
      dsimp only at HQS HQC HTP HOF HSM
      have e1 : wr.cell? ⟨5, 0, none⟩ = some (errV (E 1)) := ((HEK.out wr (Only.refl _ _)).1 1 (by decide)).1
      have HES : Hid (∀ wx, Below wr.heap.size wr wx → wx.cell? ⟨5, 0, none⟩ = some (errV (E 1)) ∧ 5 < wx.heap.size) := Lib.hid fun wx hx => by
        have := ((HEK.out wx (Only.of_below hx)).1 1 (by decide)).1
        exact ⟨this, World.block_lt_of_cell? _ _ this⟩
      clear hu hue hoe e1
      go_wp2_with fail
      refine (HOF.out _).mono ?_
      rintro y w2 ⟨rfl, hb2⟩
      have hbu := blk_new wr (.cells #[.int .i64 up, .int .u32 uw] 48)
      have hku := blk_below hbu hb2 (blk_lt hbu)
      have HB2 : Hid (Below wr.heap.size wr (w2.alloc (.cells #[.int .i64 ef, .bool et, .bool ew, .bool eu] 42))) := Lib.hid ((((Below.refl _ _).alloc (Nat.le_refl _) _).trans (hb2.mono (by simp))).alloc (by have := hb2.size; simp at this; omega) _)
      have hku2 := blk_old hku (.cells #[.int .i64 ef, .bool et, .bool ew, .bool eu] 42)
      have y0 := blk_cell hku2 0
      have lku := blk_lt hku
      obtain ⟨e1, g1⟩ := HES.out _ HB2.out
      have HPW := Lib.hid (HP.out.below HB2.out)
      have HOW := Lib.hid (Only.of_below (F := p.zw) HB2.out)
      clear hbu hku hku2 hb2 x0 x1
      cases ok with
      | false =>
        have HC : Hid (qC s l k = 102) := Lib.hid (by rw [HQC.out, if_neg (by decide)])
        go_wp2
        go_ret2
        exact ⟨k, 102, ⟨HOK.out, .inr ⟨hlt, HC.out.symm, by decide⟩⟩, rfl, HPW.out, HO.out.trans (HOW.out.mono fun _ h => .inl (.inl h)), HQK.out _ (HOZ.out.trans HOW.out)⟩
      | true =>
        have HC : Hid (qC s l k = (tPut (qS s l k) up ⟨ef, et, ew, eu⟩).2) := Lib.hid (by rw [HQC.out, if_pos rfl])
        have HS1 : Hid (qS s l (k + 1) = (tPut (qS s l k) up ⟨ef, et, ew, eu⟩).1) := Lib.hid (by rw [HQS.out, if_pos rfl])
        have HT := Lib.hid (HTP.out _ HOW.out HPW.out)
        obtain ⟨⟨S1, c1⟩, hR⟩ : ∃ R, tPut (qS s l k) up ⟨ef, et, ew, eu⟩ = R := ⟨_, rfl⟩
        rw [hR] at HT HC HS1 HSM
        dsimp only at HC HS1 HSM
        clear hR HTP HQC HQS
        by_cases hc : c1 = 0
        · subst hc
          go_wp2_with fail
          refine HT.out.mono ?_
          rintro y w3 ⟨rfl, hp3, ho3⟩
          have HP3 := Lib.hid hp3
          have HO3 := Lib.hid (HOW.out.trans ho3)
          clear hp3 ho3 e1 g1 y0
          unfold errC
          rw [if_pos rfl]
          go_wp2_with fail
          go_roundw
          case rel => exact ⟨⟨k + 1, by omega, by go_num, fun i hi => by
              by_cases h : i = k
              · rw [h]; exact HC.out
              · exact HOK.out i (by omega), by rw [HS1.out]; exact HP3.out, HO.out.trans (HO3.out.mono fun _ h => .inl (.inl h))⟩, HOZ.out.trans HO3.out⟩
          case measure => simp [intOf]; omega
        · have HEC : Hid (errC E c1 = errV (E (c1 - 101).toNat)) := Lib.hid (by unfold errC; rw [if_neg hc])
          go_wp2_with fail
          refine HT.out.mono ?_
          rintro y w3 ⟨rfl, hp3, ho3⟩
          have HP3 : Hid (PtAt w3 p (qS s l k)) := Lib.hid (by have := hp3; rw [HSM.out hc] at this; exact this)
          have HO3 := Lib.hid (HOW.out.trans ho3)
          have HCN := Lib.hid hc
          clear hp3 ho3 e1 g1 y0 hc
          dsimp only
          rw [HEC.out]
          go_wp2
          go_ret2
          exact ⟨k, c1, ⟨HOK.out, .inr ⟨hlt, HC.out.symm, HCN.out⟩⟩, by rw [HEC.out]; rfl, HP3.out, HO.out.trans (HO3.out.mono fun _ h => .inl (.inl h)), HQK.out _ (HOZ.out.trans HO3.out)⟩
    · obtain rfl : k = l.length := by omega
      go_wp2
      go_ret2
      exact ⟨l.length, 0, ⟨HOK.out, .inl ⟨rfl, rfl⟩⟩, rfl, HP.out, HO.out, HQK.out _ HOZ.out⟩
end Go.Proofs.YtnhocmmgdkiepaaDoor

/-
  Tables while they are made: where their parts lie.
-/
namespace Go.Proofs.YtnhocmmgdkiepaaDoor
open Go.RowKit

structure NAt (w : World) (p : Pl) (n : Nat) (M : List Int) (F : List Fr) (P T : List Int) (who : Int) : Prop where
  row : w.heap[p.tb]? = some (.cells (ptCells p who) 133 (0, 0))
  mem : MAt w p.mb p.mv n M
  fr : FrAt 128 126 w p.fb p.fg n F
  pm : PAt w p.pb p.pv P
  tl : w.ownsRow 0 3 1 p.lv T.length (ints T)
  apart : p.Apart
theorem NAt.keep {G : Nat → Prop} {w w' : World} {p : Pl} {n : Nat} {M : List Int} {F : List Fr} {P T : List Int} {who : Int} (h : NAt w p n M F P T who) (ho : Only G w w') (h0 : ∀ k, p.z0 k → ¬ G k) (h1 : ∀ k, p.z1 k → ¬ G k) (h2 : ∀ k, p.z2 k → ¬ G k) (h3 : ∀ k, p.z3 k → ¬ G k) : NAt w' p n M F P T who :=
  ⟨ho.blk h.row (h0 _ (.inl rfl)), h.mem.only ho (h0 _ (.inr (.inl rfl))) h1, h.fr.only ho (h0 _ (.inr (.inr (.inl rfl)))) (h2 _ rfl), h.pm.only ho (h3 _ (.inl rfl)) (fun k hk => h3 k (.inr hk)), own_only h.tl ho (fun k hk => h0 k (.inr (.inr (.inr hk)))), h.apart⟩
theorem NAt.below {w w' : World} {p : Pl} {n : Nat} {M : List Int} {F : List Fr} {P T : List Int} {who : Int} (h : NAt w p n M F P T who) (hb : Below w.heap.size w w') : NAt w' p n M F P T who :=
  h.keep (G := fun _ => False) (Only.of_below hb) (fun _ _ h => h) (fun _ _ h => h) (fun _ _ h => h) (fun _ _ h => h)
theorem NAt.mem' {w w' : World} {p : Pl} {n : Nat} {M M' : List Int} {F : List Fr} {P T : List Int} {who : Int} (h : NAt w p n M F P T who) (ho : Only (fun k => inRow p.mv k) w w') (hm : MAt w' p.mb p.mv n M') : NAt w' p n M' F P T who :=
  ⟨ho.blk h.row (h.apart.a01 _ (.inl rfl)), hm, h.fr.only ho (h.apart.a01 _ (.inr (.inr (.inl rfl)))) (fun h' => h.apart.a12 _ h' rfl), h.pm.only ho (fun h' => h.apart.a13 _ h' (.inl rfl)) (fun k hk h' => h.apart.a13 _ h' (.inr hk)), own_only h.tl ho (fun k hk => h.apart.a01 k (.inr (.inr (.inr hk)))), h.apart⟩
theorem NAt.fr' {w w' : World} {p : Pl} {n : Nat} {M : List Int} {F F' : List Fr} {P T : List Int} {who : Int} (h : NAt w p n M F P T who) (ho : Only (fun k => k = p.fg) w w') (hm : FrAt 128 126 w' p.fb p.fg n F') : NAt w' p n M F' P T who :=
  ⟨ho.blk h.row (h.apart.a02 _ (.inl rfl)), h.mem.only ho (h.apart.a02 _ (.inr (.inl rfl))) (fun k hk h' => h.apart.a12 _ hk h'), hm, h.pm.only ho (fun h' => h.apart.a23 _ h' (.inl rfl)) (fun k hk h' => h.apart.a23 _ h' (.inr hk)), own_only h.tl ho (fun k hk => h.apart.a02 k (.inr (.inr (.inr hk)))), h.apart⟩
theorem NAt.lt {w : World} {p : Pl} {n : Nat} {M : List Int} {F : List Fr} {P T : List Int} {who : Int} (h : NAt w p n M F P T who) : ∀ k, (p.z0 k ∨ p.z1 k ∨ p.z2 k ∨ p.z3 k) → k < w.heap.size := fun k hk => by
  rcases hk with (rfl | rfl | rfl | hk) | hk | hk | (rfl | hk)
  · exact blk_lt h.row
  · exact blk_lt h.mem.1
  · exact h.fr.lt.1
  · exact own_lt h.tl hk
  · exact own_lt h.mem.2.1 hk
  · rw [show k = p.fg from hk]; exact h.fr.lt.2
  · exact blk_lt h.pm.1
  · exact own_lt h.pm.2 hk
/-- the map has another one -/
theorem NAt.pm' {w w' : World} {p : Pl} {n : Nat} {M : List Int} {F : List Fr} {P P' T : List Int} {who : Int} {pv' : Value} (h : NAt w p n M F P T who) (ho : Only (fun k => k = p.pb ∨ inRow p.pv k) w w') (hm : PAt w' p.pb pv' P') (hr : ∀ k, inRow pv' k → inRow p.pv k ∨ w.heap.size ≤ k) : NAt w' { p with pv := pv' } n M F P' T who := by
  have hz3 : ∀ k, Pl.z3 { p with pv := pv' } k → p.z3 k ∨ w.heap.size ≤ k := fun k hk => by
    rcases hk with hk | hk
    · exact .inl (.inl hk)
    · rcases hr k hk with h | h
      · exact .inl (.inr h)
      · exact .inr h
  exact ⟨ho.blk h.row (fun h' => h.apart.a03 p.tb (.inl rfl) h'), h.mem.only ho (fun h' => h.apart.a03 p.mb (.inr (.inl rfl)) h') (fun k hk h' => h.apart.a13 _ hk h'), h.fr.only ho (fun h' => h.apart.a03 p.fb (.inr (.inr (.inl rfl))) h') (fun h' => h.apart.a23 p.fg rfl h'), hm, own_only h.tl ho (fun k hk h' => h.apart.a03 k (.inr (.inr (.inr hk))) h'),
    ⟨h.apart.a01, h.apart.a02, fun k h0 h3 => by
      rcases hz3 k h3 with h' | h'
      · exact h.apart.a03 k h0 h'
      · have := h.lt k (.inl h0); omega, h.apart.a12, fun k h0 h3 => by
      rcases hz3 k h3 with h' | h'
      · exact h.apart.a13 k h0 h'
      · have := h.lt k (.inr (.inl h0)); omega, fun k h0 h3 => by
      rcases hz3 k h3 with h' | h'
      · exact h.apart.a23 k h0 h'
      · have := h.lt k (.inr (.inr (.inl h0))); omega⟩⟩
/-- the list has another one -/
theorem NAt.list' {w w' : World} {p : Pl} {n : Nat} {M : List Int} {F : List Fr} {P T T' : List Int} {who : Int} {lv' : Value} (h : NAt w p n M F P T who) (ho : Only (fun k => k = p.tb ∨ inRow p.lv k) w w') (hrow : w'.heap[p.tb]? = some (.cells (ptCells { p with lv := lv' } who) 133 (0, 0))) (ht : w'.ownsRow 0 3 1 lv' T'.length (ints T')) (hmb : p.mb ≠ p.tb ∧ ¬ inRow p.lv p.mb) (hfb : p.fb ≠ p.tb ∧ ¬ inRow p.lv p.fb) (hr : ∀ k, inRow lv' k → inRow p.lv k ∨ w.heap.size ≤ k) : NAt w' { p with lv := lv' } n M F P T' who := by
  have hG : ∀ k, (k = p.tb ∨ inRow p.lv k) → p.z0 k := fun k hk => by
    rcases hk with hk | hk
    · exact .inl hk
    · exact .inr (.inr (.inr hk))
  have hz0 : ∀ k, Pl.z0 { p with lv := lv' } k → p.z0 k ∨ w.heap.size ≤ k := fun k hk => by
    rcases hk with hk | hk | hk | hk
    · exact .inl (.inl hk)
    · exact .inl (.inr (.inl hk))
    · exact .inl (.inr (.inr (.inl hk)))
    · rcases hr k hk with h | h
      · exact .inl (.inr (.inr (.inr h)))
      · exact .inr h
  exact ⟨hrow, h.mem.only ho (fun h' => by rcases h' with h' | h'; exact hmb.1 h'; exact hmb.2 h') (fun k hk h' => h.apart.a01 k (hG k h') hk), h.fr.only ho (fun h' => by rcases h' with h' | h'; exact hfb.1 h'; exact hfb.2 h') (fun h' => h.apart.a02 _ (hG _ h') rfl), h.pm.only ho (fun h' => h.apart.a03 _ (hG _ h') (.inl rfl)) (fun k hk h' => h.apart.a03 _ (hG _ h') (.inr hk)), ht,
    ⟨fun k h0 h1 => by
      rcases hz0 k h0 with h' | h'
      · exact h.apart.a01 k h' h1
      · have := h.lt k (.inr (.inl h1)); omega, fun k h0 h1 => by
      rcases hz0 k h0 with h' | h'
      · exact h.apart.a02 k h' h1
      · have := h.lt k (.inr (.inr (.inl h1))); omega, fun k h0 h1 => by
      rcases hz0 k h0 with h' | h'
      · exact h.apart.a03 k h' h1
      · have := h.lt k (.inr (.inr (.inr h1))); omega, h.apart.a12, h.apart.a13, h.apart.a23⟩⟩
theorem NAt.done {w : World} {p : Pl} {n : Nat} {M : List Int} {F : List Fr} {P T : List Int} {who : Int} (h : NAt w p n M F P T who) (hT : T = P.take 17) (hl : T.length = 17) : PtAt w p ⟨n, M, F, P, who⟩ :=
  ⟨h.row, h.mem, h.fr, h.pm, by rw [← hT, ← hl]; exact h.tl, h.apart⟩
theorem NAt.cells {w : World} {p : Pl} {n : Nat} {M : List Int} {F : List Fr} {P T : List Int} {who : Int} (h : NAt w p n M F P T who) : w.cell? ⟨p.tb, 3, none⟩ = some (.pointer (some ⟨p.pb, 0, none⟩)) ∧ w.cell? ⟨p.tb, 4, none⟩ = some p.lv ∧ w.frozen? ⟨p.tb, 4, none⟩ = false :=
  ⟨blk_cell h.row 3, blk_cell h.row 4, blk_free h.row 4⟩
end Go.Proofs.YtnhocmmgdkiepaaDoor

