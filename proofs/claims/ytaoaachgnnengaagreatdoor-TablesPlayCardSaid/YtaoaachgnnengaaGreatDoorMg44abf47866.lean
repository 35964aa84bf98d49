/-
  Parts of one proof, one behind the other.
-/
import Derived.Test.YtaoaachgnnengaaGreatDoorMg84abe83c25
import Derived.BigQuiet
import Derived.Test.YtaoaachgnnengaaGreatDoorMg0168c28601
import Derived.Deep.DeepCutAuto
import Derived.Test.YtaoaachgnnengaaGreatDoorMge8812c0b73
import Derived.Deep.RegionHeldLaw
/-
  The document's tables: Put.
-/
namespace Go.Proofs.YtaoaachgnnengaaGreatDoor
open Go.RowKit

theorem page_ways {page : Int} (hp : isPage page = true) : ¬ page < 0 ∧ ¬ 256 ≤ page := by
  have hpg : 0 ≤ page ∧ page < 256 := by simpa [isPage] using hp
  omega

set_option maxRecDepth 100000 in
set_option maxHeartbeats 6400000 in
theorem zput_nopage (z : Zl) (s : Ts) (page ef : Int) (et ew eu : Bool) (w : World) (h : ZtAt w z s) (hp : isPage page = false) :
    Calls Tryz.prog 36 #[.pointer (some ⟨z.zb, 0, none⟩), .int .i64 page, .agg #[.int .i64 ef, .bool et, .bool ew, .bool eu]] w (ZtQ z (tPut s page ⟨ef, et, ew, eu⟩) w) := by
  have hb0 : Below w.heap.size w (w.alloc (.cells #[.int .i64 ef, .bool et, .bool ew, .bool eu] 34)) := (Below.refl _ _).alloc (Nat.le_refl _) _
  have HR : Hid (tPut s page ⟨ef, et, ew, eu⟩ = (s, 103)) := Lib.hid (by unfold tPut; rw [if_neg (by rw [hp]; decide)])
  rw [HR.out]
  have HH := Lib.hid (ZAt.below h hb0)
  have HO := Lib.hid (Only.of_below (F := z.zw) hb0)
  have hc := noPage_ways hp
  clear h hp HR hb0
  rcases hc with h0 | ⟨h0, h1⟩
  all_goals
    go_enter Tryz.func36, Tryz.ntmps36
    go_wp2
    go_ret
    exact ⟨rfl, HH.out, HO.out⟩

set_option maxRecDepth 100000 in
set_option maxHeartbeats 6400000 in
theorem zput_drop (z : Zl) (s : Ts) (m : Int) (page : Int) (w : World) (h : ZtAt w z s) (hi : TInv m s) (hm : m ≤ 1000000) (hp : isPage page = true) :
    Calls Tryz.prog 36 #[.pointer (some ⟨z.zb, 0, none⟩), .int .i64 page, .agg #[.int .i64 0, .bool false, .bool false, .bool false]] w (ZtQ z (tPut s page ⟨0, false, false, false⟩) w) := by
  have hb0 : Below w.heap.size w (w.alloc (.cells #[.int .i64 0, .bool false, .bool false, .bool false] 34)) := (Below.refl _ _).alloc (Nat.le_refl _) _
  have HR : Hid (tPut s page ⟨0, false, false, false⟩ = tDrop s page) := Lib.hid (by unfold tPut; rw [if_pos hp, if_neg (by decide), if_pos ⟨rfl, rfl, rfl⟩])
  rw [HR.out]
  have HO := Lib.hid (Only.of_below (F := z.zw) hb0)
  have HD := Lib.hid (zdrop_any z s m page _ (ZAt.below h hb0) hi hm)
  obtain ⟨h0, h1⟩ := page_ways hp
  clear h hi hp HR hb0
  go_enter Tryz.func36, Tryz.ntmps36
  go_wp2_with fail
  refine HD.out.mono ?_
  rintro y w2 ⟨rfl, h2, ho2⟩
  have HF := Lib.hid (And.intro h2 (HO.out.trans ho2))
  clear h2 ho2
  go_wp2
  go_ret
  exact ⟨rfl, HF.out⟩

set_option maxRecDepth 100000 in
set_option maxHeartbeats 6400000 in
theorem zput_bent (z : Zl) (s : Ts) (page ef : Int) (ew eu : Bool) (w : World) (h : ZtAt w z s) (hp : isPage page = true) (hb : ¬ (ef = 0 ∧ ew = false ∧ eu = false)) :
    Calls Tryz.prog 36 #[.pointer (some ⟨z.zb, 0, none⟩), .int .i64 page, .agg #[.int .i64 ef, .bool false, .bool ew, .bool eu]] w (ZtQ z (tPut s page ⟨ef, false, ew, eu⟩) w) := by
  have hb0 : Below w.heap.size w (w.alloc (.cells #[.int .i64 ef, .bool false, .bool ew, .bool eu] 34)) := (Below.refl _ _).alloc (Nat.le_refl _) _
  have HR : Hid (tPut s page ⟨ef, false, ew, eu⟩ = (s, 103)) := Lib.hid (by unfold tPut; rw [if_pos hp, if_neg (fun h => by cases h), if_neg hb])
  rw [HR.out]
  have HH := Lib.hid (ZAt.below h hb0)
  have HO := Lib.hid (Only.of_below (F := z.zw) hb0)
  have hbb : (ef != 0) = true ∨ ((ef != 0) = false ∧ ew = true) ∨ ((ef != 0) = false ∧ ew = false ∧ eu = true) := by
    by_cases h0 : ef = 0
    · subst h0
      cases ew
      · cases eu
        · exact absurd ⟨rfl, rfl, rfl⟩ hb
        · exact .inr (.inr ⟨by decide, rfl, rfl⟩)
      · exact .inr (.inl ⟨by decide, rfl⟩)
    · exact .inl (by simp [h0])
  obtain ⟨p0, p1⟩ := page_ways hp
  clear h hp HR hb0 hb
  rcases hbb with h0 | ⟨h0, rfl⟩ | ⟨h0, rfl, rfl⟩
  all_goals
    go_enter Tryz.func36, Tryz.ntmps36
    go_wp2
    go_ret
    exact ⟨rfl, HH.out, HO.out⟩

set_option maxRecDepth 100000 in
set_option maxHeartbeats 6400000 in
theorem zput_none (z : Zl) (s : Ts) (m : Int) (page ef : Int) (ew eu : Bool) (w : World) (h : ZtAt w z s) (hi : TInv m s) (hp : isPage page = true) (hn : ¬ (0 ≤ ef ∧ ef < (s.P.length : Int))) :
    Calls Tryz.prog 36 #[.pointer (some ⟨z.zb, 0, none⟩), .int .i64 page, .agg #[.int .i64 ef, .bool true, .bool ew, .bool eu]] w (ZtQ z (tPut s page ⟨ef, true, ew, eu⟩) w) := by
  have hb0 : Below w.heap.size w (w.alloc (.cells #[.int .i64 ef, .bool true, .bool ew, .bool eu] 34)) := (Below.refl _ _).alloc (Nat.le_refl _) _
  have HR : Hid (tPut s page ⟨ef, true, ew, eu⟩ = (s, 107)) := Lib.hid (by unfold tPut; rw [if_pos hp, if_pos rfl, if_neg hn])
  rw [HR.out]
  have HK : Hid (∀ wx, Below w.heap.size w wx → ZtAt wx z s) := Lib.hid fun wx hx => ZAt.below h hx
  have HB := Lib.hid hb0
  obtain ⟨p0, p1⟩ := page_ways hp
  obtain ⟨-, -, -, c3, -, ltb⟩ := ZAt.cells (HK.out _ hb0)
  have ltz : z.zb < w.heap.size := (ZAt.cells h).2.2.2.2.2
  obtain ⟨g, cap, hl, -, -⟩ := ZAt.list h hi.p17
  rw [hl] at c3
  obtain ⟨L, hL⟩ : ∃ L, s.P.length = L := ⟨_, rfl⟩
  rw [hL] at c3 hn
  have hnew := blk_new w (.cells #[.int .i64 ef, .bool true, .bool ew, .bool eu] 34)
  have q0 := blk_cell hnew 0
  have hw : decide (ef < 0) = true ∨ (decide (ef < 0) = false ∧ ¬ ef < 0 ∧ (L : Int) ≤ ef) := by
    by_cases h0 : ef < 0
    · exact .inl (by simp; omega)
    · exact .inr ⟨by simp; omega, h0, by omega⟩
  clear h hi hp HR hb0 hnew hn hl hL
  rcases hw with h0 | ⟨h0, h0', h1⟩
  all_goals
    go_enter Tryz.func36, Tryz.ntmps36
    go_wp2_with fail
    go_quiet (fail)
    obtain ⟨wd, hwd⟩ : ∃ wd, (w.alloc (.cells #[.int .i64 ef, .bool true, .bool ew, .bool eu] 34)).drewN nq = wd := ⟨_, rfl⟩
    have HBD : Hid (Below w.heap.size w wd) := Lib.hid (hwd ▸ below_drewN HB.out _)
    rw [hwd]
    clear hwd q0 c3
    go_wp2
    go_ret
    exact ⟨rfl, HK.out _ HBD.out, Only.of_below HBD.out⟩

set_option maxRecDepth 100000 in
set_option maxHeartbeats 16000000 in
theorem zput_owner (z : Zl) (s : Ts) (m : Int) (page ef : Int) (ew eu : Bool) (w : World) (h : ZtAt w z s) (hi : TInv m s) (hm : m + 1 ≤ 1000000) (hp : isPage page = true) (n : Nat) (hf : ef = (n : Int)) (hn : n < s.P.length) (ho : (s.F.getD (s.P.getD n 0).toNat default).owner ≠ s.who) :
    Calls Tryz.prog 36 #[.pointer (some ⟨z.zb, 0, none⟩), .int .i64 page, .agg #[.int .i64 ef, .bool true, .bool ew, .bool eu]] w (ZtQ z (tPut s page ⟨ef, true, ew, eu⟩) w) := by
  subst hf
  have hb0 : Below w.heap.size w (w.alloc (.cells #[.int .i64 (n : Int), .bool true, .bool ew, .bool eu] 34)) := (Below.refl _ _).alloc (Nat.le_refl _) _
  have HR : Hid (tPut s page ⟨(n : Int), true, ew, eu⟩ = (s, 110)) := Lib.hid (by unfold tPut; rw [if_pos hp, if_pos rfl, if_pos ⟨by show (0 : Int) ≤ (n : Int); omega, by show (n : Int) < _; omega⟩]; show (if (s.F.getD (s.P.getD (n : Int).toNat 0).toNat default).owner = s.who then tSet s page (s.P.getD (n : Int).toNat 0) ew else _) = _; rw [Int.toNat_natCast, if_neg ho])
  rw [HR.out]
  have HB := Lib.hid hb0
  have HK : Hid (∀ wx, Below w.heap.size w wx → ZtAt wx z s) := Lib.hid fun wx hx => ZAt.below h hx
  have hnew := blk_new w (.cells #[.int .i64 (n : Int), .bool true, .bool ew, .bool eu] 34)
  have HN : Hid (∀ wx, Below (w.alloc (.cells #[.int .i64 (n : Int), .bool true, .bool ew, .bool eu] 34)).heap.size (w.alloc (.cells #[.int .i64 (n : Int), .bool true, .bool ew, .bool eu] 34)) wx → wx.cell? ⟨w.heap.size, 0, none⟩ = some (.int .i64 (n : Int)) ∧ wx.cell? ⟨w.heap.size, 2, none⟩ = some (.bool ew)) := Lib.hid fun wx hx => by
    have := blk_below hnew hx (blk_lt hnew)
    exact ⟨blk_cell this 0, blk_cell this 2⟩
  have hpin := hi.pin n hn
  obtain ⟨f, hfe⟩ : ∃ f : Nat, s.P.getD n 0 = (f : Int) := ⟨(s.P.getD n 0).toNat, by omega⟩
  rw [hfe] at ho
  rw [Int.toNat_natCast] at ho
  have hfl : f < s.F.length := by rw [hi.lf]; omega
  obtain ⟨g, cap, hl, hg, -⟩ := ZAt.list h hi.p17
  have HL : Hid (∀ wx, Below w.heap.size w wx → wx.cell? ⟨z.zb, 3, none⟩ = some (.slice (some ⟨g, 0, none⟩) s.P.length cap) ∧ wx.cell? ⟨g, n, none⟩ = some (.int .i64 (f : Int)) ∧ z.zb < wx.heap.size ∧ g < wx.heap.size) := Lib.hid fun wx hx => by
    have hz := ZAt.below h hx
    obtain ⟨g', cap', hl', hg', hc'⟩ := ZAt.list hz hi.p17
    rw [hl] at hl'
    obtain ⟨hgg, -, hcc⟩ := Value.slice.inj hl'
    obtain rfl : g = g' := by injection hgg with e; injection e
    have := hc' n hn
    rw [hfe] at this
    exact ⟨by rw [← hl]; exact (ZAt.cells hz).2.2.2.1, this, (ZAt.cells hz).2.2.2.2.2, hg'⟩
  obtain ⟨⟨xo, xk, xw, xu⟩, hx⟩ : ∃ x, s.F.getD f default = x := ⟨_, rfl⟩
  have HFR : Hid (∀ wx, Below w.heap.size w wx → wx.cell? ⟨z.zb, 1, none⟩ = some (.pointer (some ⟨z.fb, 0, none⟩)) ∧ wx.cell? ⟨z.zb, 2, none⟩ = some (.int .i64 s.who) ∧ wx.cell? ⟨z.fb, 0, none⟩ = some (.slice (some ⟨z.fg, 0, none⟩) s.F.length s.n) ∧ wx.cell? ⟨z.fg, f * 4, none⟩ = some (.int .i64 xo) ∧ z.zb < wx.heap.size ∧ z.fb < wx.heap.size ∧ z.fg < wx.heap.size) := Lib.hid fun wx hy => by
    have hz := ZAt.below h hy
    have hc := hz.fr.cells f hfl
    rw [hx] at hc
    exact ⟨(ZAt.cells hz).2.1, (ZAt.cells hz).2.2.1, hz.fr.hdr, hc.1, (ZAt.cells hz).2.2.2.2.2, hz.fr.lt.1, hz.fr.lt.2⟩
  rw [hx] at ho
  dsimp only at ho
  have hob : (xo != s.who) = true := by simp [ho]
  have hn1 : (0 : Int) ≤ (n : Int) := by omega
  obtain ⟨L, hL⟩ : ∃ L, s.P.length = L := ⟨_, rfl⟩
  rw [hL] at HL hn
  obtain ⟨LF, hLF⟩ : ∃ L, s.F.length = L := ⟨_, rfl⟩
  rw [hLF] at HFR hfl
  have hn2 : (n : Int) < (L : Int) := by omega
  have hf1 : (0 : Int) ≤ (f : Int) := by omega
  have hf2 : (f : Int) < (LF : Int) := by omega
  have hd0 : decide ((n : Int) < 0) = false := by simp
  have hd1 : ¬ (L : Int) ≤ (n : Int) := by omega
  obtain ⟨p0, p1⟩ := page_ways hp
  obtain ⟨q0, q2⟩ := HN.out _ (Below.refl _ _)
  obtain ⟨c3, cg, ltb, ltg⟩ := HL.out _ HB.out
  have ltz : z.zb < w.heap.size := (ZAt.cells h).2.2.2.2.2
  clear h hi hp HR hb0 hnew hpin hx hfe hl ho hg hL hLF
  go_enter Tryz.func36, Tryz.ntmps36
  go_wp2_with fail
  go_quiet (fail)
  obtain ⟨wd, hwd⟩ : ∃ wd, (w.alloc (.cells #[.int .i64 (n : Int), .bool true, .bool ew, .bool eu] 34)).drewN nq = wd := ⟨_, rfl⟩
  have HBD : Hid (Below w.heap.size w wd) := Lib.hid (hwd ▸ below_drewN HB.out _)
  have HBN : Hid (Below (w.alloc (.cells #[.int .i64 (n : Int), .bool true, .bool ew, .bool eu] 34)).heap.size (w.alloc (.cells #[.int .i64 (n : Int), .bool true, .bool ew, .bool eu] 34)) wd) := Lib.hid (hwd ▸ below_drewN (Below.refl _ _) _)
  rw [hwd]
  clear hwd q0 q2 c3 cg ltb ltg
  obtain ⟨q0, q2⟩ := HN.out _ HBN.out
  obtain ⟨c3, cg, ltb, ltg⟩ := HL.out _ HBD.out
  go_wp2_with fail
  go_quiet (fail)
  obtain ⟨we, hwe⟩ : ∃ we, wd.drewN nq = we := ⟨_, rfl⟩
  have HBE : Hid (Below w.heap.size w we) := Lib.hid (hwe ▸ below_drewN HBD.out _)
  have HBM : Hid (Below (w.alloc (.cells #[.int .i64 (n : Int), .bool true, .bool ew, .bool eu] 34)).heap.size (w.alloc (.cells #[.int .i64 (n : Int), .bool true, .bool ew, .bool eu] 34)) we) := Lib.hid (hwe ▸ below_drewN HBN.out _)
  rw [hwe]
  clear hwe q0 q2 c3 cg ltb ltg
  obtain ⟨c1, c2, ch, cf, ltb, ltf, ltg⟩ := HFR.out _ HBE.out
  go_wp2_with fail
  go_quiet (fail)
  obtain ⟨wf, hwf⟩ : ∃ wf, we.drewN nq = wf := ⟨_, rfl⟩
  have HBF : Hid (Below w.heap.size w wf) := Lib.hid (hwf ▸ below_drewN HBE.out _)
  have HBP : Hid (Below (w.alloc (.cells #[.int .i64 (n : Int), .bool true, .bool ew, .bool eu] 34)).heap.size (w.alloc (.cells #[.int .i64 (n : Int), .bool true, .bool ew, .bool eu] 34)) wf) := Lib.hid (hwf ▸ below_drewN HBM.out _)
  rw [hwf]
  clear hwf c1 c2 ch cf ltb ltf ltg
  obtain ⟨q0, q2⟩ := HN.out _ HBP.out
  go_wp2
  go_ret
  exact ⟨rfl, HK.out _ HBF.out, Only.of_below HBF.out⟩

set_option maxRecDepth 100000 in
set_option maxHeartbeats 16000000 in
theorem zput_set (z : Zl) (s : Ts) (m : Int) (page ef : Int) (ew eu : Bool) (w : World) (h : ZtAt w z s) (hi : TInv m s) (hm : m + 1 ≤ 1000000) (hp : isPage page = true) (n : Nat) (hf : ef = (n : Int)) (hn : n < s.P.length) (ho : (s.F.getD (s.P.getD n 0).toNat default).owner = s.who) :
    Calls Tryz.prog 36 #[.pointer (some ⟨z.zb, 0, none⟩), .int .i64 page, .agg #[.int .i64 ef, .bool true, .bool ew, .bool eu]] w (ZtQ z (tPut s page ⟨ef, true, ew, eu⟩) w) := by
  subst hf
  have hb0 : Below w.heap.size w (w.alloc (.cells #[.int .i64 (n : Int), .bool true, .bool ew, .bool eu] 34)) := (Below.refl _ _).alloc (Nat.le_refl _) _
  have HR : Hid (tPut s page ⟨(n : Int), true, ew, eu⟩ = tSet s page (s.P.getD n 0) ew) := Lib.hid (by unfold tPut; rw [if_pos hp, if_pos rfl, if_pos ⟨by show (0 : Int) ≤ (n : Int); omega, by show (n : Int) < _; omega⟩]; show (if (s.F.getD (s.P.getD (n : Int).toNat 0).toNat default).owner = s.who then tSet s page (s.P.getD (n : Int).toNat 0) ew else _) = _; rw [Int.toNat_natCast, if_pos ho])
  rw [HR.out]
  have HB := Lib.hid hb0
  have HK : Hid (∀ wx, Below w.heap.size w wx → ZtAt wx z s) := Lib.hid fun wx hx => ZAt.below h hx
  have hnew := blk_new w (.cells #[.int .i64 (n : Int), .bool true, .bool ew, .bool eu] 34)
  have HN : Hid (∀ wx, Below (w.alloc (.cells #[.int .i64 (n : Int), .bool true, .bool ew, .bool eu] 34)).heap.size (w.alloc (.cells #[.int .i64 (n : Int), .bool true, .bool ew, .bool eu] 34)) wx → wx.cell? ⟨w.heap.size, 0, none⟩ = some (.int .i64 (n : Int)) ∧ wx.cell? ⟨w.heap.size, 2, none⟩ = some (.bool ew)) := Lib.hid fun wx hx => by
    have := blk_below hnew hx (blk_lt hnew)
    exact ⟨blk_cell this 0, blk_cell this 2⟩
  have hpin := hi.pin n hn
  obtain ⟨f, hfe⟩ : ∃ f : Nat, s.P.getD n 0 = (f : Int) := ⟨(s.P.getD n 0).toNat, by omega⟩
  rw [hfe] at ho ⊢
  rw [Int.toNat_natCast] at ho
  have hfl : f < s.F.length := by rw [hi.lf]; omega
  obtain ⟨g, cap, hl, hg, -⟩ := ZAt.list h hi.p17
  have HL : Hid (∀ wx, Below w.heap.size w wx → wx.cell? ⟨z.zb, 3, none⟩ = some (.slice (some ⟨g, 0, none⟩) s.P.length cap) ∧ wx.cell? ⟨g, n, none⟩ = some (.int .i64 (f : Int)) ∧ z.zb < wx.heap.size ∧ g < wx.heap.size) := Lib.hid fun wx hx => by
    have hz := ZAt.below h hx
    obtain ⟨g', cap', hl', hg', hc'⟩ := ZAt.list hz hi.p17
    rw [hl] at hl'
    obtain ⟨hgg, -, hcc⟩ := Value.slice.inj hl'
    obtain rfl : g = g' := by injection hgg with e; injection e
    have := hc' n hn
    rw [hfe] at this
    exact ⟨by rw [← hl]; exact (ZAt.cells hz).2.2.2.1, this, (ZAt.cells hz).2.2.2.2.2, hg'⟩
  obtain ⟨⟨xo, xk, xw, xu⟩, hx⟩ : ∃ x, s.F.getD f default = x := ⟨_, rfl⟩
  have HFR : Hid (∀ wx, Below w.heap.size w wx → wx.cell? ⟨z.zb, 1, none⟩ = some (.pointer (some ⟨z.fb, 0, none⟩)) ∧ wx.cell? ⟨z.zb, 2, none⟩ = some (.int .i64 s.who) ∧ wx.cell? ⟨z.fb, 0, none⟩ = some (.slice (some ⟨z.fg, 0, none⟩) s.F.length s.n) ∧ wx.cell? ⟨z.fg, f * 4, none⟩ = some (.int .i64 xo) ∧ z.zb < wx.heap.size ∧ z.fb < wx.heap.size ∧ z.fg < wx.heap.size) := Lib.hid fun wx hy => by
    have hz := ZAt.below h hy
    have hc := hz.fr.cells f hfl
    rw [hx] at hc
    exact ⟨(ZAt.cells hz).2.1, (ZAt.cells hz).2.2.1, hz.fr.hdr, hc.1, (ZAt.cells hz).2.2.2.2.2, hz.fr.lt.1, hz.fr.lt.2⟩
  rw [hx] at ho
  dsimp only at ho
  have HS := Lib.hid (fun wx (hx : ZtAt wx z s) => zset_any z s m page (f : Int) ew wx hx hi hm hp)
  have hob : (xo != s.who) = false := by simp [ho]
  have hn1 : (0 : Int) ≤ (n : Int) := by omega
  obtain ⟨L, hL⟩ : ∃ L, s.P.length = L := ⟨_, rfl⟩
  rw [hL] at HL hn
  obtain ⟨LF, hLF⟩ : ∃ L, s.F.length = L := ⟨_, rfl⟩
  rw [hLF] at HFR hfl
  have hn2 : (n : Int) < (L : Int) := by omega
  have hf1 : (0 : Int) ≤ (f : Int) := by omega
  have hf2 : (f : Int) < (LF : Int) := by omega
  have hd0 : decide ((n : Int) < 0) = false := by simp
  have hd1 : ¬ (L : Int) ≤ (n : Int) := by omega
  obtain ⟨p0, p1⟩ := page_ways hp
  obtain ⟨q0, q2⟩ := HN.out _ (Below.refl _ _)
  obtain ⟨c3, cg, ltb, ltg⟩ := HL.out _ HB.out
  have ltz : z.zb < w.heap.size := (ZAt.cells h).2.2.2.2.2
  clear h hi hp HR hb0 hnew hpin hx hfe hl ho hg hL hLF
  go_enter Tryz.func36, Tryz.ntmps36
  go_wp2_with fail
  go_quiet (fail)
  obtain ⟨wd, hwd⟩ : ∃ wd, (w.alloc (.cells #[.int .i64 (n : Int), .bool true, .bool ew, .bool eu] 34)).drewN nq = wd := ⟨_, rfl⟩
  have HBD : Hid (Below w.heap.size w wd) := Lib.hid (hwd ▸ below_drewN HB.out _)
  have HBN : Hid (Below (w.alloc (.cells #[.int .i64 (n : Int), .bool true, .bool ew, .bool eu] 34)).heap.size (w.alloc (.cells #[.int .i64 (n : Int), .bool true, .bool ew, .bool eu] 34)) wd) := Lib.hid (hwd ▸ below_drewN (Below.refl _ _) _)
  rw [hwd]
  clear hwd q0 q2 c3 cg ltb ltg
  obtain ⟨q0, q2⟩ := HN.out _ HBN.out
  obtain ⟨c3, cg, ltb, ltg⟩ := HL.out _ HBD.out
  go_wp2_with fail
  go_quiet (fail)
  obtain ⟨we, hwe⟩ : ∃ we, wd.drewN nq = we := ⟨_, rfl⟩
  have HBE : Hid (Below w.heap.size w we) := Lib.hid (hwe ▸ below_drewN HBD.out _)
  have HBM : Hid (Below (w.alloc (.cells #[.int .i64 (n : Int), .bool true, .bool ew, .bool eu] 34)).heap.size (w.alloc (.cells #[.int .i64 (n : Int), .bool true, .bool ew, .bool eu] 34)) we) := Lib.hid (hwe ▸ below_drewN HBN.out _)
  rw [hwe]
  clear hwe q0 q2 c3 cg ltb ltg
  obtain ⟨c1, c2, ch, cf, ltb, ltf, ltg⟩ := HFR.out _ HBE.out
  go_wp2_with fail
  go_quiet (fail)
  obtain ⟨wf, hwf⟩ : ∃ wf, we.drewN nq = wf := ⟨_, rfl⟩
  have HBF : Hid (Below w.heap.size w wf) := Lib.hid (hwf ▸ below_drewN HBE.out _)
  have HBP : Hid (Below (w.alloc (.cells #[.int .i64 (n : Int), .bool true, .bool ew, .bool eu] 34)).heap.size (w.alloc (.cells #[.int .i64 (n : Int), .bool true, .bool ew, .bool eu] 34)) wf) := Lib.hid (hwf ▸ below_drewN HBM.out _)
  rw [hwf]
  clear hwf c1 c2 ch cf ltb ltf ltg
  obtain ⟨q0, q2⟩ := HN.out _ HBP.out
  go_wp2_with fail
  refine (HS.out _ (HK.out _ HBF.out)).mono ?_
  rintro y w3 ⟨rfl, h3, ho3⟩
  have HF := Lib.hid (And.intro h3 ((Only.of_below (F := z.zw) HBF.out).trans ho3))
  clear h3 ho3
  go_wp2
  go_ret
  exact ⟨rfl, HF.out⟩

/-- Put -/
theorem zput_any (z : Zl) (s : Ts) (m : Int) (page : Int) (e : Ent) (w : World) (h : ZtAt w z s) (hi : TInv m s) (hm : m + 1 ≤ 1000000) :
    Calls Tryz.prog 36 #[.pointer (some ⟨z.zb, 0, none⟩), .int .i64 page, e.v] w (ZtQ z (tPut s page e) w) := by
  obtain ⟨ef, et, ew, eu⟩ := e
  cases hp : isPage page with
  | false => exact zput_nopage z s page ef et ew eu w h hp
  | true =>
    cases et with
    | false =>
      by_cases hz : ef = 0 ∧ ew = false ∧ eu = false
      · obtain ⟨rfl, rfl, rfl⟩ := hz
        exact zput_drop z s m page w h hi (by omega) hp
      · exact zput_bent z s page ef ew eu w h hp hz
    | true =>
      by_cases hn : 0 ≤ ef ∧ ef < (s.P.length : Int)
      · have hf : ef = ((ef.toNat : Nat) : Int) := by omega
        by_cases ho : (s.F.getD (s.P.getD ef.toNat 0).toNat default).owner = s.who
        · exact zput_set z s m page ef ew eu w h hi hm hp ef.toNat hf (by omega) ho
        · exact zput_owner z s m page ef ew eu w h hi hm hp ef.toNat hf (by omega) ho
      · exact zput_none z s m page ef ew eu w h hi hp hn
end Go.Proofs.YtaoaachgnnengaaGreatDoor

/-
  The document's tables: Lend.
-/
namespace Go.Proofs.YtaoaachgnnengaaGreatDoor
open Go.RowKit

set_option maxRecDepth 100000 in
set_option maxHeartbeats 6400000 in
theorem zlend_nopage (z : Zl) (s : Ts) (page frame : Int) (wr : Bool) (w : World) (h : ZtAt w z s) (hp : isPage page = false) :
    Calls Tryz.prog 38 #[.pointer (some ⟨z.zb, 0, none⟩), .int .i64 page, .int .i64 frame, .bool wr] w (ZtQ z (tLend s page frame wr) w) := by
  have HR : Hid (tLend s page frame wr = (s, 103)) := Lib.hid (by unfold tLend; rw [if_neg (by rw [hp]; decide)])
  rw [HR.out]
  have HH := Lib.hid h
  have HO := Lib.hid (Only.refl (fun k => z.zw k) w)
  have hc := noPage_ways hp
  clear h hp HR
  rcases hc with h0 | ⟨h0, h1⟩
  all_goals
    go_enter Tryz.func38, Tryz.ntmps38
    go_wp2
    go_ret
    exact ⟨rfl, HH.out, HO.out⟩

set_option maxRecDepth 100000 in
set_option maxHeartbeats 6400000 in
theorem zlend_none (z : Zl) (s : Ts) (page frame : Int) (wr : Bool) (w : World) (h : ZtAt w z s) (hp : isPage page = true) (hf : (frAt s.F frame).isSome = false) :
    Calls Tryz.prog 38 #[.pointer (some ⟨z.zb, 0, none⟩), .int .i64 page, .int .i64 frame, .bool wr] w (ZtQ z (tLend s page frame wr) w) := by
  have HR : Hid (tLend s page frame wr = (s, 107)) := Lib.hid (by unfold tLend; rw [if_pos hp, if_neg (by rw [hf]; decide)])
  rw [HR.out]
  have HH := Lib.hid h
  have HO := Lib.hid (Only.refl (fun k => z.zw k) w)
  have HT := Lib.hid (rthere_any s.F z.fb z.fg s.n frame w h.fr)
  rw [hf] at HT
  obtain ⟨-, c1, -, -, -, ltb⟩ := ZAt.cells h
  obtain ⟨h0, h1⟩ := page_ways hp
  clear h hp HR hf
  go_enter Tryz.func38, Tryz.ntmps38
  go_wp2_with fail
  refine HT.out.mono ?_
  rintro y w1 ⟨rfl, rfl⟩
  go_wp2
  go_ret
  exact ⟨rfl, HH.out, HO.out⟩

set_option maxRecDepth 100000 in
set_option maxHeartbeats 6400000 in
theorem zlend_set (z : Zl) (s : Ts) (m : Int) (page frame : Int) (wr : Bool) (w : World) (h : ZtAt w z s) (hi : TInv m s) (hm : m + 1 ≤ 1000000) (hp : isPage page = true) (hf : (frAt s.F frame).isSome = true) :
    Calls Tryz.prog 38 #[.pointer (some ⟨z.zb, 0, none⟩), .int .i64 page, .int .i64 frame, .bool wr] w (ZtQ z (tLend s page frame wr) w) := by
  have HR : Hid (tLend s page frame wr = tSet s page frame wr) := Lib.hid (by unfold tLend; rw [if_pos hp, if_pos hf])
  rw [HR.out]
  have HT := Lib.hid (rthere_any s.F z.fb z.fg s.n frame w h.fr)
  rw [hf] at HT
  have HS := Lib.hid (zset_any z s m page frame wr w h hi hm hp)
  obtain ⟨-, c1, -, -, -, ltb⟩ := ZAt.cells h
  obtain ⟨h0, h1⟩ := page_ways hp
  clear h hp HR hf hi hm
  go_enter Tryz.func38, Tryz.ntmps38
  go_wp2_with fail
  refine HT.out.mono ?_
  rintro y w1 ⟨rfl, rfl⟩
  go_wp2_with fail
  refine HS.out.mono ?_
  rintro y w3 hq
  have HQ := Lib.hid hq
  obtain ⟨rfl, -, -⟩ := hq
  go_wp2
  go_ret
  exact HQ.out
theorem zlend_any (z : Zl) (s : Ts) (m : Int) (page frame : Int) (wr : Bool) (w : World) (h : ZtAt w z s) (hi : TInv m s) (hm : m + 1 ≤ 1000000) :
    Calls Tryz.prog 38 #[.pointer (some ⟨z.zb, 0, none⟩), .int .i64 page, .int .i64 frame, .bool wr] w (ZtQ z (tLend s page frame wr) w) := by
  cases hp : isPage page with
  | false => exact zlend_nopage z s page frame wr w h hp
  | true =>
    cases hf : (frAt s.F frame).isSome with
    | false => exact zlend_none z s page frame wr w h hp hf
    | true => exact zlend_set z s m page frame wr w h hi hm hp hf
end Go.Proofs.YtaoaachgnnengaaGreatDoor

/-
  The document's tables: Add.
-/
namespace Go.Proofs.YtaoaachgnnengaaGreatDoor
open Go.RowKit

/-- what Add answers -/
def ZAddQ (z : Zl) (s : Ts) (w : World) (e : Ending) (w' : World) : Prop := ∃ gv', e = .returned (.tuple #[.int .i64 (tAdd s).2.1, .int .i64 (tAdd s).2.2]) ∧ ZtAt w' { z with gv := gv' } (tAdd s).1 ∧ Only z.zw w w' ∧ ∀ k, inRow gv' k → inRow z.gv k ∨ w.heap.size ≤ k

set_option maxRecDepth 100000 in
set_option maxHeartbeats 6400000 in
theorem zadd_many (z : Zl) (s : Ts) (m : Int) (w : World) (h : ZtAt w z s) (hi : TInv m s) (hl : 512 ≤ s.P.length) :
    Calls Tryz.prog 34 #[.pointer (some ⟨z.zb, 0, none⟩)] w (ZAddQ z s w) := by
  have HR : Hid (tAdd s = (s, 0, 104)) := Lib.hid (by unfold tAdd; rw [if_pos hl])
  unfold ZAddQ
  rw [HR.out]
  have HH := Lib.hid h
  obtain ⟨-, -, -, c3, -, ltb⟩ := ZAt.cells h
  obtain ⟨g, cap, hgv, -, -⟩ := ZAt.list h hi.p17
  rw [hgv] at c3
  obtain ⟨L, hL⟩ : ∃ L, s.P.length = L := ⟨_, rfl⟩
  rw [hL] at c3 hl
  have hl2 : (512 : Int) ≤ (L : Int) := by omega
  clear h hi hl HR hL hgv
  go_enter Tryz.func34, Tryz.ntmps34
  go_wp2
  go_ret2
  exact ⟨z.gv, rfl, HH.out, Only.refl _ _, fun _ h => .inl h⟩

set_option maxRecDepth 100000 in
set_option maxHeartbeats 6400000 in
theorem zadd_no (z : Zl) (s : Ts) (m : Int) (w : World) (h : ZtAt w z s) (hi : TInv m s) (hl : ¬ 512 ≤ s.P.length) (hc : (tAddR s).c ≠ 0) :
    Calls Tryz.prog 34 #[.pointer (some ⟨z.zb, 0, none⟩)] w (ZAddQ z s w) := by
  have HR : Hid (tAdd s = (s, 0, (tAddR s).c)) := Lib.hid (by unfold tAdd; rw [if_neg hl, if_neg hc])
  have hFs : (tAddR s).l = s.F := by
    unfold tAddR frAlloc at hc ⊢
    split
    · rename_i hw
      rw [if_pos hw] at hc
      cases hf : frFree s.F with
      | none => rfl
      | some i => rw [hf] at hc; exact absurd rfl hc
    · rfl
  unfold ZAddQ
  rw [HR.out]
  have HH := Lib.hid h
  have HA : Hid (∀ wx, Below w.heap.size w wx → Calls Tryz.prog 20 #[.pointer (some ⟨z.fb, 0, none⟩), .int .i64 s.who] wx (FrNA 75 72 z.fb z.fg s.n (tAddR s) wx)) := Lib.hid fun wx hx => ralloc_any s.F z.fb z.fg s.n s.who wx (fun x hx => (hi.fok x hx).1) (ZAt.below h hx).fr
  have HFS := Lib.hid hFs
  obtain ⟨⟨Rl, Rn, Rc⟩, hR⟩ : ∃ R, tAddR s = R := ⟨_, rfl⟩
  rw [hR] at HA HFS hc ⊢
  dsimp only at HFS hc ⊢
  have hcb : (Rc != 0) = true := by simp; exact hc
  obtain ⟨-, c1, c2, c3, -, ltb⟩ := ZAt.cells h
  obtain ⟨g, cap, hgv, -, -⟩ := ZAt.list h hi.p17
  rw [hgv] at c3
  obtain ⟨L, hL⟩ : ∃ L, s.P.length = L := ⟨_, rfl⟩
  rw [hL] at c3 hl
  have hl2 : ¬ (512 : Int) ≤ (L : Int) := by omega
  clear h hi hl HR hFs hR hc hL hgv
  go_enter Tryz.func34, Tryz.ntmps34
  go_wp2_with fail
  go_region_with (first | (go_at_call 20; refine (HA.out _ (by first | exact (Below.refl _ _).drew | exact Below.refl _ _)).mono ?_; rintro e w2 ⟨rfl, hf2, ho2⟩))
  all_goals
    have HH2 : Hid (ZtAt w2 z s) := Lib.hid ((ZAt.below HH.out (Below.refl _ _).drew).fr' ho2 (HFS.out ▸ hf2))
    have HO2 : Hid (Only z.zw w w2) := Lib.hid ((Only.refl _ _).drew.trans (ztw_f ho2))
    clear hf2 ho2
    go_wp2
    go_ret2
    exact ⟨z.gv, rfl, HH2.out, HO2.out, fun _ h => .inl h⟩

set_option maxRecDepth 100000 in
set_option maxHeartbeats 16000000 in
theorem zadd_ok (z : Zl) (s : Ts) (m : Int) (w : World) (h : ZtAt w z s) (hi : TInv m s) (hl : ¬ 512 ≤ s.P.length) (hc : (tAddR s).c = 0) :
    Calls Tryz.prog 34 #[.pointer (some ⟨z.zb, 0, none⟩)] w (ZAddQ z s w) := by
  obtain ⟨i0, hi0, hz0, hz1, hz2⟩ := info_parts infoPInt
  obtain ⟨i, hil, ho, hR0⟩ := frAlloc_ok hc
  obtain ⟨F1, hF1⟩ : ∃ F1, s.F.set i ⟨s.who, (s.F.getD i default).kind, (s.F.getD i default).wr, (s.F.getD i default).us⟩ = F1 := ⟨_, rfl⟩
  rw [hF1] at hR0
  have hR : tAddR s = ⟨F1, (i : Int), 0⟩ := hR0
  have HR : Hid (tAdd s = ({ s with F := F1, M := fillL s.M i [], P := s.P ++ [(i : Int)] }, (s.P.length : Int), 0)) := Lib.hid (by unfold tAdd; rw [if_neg hl, hR, if_pos rfl]; rfl)
  have hin : i < s.n := by rw [← hi.lf]; exact hil
  have hn1 := hi.n1
  have hno : ∀ x ∈ s.F, x.owner = -1 → x = frNo := fun x hx => (hi.fok x hx).1
  unfold ZAddQ
  rw [HR.out]
  have HH := Lib.hid h
  have HA : Hid (∀ wx, Below w.heap.size w wx → Calls Tryz.prog 20 #[.pointer (some ⟨z.fb, 0, none⟩), .int .i64 s.who] wx (FrNA 75 72 z.fb z.fg s.n ⟨F1, (i : Int), 0⟩ wx)) := Lib.hid fun wx hx => hR0 ▸ ralloc_any s.F z.fb z.fg s.n s.who wx hno (ZAt.below h hx).fr
  have HFL : Hid (∀ wx, MAr wx z.mb z.mv s.n s.M → Calls Tryz.prog 56 #[.pointer (some ⟨z.mb, 0, none⟩), .int .i64 (i : Int), .slice none 0 0] wx fun e w' => e = .returned (.bool true) ∧ MAr w' z.mb z.mv s.n (fillL s.M i []) ∧ Only (fun k => inRow z.mv k) wx w') := Lib.hid fun wx hx => mr_fill_ok s.M [] z.mb s.n i 0 0 none z.mv wx hx hn1 hin (atL_nil _ _) rfl (by decide) (fun a h => by omega)
  obtain ⟨-, c1, c2, c3, -, ltb⟩ := ZAt.cells h
  obtain ⟨g, cap, hgv, -, -⟩ := ZAt.list h hi.p17
  rw [hgv] at c3
  have HGV := Lib.hid hgv
  have hl2 : ¬ (512 : Int) ≤ (s.P.length : Int) := by omega
  have hlen : s.P.length + 1 ≤ 512 := by omega
  obtain ⟨x, hx⟩ : ∃ x : Int, (i : Int) = x := ⟨_, rfl⟩
  rw [hx] at HA HFL
  have HX := Lib.hid hx
  clear h hi hl hc hil ho hR0 hF1 hR HR hin hn1 hno hgv hx
  go_enter Tryz.func34, Tryz.ntmps34
  go_wp2_with fail
  go_region_with (first | (go_at_call 20; refine (HA.out _ (by first | exact (Below.refl _ _).drew | exact Below.refl _ _)).mono ?_; rintro e w2 ⟨rfl, hf2, ho2⟩))
  all_goals
    have HH2 : Hid (ZtAt w2 z { s with F := F1 }) := Lib.hid ((ZAt.below HH.out (Below.refl _ _).drew).fr' ho2 hf2)
    have HO2 : Hid (Only z.zw w w2) := Lib.hid ((Only.refl _ _).drew.trans (ztw_f ho2))
    obtain ⟨d0, -, -, -, -, ltb2⟩ := ZAt.cells HH2.out
    clear hf2 ho2 c1 c2 c3
    go_wp2_with fail
    refine (HFL.out _ (ZAt.mem HH2.out)).mono ?_
    rintro y w3 ⟨rfl, hm3, ho3⟩
    have HH3 : Hid (ZAt w3 z s.n (fillL s.M i []) F1 s.P s.who) := Lib.hid (ZAt.mem' HH2.out ho3 hm3)
    have HO3 := Lib.hid (HO2.out.trans (ztw_m ho3))
    obtain ⟨-, -, -, q3, f3, ltb3⟩ := ZAt.cells HH3.out
    have htl := HH3.out.gl
    have HNT : Hid (¬ inRow z.gv z.zb) := Lib.hid HH3.out.not
    rw [HGV.out] at q3 htl HNT
    have HTL := Lib.hid htl
    clear hm3 ho3 d0 htl
    go_wp2_with (at_builtin; refine wpList_append_sep _ rfl _ _ 43 rfl 3 i0 (.int .i64 0) 1 8 Tryz.underlying43 hi0 hz0 hz1 hz2 rfl (by decide) _ _ _ rfl (HTL.out.alloc _) ⟨w3.heap.size, 0, none⟩ 1 1 [.int .i64 x] rfl rfl (cell_one_new _ _ _) (by simp [Value.oneCell']) (by unfold maxLen; omega) (by omega) ?_)
    intro v' wx ho4 hg4 hs4
    obtain ⟨ao2, cap2, rfl⟩ := own_slice ho4
    have hbx := blk_grown (blk_old HH3.out.row (.cells #[.int .i64 x] 3)) hg4 HNT.out
    have cx : wx.cell? ⟨z.zb, 3, none⟩ = some z.gv := blk_cell hbx 3
    have fx := blk_free hbx 3
    have HON : Hid (Only (fun j => j = z.zb ∨ inRow z.gv j) w3 (wx.setCell ⟨z.zb, 3, none⟩ (.slice ao2 (s.P.length + 1) cap2))) := Lib.hid (by
      rw [HGV.out]
      exact Only.setCell (F := fun j => j = z.zb ∨ inRow (.slice (some ⟨g, 0, none⟩) s.P.length cap) j) ((Only.alloc _ w3 (.cells #[.int .i64 x] 3)).grown hg4 (fun j hj => .inl (.inr hj))) (p := ⟨z.zb, 3, none⟩) (.inl (.inl rfl)) _)
    have hs5 : ∀ j, inRow (.slice ao2 (s.P.length + 1) cap2) j → inRow z.gv j ∨ w3.heap.size ≤ j := fun j hj => by
      rw [HGV.out]
      rcases hs4 j hj with h | h
      · exact .inl h
      · have h' := h
        try simp only [World.size_alloc] at h'
        exact .inr (by omega)
    have HN3 : Hid (ZAt (wx.setCell ⟨z.zb, 3, none⟩ (.slice ao2 (s.P.length + 1) cap2)) { z with gv := .slice ao2 (s.P.length + 1) cap2 } s.n (fillL s.M i []) F1 (s.P ++ [(i : Int)]) s.who) := Lib.hid (HH3.out.list' HON.out (by have := blk_put hbx 3 (.slice ao2 (s.P.length + 1) cap2); exact this) (by
      have e1 : ints s.P ++ [Value.int .i64 x] = ints (s.P ++ [(i : Int)]) := by rw [HX.out]; simp [ints]
      rw [e1] at ho4
      have e2 : (s.P ++ [(i : Int)]).length = s.P.length + 1 := by simp
      rw [e2]
      exact own_set ho4 hbx (by decide) 3 _) hs5)
    have HO5 : Hid (Only z.zw w (wx.setCell ⟨z.zb, 3, none⟩ (.slice ao2 (s.P.length + 1) cap2))) := Lib.hid (HO3.out.trans (HON.out.mono fun k hk => .inl (.inr (.inr hk))))
    have HLV : Hid (∀ k, inRow (.slice ao2 (s.P.length + 1) cap2) k → inRow z.gv k ∨ w.heap.size ≤ k) := Lib.hid fun k hk => by
      rcases hs5 k hk with h | h
      · exact .inl h
      · exact .inr (Nat.le_trans HO3.out.size h)
    have hbs := blk_put hbx 3 (.slice ao2 (s.P.length + 1) cap2)
    obtain ⟨wy, hwy⟩ : ∃ wy, wx.setCell ⟨z.zb, 3, none⟩ (.slice ao2 (s.P.length + 1) cap2) = wy := ⟨_, rfl⟩
    rw [hwy] at hbs HN3 HO5
    have cy : wy.cell? ⟨z.zb, 3, none⟩ = some (.slice ao2 (s.P.length + 1) cap2) := blk_cell hbs 3
    have ltby := blk_lt hbs
    have hsz : IntKind.i64.wrap (((s.P.length + 1 : Nat) : Int) - 1) = (s.P.length : Int) := (IntWalk.i64_in _ (by omega)).trans (by omega)
    have hsz' : IntKind.i64.wrap ((s.P.length : Int) + 1 - 1) = (s.P.length : Int) := (IntWalk.i64_in _ (by omega)).trans (by omega)
    clear ho4 hg4 hs4 hbx q3 f3 hs5 hbs HON
    go_upto_region 8 with fail
    try rw [hwy]
    clear hwy cx fx
    go_wp2
    go_ret2
    exact ⟨_, rfl, HN3.out, HO5.out, HLV.out⟩
theorem zadd_any (z : Zl) (s : Ts) (m : Int) (w : World) (h : ZtAt w z s) (hi : TInv m s) :
    Calls Tryz.prog 34 #[.pointer (some ⟨z.zb, 0, none⟩)] w (ZAddQ z s w) := by
  by_cases hl : 512 ≤ s.P.length
  · exact zadd_many z s m w h hi hl
  · by_cases hc : (tAddR s).c = 0
    · exact zadd_ok z s m w h hi hl hc
    · exact zadd_no z s m w h hi hl hc
end Go.Proofs.YtaoaachgnnengaaGreatDoor

/-
  facadelaw18.does: a thing done in both.
-/
namespace Go.Proofs.YtaoaachgnnengaaGreatDoor
open Go.RowKit Go.Deep

/-- what does does -/
def TDoQ (w0 : World) (p : Pl) (z : Zl) (S : Ts) (y : Ending) (w' : World) : Prop := y = .returned (.bool true) ∧ ∃ p' z', (p'.tb = p.tb ∧ p'.mb = p.mb ∧ p'.fb = p.fb ∧ z'.zb = z.zb ∧ z'.mb = z.mb ∧ z'.fb = z.fb) ∧ Tw w0 w' p' z' S S

set_option maxRecDepth 100000 in
set_option maxHeartbeats 6400000 in
theorem tdoes_1 (E : Nat → Addr) (w0 : World) (p : Pl) (z : Zl) (s : Ts) (m a bb ef : Int) (et ew eu is : Bool) (w : World) (hE : ∀ wx, Below w0.heap.size w0 wx → ErrsAt errT gOf wx E all16) (hT : Tw w0 w p z s s) (hi : TInv m s) (hm : m + 2 ≤ 1000000) :
    Calls Tryz.prog 8 #[.pointer (some ⟨p.tb, 0, none⟩), .pointer (some ⟨z.zb, 0, none⟩), .agg #[.int .i64 1, .int .i64 a, .int .i64 bb, .int .i64 ef, .bool et, .bool ew, .bool eu, .bool is]] w (TDoQ w0 p z (tDo s ⟨1, a, bb, ⟨ef, et, ew, eu⟩, is⟩)) := by
  obtain ⟨wA, hwA⟩ : ∃ wA, wA = w.alloc (.cells #[.int .i64 1, .int .i64 a, .int .i64 bb, .int .i64 ef, .bool et, .bool ew, .bool eu, .bool is] 36) := ⟨_, rfl⟩
  have hba : Below w.heap.size w wA := hwA ▸ Below.alloc (Below.refl _ _) (Nat.le_refl _) _
  have HR : Hid (tDo s ⟨1, a, bb, ⟨ef, et, ew, eu⟩, is⟩ = (tAdd s).1) := Lib.hid (by unfold tDo; rw [if_pos rfl])
  rw [HR.out]
  have HTA := Lib.hid (hT.below hba)
  have HA := Lib.hid (tadd_any E p s m wA (HTA.out.errs fun wx h => errs9 (hE wx h)) HTA.out.pt hi)
  have HZ : Hid (∀ wx, ZtAt wx z s → Calls Tryz.prog 34 #[.pointer (some ⟨z.zb, 0, none⟩)] wx (ZAddQ z s wx)) := Lib.hid fun wx h => zadd_any z s m wx h hi
  have HC := Lib.hid (tAdd_c s)
  unfold AddQ at HA
  unfold ZAddQ at HZ
  obtain ⟨S, hS⟩ : ∃ S, (tAdd s).1 = S := ⟨_, rfl⟩
  obtain ⟨nn, hN⟩ : ∃ nn, (tAdd s).2.1 = nn := ⟨_, rfl⟩
  obtain ⟨cc, hCC⟩ : ∃ cc, (tAdd s).2.2 = cc := ⟨_, rfl⟩
  rw [hS, hN, hCC] at HA HZ
  rw [hCC] at HC
  rw [hS]
  have HIS : Hid (∀ w6, Below w0.heap.size w0 w6 → Calls Tryz.prog 23 #[errC E cc, .int .i64 cc] w6 fun e w' => e = .returned (.bool true) ∧ Below w6.heap.size w6 w') := Lib.hid fun w6 h => by
    have := is_any E (errC E cc) cc cc (errC_num E cc HC.out) w6 (hE _ h)
    rwa [decide_eq_true rfl] at this
  have HWA := Lib.hid hwA
  have HBLK : Hid (wA.heap[w.heap.size]? = some (.cells #[.int .i64 1, .int .i64 a, .int .i64 bb, .int .i64 ef, .bool et, .bool ew, .bool eu, .bool is] 36 (0, 0))) := Lib.hid (hwA ▸ blk_new w _)
  have c0 := blk_cell HBLK.out 0
  obtain ⟨tb, htb⟩ : ∃ tb, p.tb = tb := ⟨_, rfl⟩
  obtain ⟨zb, hzb⟩ : ∃ zb, z.zb = zb := ⟨_, rfl⟩
  rw [htb] at HA
  rw [hzb] at HZ
  have HPT := Lib.hid (And.intro htb hzb)
  rw [htb, hzb]
  clear hE hT hi hm hba hwA hS hN hCC htb hzb
  go_enter Tryz.func8, Tryz.ntmps8
  go_wp2_with fail
  rw [← HWA.out]
  go_wp2_with fail
  refine HA.out.mono ?_
  rintro y w1 ⟨pv, rfl, hp1, ho1, hr1⟩
  have HT1 : Hid (Tw w0 w1 { p with pv := pv } z S s) := Lib.hid (HTA.out.pAdd (by rw [HPT.out.1]; exact hp1) ho1 hr1)
  clear hp1 ho1 hr1 c0
  go_wp2_with fail
  refine (HZ.out _ HT1.out.zt).mono ?_
  rintro y w2 ⟨gv, rfl, hz2, ho2, hr2⟩
  have HT2 : Hid (Tw w0 w2 { p with pv := pv } { z with gv := gv } S S) := Lib.hid (HT1.out.zAdd (by rw [HPT.out.2]; exact hz2) ho2 hr2)
  have HI2 := Lib.hid (HIS.out _ HT2.out.b)
  clear hz2 ho2 hr2
  go_wp2_with fail
  refine HI2.out.mono ?_
  rintro y w3 ⟨rfl, hb3⟩
  have HT3 := Lib.hid (HT2.out.below hb3)
  clear hb3
  go_wp2
  go_ret
  exact ⟨rfl, { p with pv := pv }, { z with gv := gv }, ⟨rfl, rfl, rfl, rfl, rfl, rfl⟩, HT3.out⟩
set_option maxRecDepth 100000 in
set_option maxHeartbeats 6400000 in
theorem tdoes_2 (E : Nat → Addr) (w0 : World) (p : Pl) (z : Zl) (s : Ts) (m a bb ef : Int) (et ew eu is : Bool) (w : World) (hE : ∀ wx, Below w0.heap.size w0 wx → ErrsAt errT gOf wx E all16) (hT : Tw w0 w p z s s) (hi : TInv m s) (hm : m + 2 ≤ 1000000) :
    Calls Tryz.prog 8 #[.pointer (some ⟨p.tb, 0, none⟩), .pointer (some ⟨z.zb, 0, none⟩), .agg #[.int .i64 2, .int .i64 a, .int .i64 bb, .int .i64 ef, .bool et, .bool ew, .bool eu, .bool is]] w (TDoQ w0 p z (tDo s ⟨2, a, bb, ⟨ef, et, ew, eu⟩, is⟩)) := by
  obtain ⟨wA, hwA⟩ : ∃ wA, wA = w.alloc (.cells #[.int .i64 2, .int .i64 a, .int .i64 bb, .int .i64 ef, .bool et, .bool ew, .bool eu, .bool is] 36) := ⟨_, rfl⟩
  have hba : Below w.heap.size w wA := hwA ▸ Below.alloc (Below.refl _ _) (Nat.le_refl _) _
  have HR : Hid (tDo s ⟨2, a, bb, ⟨ef, et, ew, eu⟩, is⟩ = (tPut s a ⟨ef, et, ew, eu⟩).1) := Lib.hid (by unfold tDo; dsimp only; rw [if_neg (show ¬ ((2 : Int) = 1) by decide), if_pos rfl])
  rw [HR.out]
  have HBA := Lib.hid hba
  have HBLK : Hid (wA.heap[w.heap.size]? = some (.cells #[.int .i64 2, .int .i64 a, .int .i64 bb, .int .i64 ef, .bool et, .bool ew, .bool eu, .bool is] 36 (0, 0))) := Lib.hid (hwA ▸ blk_new w _)
  have c0 := blk_cell HBLK.out 0
  have HNE : Hid (∀ k, (p.zw k ∨ z.zw k) → k ≠ w.heap.size) := Lib.hid fun k hk e => by
    rcases hk with hk | hk
    · have := hT.plt k (.inr hk); omega
    · have := hT.zlt k (.inr hk); omega
  have HKA : Hid (∀ wx, Only (fun k => p.zw k ∨ z.zw k) wA wx → Only (fun k => p.zw k ∨ z.zw k) wA wx ∧ wx.cell? ⟨w.heap.size, 1, none⟩ = some (.int .i64 a) ∧ wx.cell? ⟨w.heap.size, 3, none⟩ = some (.int .i64 ef) ∧ wx.cell? ⟨w.heap.size, 4, none⟩ = some (.bool et) ∧ wx.cell? ⟨w.heap.size, 5, none⟩ = some (.bool ew) ∧ wx.cell? ⟨w.heap.size, 6, none⟩ = some (.bool eu)) := Lib.hid fun wx h => by
    have hb := h.blk HBLK.out (fun e => HNE.out _ e rfl)
    exact ⟨h, blk_cell hb 1, blk_cell hb 3, blk_cell hb 4, blk_cell hb 5, blk_cell hb 6⟩
  have HTA := Lib.hid ((hT.below hba).below (Below.refl _ _).drew)
  have HW1 : Hid (Calls Tryz.prog 35 #[.pointer (some ⟨p.tb, 0, none⟩), .int .i64 a, .agg #[.int .i64 ef, .bool et, .bool ew, .bool eu]] wA.drew (PtQ E p (tPut s a ⟨ef, et, ew, eu⟩) wA.drew)) := Lib.hid (tput_any E p s m a ⟨ef, et, ew, eu⟩ wA.drew (HTA.out.errs fun wx h => errs9 (hE wx h)) HTA.out.pt hi (by omega))
  have HW2 : Hid (∀ w5, ZtAt w5 z s → Calls Tryz.prog 36 #[.pointer (some ⟨z.zb, 0, none⟩), .int .i64 a, .agg #[.int .i64 ef, .bool et, .bool ew, .bool eu]] w5 (ZtQ z (tPut s a ⟨ef, et, ew, eu⟩) w5)) := Lib.hid fun w5 h => zput_any z s m a ⟨ef, et, ew, eu⟩ w5 h hi (by omega)
  have HC := Lib.hid (tPut_c s a ⟨ef, et, ew, eu⟩)
  obtain ⟨⟨S, cc⟩, hR⟩ : ∃ R, tPut s a ⟨ef, et, ew, eu⟩ = R := ⟨_, rfl⟩
  rw [hR] at HW1 HW2 HC ⊢
  unfold PtQ at HW1
  unfold ZtQ at HW2
  unfold TDoQ
  dsimp only at HW1 HW2 HC ⊢
  have HIS : Hid (∀ w6, Below w0.heap.size w0 w6 → Calls Tryz.prog 23 #[errC E cc, .int .i64 cc] w6 fun e w' => e = .returned (.bool true) ∧ Below w6.heap.size w6 w') := Lib.hid fun w6 h => by
    have := is_any E (errC E cc) cc cc (errC_num E cc HC.out) w6 (hE _ h)
    rwa [decide_eq_true rfl] at this
  have hB0 : Only (fun k => p.zw k ∨ z.zw k) wA wA.drew := (Only.refl _ _).drew
  have HWA := Lib.hid hwA
  obtain ⟨tb, htb⟩ : ∃ tb, p.tb = tb := ⟨_, rfl⟩
  obtain ⟨zb, hzb⟩ : ∃ zb, z.zb = zb := ⟨_, rfl⟩
  rw [htb] at HW1
  rw [hzb] at HW2
  have HPT := Lib.hid (And.intro htb hzb)
  rw [htb, hzb]
  clear hE hT hi hm hba hwA htb hzb hR
  go_enter Tryz.func8, Tryz.ntmps8
  go_wp2_with fail
  rw [← HWA.out]
  go_wp2_with fail
  obtain ⟨-, c1, c3, c4, c5, c6⟩ := HKA.out _ (Only.refl _ wA)
  go_region_held3 (fun wx => Only (fun k => p.zw k ∨ z.zw k) wA wx ∧ wx.cell? ⟨w.heap.size, 1, none⟩ = some (.int .i64 a) ∧ wx.cell? ⟨w.heap.size, 3, none⟩ = some (.int .i64 ef) ∧ wx.cell? ⟨w.heap.size, 4, none⟩ = some (.bool et) ∧ wx.cell? ⟨w.heap.size, 5, none⟩ = some (.bool ew) ∧ wx.cell? ⟨w.heap.size, 6, none⟩ = some (.bool eu)) (first | exact HKA.out _ (by assumption))
    (first
      | (go_at_call 35; refine HW1.out.mono ?_; rintro e w5 ⟨rfl, hn5, ho5⟩; have hr5 := HTA.out.pOp hn5 ho5; have hB5 : Only (fun k => p.zw k ∨ z.zw k) wA w5 := hB0.trans (ho5.mono fun k hk => .inl (.inl hk)))
      | (go_at_call 36; refine (HW2.out w5 hr5.zt).mono ?_; rintro e w6 ⟨rfl, hn6, ho6⟩; have hr6 := hr5.zOp hn6 ho6; have hB6 : Only (fun k => p.zw k ∨ z.zw k) wA w6 := hB5.trans (ho6.mono fun k hk => .inl (.inr hk)))
      | (go_at_call 23; refine (HIS.out _ hr6.b).mono ?_; rintro e w7 ⟨rfl, hb7⟩; have hB7 : Only (fun k => p.zw k ∨ z.zw k) wA w7 := hB6.below' hb7))
  all_goals
    have HF1 := Lib.hid (hr6.below hb7)
    clear hn5 ho5 hr5 hB5 hr6 hn6 ho6 hB6 hb7 hB7 c0 c1 c3 c4 c5 c6
    go_wp2
    go_ret
    exact ⟨rfl, p, z, ⟨by first | rfl | exact HPT.out.1, rfl, rfl, by first | rfl | exact HPT.out.2, rfl, rfl⟩, HF1.out⟩
set_option maxRecDepth 100000 in
set_option maxHeartbeats 6400000 in
theorem tdoes_3 (E : Nat → Addr) (w0 : World) (p : Pl) (z : Zl) (s : Ts) (m a bb ef : Int) (et ew eu is : Bool) (w : World) (hE : ∀ wx, Below w0.heap.size w0 wx → ErrsAt errT gOf wx E all16) (hT : Tw w0 w p z s s) (hi : TInv m s) (hm : m + 2 ≤ 1000000) :
    Calls Tryz.prog 8 #[.pointer (some ⟨p.tb, 0, none⟩), .pointer (some ⟨z.zb, 0, none⟩), .agg #[.int .i64 3, .int .i64 a, .int .i64 bb, .int .i64 ef, .bool et, .bool ew, .bool eu, .bool is]] w (TDoQ w0 p z (tDo s ⟨3, a, bb, ⟨ef, et, ew, eu⟩, is⟩)) := by
  obtain ⟨wA, hwA⟩ : ∃ wA, wA = w.alloc (.cells #[.int .i64 3, .int .i64 a, .int .i64 bb, .int .i64 ef, .bool et, .bool ew, .bool eu, .bool is] 36) := ⟨_, rfl⟩
  have hba : Below w.heap.size w wA := hwA ▸ Below.alloc (Below.refl _ _) (Nat.le_refl _) _
  have HR : Hid (tDo s ⟨3, a, bb, ⟨ef, et, ew, eu⟩, is⟩ = (tLend s a bb is).1) := Lib.hid (by unfold tDo; dsimp only; rw [if_neg (show ¬ ((3 : Int) = 1) by decide), if_neg (show ¬ ((3 : Int) = 2) by decide), if_pos rfl])
  rw [HR.out]
  have HBA := Lib.hid hba
  have HBLK : Hid (wA.heap[w.heap.size]? = some (.cells #[.int .i64 3, .int .i64 a, .int .i64 bb, .int .i64 ef, .bool et, .bool ew, .bool eu, .bool is] 36 (0, 0))) := Lib.hid (hwA ▸ blk_new w _)
  have c0 := blk_cell HBLK.out 0
  have HNE : Hid (∀ k, (p.zw k ∨ z.zw k) → k ≠ w.heap.size) := Lib.hid fun k hk e => by
    rcases hk with hk | hk
    · have := hT.plt k (.inr hk); omega
    · have := hT.zlt k (.inr hk); omega
  have HKA : Hid (∀ wx, Only (fun k => p.zw k ∨ z.zw k) wA wx → Only (fun k => p.zw k ∨ z.zw k) wA wx ∧ wx.cell? ⟨w.heap.size, 1, none⟩ = some (.int .i64 a) ∧ wx.cell? ⟨w.heap.size, 2, none⟩ = some (.int .i64 bb) ∧ wx.cell? ⟨w.heap.size, 7, none⟩ = some (.bool is)) := Lib.hid fun wx h => by
    have hb := h.blk HBLK.out (fun e => HNE.out _ e rfl)
    exact ⟨h, blk_cell hb 1, blk_cell hb 2, blk_cell hb 7⟩
  have HTA := Lib.hid ((hT.below hba).below (Below.refl _ _).drew)
  have HW1 : Hid (Calls Tryz.prog 37 #[.pointer (some ⟨p.tb, 0, none⟩), .int .i64 a, .int .i64 bb, .bool is] wA.drew (PtQ E p (tLend s a bb is) wA.drew)) := Lib.hid (tlend_any E p s m a bb is wA.drew (HTA.out.errs fun wx h => errs9 (hE wx h)) HTA.out.pt hi (by omega))
  have HW2 : Hid (∀ w5, ZtAt w5 z s → Calls Tryz.prog 38 #[.pointer (some ⟨z.zb, 0, none⟩), .int .i64 a, .int .i64 bb, .bool is] w5 (ZtQ z (tLend s a bb is) w5)) := Lib.hid fun w5 h => zlend_any z s m a bb is w5 h hi (by omega)
  have HC := Lib.hid (tLend_c s a bb is)
  obtain ⟨⟨S, cc⟩, hR⟩ : ∃ R, tLend s a bb is = R := ⟨_, rfl⟩
  rw [hR] at HW1 HW2 HC ⊢
  unfold PtQ at HW1
  unfold ZtQ at HW2
  unfold TDoQ
  dsimp only at HW1 HW2 HC ⊢
  have HIS : Hid (∀ w6, Below w0.heap.size w0 w6 → Calls Tryz.prog 23 #[errC E cc, .int .i64 cc] w6 fun e w' => e = .returned (.bool true) ∧ Below w6.heap.size w6 w') := Lib.hid fun w6 h => by
    have := is_any E (errC E cc) cc cc (errC_num E cc HC.out) w6 (hE _ h)
    rwa [decide_eq_true rfl] at this
  have hB0 : Only (fun k => p.zw k ∨ z.zw k) wA wA.drew := (Only.refl _ _).drew
  have HWA := Lib.hid hwA
  obtain ⟨tb, htb⟩ : ∃ tb, p.tb = tb := ⟨_, rfl⟩
  obtain ⟨zb, hzb⟩ : ∃ zb, z.zb = zb := ⟨_, rfl⟩
  rw [htb] at HW1
  rw [hzb] at HW2
  have HPT := Lib.hid (And.intro htb hzb)
  rw [htb, hzb]
  clear hE hT hi hm hba hwA htb hzb hR
  go_enter Tryz.func8, Tryz.ntmps8
  go_wp2_with fail
  rw [← HWA.out]
  go_wp2_with fail
  obtain ⟨-, c1, c2, c7⟩ := HKA.out _ (Only.refl _ wA)
  go_region_held3 (fun wx => Only (fun k => p.zw k ∨ z.zw k) wA wx ∧ wx.cell? ⟨w.heap.size, 1, none⟩ = some (.int .i64 a) ∧ wx.cell? ⟨w.heap.size, 2, none⟩ = some (.int .i64 bb) ∧ wx.cell? ⟨w.heap.size, 7, none⟩ = some (.bool is)) (first | exact HKA.out _ (by assumption))
    (first
      | (go_at_call 37; refine HW1.out.mono ?_; rintro e w5 ⟨rfl, hn5, ho5⟩; have hr5 := HTA.out.pOp hn5 ho5; have hB5 : Only (fun k => p.zw k ∨ z.zw k) wA w5 := hB0.trans (ho5.mono fun k hk => .inl (.inl hk)))
      | (go_at_call 38; refine (HW2.out w5 hr5.zt).mono ?_; rintro e w6 ⟨rfl, hn6, ho6⟩; have hr6 := hr5.zOp hn6 ho6; have hB6 : Only (fun k => p.zw k ∨ z.zw k) wA w6 := hB5.trans (ho6.mono fun k hk => .inl (.inr hk)))
      | (go_at_call 23; refine (HIS.out _ hr6.b).mono ?_; rintro e w7 ⟨rfl, hb7⟩; have hB7 : Only (fun k => p.zw k ∨ z.zw k) wA w7 := hB6.below' hb7))
  all_goals
    have HF1 := Lib.hid (hr6.below hb7)
    clear hn5 ho5 hr5 hB5 hr6 hn6 ho6 hB6 hb7 hB7 c0 c1 c2 c7
    go_wp2
    go_ret
    exact ⟨rfl, p, z, ⟨by first | rfl | exact HPT.out.1, rfl, rfl, by first | rfl | exact HPT.out.2, rfl, rfl⟩, HF1.out⟩
set_option maxRecDepth 100000 in
set_option maxHeartbeats 6400000 in
theorem tdoes_4 (E : Nat → Addr) (w0 : World) (p : Pl) (z : Zl) (s : Ts) (m a bb ef : Int) (et ew eu is : Bool) (w : World) (kd : Int) (q1 : (kd == 1) = false) (q2 : (kd == 2) = false) (q3 : (kd == 3) = false) (hE : ∀ wx, Below w0.heap.size w0 wx → ErrsAt errT gOf wx E all16) (hT : Tw w0 w p z s s) (hi : TInv m s) (hm : m + 2 ≤ 1000000) :
    Calls Tryz.prog 8 #[.pointer (some ⟨p.tb, 0, none⟩), .pointer (some ⟨z.zb, 0, none⟩), .agg #[.int .i64 kd, .int .i64 a, .int .i64 bb, .int .i64 ef, .bool et, .bool ew, .bool eu, .bool is]] w (TDoQ w0 p z (tDo s ⟨kd, a, bb, ⟨ef, et, ew, eu⟩, is⟩)) := by
  obtain ⟨wA, hwA⟩ : ∃ wA, wA = w.alloc (.cells #[.int .i64 kd, .int .i64 a, .int .i64 bb, .int .i64 ef, .bool et, .bool ew, .bool eu, .bool is] 36) := ⟨_, rfl⟩
  have hba : Below w.heap.size w wA := hwA ▸ Below.alloc (Below.refl _ _) (Nat.le_refl _) _
  have HR : Hid (tDo s ⟨kd, a, bb, ⟨ef, et, ew, eu⟩, is⟩ = (tDrop s a).1) := Lib.hid (by unfold tDo; dsimp only; rw [if_neg (by simpa using q1), if_neg (by simpa using q2), if_neg (by simpa using q3)])
  rw [HR.out]
  have HBA := Lib.hid hba
  have HBLK : Hid (wA.heap[w.heap.size]? = some (.cells #[.int .i64 kd, .int .i64 a, .int .i64 bb, .int .i64 ef, .bool et, .bool ew, .bool eu, .bool is] 36 (0, 0))) := Lib.hid (hwA ▸ blk_new w _)
  have c0 := blk_cell HBLK.out 0
  have HNE : Hid (∀ k, (p.zw k ∨ z.zw k) → k ≠ w.heap.size) := Lib.hid fun k hk e => by
    rcases hk with hk | hk
    · have := hT.plt k (.inr hk); omega
    · have := hT.zlt k (.inr hk); omega
  have HKA : Hid (∀ wx, Only (fun k => p.zw k ∨ z.zw k) wA wx → Only (fun k => p.zw k ∨ z.zw k) wA wx ∧ wx.cell? ⟨w.heap.size, 1, none⟩ = some (.int .i64 a)) := Lib.hid fun wx h => by
    have hb := h.blk HBLK.out (fun e => HNE.out _ e rfl)
    exact ⟨h, blk_cell hb 1⟩
  have HTA := Lib.hid ((hT.below hba).below (Below.refl _ _).drew)
  have HW1 : Hid (Calls Tryz.prog 39 #[.pointer (some ⟨p.tb, 0, none⟩), .int .i64 a] wA.drew (PtQ E p (tDrop s a) wA.drew)) := Lib.hid (tdrop_any E p s m a wA.drew (HTA.out.errs fun wx h => errs9 (hE wx h)) HTA.out.pt hi (by omega))
  have HW2 : Hid (∀ w5, ZtAt w5 z s → Calls Tryz.prog 40 #[.pointer (some ⟨z.zb, 0, none⟩), .int .i64 a] w5 (ZtQ z (tDrop s a) w5)) := Lib.hid fun w5 h => zdrop_any z s m a w5 h hi (by omega)
  have HC := Lib.hid (tDrop_c s a)
  obtain ⟨⟨S, cc⟩, hR⟩ : ∃ R, tDrop s a = R := ⟨_, rfl⟩
  rw [hR] at HW1 HW2 HC ⊢
  unfold PtQ at HW1
  unfold ZtQ at HW2
  unfold TDoQ
  dsimp only at HW1 HW2 HC ⊢
  have HIS : Hid (∀ w6, Below w0.heap.size w0 w6 → Calls Tryz.prog 23 #[errC E cc, .int .i64 cc] w6 fun e w' => e = .returned (.bool true) ∧ Below w6.heap.size w6 w') := Lib.hid fun w6 h => by
    have := is_any E (errC E cc) cc cc (errC_num E cc HC.out) w6 (hE _ h)
    rwa [decide_eq_true rfl] at this
  have hB0 : Only (fun k => p.zw k ∨ z.zw k) wA wA.drew := (Only.refl _ _).drew
  have HWA := Lib.hid hwA
  obtain ⟨tb, htb⟩ : ∃ tb, p.tb = tb := ⟨_, rfl⟩
  obtain ⟨zb, hzb⟩ : ∃ zb, z.zb = zb := ⟨_, rfl⟩
  rw [htb] at HW1
  rw [hzb] at HW2
  have HPT := Lib.hid (And.intro htb hzb)
  rw [htb, hzb]
  clear hE hT hi hm hba hwA htb hzb hR
  go_enter Tryz.func8, Tryz.ntmps8
  go_wp2_with fail
  rw [← HWA.out]
  go_wp2_with fail
  obtain ⟨-, c1⟩ := HKA.out _ (Only.refl _ wA)
  go_region_held3 (fun wx => Only (fun k => p.zw k ∨ z.zw k) wA wx ∧ wx.cell? ⟨w.heap.size, 1, none⟩ = some (.int .i64 a)) (first | exact HKA.out _ (by assumption))
    (first
      | (go_at_call 39; refine HW1.out.mono ?_; rintro e w5 ⟨rfl, hn5, ho5⟩; have hr5 := HTA.out.pOp hn5 ho5; have hB5 : Only (fun k => p.zw k ∨ z.zw k) wA w5 := hB0.trans (ho5.mono fun k hk => .inl (.inl hk)))
      | (go_at_call 40; refine (HW2.out w5 hr5.zt).mono ?_; rintro e w6 ⟨rfl, hn6, ho6⟩; have hr6 := hr5.zOp hn6 ho6; have hB6 : Only (fun k => p.zw k ∨ z.zw k) wA w6 := hB5.trans (ho6.mono fun k hk => .inl (.inr hk)))
      | (go_at_call 23; refine (HIS.out _ hr6.b).mono ?_; rintro e w7 ⟨rfl, hb7⟩; have hB7 : Only (fun k => p.zw k ∨ z.zw k) wA w7 := hB6.below' hb7))
  all_goals
    have HF1 := Lib.hid (hr6.below hb7)
    clear hn5 ho5 hr5 hB5 hr6 hn6 ho6 hB6 hb7 hB7 c0 c1
    go_wp2
    go_ret
    exact ⟨rfl, p, z, ⟨by first | rfl | exact HPT.out.1, rfl, rfl, by first | rfl | exact HPT.out.2, rfl, rfl⟩, HF1.out⟩
theorem tdoes_any (E : Nat → Addr) (w0 : World) (p : Pl) (z : Zl) (s : Ts) (m : Int) (d : TDo) (w : World) (hE : ∀ wx, Below w0.heap.size w0 wx → ErrsAt errT gOf wx E all16) (hT : Tw w0 w p z s s) (hi : TInv m s) (hm : m + 2 ≤ 1000000) :
    Calls Tryz.prog 8 #[.pointer (some ⟨p.tb, 0, none⟩), .pointer (some ⟨z.zb, 0, none⟩), .agg #[.int .i64 d.kind, .int .i64 d.a, .int .i64 d.b, .int .i64 d.e.f, .bool d.e.t, .bool d.e.w, .bool d.e.u, .bool d.is]] w (TDoQ w0 p z (tDo s d)) := by
  obtain ⟨kd, a, bb, ⟨ef, et, ew, eu⟩, is⟩ := d
  dsimp only
  by_cases h1 : kd = 1
  · subst h1; exact tdoes_1 E w0 p z s m a bb ef et ew eu is w hE hT hi hm
  · by_cases h2 : kd = 2
    · subst h2; exact tdoes_2 E w0 p z s m a bb ef et ew eu is w hE hT hi hm
    · by_cases h3 : kd = 3
      · subst h3; exact tdoes_3 E w0 p z s m a bb ef et ew eu is w hE hT hi hm
      · exact tdoes_4 E w0 p z s m a bb ef et ew eu is w kd (by simpa using h1) (by simpa using h2) (by simpa using h3) hE hT hi hm
end Go.Proofs.YtaoaachgnnengaaGreatDoor

