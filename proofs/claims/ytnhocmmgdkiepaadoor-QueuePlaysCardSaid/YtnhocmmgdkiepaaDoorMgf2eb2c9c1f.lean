/-
  Parts of one proof, one behind the other.
-/
import Derived.Test.YtnhocmmgdkiepaaDoorMg148d473109
import Derived.Test.YtnhocmmgdkiepaaDoorMg578fbbb829
import Derived.Deep.RegionWith
import Derived.Test.YtnhocmmgdkiepaaDoorMga01ee0034f
import Derived.BigQuiet
import Derived.Deep.DeepCutAuto
import Derived.Test.YtnhocmmgdkiepaaDoorMge8e9a5b5ac
import Derived.Test.YtnhocmmgdkiepaaDoorRows
import Derived.Test.YtnhocmmgdkiepaaDoorMg4eb791d37b
import Derived.Deep.Slices
import Derived.Test.YtnhocmmgdkiepaaDoorMg5d4be2863b
import Derived.Test.YtnhocmmgdkiepaaDoorMg720f0bbf6e
/-
  The document's tables: Flush.
-/
namespace Go.Proofs.YtnhocmmgdkiepaaDoor
open Go.RowKit

def ZFlTo (s : Ts) (l : List Up) (z : Zl) (w : World) (i : Value) (wr : World) : Prop := ∃ k : Nat, k ≤ l.length ∧ i = .int .i64 (k : Int) ∧ (∀ i, i < k → qC s l i = 0) ∧ ZtAt wr z (qS s l k) ∧ Only z.zw w wr
def ZFlQ (s : Ts) (l : List Up) (z : Zl) (w : World) (e : Ending) (w' : World) : Prop := ∃ k c, FlIs s l k c ∧ e = .returned (.tuple #[.int .i64 (k : Int), .int .i64 c]) ∧ ZtAt w' z (qS s l k) ∧ Only z.zw w w'
theorem rup_cell {w : World} {g cap : Nat} {l : List Up} (h : w.ownsRow 0 84 2 (.slice (some ⟨g, 0, none⟩) l.length cap) l.length (upCells l)) (k : Nat) (hk : k < l.length) : w.cell? ⟨g, k * 2, none⟩ = some (.int .i64 (l.getD k default).page) ∧ w.cell? ⟨g, k * 2 + 1, none⟩ = some (.int .u32 (l.getD k default).word) :=
  ⟨(own_cell h (k * 2) (by omega)).trans (rec_get upOne 2 upOne_len l k 0 hk (by decide)), (own_cell h (k * 2 + 1) (by omega)).trans (rec_get upOne 2 upOne_len l k 1 hk (by decide))⟩

set_option maxRecDepth 100000 in
set_option maxHeartbeats 16000000 in
theorem zflush_any (z : Zl) (s : Ts) (m : Int) (l : List Up) (xv : Value) (w : World) (h : ZtAt w z s) (hi : TInv m s) (hm : m + 2 * (l.length : Int) + 1 ≤ 1000000) (hll : l.length ≤ 100000) (hx : w.ownsRow 0 84 2 xv l.length (upCells l)) (hw : ∀ u ∈ l, W32 u.word)
    (hap : ∀ k, inRow xv k → ¬ z.zw k) :
    Calls Tryd.prog 43 #[.pointer (some ⟨z.zb, 0, none⟩), xv] w (ZFlQ s l z w) := by
  have HI := Lib.hid (qS_inv hi l)
  have HOWN : Hid (∀ wx, Only z.zw w wx → wx.ownsRow 0 84 2 xv l.length (upCells l)) := Lib.hid fun wx ho => own_only hx ho hap
  have HW32 : Hid (∀ k, k < l.length → W32 (l.getD k default).word) := Lib.hid fun k hk => by
    rw [List.getD_eq_getElem?_getD, List.getElem?_eq_getElem hk]
    exact hw _ (List.getElem_mem hk)
  have hsh := own_shape hx
  obtain ⟨ao, cap, rfl⟩ := own_slice hx
  have HST : Hid (ZFlTo s l z w (.int .i64 0) w) := Lib.hid ⟨0, Nat.zero_le _, rfl, fun i hi => absurd hi (by omega), h, Only.refl _ _⟩
  clear h hi hx hw hap
  go_enter Tryd.func43, Tryd.ntmps43
  go_wp2_with fail
  go_loopw [6] (fun i wr => ZFlTo s l z w i wr) (fun i _ => l.length - (intOf i).toNat)
  case atStart => exact HST.out
  case round =>
    obtain ⟨k, hk, rfl, hok, hp, ho⟩ := hrel
    have HP := Lib.hid hp
    have HO := Lib.hid ho
    have HOK := Lib.hid hok
    clear HST hp ho hok
    by_cases hlt : k < l.length
    · have hki : (k : Int) < (l.length : Int) := by omega
      have wk := IntWalk.i64_in ((k : Int) + 1) (by omega)
      rcases hsh with ⟨-, hz, -⟩ | ⟨g, cap2, hv, -⟩
      · omega
      cases hv
      obtain ⟨x0, x1⟩ := rup_cell (HOWN.out wr HO.out) k hlt
      have lg := own_lt (HOWN.out wr HO.out) (show inRow _ g from rfl)
      have hu := HW32.out k hlt
      have HQS : Hid (qS s l (k + 1) = if (ofA (l.getD k default).word).2 = true then (tPut (qS s l k) (l.getD k default).page (ofA (l.getD k default).word).1).1 else qS s l k) := Lib.hid rfl
      have HQC : Hid (qC s l k = if (ofA (l.getD k default).word).2 = true then (tPut (qS s l k) (l.getD k default).page (ofA (l.getD k default).word).1).2 else 102) := Lib.hid rfl
      have HTP := Lib.hid (fun wx (hh : ZtAt wx z (qS s l k)) => zput_any z (qS s l k) (m + 2 * (k : Int)) (l.getD k default).page (ofA (l.getD k default).word).1 wx hh (HI.out k) (by omega))
      have HSM := Lib.hid (tPut_same (qS s l k) (l.getD k default).page (ofA (l.getD k default).word).1)
      have HOF := Lib.hid (fun wx => rof_any (l.getD k default).word wx hu)
      obtain ⟨⟨up, uw⟩, hue⟩ : ∃ u, l.getD k default = u := ⟨_, rfl⟩
      rw [hue] at x0 x1 HQS HQC HTP HOF HSM
      dsimp only at x0 x1 HQS HQC HTP HOF HSM
      obtain ⟨⟨⟨ef, et, ew, eu⟩, ok⟩, hoe⟩ : ∃ r, ofA uw = r := ⟨_, rfl⟩
      rw [hoe] at HQS HQC HTP HOF HSM
      unfold Ent.v at HTP HOF
      dsimp only at HQS HQC HTP HOF HSM
      clear hu hue hoe
      go_wp2_with fail
      refine (HOF.out _).mono ?_
      rintro y w2 ⟨rfl, hb2⟩
      have HB2 : Hid (Below wr.heap.size wr (w2.alloc (.cells #[.int .i64 ef, .bool et, .bool ew, .bool eu] 42))) := Lib.hid (hb2.alloc hb2.size _)
      have hn2 := blk_new w2 (.cells #[.int .i64 ef, .bool et, .bool ew, .bool eu] 42)
      have n0 := blk_cell hn2 0
      have n1 := blk_cell hn2 1
      have n2 := blk_cell hn2 2
      have n3 := blk_cell hn2 3
      have y0 := cell_under x0 HB2.out
      have lg2 : g < w2.heap.size := Nat.lt_of_lt_of_le lg hb2.size
      have HPW := Lib.hid (ZAt.below HP.out HB2.out)
      have HPWD := Lib.hid (ZAt.below HP.out HB2.out.drew)
      have HOW := Lib.hid (Only.of_below (F := z.zw) HB2.out)
      have HOWD := Lib.hid (Only.of_below (F := z.zw) HB2.out.drew)
      clear hn2 hb2 x0 x1
      cases ok with
      | false =>
        have HC : Hid (qC s l k = 102) := Lib.hid (by rw [HQC.out, if_neg (by decide)])
        go_wp2
        go_ret2
        exact ⟨k, 102, ⟨HOK.out, .inr ⟨hlt, HC.out.symm, by decide⟩⟩, rfl, HPW.out, HO.out.trans HOW.out⟩
      | true =>
        have HC : Hid (qC s l k = (tPut (qS s l k) up ⟨ef, et, ew, eu⟩).2) := Lib.hid (by rw [HQC.out, if_pos rfl])
        have HS1 : Hid (qS s l (k + 1) = (tPut (qS s l k) up ⟨ef, et, ew, eu⟩).1) := Lib.hid (by rw [HQS.out, if_pos rfl])
        obtain ⟨⟨S1, c1⟩, hR⟩ : ∃ R, tPut (qS s l k) up ⟨ef, et, ew, eu⟩ = R := ⟨_, rfl⟩
        rw [hR] at HTP HC HS1 HSM
        dsimp only at HC HS1 HSM
        clear hR HQC HQS
        go_wp2_with fail
        go_region_with (first | (go_at_call 84; refine (HTP.out _ (by first | exact HPWD.out | exact HPW.out)).mono ?_; rintro y w3 ⟨rfl, hp3, ho3⟩))
        all_goals
          have HO3 : Hid (Only z.zw wr w3) := Lib.hid (by first | exact HOWD.out.trans ho3 | exact HOW.out.trans ho3)
          by_cases hc : c1 = 0
          · subst hc
            have HP3 := Lib.hid hp3
            clear hp3 ho3 y0
            go_wp2_with fail
            go_roundw
            case rel => exact ⟨k + 1, by omega, by go_num, fun i hi => by
                by_cases h : i = k
                · rw [h]; exact HC.out
                · exact HOK.out i (by omega), by rw [HS1.out]; exact HP3.out, HO.out.trans HO3.out⟩
            case measure => simp [intOf]; omega
          · have HP3 : Hid (ZtAt w3 z (qS s l k)) := Lib.hid (by have := hp3; rw [HSM.out hc] at this; exact this)
            have HCN := Lib.hid hc
            have hcb : (c1 != 0) = true := by simp; exact hc
            clear hp3 ho3 y0 hc
            go_wp2
            go_ret2
            exact ⟨k, c1, ⟨HOK.out, .inr ⟨hlt, HC.out.symm, HCN.out⟩⟩, rfl, HP3.out, HO.out.trans HO3.out⟩
    · obtain rfl : k = l.length := by omega
      go_wp2
      go_ret2
      exact ⟨l.length, 0, ⟨HOK.out, .inl ⟨rfl, rfl⟩⟩, rfl, HP.out, HO.out⟩
end Go.Proofs.YtnhocmmgdkiepaaDoor

/-
  pt.Tables.Get: a page's entry, its frame as the guest's number.
-/
namespace Go.Proofs.YtnhocmmgdkiepaaDoor
open Go.RowKit

/-- the first place of a number, or -1 -/
def pmI : List Int → Int → Int
  | [], _ => -1
  | a :: l, x => if a = x then 0 else if 0 ≤ pmI l x then pmI l x + 1 else -1
theorem pmI_is : ∀ (l : List Int) (x : Int), IdxIs l x (pmI l x)
  | [], x => .inl ⟨rfl, fun j hj => absurd hj (by simp)⟩
  | a :: l, x => by
    unfold pmI
    by_cases h : a = x
    · rw [if_pos h]
      exact .inr ⟨0, by simp, rfl, h, fun j hj => absurd hj (by omega)⟩
    · rw [if_neg h]
      rcases pmI_is l x with ⟨h1, h2⟩ | ⟨k, h1, h2, h3, h4⟩
      · rw [if_neg (by rw [h1]; decide)]
        refine .inl ⟨rfl, fun j hj => ?_⟩
        cases j with
        | zero => exact h
        | succ j => exact h2 j (by simpa using hj)
      · rw [if_pos (by rw [h2]; omega), h2]
        refine .inr ⟨k + 1, by simpa using h1, by omega, h3, fun j hj => ?_⟩
        cases j with
        | zero => exact h
        | succ j => exact h4 j (by omega)
theorem IdxIs.same {l : List Int} {x r s : Int} (h : IdxIs l x r) (h2 : IdxIs l x s) : r = s := by
  rcases h with ⟨h, hn⟩ | ⟨k, hk, h, he, hl⟩ <;> rcases h2 with ⟨h', hn'⟩ | ⟨k', hk', h', he', hl'⟩
  · omega
  · exact absurd he' (hn k' hk')
  · exact absurd he (hn' k hk)
  · have a : ¬ k < k' := fun hlt => hl' k hlt he
    have b : ¬ k' < k := fun hlt => hl k' hlt he'
    omega
theorem pmI_get {l : List Int} (hp : ∀ i j, i < l.length → j < l.length → l.getD i 0 = l.getD j 0 → i = j) (i : Nat) (hi : i < l.length) : pmI l (l.getD i 0) = (i : Int) := by
  rcases pmI_is l (l.getD i 0) with ⟨-, h2⟩ | ⟨k, h1, h2, h3, -⟩
  · exact absurd rfl (h2 i hi)
  · rw [h2, hp k i h1 hi h3]
theorem pmI_lt (l : List Int) (x : Int) : -1 ≤ pmI l x ∧ pmI l x < (l.length : Int) := by
  rcases pmI_is l x with ⟨h, -⟩ | ⟨k, h1, h2, -, -⟩
  · rw [h]; omega
  · rw [h2]; omega
theorem pm_ofI (l : List Int) (b : Nat) (v : Value) (x : Int) (w : World) (h : PAt w b v l) (hn : l.length ≤ 1000) :
    Calls Tryd.prog 76 #[.pointer (some ⟨b, 0, none⟩), .int .i64 x] w fun e w' => e = .returned (.tuple #[.int .i64 (max (pmI l x) 0), .bool (decide (0 ≤ pmI l x))]) ∧ w = w' :=
  (pm_of l b v x w h hn).mono fun e w' ⟨⟨r, h1, h2⟩, h3⟩ => ⟨by rw [h1, h2.same (pmI_is l x)], h3⟩
/-- a page's entry, as the guest sees it -/
def tGet (s : Ts) (page : Int) : Ent := if (tEnt s page).t = true then { tEnt s page with f := pmI s.P (tEnt s page).f } else Ent.z
theorem tGet_t (s : Ts) (page : Int) : (tGet s page).t = (tEnt s page).t := by
  unfold tGet
  split
  · rfl
  · rename_i h
    cases ht : (tEnt s page).t with
    | true => exact absurd ht h
    | false => rfl

set_option maxRecDepth 100000 in
set_option maxHeartbeats 6400000 in
theorem tget_any (p : Pl) (s : Ts) (m : Int) (page : Int) (w : World) (h : PtAt w p s) (hi : TInv m s) :
    Calls Tryd.prog 38 #[.pointer (some ⟨p.tb, 0, none⟩), .int .i64 page] w fun y w' => y = .returned (.tuple #[(tGet s page).v, .bool (tGet s page).t]) ∧ Below w.heap.size w w' := by
  have hb0 : Below w.heap.size w (w.alloc (.cells #[.int .i64 0, .bool false, .bool false, .bool false] 42)) := (Below.refl _ _).alloc (Nat.le_refl _) _
  have HEN := Lib.hid (tentry_any p s m page _ (h.below hb0) hi)
  have HPM : Hid (∀ wx, Below w.heap.size w wx → ∀ x, Calls Tryd.prog 76 #[.pointer (some ⟨p.pb, 0, none⟩), .int .i64 x] wx fun e w' => e = .returned (.tuple #[.int .i64 (max (pmI s.P x) 0), .bool (decide (0 ≤ pmI s.P x))]) ∧ wx = w') := Lib.hid fun wx hb x => pm_ofI s.P p.pb p.pv x wx (h.below hb).pm (by have := hi.p512; omega)
  have HC : Hid (∀ wx, Below w.heap.size w wx → wx.cell? ⟨p.tb, 3, none⟩ = some (.pointer (some ⟨p.pb, 0, none⟩))) := Lib.hid fun wx hb => (h.below hb).cells.2.2.2.1
  have htb : p.tb < w.heap.size := blk_lt h.row
  obtain ⟨tb, htb0⟩ : ∃ x, p.tb = x := ⟨_, rfl⟩
  rw [htb0] at HEN HC htb ⊢
  obtain ⟨pb, hpb0⟩ : ∃ x, p.pb = x := ⟨_, rfl⟩
  rw [hpb0] at HC HPM
  have HTG : Hid (tGet s page = if (tEnt s page).t = true then { tEnt s page with f := pmI s.P (tEnt s page).f } else Ent.z) := Lib.hid rfl
  obtain ⟨⟨ef, et, ew, eu⟩, he⟩ : ∃ e, tEnt s page = e := ⟨_, rfl⟩
  rw [he] at HEN HTG
  rw [HTG.out]
  have HB0 := Lib.hid hb0
  have HBN := Lib.hid (blk_new w (.cells #[.int .i64 0, .bool false, .bool false, .bool false] 42))
  clear h hi he hb0 htb0 hpb0 HTG
  unfold Ent.v at HEN
  dsimp only at HEN
  go_enter Tryd.func38, Tryd.ntmps38
  go_wp2_with fail
  refine HEN.out.mono ?_
  rintro y w1 ⟨rfl, hb1⟩
  have HB1 := Lib.hid (HB0.out.trans (hb1.mono HB0.out.size))
  have hk1 := blk_below HBN.out hb1 (blk_lt HBN.out)
  clear hb1
  cases et with
  | false =>
    have hk2 := blk_below hk1 ((Below.refl _ _).alloc (Nat.le_refl _) (.cells #[.int .i64 ef, .bool false, .bool ew, .bool eu] 42)) (blk_lt hk1)
    obtain ⟨w2, hw2⟩ : ∃ w2, w1.alloc (.cells #[.int .i64 ef, .bool false, .bool ew, .bool eu] 42) = w2 := ⟨_, rfl⟩
    have hb2 : Below w.heap.size w w2 := hw2 ▸ HB1.out.alloc HB1.out.size _
    rw [hw2] at hk2
    have HB2 := Lib.hid hb2
    clear hk1 hb2 HB1 HPM HC
    go_upto_region 2 with fail
    try rw [hw2]
    clear hw2
    have f0 := blk_free hk2 0
    have f1 := blk_free hk2 1
    have f2 := blk_free hk2 2
    have f3 := blk_free hk2 3
    have z0 := blk_cell hk2 0
    have z1 := blk_cell hk2 1
    have z2 := blk_cell hk2 2
    have z3 := blk_cell hk2 3
    go_wp2
    refine bodyPost_ret (v := .tuple #[.agg #[.int .i64 0, .bool false, .bool false, .bool false], .bool false]) (by simp [results, Tryd.results38, go_sem, z0, z1, z2, z3]) rfl ⟨rfl, ?_⟩
    exact (((HB2.out.setCell (p := ⟨w.heap.size, 0, none⟩) (Nat.le_refl _) _).setCell (p := ⟨w.heap.size, 1, none⟩) (Nat.le_refl _) _).setCell (p := ⟨w.heap.size, 2, none⟩) (Nat.le_refl _) _).setCell (p := ⟨w.heap.size, 3, none⟩) (Nat.le_refl _) _
  | true =>
    have hn := blk_new w1 (.cells #[.int .i64 ef, .bool true, .bool ew, .bool eu] 42)
    obtain ⟨b, hb⟩ : ∃ b, w1.heap.size = b := ⟨_, rfl⟩
    have lb : w.heap.size < b := hb ▸ blk_lt hk1
    have hk2 := blk_below hk1 ((Below.refl _ _).alloc (Nat.le_refl _) (.cells #[.int .i64 ef, .bool true, .bool ew, .bool eu] 42)) (blk_lt hk1)
    obtain ⟨w2, hw2⟩ : ∃ w2, w1.alloc (.cells #[.int .i64 ef, .bool true, .bool ew, .bool eu] 42) = w2 := ⟨_, rfl⟩
    have hb2 : Below w.heap.size w w2 := hw2 ▸ HB1.out.alloc HB1.out.size _
    rw [hw2] at hn hk2
    rw [hb] at hn
    have HB2 := Lib.hid hb2
    go_wp2_with fail
    try rw [hb, hw2]
    clear hb hw2 HB1 hk1 hb2
    have hc := HC.out _ HB2.out
    have n0 := blk_cell hn 0
    go_quiet ((go_at_call 76; exact Calls.quiet_of_same ((HPM.out _ (below_drewN HB2.out _) _).mono fun e w' h => ⟨h.1, h.2.symm⟩)))
    obtain ⟨wd, hwd⟩ : ∃ wd, w2.drewN nq = wd := ⟨_, rfl⟩
    have hnd := hwd ▸ blk_below hn (below_drewN (Below.refl _ _) nq) (blk_lt hn)
    have hkd := hwd ▸ blk_below hk2 (below_drewN (Below.refl _ _) nq) (blk_lt hk2)
    have HBD : Hid (Below w.heap.size w wd) := Lib.hid (hwd ▸ below_drewN HB2.out nq)
    rw [hwd]
    have hr1 := (pmI_lt s.P ef).1
    obtain ⟨r, hr⟩ : ∃ r, pmI s.P ef = r := ⟨_, rfl⟩
    rw [hr] at hr1 ⊢
    have HRR := Lib.hid hr
    clear hwd hr hn hk2 HB2 hc n0 HB0 HBN
    by_cases h0 : 0 ≤ r
    · have hm : max r 0 = r := by omega
      rw [hm]
      have hn3 := blk_put hnd 0 (.int .i64 r)
      have hk3 := blk_set hkd (a := ⟨b, 0, none⟩) (by show w.heap.size ≠ b; omega) (.int .i64 r)
      obtain ⟨w3, hw3⟩ : ∃ w3, wd.setCell ⟨b, 0, none⟩ (.int .i64 r) = w3 := ⟨_, rfl⟩
      have HB3 : Hid (Below w.heap.size w w3) := Lib.hid (hw3 ▸ HBD.out.setCell (p := ⟨b, 0, none⟩) (Nat.le_of_lt lb) _)
      rw [hw3] at hn3 hk3
      clear hr1 hm
      have f0 := blk_free hk3 0
      have f1 := blk_free hk3 1
      have f2 := blk_free hk3 2
      have f3 := blk_free hk3 3
      have z0 := blk_cell hk3 0
      have z1 := blk_cell hk3 1
      have z2 := blk_cell hk3 2
      have z3 := blk_cell hk3 3
      have y0 := blk_cell hn3 0
      have y1 := blk_cell hn3 1
      have y2 := blk_cell hn3 2
      have y3 := blk_cell hn3 3
      have m0 := blk_cell hnd 0
      have g0 := blk_free hnd 0
      clear hnd hkd hn3 hk3 HPM HC
      go_wp2
      refine bodyPost_ret (v := .tuple #[.agg #[.int .i64 r, .bool true, .bool ew, .bool eu], .bool true]) (by simp [results, Tryd.results38, go_sem, z0, z1, z2, z3]) rfl ⟨by rw [HRR.out]; rfl, ?_⟩
      exact (((HB3.out.setCell (p := ⟨w.heap.size, 0, none⟩) (Nat.le_refl _) _).setCell (p := ⟨w.heap.size, 1, none⟩) (Nat.le_refl _) _).setCell (p := ⟨w.heap.size, 2, none⟩) (Nat.le_refl _) _).setCell (p := ⟨w.heap.size, 3, none⟩) (Nat.le_refl _) _
    · have h1 : r = -1 := by omega
      subst h1
      have hm : max (-1 : Int) 0 = 0 := by decide
      rw [hm]
      have hn3a := blk_put hnd 0 (.int .i64 0)
      have hn3 := blk_put hn3a 0 (.int .i64 (-1))
      have hk3a := blk_set hkd (a := ⟨b, 0, none⟩) (by show w.heap.size ≠ b; omega) (.int .i64 0)
      have hk3 := blk_set hk3a (a := ⟨b, 0, none⟩) (by show w.heap.size ≠ b; omega) (.int .i64 (-1))
      obtain ⟨w3a, hw3a⟩ : ∃ w3a, wd.setCell ⟨b, 0, none⟩ (.int .i64 0) = w3a := ⟨_, rfl⟩
      rw [hw3a] at hn3 hk3 hn3a
      obtain ⟨w3, hw3⟩ : ∃ w3, w3a.setCell ⟨b, 0, none⟩ (.int .i64 (-1)) = w3 := ⟨_, rfl⟩
      have HB3 : Hid (Below w.heap.size w w3) := Lib.hid (hw3 ▸ (hw3a ▸ HBD.out.setCell (p := ⟨b, 0, none⟩) (Nat.le_of_lt lb) _ : Below w.heap.size w w3a).setCell (p := ⟨b, 0, none⟩) (Nat.le_of_lt lb) _)
      rw [hw3] at hn3 hk3
      have n0a := blk_cell hn3a 0
      have g0a := blk_free hn3a 0
      clear hr1 hm hn3a hk3a h0
      have f0 := blk_free hk3 0
      have f1 := blk_free hk3 1
      have f2 := blk_free hk3 2
      have f3 := blk_free hk3 3
      have z0 := blk_cell hk3 0
      have z1 := blk_cell hk3 1
      have z2 := blk_cell hk3 2
      have z3 := blk_cell hk3 3
      have y0 := blk_cell hn3 0
      have y1 := blk_cell hn3 1
      have y2 := blk_cell hn3 2
      have y3 := blk_cell hn3 3
      have m0 := blk_cell hnd 0
      have g0 := blk_free hnd 0
      clear hnd hkd hn3 hk3 HPM HC
      go_wp2
      refine bodyPost_ret (v := .tuple #[.agg #[.int .i64 (-1), .bool true, .bool ew, .bool eu], .bool true]) (by simp [results, Tryd.results38, go_sem, z0, z1, z2, z3]) rfl ⟨by rw [HRR.out]; rfl, ?_⟩
      exact (((HB3.out.setCell (p := ⟨w.heap.size, 0, none⟩) (Nat.le_refl _) _).setCell (p := ⟨w.heap.size, 1, none⟩) (Nat.le_refl _) _).setCell (p := ⟨w.heap.size, 2, none⟩) (Nat.le_refl _) _).setCell (p := ⟨w.heap.size, 3, none⟩) (Nat.le_refl _) _
end Go.Proofs.YtnhocmmgdkiepaaDoor

/-
  The document's tables: Get: a page's entry, its frame as the guest's number.
-/
namespace Go.Proofs.YtnhocmmgdkiepaaDoor
open Go.RowKit

set_option maxRecDepth 100000 in
set_option maxHeartbeats 6400000 in
theorem zget_any (z : Zl) (s : Ts) (m : Int) (page : Int) (w : World) (h : ZtAt w z s) (hi : TInv m s) :
    Calls Tryd.prog 45 #[.pointer (some ⟨z.zb, 0, none⟩), .int .i64 page] w fun y w' => y = .returned (.tuple #[(tGet s page).v, .bool (tGet s page).t]) ∧ Below w.heap.size w w' := by
  have hb0 : Below w.heap.size w (w.alloc (.cells #[.int .i64 0, .bool false, .bool false, .bool false] 42)) := (Below.refl _ _).alloc (Nat.le_refl _) _
  have HEN := Lib.hid (zentry_any z s m page _ (ZAt.below h hb0) hi)
  obtain ⟨ao, cap, hgv, -⟩ := atL_of_own h.gl
  have HOF : Hid (∀ wx, Below w.heap.size w wx → ∀ x, Calls Tryd.prog 86 #[.slice ao s.P.length cap, .int .i64 x] wx fun e w' => e = .returned (.int .i64 (pmI s.P x)) ∧ wx = w') := Lib.hid fun wx hb x => by
    obtain ⟨ao', cap', hgv', hat⟩ := atL_of_own (ZAt.below h hb).gl
    rw [hgv] at hgv'
    obtain ⟨h1, -, -⟩ := Value.slice.inj hgv'
    subst h1
    refine (ofFrame_any s.P s.P.length ao cap x wx hat rfl (by have := hi.p512; omega)).mono ?_
    rintro e w' ⟨r, rfl, hr, rfl⟩
    exact ⟨by rw [hr.same (pmI_is s.P x)], rfl⟩
  have HC : Hid (∀ wx, Below w.heap.size w wx → wx.cell? ⟨z.zb, 3, none⟩ = some (.slice ao s.P.length cap)) := Lib.hid fun wx hb => hgv ▸ (ZAt.cells (ZAt.below h hb)).2.2.2.1
  have htb : z.zb < w.heap.size := (ZAt.cells h).2.2.2.2.2
  obtain ⟨tb, htb0⟩ : ∃ x, z.zb = x := ⟨_, rfl⟩
  rw [htb0] at HEN HC htb ⊢
  have HTG : Hid (tGet s page = if (tEnt s page).t = true then { tEnt s page with f := pmI s.P (tEnt s page).f } else Ent.z) := Lib.hid rfl
  obtain ⟨L, hL⟩ : ∃ L, s.P.length = L := ⟨_, rfl⟩
  rw [hL] at HOF HC
  obtain ⟨⟨ef, et, ew, eu⟩, he⟩ : ∃ e, tEnt s page = e := ⟨_, rfl⟩
  rw [he] at HEN HTG
  rw [HTG.out]
  have HB0 := Lib.hid hb0
  have HBN := Lib.hid (blk_new w (.cells #[.int .i64 0, .bool false, .bool false, .bool false] 42))
  clear h hi he hb0 htb0 hgv hL HTG
  unfold Ent.v at HEN
  dsimp only at HEN
  go_enter Tryd.func45, Tryd.ntmps45
  go_wp2_with fail
  refine HEN.out.mono ?_
  rintro y w1 ⟨rfl, hb1⟩
  have HB1 := Lib.hid (HB0.out.trans (hb1.mono HB0.out.size))
  have hk1 := blk_below HBN.out hb1 (blk_lt HBN.out)
  clear hb1
  cases et with
  | false =>
    have hn := blk_new w1 (.cells #[.int .i64 ef, .bool false, .bool ew, .bool eu] 42)
    obtain ⟨b, hb⟩ : ∃ b, w1.heap.size = b := ⟨_, rfl⟩
    have lb : w.heap.size < b := hb ▸ blk_lt hk1
    have hk2 := blk_below hk1 ((Below.refl _ _).alloc (Nat.le_refl _) (.cells #[.int .i64 ef, .bool false, .bool ew, .bool eu] 42)) (blk_lt hk1)
    obtain ⟨w2, hw2⟩ : ∃ w2, w1.alloc (.cells #[.int .i64 ef, .bool false, .bool ew, .bool eu] 42) = w2 := ⟨_, rfl⟩
    have hb2 : Below w.heap.size w w2 := hw2 ▸ HB1.out.alloc HB1.out.size _
    rw [hw2] at hn hk2
    rw [hb] at hn
    have HB2 := Lib.hid hb2
    have n0 : w2.cell? ⟨b, 0, none⟩ = some (.int .i64 ef) := blk_cell hn 0
    have n1 : w2.cell? ⟨b, 1, none⟩ = some (.bool false) := blk_cell hn 1
    have g0 := blk_free hn 0
    clear HB1 hk1 hb2
    have f0 := blk_free hk2 0
    have f1 := blk_free hk2 1
    have f2 := blk_free hk2 2
    have f3 := blk_free hk2 3
    have z0 := blk_cell hk2 0
    have z1 := blk_cell hk2 1
    have z2 := blk_cell hk2 2
    have z3 := blk_cell hk2 3
    clear hn hk2 HOF HC
    go_upto_region 2 with fail
    try rw [hb, hw2]
    clear hb hw2
    go_wp2
    refine bodyPost_ret (v := .tuple #[.agg #[.int .i64 0, .bool false, .bool false, .bool false], .bool false]) (by simp [results, Tryd.results45, go_sem, z0, z1, z2, z3]) rfl ⟨rfl, ?_⟩
    first | exact HB2.out | exact (((HB2.out.setCell (p := ⟨w.heap.size, 0, none⟩) (Nat.le_refl _) _).setCell (p := ⟨w.heap.size, 1, none⟩) (Nat.le_refl _) _).setCell (p := ⟨w.heap.size, 2, none⟩) (Nat.le_refl _) _).setCell (p := ⟨w.heap.size, 3, none⟩) (Nat.le_refl _) _
  | true =>
    have hn := blk_new w1 (.cells #[.int .i64 ef, .bool true, .bool ew, .bool eu] 42)
    obtain ⟨b, hb⟩ : ∃ b, w1.heap.size = b := ⟨_, rfl⟩
    have lb : w.heap.size < b := hb ▸ blk_lt hk1
    have hk2 := blk_below hk1 ((Below.refl _ _).alloc (Nat.le_refl _) (.cells #[.int .i64 ef, .bool true, .bool ew, .bool eu] 42)) (blk_lt hk1)
    obtain ⟨w2, hw2⟩ : ∃ w2, w1.alloc (.cells #[.int .i64 ef, .bool true, .bool ew, .bool eu] 42) = w2 := ⟨_, rfl⟩
    have hb2 : Below w.heap.size w w2 := hw2 ▸ HB1.out.alloc HB1.out.size _
    rw [hw2] at hn hk2
    rw [hb] at hn
    have HB2 := Lib.hid hb2
    have n0 : w2.cell? ⟨b, 0, none⟩ = some (.int .i64 ef) := blk_cell hn 0
    have n1 : w2.cell? ⟨b, 1, none⟩ = some (.bool true) := blk_cell hn 1
    have g0 := blk_free hn 0
    clear HB1 hk1 hb2
    go_upto_region 2 with fail
    try rw [hb, hw2]
    clear hb hw2
    go_wp2_with fail
    have hc := HC.out _ HB2.out
    have ltb : tb < w2.heap.size := Nat.lt_of_lt_of_le htb HB2.out.size
    have HD2 : Hid (Below w.heap.size w w2.drew) := Lib.hid HB2.out.drew
    have HN2 := Lib.hid hn
    have HK2 := Lib.hid hk2
    obtain ⟨r, hr⟩ : ∃ r, pmI s.P ef = r := ⟨_, rfl⟩
    have HOX : Hid (∀ wx, Below w.heap.size w wx → Calls Tryd.prog 86 #[.slice ao L cap, .int .i64 ef] wx fun e w' => e = .returned (.int .i64 r) ∧ wx = w') := Lib.hid fun wx hx => hr ▸ HOF.out wx hx ef
    have HRR := Lib.hid hr
    clear HOF hr hn hk2
    go_region_with (first | (go_at_call 86; refine (HOX.out _ (by first | exact HD2.out | exact HB2.out)).mono ?_; rintro e wz ⟨rfl, rfl⟩))
    all_goals
      have hn3 := blk_put HN2.out 0 (.int .i64 r)
      have hk3 := blk_set HK2.out (a := ⟨b, 0, none⟩) (by show w.heap.size ≠ b; omega) (.int .i64 r)
      obtain ⟨w3, hw3⟩ : ∃ w3, (w2.setCell ⟨b, 0, none⟩ (.int .i64 r)).drew = w3 := ⟨_, rfl⟩
      replace hn3 := (show (w2.setCell ⟨b, 0, none⟩ (.int .i64 r)).drew.heap[b]? = _ from hn3)
      replace hk3 := (show (w2.setCell ⟨b, 0, none⟩ (.int .i64 r)).drew.heap[w.heap.size]? = _ from hk3)
      have HB3 : Hid (Below w.heap.size w w3) := Lib.hid (hw3 ▸ (HB2.out.setCell (p := ⟨b, 0, none⟩) (Nat.le_of_lt lb) _).drew)
      rw [hw3] at hn3 hk3
      try rw [hw3]
      clear hw3
      have f0 := blk_free hk3 0
      have f1 := blk_free hk3 1
      have f2 := blk_free hk3 2
      have f3 := blk_free hk3 3
      have z0 := blk_cell hk3 0
      have z1 := blk_cell hk3 1
      have z2 := blk_cell hk3 2
      have z3 := blk_cell hk3 3
      have y0 := blk_cell hn3 0
      have y1 := blk_cell hn3 1
      have y2 := blk_cell hn3 2
      have y3 := blk_cell hn3 3
      clear hn3 hk3 HOX HC hc n0 g0 n1
      go_wp2
      refine bodyPost_ret (v := .tuple #[.agg #[.int .i64 r, .bool true, .bool ew, .bool eu], .bool true]) (by simp [results, Tryd.results45, go_sem, z0, z1, z2, z3]) rfl ⟨by rw [HRR.out]; rfl, ?_⟩
      exact (((HB3.out.setCell (p := ⟨w.heap.size, 0, none⟩) (Nat.le_refl _) _).setCell (p := ⟨w.heap.size, 1, none⟩) (Nat.le_refl _) _).setCell (p := ⟨w.heap.size, 2, none⟩) (Nat.le_refl _) _).setCell (p := ⟨w.heap.size, 3, none⟩) (Nat.le_refl _) _
end Go.Proofs.YtnhocmmgdkiepaaDoor

/-
  The document's tables: Live.
-/
namespace Go.Proofs.YtnhocmmgdkiepaaDoor
open Go.RowKit

set_option maxRecDepth 100000 in
set_option maxHeartbeats 6400000 in
theorem zlive_any (z : Zl) (s : Ts) (m : Int) (w : World) (h : ZtAt w z s) (hi : TInv m s) :
    Calls Tryd.prog 44 #[.pointer (some ⟨z.zb, 0, none⟩)] w fun y w' => ∃ v', y = .returned v' ∧ w'.ownsRow 0 3 1 v' (tLive s).length (ints (tLive s)) ∧ (∀ j, inRow v' j → w.heap.size ≤ j) ∧ Below w.heap.size w w' := by
  obtain ⟨i0, hi0, hz0, hz1, hz2⟩ := info_parts infoLive
  have HEN : Hid (∀ wx, Below w.heap.size w wx → ∀ page : Int, Calls Tryd.prog 85 #[.pointer (some ⟨z.zb, 0, none⟩), .int .i64 page] wx fun y w' => y = .returned (tEnt s page).v ∧ Below wx.heap.size wx w') := Lib.hid fun wx hb page => zentry_any z s m page wx (ZAt.below h hb) hi
  have HFD : Hid (∀ (wx : World) (ef : Int) (et ew eu : Bool), (Instr.field 42 (.agg #[.int .i64 ef, .bool et, .bool ew, .bool eu]) 1).run Tryd.prog wx = .ok (.bool et) wx) := Lib.hid fun wx ef et ew eu => by kernel_rfl
  clear h hi
  go_enter Tryd.func44, Tryd.ntmps44
  go_wp2_with fail
  go_loopw [3, 4] (fun v i wr => LvTo s w v i wr) (fun _ i _ => 256 - (intOf i).toNat)
  case atStart => exact ⟨0, Nat.zero_le _, rfl, own_nil _ _ _, fun j h => (by cases h), Below.refl _ _⟩
  case round =>
    obtain ⟨k, hk, rfl, ho, hf, hb⟩ := hrel
    have HO := Lib.hid ho
    have HF := Lib.hid hf
    have HB := Lib.hid hb
    by_cases hlt : k < 256
    · have hki : (k : Int) < 256 := by omega
      have HE := Lib.hid (HEN.out _ HB.out (k : Int))
      have HL1 : Hid (tLiveN s (k + 1) = if (tEnt s (k : Int)).t = true then tLiveN s k ++ [(k : Int)] else tLiveN s k) := Lib.hid rfl
      have hlen := tLiveN_len s k
      obtain ⟨L, hL⟩ : ∃ L, tLiveN s k = L := ⟨_, rfl⟩
      rw [hL] at HO HL1 hlen ho
      obtain ⟨ao, cap, rfl⟩ := own_slice ho
      clear ho hf hb
      obtain ⟨⟨ef, et, ew, eu⟩, he⟩ : ∃ e, tEnt s (k : Int) = e := ⟨_, rfl⟩
      rw [he] at HE HL1
      unfold Ent.v at HE
      dsimp only at HE HL1
      go_wp2_with fail
      refine HE.out.mono ?_
      rintro y w1 ⟨rfl, hb1⟩
      have HB1 : Hid (Below w.heap.size w w1) := Lib.hid (HB.out.trans (hb1.mono HB.out.size))
      have HO1 : Hid (w1.ownsRow 0 3 1 (.slice ao L.length cap) L.length (ints L)) := Lib.hid (own_frame HO.out fun j hj => hb1.block j (own_lt HO.out hj))
      have HLL := Lib.hid hL
      have hfd := HFD.out w1 ef et ew eu
      clear hb1 hL he
      cases et with
      | false =>
        go_wp2_with fail
        go_roundw
        case rel => exact ⟨k + 1, by omega, by go_num, by rw [HL1.out, if_neg (by decide)]; exact HO1.out, HF.out, HB1.out⟩
        case measure => simp [intOf]; omega
      | true =>
        go_wp2_with (at_builtin; refine wpList_append_sep _ rfl _ _ 35 rfl 3 i0 (.int .i64 0) 1 8 Tryd.underlying35 hi0 hz0 hz1 hz2 rfl (by decide) _ _ _ rfl (HO1.out.alloc _) ⟨w1.heap.size, 0, none⟩ 1 1 [.int .i64 (k : Int)] rfl rfl (cell_one_new _ _ _) (by simp [Value.oneCell']) (by unfold maxLen; omega) (by omega) ?_)
        intro v' wx ho3 hg3 hs3
        obtain ⟨ao2, cap2, rfl⟩ := own_slice ho3
        have HO3 : Hid (wx.ownsRow 0 3 1 (.slice ao2 (L.length + 1) cap2) (L ++ [(k : Int)]).length (ints (L ++ [(k : Int)]))) := Lib.hid (by
          have e1 : ints L ++ [Value.int .i64 (k : Int)] = ints (L ++ [(k : Int)]) := by simp [ints]
          rw [e1] at ho3
          rw [List.length_append]
          exact ho3)
        have HF3 : Hid (∀ j, inRow (.slice ao2 (L.length + 1) cap2) j → w.heap.size ≤ j) := Lib.hid fun j hj => by
          rcases hs3 j hj with h | h
          · exact HF.out j h
          · have h' := h
            try simp at h'
            have := HB1.out.size
            omega
        have HB3 : Hid (Below w.heap.size w wx) := Lib.hid (Below.grown (HB1.out.alloc HB1.out.size _) hg3 (by have := HB1.out.size; simp; omega) (fun j hj => HF.out j hj))
        clear ho3 hg3 hs3
        go_wp2_with fail
        go_roundw
        case rel => exact ⟨k + 1, by omega, by go_num, by rw [HL1.out]; simp only [if_true]; exact HO3.out, HF3.out, HB3.out⟩
        case measure => simp [intOf]; omega
    · obtain rfl : k = 256 := by omega
      obtain ⟨ao, cap, rfl⟩ := own_slice ho
      clear ho hf hb
      go_wp2
      go_ret
      exact ⟨_, rfl, HO.out, HF.out, HB.out⟩
end Go.Proofs.YtnhocmmgdkiepaaDoor

/-
  The document's tables: Add.
-/
namespace Go.Proofs.YtnhocmmgdkiepaaDoor
open Go.RowKit

/-- what Add answers -/
def ZAddQ (z : Zl) (s : Ts) (w : World) (e : Ending) (w' : World) : Prop := ∃ gv', e = .returned (.tuple #[.int .i64 (tAdd s).2.1, .int .i64 (tAdd s).2.2]) ∧ ZtAt w' { z with gv := gv' } (tAdd s).1 ∧ Only z.zw w w' ∧ ∀ k, inRow gv' k → inRow z.gv k ∨ w.heap.size ≤ k

set_option maxRecDepth 100000 in
set_option maxHeartbeats 6400000 in
theorem zadd_many (z : Zl) (s : Ts) (m : Int) (w : World) (h : ZtAt w z s) (hi : TInv m s) (hl : 512 ≤ s.P.length) :
    Calls Tryd.prog 42 #[.pointer (some ⟨z.zb, 0, none⟩)] w (ZAddQ z s w) := by
  have HR : Hid (tAdd s = (s, 0, 104)) := Lib.hid (by unfold tAdd; rw [if_pos hl])
  unfold ZAddQ
  rw [HR.out]
  have HH := Lib.hid h
  obtain ⟨-, -, -, c3, -, ltb⟩ := ZAt.cells h
  obtain ⟨g, cap, hgv, -, -⟩ := ZAt.list h hi.p17
  rw [hgv] at c3
  obtain ⟨L, hL⟩ : ∃ L, s.P.length = L := ⟨_, rfl⟩
  rw [hL] at c3 hl
  have hl2 : (512 : Int) ≤ (L : Int) := by omega
  clear h hi hl HR hL hgv
  go_enter Tryd.func42, Tryd.ntmps42
  go_wp2
  go_ret2
  exact ⟨z.gv, rfl, HH.out, Only.refl _ _, fun _ h => .inl h⟩

set_option maxRecDepth 100000 in
set_option maxHeartbeats 6400000 in
theorem zadd_no (z : Zl) (s : Ts) (m : Int) (w : World) (h : ZtAt w z s) (hi : TInv m s) (hl : ¬ 512 ≤ s.P.length) (hc : (tAddR s).c ≠ 0) :
    Calls Tryd.prog 42 #[.pointer (some ⟨z.zb, 0, none⟩)] w (ZAddQ z s w) := by
  have HR : Hid (tAdd s = (s, 0, (tAddR s).c)) := Lib.hid (by unfold tAdd; rw [if_neg hl, if_neg hc])
  have hFs : (tAddR s).l = s.F := by
    unfold tAddR frAlloc at hc ⊢
    split
    · rename_i hw
      rw [if_pos hw] at hc
      cases hf : frFree s.F with
      | none => rfl
      | some i => rw [hf] at hc; exact absurd rfl hc
    · rfl
  unfold ZAddQ
  rw [HR.out]
  have HH := Lib.hid h
  have HA : Hid (∀ wx, Below w.heap.size w wx → Calls Tryd.prog 77 #[.pointer (some ⟨z.fb, 0, none⟩), .int .i64 s.who] wx (FrNA 152 153 z.fb z.fg s.n (tAddR s) wx)) := Lib.hid fun wx hx => ralloc_any s.F z.fb z.fg s.n s.who wx (fun x hx => (hi.fok x hx).1) (ZAt.below h hx).fr
  have HFS := Lib.hid hFs
  obtain ⟨⟨Rl, Rn, Rc⟩, hR⟩ : ∃ R, tAddR s = R := ⟨_, rfl⟩
  rw [hR] at HA HFS hc ⊢
  dsimp only at HFS hc ⊢
  have hcb : (Rc != 0) = true := by simp; exact hc
  obtain ⟨-, c1, c2, c3, -, ltb⟩ := ZAt.cells h
  obtain ⟨g, cap, hgv, -, -⟩ := ZAt.list h hi.p17
  rw [hgv] at c3
  obtain ⟨L, hL⟩ : ∃ L, s.P.length = L := ⟨_, rfl⟩
  rw [hL] at c3 hl
  have hl2 : ¬ (512 : Int) ≤ (L : Int) := by omega
  clear h hi hl HR hFs hR hc hL hgv
  go_enter Tryd.func42, Tryd.ntmps42
  go_wp2_with fail
  go_region_with (first | (go_at_call 77; refine (HA.out _ (by first | exact (Below.refl _ _).drew | exact Below.refl _ _)).mono ?_; rintro e w2 ⟨rfl, hf2, ho2⟩))
  all_goals
    have HH2 : Hid (ZtAt w2 z s) := Lib.hid ((ZAt.below HH.out (Below.refl _ _).drew).fr' ho2 (HFS.out ▸ hf2))
    have HO2 : Hid (Only z.zw w w2) := Lib.hid ((Only.refl _ _).drew.trans (ztw_f ho2))
    clear hf2 ho2
    go_wp2
    go_ret2
    exact ⟨z.gv, rfl, HH2.out, HO2.out, fun _ h => .inl h⟩

set_option maxRecDepth 100000 in
set_option maxHeartbeats 16000000 in
theorem zadd_ok (z : Zl) (s : Ts) (m : Int) (w : World) (h : ZtAt w z s) (hi : TInv m s) (hl : ¬ 512 ≤ s.P.length) (hc : (tAddR s).c = 0) :
    Calls Tryd.prog 42 #[.pointer (some ⟨z.zb, 0, none⟩)] w (ZAddQ z s w) := by
  obtain ⟨i0, hi0, hz0, hz1, hz2⟩ := info_parts infoPInt
  obtain ⟨i, hil, ho, hR0⟩ := frAlloc_ok hc
  obtain ⟨F1, hF1⟩ : ∃ F1, s.F.set i ⟨s.who, (s.F.getD i default).kind, (s.F.getD i default).wr, (s.F.getD i default).us⟩ = F1 := ⟨_, rfl⟩
  rw [hF1] at hR0
  have hR : tAddR s = ⟨F1, (i : Int), 0⟩ := hR0
  have HR : Hid (tAdd s = ({ s with F := F1, M := fillL s.M i [], P := s.P ++ [(i : Int)] }, (s.P.length : Int), 0)) := Lib.hid (by unfold tAdd; rw [if_neg hl, hR, if_pos rfl]; rfl)
  have hin : i < s.n := by rw [← hi.lf]; exact hil
  have hn1 := hi.n1
  have hno : ∀ x ∈ s.F, x.owner = -1 → x = frNo := fun x hx => (hi.fok x hx).1
  unfold ZAddQ
  rw [HR.out]
  have HH := Lib.hid h
  have HA : Hid (∀ wx, Below w.heap.size w wx → Calls Tryd.prog 77 #[.pointer (some ⟨z.fb, 0, none⟩), .int .i64 s.who] wx (FrNA 152 153 z.fb z.fg s.n ⟨F1, (i : Int), 0⟩ wx)) := Lib.hid fun wx hx => hR0 ▸ ralloc_any s.F z.fb z.fg s.n s.who wx hno (ZAt.below h hx).fr
  have HFL : Hid (∀ wx, MAr wx z.mb z.mv s.n s.M → Calls Tryd.prog 79 #[.pointer (some ⟨z.mb, 0, none⟩), .int .i64 (i : Int), .slice none 0 0] wx fun e w' => e = .returned (.bool true) ∧ MAr w' z.mb z.mv s.n (fillL s.M i []) ∧ Only (fun k => inRow z.mv k) wx w') := Lib.hid fun wx hx => mr_fill_ok s.M [] z.mb s.n i 0 0 none z.mv wx hx hn1 hin (atL_nil _ _) rfl (by decide) (fun a h => by omega)
  obtain ⟨-, c1, c2, c3, -, ltb⟩ := ZAt.cells h
  obtain ⟨g, cap, hgv, -, -⟩ := ZAt.list h hi.p17
  rw [hgv] at c3
  have HGV := Lib.hid hgv
  have hl2 : ¬ (512 : Int) ≤ (s.P.length : Int) := by omega
  have hlen : s.P.length + 1 ≤ 512 := by omega
  obtain ⟨x, hx⟩ : ∃ x : Int, (i : Int) = x := ⟨_, rfl⟩
  rw [hx] at HA HFL
  have HX := Lib.hid hx
  clear h hi hl hc hil ho hR0 hF1 hR HR hin hn1 hno hgv hx
  go_enter Tryd.func42, Tryd.ntmps42
  go_wp2_with fail
  go_region_with (first | (go_at_call 77; refine (HA.out _ (by first | exact (Below.refl _ _).drew | exact Below.refl _ _)).mono ?_; rintro e w2 ⟨rfl, hf2, ho2⟩))
  all_goals
    have HH2 : Hid (ZtAt w2 z { s with F := F1 }) := Lib.hid ((ZAt.below HH.out (Below.refl _ _).drew).fr' ho2 hf2)
    have HO2 : Hid (Only z.zw w w2) := Lib.hid ((Only.refl _ _).drew.trans (ztw_f ho2))
    obtain ⟨d0, -, -, -, -, ltb2⟩ := ZAt.cells HH2.out
    clear hf2 ho2 c1 c2 c3
    go_wp2_with fail
    refine (HFL.out _ (ZAt.mem HH2.out)).mono ?_
    rintro y w3 ⟨rfl, hm3, ho3⟩
    have HH3 : Hid (ZAt w3 z s.n (fillL s.M i []) F1 s.P s.who) := Lib.hid (ZAt.mem' HH2.out ho3 hm3)
    have HO3 := Lib.hid (HO2.out.trans (ztw_m ho3))
    obtain ⟨-, -, -, q3, f3, ltb3⟩ := ZAt.cells HH3.out
    have htl := HH3.out.gl
    have HNT : Hid (¬ inRow z.gv z.zb) := Lib.hid HH3.out.not
    rw [HGV.out] at q3 htl HNT
    have HTL := Lib.hid htl
    clear hm3 ho3 d0 htl
    go_wp2_with (at_builtin; refine wpList_append_sep _ rfl _ _ 35 rfl 3 i0 (.int .i64 0) 1 8 Tryd.underlying35 hi0 hz0 hz1 hz2 rfl (by decide) _ _ _ rfl (HTL.out.alloc _) ⟨w3.heap.size, 0, none⟩ 1 1 [.int .i64 x] rfl rfl (cell_one_new _ _ _) (by simp [Value.oneCell']) (by unfold maxLen; omega) (by omega) ?_)
    intro v' wx ho4 hg4 hs4
    obtain ⟨ao2, cap2, rfl⟩ := own_slice ho4
    have hbx := blk_grown (blk_old HH3.out.row (.cells #[.int .i64 x] 3)) hg4 HNT.out
    have cx : wx.cell? ⟨z.zb, 3, none⟩ = some z.gv := blk_cell hbx 3
    have fx := blk_free hbx 3
    have HON : Hid (Only (fun j => j = z.zb ∨ inRow z.gv j) w3 (wx.setCell ⟨z.zb, 3, none⟩ (.slice ao2 (s.P.length + 1) cap2))) := Lib.hid (by
      rw [HGV.out]
      exact Only.setCell (F := fun j => j = z.zb ∨ inRow (.slice (some ⟨g, 0, none⟩) s.P.length cap) j) ((Only.alloc _ w3 (.cells #[.int .i64 x] 3)).grown hg4 (fun j hj => .inl (.inr hj))) (p := ⟨z.zb, 3, none⟩) (.inl (.inl rfl)) _)
    have hs5 : ∀ j, inRow (.slice ao2 (s.P.length + 1) cap2) j → inRow z.gv j ∨ w3.heap.size ≤ j := fun j hj => by
      rw [HGV.out]
      rcases hs4 j hj with h | h
      · exact .inl h
      · have h' := h
        try simp only [World.size_alloc] at h'
        exact .inr (by omega)
    have HN3 : Hid (ZAt (wx.setCell ⟨z.zb, 3, none⟩ (.slice ao2 (s.P.length + 1) cap2)) { z with gv := .slice ao2 (s.P.length + 1) cap2 } s.n (fillL s.M i []) F1 (s.P ++ [(i : Int)]) s.who) := Lib.hid (HH3.out.list' HON.out (by have := blk_put hbx 3 (.slice ao2 (s.P.length + 1) cap2); exact this) (by
      have e1 : ints s.P ++ [Value.int .i64 x] = ints (s.P ++ [(i : Int)]) := by rw [HX.out]; simp [ints]
      rw [e1] at ho4
      have e2 : (s.P ++ [(i : Int)]).length = s.P.length + 1 := by simp
      rw [e2]
      exact own_set ho4 hbx (by decide) 3 _) hs5)
    have HO5 : Hid (Only z.zw w (wx.setCell ⟨z.zb, 3, none⟩ (.slice ao2 (s.P.length + 1) cap2))) := Lib.hid (HO3.out.trans (HON.out.mono fun k hk => .inl (.inr (.inr hk))))
    have HLV : Hid (∀ k, inRow (.slice ao2 (s.P.length + 1) cap2) k → inRow z.gv k ∨ w.heap.size ≤ k) := Lib.hid fun k hk => by
      rcases hs5 k hk with h | h
      · exact .inl h
      · exact .inr (Nat.le_trans HO3.out.size h)
    have hbs := blk_put hbx 3 (.slice ao2 (s.P.length + 1) cap2)
    obtain ⟨wy, hwy⟩ : ∃ wy, wx.setCell ⟨z.zb, 3, none⟩ (.slice ao2 (s.P.length + 1) cap2) = wy := ⟨_, rfl⟩
    rw [hwy] at hbs HN3 HO5
    have cy : wy.cell? ⟨z.zb, 3, none⟩ = some (.slice ao2 (s.P.length + 1) cap2) := blk_cell hbs 3
    have ltby := blk_lt hbs
    have hsz : IntKind.i64.wrap (((s.P.length + 1 : Nat) : Int) - 1) = (s.P.length : Int) := (IntWalk.i64_in _ (by omega)).trans (by omega)
    have hsz' : IntKind.i64.wrap ((s.P.length : Int) + 1 - 1) = (s.P.length : Int) := (IntWalk.i64_in _ (by omega)).trans (by omega)
    clear ho4 hg4 hs4 hbx q3 f3 hs5 hbs HON
    go_upto_region 8 with fail
    try rw [hwy]
    clear hwy cx fx
    go_wp2
    go_ret2
    exact ⟨_, rfl, HN3.out, HO5.out, HLV.out⟩
theorem zadd_any (z : Zl) (s : Ts) (m : Int) (w : World) (h : ZtAt w z s) (hi : TInv m s) :
    Calls Tryd.prog 42 #[.pointer (some ⟨z.zb, 0, none⟩)] w (ZAddQ z s w) := by
  by_cases hl : 512 ≤ s.P.length
  · exact zadd_many z s m w h hi hl
  · by_cases hc : (tAddR s).c = 0
    · exact zadd_ok z s m w h hi hl hc
    · exact zadd_no z s m w h hi hl hc
end Go.Proofs.YtnhocmmgdkiepaaDoor

/-
  slices.Clone at facade/queue.Update: the copy is in new memory and reads as what was copied; nothing that was there is turned.
-/
namespace Go.Proofs.YtnhocmmgdkiepaaDoor
open Go.RowKit
theorem infoUps : (Tryd.prog.info? 48).map (fun i => (i.zero, i.size, i.bytes)) = some (some (.agg #[.int .i64 0, .int .u32 0]), 2, 16) := by kernel_rfl

set_option maxHeartbeats 400000 in
theorem cloneUps (v : Value) (n : Nat) (xs : List Value) (w : World) (hr : Reads w v n xs) (hn : n * 16 ≤ 140737488355328) (hl : xs.length = n * 2) (h1 : ∀ u ∈ xs, u.oneCell' = true) :
    Calls Tryd.prog 64 #[v] w fun e w' => ∃ v', e = .returned v' ∧ w'.ownsRow 0 48 2 v' n xs ∧ (∀ k, inRow v' k → w.heap.size ≤ k) ∧ Below w.heap.size w w' := by
  obtain ⟨i0, hi, hz0, hz1, hz2⟩ := info_parts infoUps
  rcases hr with ⟨rfl, rfl, rfl⟩ | ⟨a, cap, rfl, hc⟩
  · have heq := fun wx => Lib.run_eql_slice_nil (P := Tryd.prog) wx 51 48 none 0 0 0 0 Tryd.underlying51
    clear hl h1 hn
    go_enter Tryd.func64, Tryd.ntmps64
    go_wp2
    go_ret
    exact ⟨_, rfl, own_nil _ _ _, fun k hk => by simp [inRow, Value.ownBlock] at hk, Below.refl _ _⟩
  · have heq := fun wx => Lib.run_eql_slice_nil (P := Tryd.prog) wx 51 48 (some a) n cap 0 0 Tryd.underlying51
    have HC := Lib.hid hc
    have HL := Lib.hid hl
    have H1 := Lib.hid h1
    clear hc hl h1
    go_enter Tryd.func64, Tryd.ntmps64
    go_wp2_with (at_builtin; refine wpList_append_sep _ rfl _ _ 51 rfl 48 i0 (.agg #[.int .i64 0, .int .u32 0]) 2 16 Tryd.underlying51 hi hz0 hz1 hz2 rfl (by decide) (.slice (some ⟨w.heap.size, 0, none⟩) 0 0) 0 [] rfl (World.ownsRow_made w #[] 0 (Nat.zero_le _) (Nat.zero_le _) rfl) a n cap xs rfl HL.out ?_ H1.out (by unfold maxLen; omega) (by omega) ?_)
    · intro j u hj
      have := HC.out j u hj
      exact (World.cell?_of_block (blk_cell_old this)).trans this
    · intro v' w' ho hg hs
      have hk' : ∀ k, inRow v' k → w.heap.size ≤ k := fun k hk => by
        rcases hs k hk with h | h
        · simp [inRow, Value.ownBlock] at h; omega
        · exact Nat.le_trans (by simp) h
      have hb : Below w.heap.size w w' := ((Below.refl _ _).alloc (Nat.le_refl _) _).grown hg (by simp) (fun k hk => by simp [Value.ownBlock] at hk; omega)
      have ho' : w'.ownsRow 0 48 2 v' n xs := by simpa using ho
      clear ho hg hs HC HL H1
      go_wp2
      go_ret
      exact ⟨_, rfl, ho', hk', hb⟩
end Go.Proofs.YtnhocmmgdkiepaaDoor

/-
  The fields of a struct that came in, read off its cells: numbers, bools, rows of numbers.
-/
namespace Go.Proofs.YtnhocmmgdkiepaaDoor
open Go.ChangeShapes Go.WideShapes Go.ChangeAt Go.RowKit Go.Joins
section
variable {H : Type} {enc : TypeId × Value → H} {P : Program} {w : World} {base : Nat} {spare : Nat → Bool} {held : Bool} {n : Nat}

theorem cut1 {cs : List Value} {o : Nat} {v : Value} (h : (cs.drop o).take 1 = [v]) : cs[o]? = some v := by
  have := congrArg (fun l => l[0]?) h
  simpa [List.getElem?_take, List.getElem?_drop] using this
theorem fld_int {cs : List Value} {o : Nat} {t : TypeId} {k : IntKind} {y : DataW H × List MemPlace} (ht : P.underlying t = some (.int k)) (hc : P.cellsOf t = 1)
    (h : DataW.trod enc P w base spare held n t ((cs.drop o).take (P.cellsOf t)) = some y) : ∃ z, cs[o]? = some (.int k z) ∧ (Lit.int k z).wf = true := by
  rw [hc] at h
  obtain ⟨z, e, -, wz⟩ := DataW.trod_int ht h
  exact ⟨z, cut1 e, wz⟩
theorem fld_bool {cs : List Value} {o : Nat} {t : TypeId} {y : DataW H × List MemPlace} (ht : P.underlying t = some .bool) (hc : P.cellsOf t = 1)
    (h : DataW.trod enc P w base spare held n t ((cs.drop o).take (P.cellsOf t)) = some y) : ∃ z, cs[o]? = some (.bool z) := by
  rw [hc] at h
  obtain ⟨z, e, -⟩ := DataW.trod_bool ht h
  exact ⟨z, cut1 e⟩
theorem ints_row {k : IntKind} : ∀ {m : Nat} {l : List Value}, l.length = m → (∀ i, i < m → ∃ z, l[i]? = some (.int k z) ∧ (Lit.int k z).wf = true) → ∃ zs : List Int, zs.length = m ∧ l = zs.map (Value.int k) ∧ ∀ z ∈ zs, (Lit.int k z).wf = true
  | 0, l, hl, _ => ⟨[], rfl, List.eq_nil_of_length_eq_zero hl, by simp⟩
  | m + 1, [], hl, _ => by simp at hl
  | m + 1, v :: l, hl, h => by
    obtain ⟨z, hz, wz⟩ := h 0 (by omega)
    simp at hz
    subst hz
    obtain ⟨zs, h1, h2, h3⟩ := ints_row (l := l) (m := m) (by simpa using hl) (fun i hi => by simpa using h (i + 1) (by omega))
    exact ⟨z :: zs, by simp [h1], by simp [h2], by simp [wz]; exact h3⟩
theorem fld_ints {cs : List Value} {o m : Nat} {t e : TypeId} {k : IntKind} {y : DataW H × List MemPlace} (ht : P.underlying t = some (.array m e)) (he : P.underlying e = some (.int k)) (hce : P.cellsOf e = 1) (hc : P.cellsOf t = m)
    (h : DataW.trod enc P w base spare held n t ((cs.drop o).take (P.cellsOf t)) = some y) : ∃ zs : List Int, zs.length = m ∧ (cs.drop o).take m = zs.map (Value.int k) ∧ ∀ z ∈ zs, (Lit.int k z).wf = true := by
  obtain ⟨xs, n', -, -, hl, hx, hi⟩ := DataW.trod_array ht h
  rw [hc] at hl hi
  refine ints_row hl fun i him => ?_
  have hsome : ∃ y, xs[i]? = some y := ⟨_, List.getElem?_eq_getElem (by omega)⟩
  obtain ⟨y', hy'⟩ := hsome
  have := (hi i him).trans hy'
  rw [hce] at this
  obtain ⟨z, e', -, wz⟩ := DataW.trod_int he this
  rw [Nat.mul_one] at e'
  exact ⟨z, cut1 e', wz⟩
end
end Go.Proofs.YtnhocmmgdkiepaaDoor

/-
  Slices of structs that came in: each element's cells. Over any program.
-/
namespace Go.Proofs.YtnhocmmgdkiepaaDoor
open Go.ChangeShapes Go.WideShapes Go.ChangeAt Go.RowKit Go.Joins Go.Deep

theorem flat_get {α : Type} (cells : α → List Value) (C : Nat) (h0 : 0 < C) : ∀ (l : List α) (k : Nat) (u : Value), (∀ x ∈ l, (cells x).length = C) → (l.flatMap cells)[k]? = some u → ∃ x, l[k / C]? = some x ∧ (cells x)[k % C]? = some u
  | [], k, u, _, h => by simp at h
  | x :: l, k, u, hl, h => by
    rw [List.flatMap_cons, List.getElem?_append, hl x (by simp)] at h
    by_cases hk : k < C
    · rw [if_pos hk] at h
      exact ⟨x, by rw [Nat.div_eq_of_lt hk]; rfl, by rw [Nat.mod_eq_of_lt hk]; exact h⟩
    · rw [if_neg hk] at h
      obtain ⟨y, h1, h2⟩ := flat_get cells C h0 l (k - C) u (fun x hx => hl x (by simp [hx])) h
      refine ⟨y, ?_, ?_⟩
      · rw [Nat.div_eq_sub_div h0 (by omega), List.getElem?_cons_succ]
        exact h1
      · rw [Nat.mod_eq_sub_mod (by omega)]
        exact h2

theorem open_structs {H : Type} {enc : TypeId × Value → H} {P : Program} {W : World} {t e : TypeId} {C : Nat} {v : Value} {d : DataW H} {p : List MemPlace} {r : Reach} {b0 : Nat}
    (ht : P.underlying t = some (.slice e)) (hC : P.cellsOf e = C) (h0 : 0 < C) {α : Type} [Inhabited α] (cells : α → List Value) (ok : α → Prop) (hv : Value.okWide P W r b0 t v) (h : DataW.Trod enc P W 0 (fun _ => true) true t v d p)
    (hK : ∀ n cs y, cs.length = C → DataW.trod enc P W 0 (fun _ => true) true n e cs = some y → ∃ x, cs = cells x ∧ ok x) :
    ∃ (ao : Option Addr) (cap : Nat) (l : List α), v = .slice ao l.length cap ∧ l.length ≤ maxLen ∧ (∀ x ∈ l, ok x) ∧ AtL W ao (l.flatMap cells) ∧ l.length ≤ cap := by
  obtain ⟨a0, len, cap, rfl⟩ := okWide_slice ht hv
  obtain ⟨fuel, hf⟩ := h
  rcases open_slice ht hf with ⟨hcs, _⟩ | ⟨a, l, c, m, n, D, Pl, hcs, _, hl, hm, hmm, _, hi⟩
  · simp [Value.cells] at hcs
    obtain ⟨rfl, rfl, rfl⟩ := hcs
    exact ⟨none, 0, [], rfl, by simp, by simp, atL_nil _ _, by simp⟩
  · simp [Value.cells] at hcs
    obtain ⟨rfl, rfl, rfl⟩ := hcs
    have hmc : m = cap := by simpa using hmm
    subst hmc
    have hx : ∀ i, i < m → ∃ x : α, ok x ∧ (cells x).length = C ∧ ∀ j u, (cells x)[j]? = some u → W.cell? (a.add (i * C + j)) = some u := fun i him => by
      obtain ⟨cs, hc, hd⟩ := hi i him
      rw [hC] at hc
      obtain ⟨_, hcl, hat⟩ := World.cells?_some hc
      obtain ⟨x, rfl, hok⟩ := hK _ _ _ hcl hd
      refine ⟨x, hok, hcl, fun j u hj => ?_⟩
      have hjl := (List.getElem?_eq_some_iff.1 hj).1
      rw [← Go.Deep.add_add, hat j (by omega)]
      exact hj
    obtain ⟨f, hfx⟩ := choose_lt (α := α) hx
    have hlen : ((List.range len).map f).length = len := by simp
    refine ⟨some a, m, (List.range len).map f, by rw [hlen], by rw [hlen]; omega, ?_, ?_, by rw [hlen]; exact hl⟩
    · intro x hx
      simp only [List.mem_map, List.mem_range] at hx
      obtain ⟨i, hil, rfl⟩ := hx
      exact (hfx i (by omega)).1
    · intro k u hk
      obtain ⟨x, h1, h2⟩ := flat_get cells C h0 _ k u (fun x hx => by
        simp only [List.mem_map, List.mem_range] at hx
        obtain ⟨i, hil, rfl⟩ := hx
        exact (hfx i (by omega)).2.1) hk
      have hkl := (List.getElem?_eq_some_iff.1 h1).1
      rw [hlen] at hkl
      simp only [List.getElem?_map, List.getElem?_range hkl, Option.map_some, Option.some.injEq] at h1
      subst h1
      have hcell := (hfx (k / C) (Nat.lt_of_lt_of_le hkl hl)).2.2 _ u h2
      have e : k / C * C + k % C = k := by rw [Nat.mul_comm]; exact Nat.div_add_mod k C
      rw [e] at hcell
      have hspot : a.spot = none := by
        have h2 := (hfx 0 (Nat.lt_of_lt_of_le (Nat.lt_of_le_of_lt (Nat.zero_le _) hkl) hl)).2
        obtain ⟨u0, hu0⟩ : ∃ u0, (cells (f 0))[0]? = some u0 := ⟨_, List.getElem?_eq_getElem (by rw [h2.1]; exact h0)⟩
        have hs := World.cell?_spot (h2.2 0 u0 hu0)
        simpa [Addr.add] using hs
      obtain ⟨b, off, spot⟩ := a
      have hspot' : spot = none := hspot
      subst hspot'
      rw [Addr.add_lit] at hcell
      exact ⟨b, off, rfl, hcell, World.block_lt_of_cell? W ⟨b, off + k, none⟩ hcell⟩

/-- one field of a struct's cells -/
theorem one_of {cs : List Value} {o : Nat} {v : Value} (h : cs[o]? = some v) (hl : o < cs.length) : cs[o] = v := by
  rw [List.getElem?_eq_getElem hl] at h
  exact Option.some.inj h

theorem bls_flat (l : List Bool) : (l.flatMap fun b : Bool => [Value.bool b]) = bls l := by
  induction l with
  | nil => rfl
  | cons x l ih =>
    rw [List.flatMap_cons, ih]
    rfl

theorem open_bools {H : Type} {enc : TypeId × Value → H} {P : Program} {W : World} {t e : TypeId} {v : Value} {d : DataW H} {p : List MemPlace} {r : Reach} {b0 : Nat}
    (ht : P.underlying t = some (.slice e)) (he : P.underlying e = some .bool) (hC : P.cellsOf e = 1) (hv : Value.okWide P W r b0 t v) (h : DataW.Trod enc P W 0 (fun _ => true) true t v d p) :
    ∃ (ao : Option Addr) (cap : Nat) (l : List Bool), v = .slice ao l.length cap ∧ l.length ≤ maxLen ∧ AtL W ao (bls l) ∧ l.length ≤ cap := by
  obtain ⟨ao, cap, l, e1, e2, -, e3, e4⟩ := open_structs ht hC (by decide) (fun b : Bool => [.bool b]) (fun _ => True) hv h (fun n cs y hl hd => by
    obtain ⟨b, e, -⟩ := DataW.trod_bool he hd
    exact ⟨b, e, trivial⟩)
  refine ⟨ao, cap, l, e1, e2, ?_, e4⟩
  rw [← bls_flat]
  exact e3
end Go.Proofs.YtnhocmmgdkiepaaDoor

/-
  queue.Queue: Put where no more may wait; All; updates that came in.
-/
namespace Go.Proofs.YtnhocmmgdkiepaaDoor
open Go.ChangeShapes Go.WideShapes Go.ChangeAt Go.RowKit Go.Joins

theorem upCells_one (l : List Up) : ∀ u ∈ upCells l, u.oneCell' = true := by
  intro u hu
  obtain ⟨x, -, hx⟩ := List.mem_flatMap.1 hu
  simp only [upOne, List.mem_cons, List.not_mem_nil, or_false] at hx
  rcases hx with rfl | rfl <;> rfl
theorem upCells_len (l : List Up) : (upCells l).length = l.length * 2 := rec_len upOne 2 upOne_len l

set_option maxHeartbeats 1600000 in
theorem qall_any (l : List Up) (b : Nat) (v : Value) (w : World) (h : QuAt w b v l) (hl : l.length ≤ 100000) :
    Calls Tryd.prog 31 #[.pointer (some ⟨b, 0, none⟩)] w fun e w' => ∃ v', e = .returned v' ∧ w'.ownsRow 0 48 2 v' l.length (upCells l) ∧ (∀ k, inRow v' k → w.heap.size ≤ k) ∧ Below w.heap.size w w' := by
  have c := h.cell
  have HC := Lib.hid (cloneUps v l.length (upCells l) w (own_reads h.2) (by omega) (upCells_len l) (upCells_one l))
  clear h
  go_enter Tryd.func31, Tryd.ntmps31
  go_wp2_with fail
  refine HC.out.mono ?_
  rintro y w1 ⟨v', rfl, ho, hr, hb⟩
  have HF := Lib.hid (And.intro ho (And.intro hr hb))
  obtain ⟨ao, cap, rfl⟩ := own_slice ho
  clear ho hb hr
  go_wp2
  go_ret
  exact ⟨_, rfl, HF.out⟩

set_option maxHeartbeats 1600000 in
theorem qput_full (E : Nat → Addr) (l : List Up) (b : Nat) (v : Value) (x y : Int) (w : World) (hE : ErrsAt errT gOf w E nine) (h : QuAt w b v l) (hl : ¬ l.length < 16) :
    Calls Tryd.prog 28 #[.pointer (some ⟨b, 0, none⟩), .agg #[.int .i64 x, .int .u32 y]] w fun e w' => e = .returned (errC E 113) ∧ Below w.heap.size w w' := by
  have hb0 : Below w.heap.size w (w.alloc (.cells #[.int .i64 x, .int .u32 y] 48)) := (Below.refl _ _).alloc (Nat.le_refl _) _
  have c := (h.below hb0).cell
  have lb := blk_lt h.1
  have e12 : (w.alloc (.cells #[.int .i64 x, .int .u32 y] 48)).cell? ⟨3, 0, none⟩ = some (errV (E 12)) := ((hE.mono hb0).1 12 (by decide)).1
  have e12' : w.cell? ⟨3, 0, none⟩ = some (errV (E 12)) := (hE.1 12 (by decide)).1
  have g12 := World.block_lt_of_cell? _ _ e12'
  obtain ⟨ao, cap, rfl⟩ := h.slice
  obtain ⟨L, hL⟩ : ∃ L, l.length = L := ⟨_, rfl⟩
  rw [hL] at c hl
  have hl2 : (16 : Int) ≤ (L : Int) := by omega
  have HB := Lib.hid hb0
  have HEC : Hid (errC E 113 = errV (E 12)) := Lib.hid rfl
  rw [HEC.out]
  clear hE h hb0 hl hL
  go_enter Tryd.func28, Tryd.ntmps28
  go_wp2
  go_ret
  exact ⟨rfl, HB.out⟩

/-- updates that came in -/
def upOk (u : Up) : Prop := (-9223372036854775808 ≤ u.page ∧ u.page ≤ 9223372036854775807) ∧ W32 u.word
set_option maxRecDepth 100000 in
theorem open_ups {H : Type} {enc : TypeId × Value → H} {W : World} {v : Value} {d : DataW H} {p : List MemPlace} {r : Reach} {b0 : Nat}
    (hv : Value.okWide Tryd.prog W r b0 51 v) (h : DataW.Trod enc Tryd.prog W 0 (fun _ => true) true 51 v d p) :
    ∃ (ao : Option Addr) (cap : Nat) (l : List Up), v = .slice ao l.length cap ∧ l.length ≤ maxLen ∧ (∀ x ∈ l, upOk x) ∧ AtL W ao (l.flatMap upOne) ∧ l.length ≤ cap :=
  open_structs (C := 2) Tryd.underlying51 (by kernel_rfl) (by decide) upOne upOk hv h fun n cs y hl hd => by
    obtain ⟨xs, n', -, -, hxl, hx, hi⟩ := DataW.trod_struct Tryd.underlying48 hd
    have hx6 : xs.length = 2 := hx
    have get : ∀ i, i < 2 → ∃ y, xs[i]? = some y := fun i hi => ⟨_, List.getElem?_eq_getElem (by omega)⟩
    obtain ⟨y0, g0⟩ := get 0 (by omega)
    obtain ⟨y1, g1⟩ := get 1 (by omega)
    obtain ⟨a, e0, w0⟩ := fld_int Tryd.underlying3 (by kernel_rfl) ((hi 0 _ rfl).trans g0)
    obtain ⟨b, e1, w1⟩ := fld_int Tryd.underlying43 (by kernel_rfl) ((hi 1 _ rfl).trans g1)
    refine ⟨⟨a, b⟩, ?_, by simpa [Lit.wf, IntKind.min, IntKind.max, IntKind.signed, IntKind.bits] using w0, by simpa [W32, Lit.wf, IntKind.min, IntKind.max, IntKind.signed, IntKind.bits] using w1⟩
    match cs, hl with
    | [b0, b1], _ =>
      have q0 : some b0 = some _ := e0
      have q1 : some b1 = some _ := e1
      cases q0
      cases q1
      rfl
end Go.Proofs.YtnhocmmgdkiepaaDoor

/-
  Tables stay while updates wait beside them.
-/
namespace Go.Proofs.YtnhocmmgdkiepaaDoor
open Go.RowKit

theorem qs_keep {w w' : World} {p : Pl} {s : Ts} {qb : Nat} {qv : Value} (h : PtAt w p s) (ho : Only (fun k => k = qb ∨ inRow qv k) w w') (hz : ∀ k, (p.z0 k ∨ p.z1 k ∨ p.z2 k ∨ p.z3 k) → k < qb) (hr : ∀ j, inRow qv j → qb < j) : PtAt w' p s := by
  have hn : ∀ k, k < qb → ¬ (k = qb ∨ inRow qv k) := fun k hk e => by
    rcases e with e | e
    · omega
    · have := hr k e; omega
  exact h.keep ho (fun k h => hn k (hz k (.inl h))) (fun k h => hn k (hz k (.inr (.inl h)))) (fun k h => hn k (hz k (.inr (.inr (.inl h))))) (fun k h => hn k (hz k (.inr (.inr (.inr h)))))
theorem qs_below {w wr w1 : World} {qb : Nat} {qv : Value} (h : Below w.heap.size w wr) (ho : Only (fun k => k = qb ∨ inRow qv k) wr w1) (hq : w.heap.size ≤ qb) (hr : ∀ j, inRow qv j → qb < j) : Below w.heap.size w w1 :=
  h.trans (ho.below (B := w.heap.size) h.size fun j hj => by
    rcases hj with hj | hj
    · rw [hj]; exact hq
    · exact Nat.le_trans hq (Nat.le_of_lt (hr j hj)))
theorem qs_beyond {wr : World} {qb : Nat} {qv qv' : Value} {l : List Up} (h : QuAt wr qb qv l) (h1 : ∀ k, inRow qv' k → inRow qv k ∨ wr.heap.size ≤ k) (hr : ∀ j, inRow qv j → qb < j) : ∀ j, inRow qv' j → qb < j := fun j hj => by
  rcases h1 j hj with h' | h'
  · exact hr j h'
  · have := blk_lt h.1; omega
theorem qs_apart {p : Pl} {qb : Nat} {qv : Value} (hz : ∀ k, (p.z0 k ∨ p.z1 k ∨ p.z2 k ∨ p.z3 k) → k < qb) (hr : ∀ j, inRow qv j → qb < j) : (∀ k, inRow qv k → ¬ p.zw k) ∧ ¬ p.zw qb ∧ ¬ p.z0 qb := by
  have hw : ∀ k, p.zw k → k < qb := fun k h => by
    rcases h with h | h | h | h
    · exact hz k (.inr (.inl h))
    · exact hz k (.inr (.inr (.inl h)))
    · exact hz k (.inr (.inr (.inr (.inl h))))
    · exact hz k (.inr (.inr (.inr (.inr h))))
  exact ⟨fun k hk h => by have := hw k h; have := hr k hk; omega, fun h => Nat.lt_irrefl _ (hw _ h), fun h => Nat.lt_irrefl _ (hz _ (.inl h))⟩
end Go.Proofs.YtnhocmmgdkiepaaDoor

