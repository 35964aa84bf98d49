/-
  Parts of one proof, one behind the other.
-/
import Derived.Test.YtaoaachgnnengaaDoorMg3caecd60dc
import Derived.Test.YtaoaachgnnengaaDoorMged77e2d291
import Derived.Test.YtaoaachgnnengaaDoorMgd4a305c615
/-
  TablesSafe: the walk. Given where the sentinels lie.
-/
namespace Go.Proofs.YtaoaachgnnengaaDoor
open Go.RowKit

theorem infoIntS : (Tryd.prog.info? 3).map (fun i => (i.zero, i.size, i.bytes)) = some (some (.int .i64 0), 1, 8) := by kernel_rfl
theorem made_ints (n : Nat) (h : n ≤ 1000000) : ∃ Z : Array Value, Z.toList = ints (List.replicate n 0) ∧ ∀ w : World, (Instr.makeSlice 37 (.int .i64 (n : Int)) (.int .i64 (n : Int))).run Tryd.prog w = .ok (.slice (some ⟨w.heap.size, 0, none⟩) n n) (w.alloc (.cells Z 3)) := by
  obtain ⟨i, hi, hz0, hz1, hz2⟩ := info_parts infoIntS
  refine ⟨madeCells #[.int .i64 0] n, ?_, fun w => ?_⟩
  · rw [toList_madeCells_one]
    simp [ints]
  · have e := run_make (P := Tryd.prog) w 37 3 i (.int .i64 0) Tryd.underlying37 hi hz0 .i64 .i64 n n (by omega) (by omega) (by rw [hz2]; omega) (by omega)
    rw [e, hz1, Int.toNat_natCast, Nat.mul_one]
    rfl
theorem cell_of {w : World} {b : Nat} {T : TypeId} {l : List Int} (h : w.heap[b]? = some (.cells (ints l).toArray T (0, 0))) (k : Nat) (hk : k < l.length) : w.cell? ⟨b, k, none⟩ = some (.int .i64 (l.getD k 0)) := by
  rw [blk_cell h k, List.getElem?_toArray, ints_get' l k hk]
theorem set_of {w : World} {b : Nat} {T : TypeId} {l : List Int} (h : w.heap[b]? = some (.cells (ints l).toArray T (0, 0))) (k : Nat) (x : Int) : (w.setCell ⟨b, k, none⟩ (.int .i64 x)).heap[b]? = some (.cells (ints (l.set k x)).toArray T (0, 0)) := by
  have := blk_put h k (.int .i64 x)
  rw [this]
  simp [ints, List.map_set]
def SfA (l : List TDo) (s : Ts) (tb zb mb fb : Nat) (w : World) (i : Value) (wr : World) : Prop := ∃ (k : Nat) (p : Pl) (z : Zl), k ≤ l.length ∧ i = .int .i64 (k : Int) ∧ (p.tb = tb ∧ p.mb = mb ∧ p.fb = fb ∧ z.zb = zb) ∧ Tw w wr p z (tDosN s l k) (tDosN s l k)
def SfB (S : Ts) (N L a b : Nat) (w : World) (i : Value) (wr : World) : Prop := ∃ k : Nat, k ≤ L ∧ i = .int .i64 (k : Int) ∧ Below w.heap.size w wr ∧ wr.heap[a]? = some (.cells (ints (cw (tEnt S) true N ((tLive S).take k))).toArray 3 (0, 0)) ∧ wr.heap[b]? = some (.cells (ints (cw (tEnt S) false N ((tLive S).take k))).toArray 3 (0, 0))
def SfD (fr : Int) (ew : Bool) (w : World) (x y : Value) (wx : World) : Prop := ∃ eb, x = .pointer (some ⟨eb, 0, none⟩) ∧ y = .bool true ∧ Below w.heap.size w wx ∧ wx.heap[eb]? = some (.cells #[.int .i64 fr, .bool true, .bool ew, .bool true] 68 (0, 0))
theorem set_four {w : World} {b : Nat} {a1 a2 a3 a4 b1 b2 b3 b4 : Value} {T : TypeId} (h : w.heap[b]? = some (.cells #[a1, a2, a3, a4] T (0, 0))) : ((((w.setCell ⟨b, 0, none⟩ b1).setCell ⟨b, 1, none⟩ b2).setCell ⟨b, 2, none⟩ b3).setCell ⟨b, 3, none⟩ b4).heap[b]? = some (.cells #[b1, b2, b3, b4] T (0, 0)) := by
  have := blk_put (blk_put (blk_put (blk_put h 0 b1) 1 b2) 2 b3) 3 b4
  exact this
theorem set_else {w : World} {a b : Nat} {o : Obj} (h : w.heap[b]? = some o) (hn : a ≠ b) (k : Nat) (u : Value) : (w.setCell ⟨a, k, none⟩ u).heap[b]? = some o := by
  rw [Below.heap_setCell _ _ _ _ (fun e => hn e.symm)]
  exact h
def SfC (n : Nat) (w : World) (i : Value) (wr : World) : Prop := ∃ k : Nat, k ≤ n ∧ i = .int .i64 (k : Int) ∧ Below w.heap.size w wr

set_option maxRecDepth 100000 in
set_option maxHeartbeats 64000000 in
theorem tablesSafe_some (E : Nat → Addr) (x0 : Int) (l : List TDo) (ao : Option Addr) (cap : Nat) (w : World) (hE : ErrsAt errT gOf w E all16) (h0 : -9223372036854775808 ≤ x0 ∧ x0 ≤ 9223372036854775807) (hl : AtL w ao (l.flatMap tdoCells)) (hle : l.length ≤ 60) :
    Calls Tryd.prog 8 #[.int .i64 x0, .slice ao l.length cap] w fun y w' => y = .returned (.bool true) ∧ Below w.heap.size w w' := by
  have HE16 : Hid (∀ wx, Below w.heap.size w wx → ErrsAt errT gOf wx E all16) := Lib.hid fun wx h => hE.mono h
  have HF1 := Lib.hid (tfirst_true E w hE)
  have HN1 := Lib.hid (fun wx => number_any x0 30 wx h0.1 h0.2 (by decide) (by decide))
  have HL := Lib.hid hl
  obtain ⟨xm, hxm⟩ : ∃ xm, x0 % 30 = xm := ⟨_, rfl⟩
  have hr : 0 ≤ xm ∧ xm < 30 := by omega
  rw [hxm] at HN1
  obtain ⟨n, hn⟩ : ∃ n : Nat, (n : Int) = xm + 21 := ⟨(xm + 21).toNat, by omega⟩
  have wk : IntKind.i64.wrap (xm + 21) = (n : Int) := (IntWalk.i64_in (xm + 21) (by omega)).trans hn.symm
  have HNB : Hid (21 ≤ n ∧ n ≤ 60) := Lib.hid (by omega)
  have HLE := Lib.hid hle
  have hlen : ¬ (60 : Int) < (l.length : Int) := by omega
  have HSN := Lib.hid (ts_new n 2 1 (by unfold frOwns; omega) (by omega) (by omega))
  clear hE h0 hl hle hxm hr hn
  go_enter Tryd.func8, Tryd.ntmps8
  go_wp2_with fail
  refine HF1.out.mono ?_
  rintro y w0 ⟨rfl, hb0⟩
  have HB0 := Lib.hid hb0
  clear hb0
  go_wp2_with fail
  refine (HN1.out _).mono ?_
  rintro y wq ⟨rfl, rfl⟩
  have HM := Lib.hid (made_any E n 2 w0 (HE16.out _ HB0.out) (by have := HNB.out; omega) (by have := HNB.out; omega))
  go_wp2_with fail
  refine HM.out.mono ?_
  rintro y w1 ⟨p, z, rfl, htw, hwm⟩
  have HT1 : Hid (Tw w w1 p z (tNew n 2 1) (tNew n 2 1)) := Lib.hid ⟨htw.pt, htw.zt, htw.ap, fun k hk => Nat.le_trans HB0.out.size (htw.pb k hk), fun k hk => Nat.le_trans HB0.out.size (htw.zb k hk), HB0.out.trans (htw.b.mono HB0.out.size)⟩
  obtain ⟨S0, hS0⟩ : ∃ S0, tNew n 2 1 = S0 := ⟨_, rfl⟩
  have HW0 : Hid (S0.who = 1 ∧ S0.n = n) := Lib.hid (by rw [← hS0]; exact ⟨rfl, rfl⟩)
  rw [hS0] at HT1 HSN
  obtain ⟨tb, htb⟩ : ∃ x, p.tb = x := ⟨_, rfl⟩
  obtain ⟨zb, hzb⟩ : ∃ x, z.zb = x := ⟨_, rfl⟩
  obtain ⟨mb, hmb⟩ : ∃ x, p.mb = x := ⟨_, rfl⟩
  obtain ⟨fb, hfb⟩ : ∃ x, p.fb = x := ⟨_, rfl⟩
  have HSTA : Hid (SfA l S0 tb zb mb fb w (.int .i64 0) w1) := Lib.hid ⟨0, p, z, Nat.zero_le _, rfl, ⟨htb, hmb, hfb, hzb⟩, HT1.out⟩
  rw [htb, hzb, hmb, hfb]
  clear htw hwm htb hzb hmb hfb hS0 HT1 HM
  go_wp2_with fail
  go_loopw [10] (fun i wr => SfA l S0 tb zb mb fb w i wr) (fun i _ => l.length - (intOf i).toNat)
  case atStart => exact HSTA.out
  case round =>
    obtain ⟨j, p, z, hj, rfl, ⟨rfl, rfl, rfl, rfl⟩, htw⟩ := hrel
    have HT := Lib.hid htw
    clear htw HSTA
    by_cases hlt : j < l.length
    · have hji : (j : Int) < (l.length : Int) := by omega
      have wj := IntWalk.i64_in ((j : Int) + 1) (by have := HLE.out; omega)
      obtain ⟨sb, so, rfl, hbl, hcl⟩ := tdo_at HL.out j hlt
      obtain ⟨d0, d1, d2, d3, d4, d5, d6, d7⟩ := hcl wr HT.out.b
      have HI : Hid (TSafe (1 + 2 * (j : Int)) (tDosN S0 l j) ∧ (tDosN S0 l j).who = S0.who) := Lib.hid ⟨(tDosN_safe HSN.out l j).1, (tDosN_safe HSN.out l j).2.1⟩
      have HDO := Lib.hid (tdoes_any E w p z (tDosN S0 l j) (1 + 2 * (j : Int)) (l.getD j default) wr HE16.out HT.out HI.out.1.inv (by have := HLE.out; omega))
      have HSU : Hid (tDosN S0 l (j + 1) = if (l.getD j default).kind = 3 then tDosN S0 l j else tDo (tDosN S0 l j) (l.getD j default)) := Lib.hid rfl
      obtain ⟨⟨kd, xa, xb, ⟨ef, et, ew, eu⟩, is⟩, hx⟩ : ∃ x, l.getD j default = x := ⟨_, rfl⟩
      rw [hx] at d0 d1 d2 d3 d4 d5 d6 d7 HDO HSU
      dsimp only at d0 d1 d2 d3 d4 d5 d6 d7 HDO HSU
      obtain ⟨tb, htb⟩ : ∃ x, p.tb = x := ⟨_, rfl⟩
      obtain ⟨zb, hzb⟩ : ∃ x, z.zb = x := ⟨_, rfl⟩
      rw [htb, hzb] at HDO
      have HPT := Lib.hid (And.intro htb hzb)
      have hbw : sb < wr.heap.size := Nat.lt_of_lt_of_le hbl HT.out.b.size
      rw [htb, hzb]
      clear hx hcl htb hzb
      by_cases h3 : kd = 3
      · subst h3
        rw [if_pos rfl] at HSU
        go_wp2_with fail
        go_roundw
        case rel => exact ⟨j + 1, p, z, by omega, by go_num, ⟨HPT.out.1, rfl, rfl, HPT.out.2⟩, by rw [HSU.out]; exact HT.out⟩
        case measure => simp [intOf]; omega
      · rw [if_neg h3] at HSU
        have h3b : (kd == 3) = false := by simpa using h3
        clear h3
        go_wp2_with fail
        refine HDO.out.mono ?_
        rintro y w2 ⟨rfl, p', z', ⟨e1, e2, e3, e4, -, -⟩, htw2⟩
        have HT2 := Lib.hid htw2
        clear htw2
        go_wp2_with fail
        go_roundw
        case rel => exact ⟨j + 1, p', z', by omega, by go_num, ⟨e1.trans HPT.out.1, e2, e3, e4.trans HPT.out.2⟩, by rw [HSU.out]; exact HT2.out⟩
        case measure => simp [intOf]; omega
    · have hjl : j = l.length := by omega
      have hji : ¬ (j : Int) < (l.length : Int) := by omega
      have hsf := tDosN_safe HSN.out l j
      have HS : Hid (TSafe (1 + 2 * (j : Int)) (tDosN S0 l j) ∧ (tDosN S0 l j).who = 1 ∧ (tDosN S0 l j).n = n) := Lib.hid ⟨hsf.1, hsf.2.1.trans HW0.out.1, hsf.2.2.trans HW0.out.2⟩
      obtain ⟨S, hS⟩ : ∃ S, tDosN S0 l j = S := ⟨_, rfl⟩
      obtain ⟨m, hm⟩ : ∃ m : Int, 1 + 2 * (j : Int) = m := ⟨_, rfl⟩
      rw [hS] at HT HS
      rw [hm] at HS
      have HLV := Lib.hid (tlive_any p S m wr HT.out.pt HS.out.1.inv)
      obtain ⟨tb, htb⟩ : ∃ x, p.tb = x := ⟨_, rfl⟩
      obtain ⟨mb, hmb⟩ : ∃ x, p.mb = x := ⟨_, rfl⟩
      obtain ⟨fb, hfb⟩ : ∃ x, p.fb = x := ⟨_, rfl⟩
      have HPT := Lib.hid (And.intro htb (And.intro hmb hfb))
      rw [htb] at HLV
      rw [htb, hmb, hfb]
      obtain ⟨L, hL⟩ : ∃ L, (tLive S).length = L := ⟨_, rfl⟩
      have HLL : Hid ((tLive S).length = L ∧ L ≤ 256) := Lib.hid ⟨hL, by rw [← hL]; exact tLiveN_len S 256⟩
      rw [hL] at HLV
      obtain ⟨Z, hZ, hmk⟩ := made_ints n (by have := HNB.out; omega)
      have HZ := Lib.hid hZ
      clear hsf hS hm htb hmb hfb hL hjl hZ
      go_wp2_with fail
      refine HLV.out.mono ?_
      rintro y w2 ⟨lv, rfl, hown, hfr, hb2⟩
      obtain ⟨lo, lc, rfl⟩ := own_slice hown
      have HLC : Hid (∀ k, k < L → ∃ g, lo = some ⟨g, 0, none⟩ ∧ g < w2.heap.size ∧ ∀ wx, Below w2.heap.size w2 wx → wx.cell? ⟨g, k, none⟩ = some (.int .i64 ((tLive S).getD k 0))) := Lib.hid fun k hk => by
        rcases own_shape hown with ⟨-, hz, -⟩ | ⟨g, c2, he, -⟩
        · omega
        · cases he
          have hg := own_lt hown (show inRow _ g from rfl)
          refine ⟨g, rfl, hg, fun wx hx => ?_⟩
          have h2 : wx.ownsRow 0 3 1 (.slice (some ⟨g, 0, none⟩) L lc) L (ints (tLive S)) := own_only hown (Only.of_below (F := fun _ => False) hx) (fun _ _ h => h)
          rw [own_cell h2 k (by omega), ints_get' _ k (by rw [HLL.out.1]; exact hk)]
      have HT2 := Lib.hid (HT.out.below hb2)
      obtain ⟨w3, hw3⟩ : ∃ w3, (w2.alloc (.cells Z 3)).alloc (.cells Z 3) = w3 := ⟨_, rfl⟩
      have hsz : (w2.alloc (.cells Z 3)).heap.size = w2.heap.size + 1 := by simp
      have hZA : Z = (ints (cw (tEnt S) true n ((tLive S).take 0))).toArray ∧ Z = (ints (cw (tEnt S) false n ((tLive S).take 0))).toArray := by
        rw [List.take_zero, cw_nil, cw_nil, ← HZ.out]
        exact ⟨by simp, by simp⟩
      have HSTB : Hid (SfB S n L w2.heap.size (w2.heap.size + 1) w2 (.int .i64 0) w3) := Lib.hid ⟨0, Nat.zero_le _, rfl, hw3 ▸ ((Below.refl _ _).alloc (Nat.le_refl _) _).alloc (by simp) _, by
        rw [← hw3, ← hZA.1]
        exact blk_old (blk_new w2 _) _, by
        rw [← hw3, ← hZA.2]
        exact blk_two w2 _ _⟩
      have HW3 := Lib.hid hw3
      clear hown hfr hb2 hw3 hZA HLV
      go_wp2_with fail
      try rw [hsz]
      rw [HW3.out]
      go_loopw [14] (fun i wr => SfB S n L w2.heap.size (w2.heap.size + 1) w2 i wr) (fun i _ => L - (intOf i).toNat)
      case atStart => exact HSTB.out
      case round =>
        obtain ⟨k, hk, rfl, hb, ha1, ha2⟩ := hrel
        have HB := Lib.hid hb
        have HA1 := Lib.hid ha1
        have HA2 := Lib.hid ha2
        clear hb ha1 ha2 HSTB
        by_cases hkl : k < L
        · have hki : (k : Int) < (L : Int) := by omega
          have wk2 := IntWalk.i64_in ((k : Int) + 1) (by have := HLL.out.2; omega)
          obtain ⟨g, rfl, hgl, hcell⟩ := HLC.out k hkl
          obtain ⟨pg, fr, ew, e1, hpg, e2, hfn, hown, hkz⟩ := safe_live HS.out.1 k (by rw [HLL.out.1]; exact hkl)
          have htk := tlive_take (tEnt S) S k (by rw [HLL.out.1]; exact hkl)
          rw [e1] at htk
          have HTK := Lib.hid htk
          have HC1 : Hid (∀ wx, Below w2.heap.size w2 wx → wx.cell? ⟨g, k, none⟩ = some (.int .i64 (pg : Int))) := Lib.hid fun wx hx => by
            rw [← e1]
            exact hcell wx hx
          have c1 := HC1.out _ HB.out
          have HTW : Hid (∀ wx, Below w2.heap.size w2 wx → Tw w wx p z S S) := Lib.hid fun wx hx => HT2.out.below hx
          have HRT : Hid (∀ wx, Below w2.heap.size w2 wx → Calls Tryd.prog 37 #[.pointer (some ⟨tb, 0, none⟩)] wx fun y w' => y = .returned (.int .i64 (S.P.getD 0 0)) ∧ wx = w') := Lib.hid fun wx hx => by
            have := troot_any p S wx (HTW.out wx hx).pt HS.out.1.inv.p17
            rw [HPT.out.1] at this
            exact this
          have HPG : Hid (∀ wx, Below w2.heap.size w2 wx → Calls Tryd.prog 36 #[.pointer (some ⟨mb, 0, none⟩), .int .i64 (S.P.getD 0 0), .int .i64 (pg : Int)] wx fun y w' => y = .returned (.tuple #[.agg #[.int .i64 (fr : Int), .bool true, .bool ew, .bool true], .bool true]) ∧ Below wx.heap.size wx w') := Lib.hid fun wx hx => by
            have := page_any S.M p.mb S.n p.mv (S.P.getD 0 0) (pg : Int) wx (HTW.out wx hx).pt.mem HS.out.1.inv.n1 HS.out.1.inv.w32
            rw [tEnt_page HS.out.1.inv (pg : Int), e2, HPT.out.2.1] at this
            exact this
          rw [HS.out.2.2] at hfn
          have hfl : fr < S.F.length := by rw [HS.out.1.inv.lf, HS.out.2.2]; exact hfn
          have HFG : Hid (∀ wx, Below w2.heap.size w2 wx → Calls Tryd.prog 16 #[.pointer (some ⟨fb, 0, none⟩), .int .i64 (fr : Int)] wx fun y w' => y = .returned (.tuple #[.agg #[.int .i64 1, .int .i64 (S.F.getD fr default).kind, .int .i64 (S.F.getD fr default).wr, .int .i64 (S.F.getD fr default).us], .bool true]) ∧ Below wx.heap.size wx w') := Lib.hid fun wx hx => by
            have := fget_some S.F p.fb p.fg S.n fr wx (HTW.out wx hx).pt.fr hfl
            unfold frV at this
            rw [hown, HS.out.2.1, HPT.out.2.2] at this
            exact this
          obtain ⟨xk, hxk⟩ : ∃ x, (S.F.getD fr default).kind = x := ⟨_, rfl⟩
          obtain ⟨xw, hxw⟩ : ∃ x, (S.F.getD fr default).wr = x := ⟨_, rfl⟩
          obtain ⟨xu, hxu⟩ : ∃ x, (S.F.getD fr default).us = x := ⟨_, rfl⟩
          obtain ⟨rt, hrt⟩ : ∃ x, S.P.getD 0 0 = x := ⟨_, rfl⟩
          rw [hxk] at HFG hkz
          rw [hxw, hxu] at HFG
          rw [hrt] at HRT HPG
          have HET : Hid ((tEnt S (pg : Int)).t = true ∧ (tEnt S (pg : Int)).w = ew ∧ (tEnt S (pg : Int)).f = (fr : Int)) := Lib.hid (by rw [e2]; exact ⟨rfl, rfl, rfl⟩)
          have HGL : Hid (g < w2.heap.size) := Lib.hid hgl
          have f1 : ¬ (fr : Int) < 0 := by omega
          have f2 : ¬ (n : Int) ≤ (fr : Int) := by omega
          have ltg : g < wr.heap.size := Nat.lt_of_lt_of_le hgl HB.out.size
          clear htk e1 e2 hcell hpg hown hfl hxk hxw hxu hrt hgl
          go_wp2_with fail
          have HBA := Lib.hid (HB.out.alloc HB.out.size (.cells #[.int .i64 0, .bool false, .bool false, .bool false] 68))
          have HCA : Hid (Below wr.heap.size wr (wr.alloc (.cells #[.int .i64 0, .bool false, .bool false, .bool false] 68))) := Lib.hid ((Below.refl _ _).alloc (Nat.le_refl _) _)
          have HZN := Lib.hid (blk_new wr (.cells #[.int .i64 0, .bool false, .bool false, .bool false] 68))
          have HZD : Hid ((wr.alloc (.cells #[.int .i64 0, .bool false, .bool false, .bool false] 68)).drew.heap[wr.heap.size]? = some (.cells #[.int .i64 0, .bool false, .bool false, .bool false] 68 (0, 0))) := Lib.hid HZN.out
          go_cut [15, 16] from 73 to 83 (fun s15 s16 wx => SfD (fr : Int) ew wr s15 s16 wx)
          case first =>
            go_region_with (first
              | (go_at_call 37; refine (HRT.out _ (by first | exact HB.out | exact HB.out.drew | exact HBA.out | exact HBA.out.drew)).mono ?_; rintro y wx ⟨rfl, rfl⟩)
              | (go_at_call 36; refine (HPG.out _ (by first | exact HBA.out | exact HBA.out.drew)).mono ?_; rintro y w5 ⟨rfl, hb5⟩; have hC5 : Below wr.heap.size wr w5 := (by first | exact HCA.out.trans (hb5.mono HCA.out.size) | exact HCA.out.drew.trans (hb5.mono HCA.out.drew.size)); have hk5 : w5.heap[wr.heap.size]? = some (.cells #[.int .i64 0, .bool false, .bool false, .bool false] 68 (0, 0)) := (by first | exact blk_below HZN.out hb5 (blk_lt HZN.out) | exact blk_below HZD.out hb5 (blk_lt HZD.out)); have v0 := blk_free hk5 0; have v1 := blk_free hk5 1; have v2 := blk_free hk5 2; have v3 := blk_free hk5 3; have z0 := blk_cell hk5 0; have z1 := blk_cell hk5 1; have z2 := blk_cell hk5 2; have z3 := blk_cell hk5 3; have lt5 := blk_lt hk5)
              | (go_at_call 36; refine (HPG.out _ (by first | exact HB.out | exact HB.out.drew)).mono ?_; rintro y w5 ⟨rfl, hb5⟩; have hC5 : Below wr.heap.size wr w5 := (by first | exact (Below.refl _ _).trans (hb5.mono (Nat.le_refl _)) | exact (Below.refl _ _).drew.trans (hb5.mono (Nat.le_refl _)))))
            all_goals
              go_wp2_with fail
              go_meet
              first
              | exact ⟨wr.heap.size, rfl, rfl, (((hC5.setCell (p := ⟨wr.heap.size, 0, none⟩) (Nat.le_refl _) _).setCell (p := ⟨wr.heap.size, 1, none⟩) (Nat.le_refl _) _).setCell (p := ⟨wr.heap.size, 2, none⟩) (Nat.le_refl _) _).setCell (p := ⟨wr.heap.size, 3, none⟩) (Nat.le_refl _) _, set_four hk5⟩
              | exact ⟨w5.heap.size, rfl, rfl, hC5.alloc hC5.size _, blk_new _ _⟩
          case rest =>
            obtain ⟨eb, rfl, rfl, hb5, hk5⟩ := hcut
            have HB5 := Lib.hid hb5
            have HB25 := Lib.hid (HB.out.trans (hb5.mono HB.out.size))
            have HK5 := Lib.hid hk5
            have x0 := blk_cell hk5 0
            have x2 := blk_cell hk5 2
            have x3 := blk_cell hk5 3
            clear hb5 hk5 c1 ltg
            go_wp2_with fail
            refine (HFG.out _ HB25.out).mono ?_
            rintro y w6 ⟨rfl, hb6⟩
            obtain ⟨w7, hw7⟩ : ∃ w7, w6.alloc (.cells #[.int .i64 1, .int .i64 xk, .int .i64 xw, .int .i64 xu] 33) = w7 := ⟨_, rfl⟩
            have hb67 : Below w6.heap.size w6 w7 := hw7 ▸ (Below.refl _ _).alloc (Nat.le_refl _) _
            have k7 : w7.heap[w6.heap.size]? = some (.cells #[.int .i64 1, .int .i64 xk, .int .i64 xw, .int .i64 xu] 33 (0, 0)) := hw7 ▸ blk_new w6 _
            have HB7 : Hid (Below wr.heap.size wr w7) := Lib.hid ((HB5.out.trans (hb6.mono HB5.out.size)).trans (hb67.mono (Nat.le_trans HB5.out.size hb6.size)))
            have HB27 := Lib.hid (HB.out.trans (HB7.out.mono HB.out.size))
            have k5 : w7.heap[eb]? = some (.cells #[.int .i64 (fr : Int), .bool true, .bool ew, .bool true] 68 (0, 0)) := blk_below (blk_below HK5.out hb6 (blk_lt HK5.out)) hb67 (blk_lt (blk_below HK5.out hb6 (blk_lt HK5.out)))
            have a1 := blk_below HA1.out HB7.out (blk_lt HA1.out)
            have a2 := blk_below HA2.out HB7.out (blk_lt HA2.out)
            have HA17 := Lib.hid a1
            have HA27 := Lib.hid a2
            clear x0 x2 x3
            have b5 := blk_below HK5.out hb6 (blk_lt HK5.out)
            have x0 : w6.cell? ⟨eb, 0, none⟩ = some (.int .i64 (fr : Int)) := blk_cell b5 0
            have x2 : w6.cell? ⟨eb, 2, none⟩ = some (.bool ew) := blk_cell b5 2
            have ltE := blk_lt b5
            have HB6 : Hid (Below wr.heap.size wr w6) := Lib.hid (HB5.out.trans (hb6.mono HB5.out.size))
            have a16 := blk_below HA1.out HB6.out (blk_lt HA1.out)
            have a26 := blk_below HA2.out HB6.out (blk_lt HA2.out)
            have HA16 := Lib.hid a16
            have HA26 := Lib.hid a26
            have HB26 := Lib.hid (HB.out.trans (HB6.out.mono HB.out.size))
            clear b5
            have hfr : (fr : Int) < (n : Int) := by omega
            have HW7 := Lib.hid hw7
            cases ew with
            | true =>
              obtain rfl := hkz rfl
              obtain ⟨v, hv⟩ : ∃ v, (cw (tEnt S) true n ((tLive S).take k)).getD fr 0 = v := ⟨_, rfl⟩
              have HV : Hid (0 ≤ v ∧ v ≤ 256) := Lib.hid (by
                rw [← hv, cw_get _ _ _ _ _ hfn]
                have := cntL_le (tEnt S) true (fr : Int) ((tLive S).take k)
                rw [List.length_take] at this
                have := HLL.out
                omega)
              have q1 := cell_of a16 fr (by rw [cw_len]; exact hfn)
              have q2 := blk_free a16 fr
              rw [hv] at q1
              have lta := blk_lt a16
              have wv := IntWalk.i64_in (v + 1) (by have := HV.out; omega)
              have HH : Hid (cw (tEnt S) true n ((tLive S).take (k + 1)) = (cw (tEnt S) true n ((tLive S).take k)).set fr (v + 1)) := Lib.hid (by rw [HTK.out, cw_hit _ _ _ _ _ fr hfn HET.out.1 HET.out.2.1 HET.out.2.2, hv])
              have HM : Hid (cw (tEnt S) false n ((tLive S).take (k + 1)) = cw (tEnt S) false n ((tLive S).take k)) := Lib.hid (by rw [HTK.out, cw_miss _ _ _ _ _ (by rw [HET.out.2.1]; simp)])
              clear hw7 hb6 hb67 k5 k7 a1 a2 a16 a26 hv
              go_wp2_with fail
              go_roundw
              case rel =>
                have hbs := HB26.out.setCell (p := ⟨w2.heap.size, fr, none⟩) (Nat.le_refl _) (.int .i64 (v + 1))
                exact ⟨k + 1, by omega, by go_num, hbs.alloc hbs.size _, by rw [HH.out]; exact blk_old (set_of HA16.out fr (v + 1)) _, by rw [HM.out]; exact blk_old (set_else HA26.out (by omega) _ _) _⟩
              case measure => simp [intOf]; omega
            | false =>
              obtain ⟨v, hv⟩ : ∃ v, (cw (tEnt S) false n ((tLive S).take k)).getD fr 0 = v := ⟨_, rfl⟩
              have HV : Hid (0 ≤ v ∧ v ≤ 256) := Lib.hid (by
                rw [← hv, cw_get _ _ _ _ _ hfn]
                have := cntL_le (tEnt S) false (fr : Int) ((tLive S).take k)
                rw [List.length_take] at this
                have := HLL.out
                omega)
              have q1 := cell_of a26 fr (by rw [cw_len]; exact hfn)
              have q2 := blk_free a26 fr
              rw [hv] at q1
              have lta := blk_lt a26
              have wv := IntWalk.i64_in (v + 1) (by have := HV.out; omega)
              have HH : Hid (cw (tEnt S) false n ((tLive S).take (k + 1)) = (cw (tEnt S) false n ((tLive S).take k)).set fr (v + 1)) := Lib.hid (by rw [HTK.out, cw_hit _ _ _ _ _ fr hfn HET.out.1 HET.out.2.1 HET.out.2.2, hv])
              have HM : Hid (cw (tEnt S) true n ((tLive S).take (k + 1)) = cw (tEnt S) true n ((tLive S).take k)) := Lib.hid (by rw [HTK.out, cw_miss _ _ _ _ _ (by rw [HET.out.2.1]; simp)])
              clear hw7 hb6 hb67 k5 k7 a1 a2 a16 a26 hv hkz
              go_wp2_with fail
              go_roundw
              case rel =>
                have hbs := HB26.out.setCell (p := ⟨w2.heap.size + 1, fr, none⟩) (Nat.le_succ _) (.int .i64 (v + 1))
                exact ⟨k + 1, by omega, by go_num, hbs.alloc hbs.size _, by rw [HM.out]; exact blk_old (set_else HA16.out (by omega) _ _) _, by rw [HH.out]; exact blk_old (set_of HA26.out fr (v + 1)) _⟩
              case measure => simp [intOf]; omega
        · have hkL : k = L := by omega
          have hki : ¬ (k : Int) < (L : Int) := by omega
          have htl : (tLive S).take k = tLive S := List.take_of_length_le (by rw [HLL.out.1]; omega)
          have HE1 : Hid (wr.heap[w2.heap.size]? = some (.cells (ints (cw (tEnt S) true n (tLive S))).toArray 3 (0, 0))) := Lib.hid (by have := HA1.out; rw [htl] at this; exact this)
          have HE2 : Hid (wr.heap[w2.heap.size + 1]? = some (.cells (ints (cw (tEnt S) false n (tLive S))).toArray 3 (0, 0))) := Lib.hid (by have := HA2.out; rw [htl] at this; exact this)
          obtain ⟨wB, rfl⟩ : ∃ wB, wB = wr := ⟨_, rfl⟩
          have HSTC : Hid (SfC n wB (.int .i64 0) wB) := Lib.hid ⟨0, Nat.zero_le _, rfl, Below.refl _ _⟩
          clear HA1 HA2 hkL htl HLC HW3
          go_wp2_with fail
          go_loopw [19] (fun i wx => SfC n wB i wx) (fun i _ => n - (intOf i).toNat)
          case atStart => exact HSTC.out
          case round =>
            obtain ⟨q, hq, rfl, hbq⟩ := hrel
            have HBQ := Lib.hid hbq
            have HBR := Lib.hid (HB.out.trans (hbq.mono HB.out.size))
            clear hbq HSTC
            by_cases hqn : q < n
            · have hqi : (q : Int) < (n : Int) := by omega
              have wq := IntWalk.i64_in ((q : Int) + 1) (by have := HNB.out; omega)
              have hfl : q < S.F.length := by rw [HS.out.1.inv.lf, HS.out.2.2]; exact hqn
              have hfg := fget_some S.F p.fb p.fg S.n q _ (HT2.out.below HBR.out).pt.fr hfl
              unfold frV at hfg
              rw [HPT.out.2.2] at hfg
              have HEND := Lib.hid (safe_end HS.out.1 q (by rw [HS.out.2.2]; exact hqn))
              rw [HS.out.2.2] at HEND
              obtain ⟨⟨xo, xk, xw, xu⟩, hx⟩ : ∃ x, S.F.getD q default = x := ⟨_, rfl⟩
              rw [hx] at hfg HEND
              dsimp only at hfg HEND
              obtain ⟨v1, hv1⟩ : ∃ v, (cw (tEnt S) true n (tLive S)).getD q 0 = v := ⟨_, rfl⟩
              obtain ⟨v2, hv2⟩ : ∃ v, (cw (tEnt S) false n (tLive S)).getD q 0 = v := ⟨_, rfl⟩
              have HV2 : Hid (0 ≤ v2 ∧ v2 ≤ 256) := Lib.hid (by
                rw [← hv2, cw_get _ _ _ _ _ hqn]
                have := cntL_le (tEnt S) false (q : Int) (tLive S)
                have := HLL.out
                omega)
              rw [hv1, hv2] at HEND
              have HCQ : Hid (∀ wx, Below wB.heap.size wB wx → wx.cell? ⟨w2.heap.size, q, none⟩ = some (.int .i64 v1) ∧ wx.cell? ⟨w2.heap.size + 1, q, none⟩ = some (.int .i64 v2) ∧ w2.heap.size < wx.heap.size ∧ w2.heap.size + 1 < wx.heap.size) := Lib.hid fun wx hx => by
                have b1 := blk_below HE1.out hx (blk_lt HE1.out)
                have b2 := blk_below HE2.out hx (blk_lt HE2.out)
                have r1 := cell_of b1 q (by rw [cw_len]; exact hqn)
                have r2 := cell_of b2 q (by rw [cw_len]; exact hqn)
                rw [hv1] at r1
                rw [hv2] at r2
                exact ⟨r1, r2, blk_lt b1, blk_lt b2⟩
              have HFG2 := Lib.hid hfg
              clear hx hfg hfl hv1 hv2
              go_wp2_with fail
              refine HFG2.out.mono ?_
              rintro y w6 ⟨rfl, hb6⟩
              obtain ⟨w7, hw7⟩ : ∃ w7, w6.alloc (.cells #[.int .i64 xo, .int .i64 xk, .int .i64 xw, .int .i64 xu] 33) = w7 := ⟨_, rfl⟩
              have hb67 : Below w6.heap.size w6 w7 := hw7 ▸ (Below.refl _ _).alloc (Nat.le_refl _) _
              have k7 : w7.heap[w6.heap.size]? = some (.cells #[.int .i64 xo, .int .i64 xk, .int .i64 xw, .int .i64 xu] 33 (0, 0)) := hw7 ▸ blk_new w6 _
              have HB7 : Hid (Below wB.heap.size wB w7) := Lib.hid ((HBQ.out.trans (hb6.mono HBQ.out.size)).trans (hb67.mono (Nat.le_trans HBQ.out.size hb6.size)))
              obtain ⟨r1, r2, r3, r4⟩ := HCQ.out _ HB7.out
              have y1 := blk_cell k7 1
              have y2 := blk_cell k7 2
              have y3 := blk_cell k7 3
              have l7 := blk_lt k7
              have HW7 := Lib.hid hw7
              clear hw7 hb6 hb67 k7
              by_cases hk0 : xk = 0
              · subst hk0
                have HU : Hid (xw = v1 ∧ xu = v2 + 0) := Lib.hid (by have := HEND.out; rw [if_pos rfl] at this; exact this)
                have hu1 := HU.out.1
                subst hu1
                have hu2 : xu = v2 := by have := HU.out.2; omega
                subst hu2
                have wu := IntWalk.i64_in xu (by have := HV2.out; omega)
                clear HU HEND
                go_wp2_with fail
                rw [HW7.out]
                go_wp2_with fail
                go_quiet (fail)
                go_wp2
                go_roundw
                case rel => exact ⟨q + 1, by omega, by go_num, below_drewN HB7.out _⟩
                case measure => simp [intOf]; omega
              · have hkb : (xk != 0) = true := by simp [hk0]
                have HU : Hid (xw = v1 ∧ xu = v2 + 1) := Lib.hid (by have := HEND.out; rw [if_neg hk0] at this; exact this)
                have hu1 := HU.out.1
                subst hu1
                have hu2 := HU.out.2
                subst hu2
                have wu := IntWalk.i64_in (v2 + 1) (by have := HV2.out; omega)
                clear HU HEND hk0
                go_wp2_with fail
                rw [HW7.out]
                go_wp2_with fail
                go_quiet (fail)
                go_wp2
                go_roundw
                case rel => exact ⟨q + 1, by omega, by go_num, below_drewN HB7.out _⟩
                case measure => simp [intOf]; omega
            · have hqi : ¬ (q : Int) < (n : Int) := by omega
              go_wp2
              go_ret
              exact ⟨rfl, (HT2.out.below HBR.out).b⟩
set_option maxRecDepth 100000 in
theorem tablesSafe_walk (E : Nat → Addr) (x0 : Int) (l : List TDo) (ao : Option Addr) (cap : Nat) (w : World) (hE : ErrsAt errT gOf w E all16) (h0 : -9223372036854775808 ≤ x0 ∧ x0 ≤ 9223372036854775807) (hl : AtL w ao (l.flatMap tdoCells)) :
    Calls Tryd.prog 8 #[.int .i64 x0, .slice ao l.length cap] w fun y w' => y = .returned (.bool true) ∧ Below w.heap.size w w' := by
  by_cases hle : l.length ≤ 60
  · exact tablesSafe_some E x0 l ao cap w hE h0 hl hle
  · have HF1 := Lib.hid (tfirst_true E w hE)
    obtain ⟨n, hn⟩ : ∃ n, l.length = n := ⟨_, rfl⟩
    rw [hn] at hle ⊢
    have hlen : (60 : Int) < (n : Int) := by omega
    clear hE hl h0 hn
    go_enter Tryd.func8, Tryd.ntmps8
    go_wp2_with fail
    refine HF1.out.mono ?_
    rintro y w0 ⟨rfl, hb0⟩
    have HB0 := Lib.hid hb0
    clear hb0
    go_wp2
    go_ret
    exact ⟨rfl, HB0.out⟩
end Go.Proofs.YtaoaachgnnengaaDoor

