/-
  Parts of one proof, one behind the other.
-/
import Derived.Test.YtaoaachgnnengaaDoorMg5748d1bf9b
import Derived.Test.YtaoaachgnnengaaDoorMg6c021f2af2
import Derived.Test.YtaoaachgnnengaaDoorRows
import Derived.Test.YtaoaachgnnengaaDoorMg0cc251d182
import Derived.Test.YtaoaachgnnengaaDoorMg742783f498
import Derived.Test.YtaoaachgnnengaaDoorMg14c76af940
/-
  pt.Tables: Lend, Root, Owner.
-/
namespace Go.Proofs.YtaoaachgnnengaaDoor
open Go.RowKit

set_option maxRecDepth 100000 in
set_option maxHeartbeats 6400000 in
theorem tlend_nopage (E : Nat → Addr) (p : Pl) (s : Ts) (page frame : Int) (wr : Bool) (w : World) (hE : ErrsK E p w) (h : PtAt w p s) (hp : isPage page = false) :
    Calls Tryd.prog 45 #[.pointer (some ⟨p.tb, 0, none⟩), .int .i64 page, .int .i64 frame, .bool wr] w (PtQ E p (tLend s page frame wr) w) := by
  have HPA := Lib.hid (fun wx => tpage_any page wx)
  rw [hp] at HPA
  have HR : Hid (tLend s page frame wr = (s, 103)) := Lib.hid (by unfold tLend; rw [if_neg (by rw [hp]; decide)])
  rw [HR.out]
  have HH := Lib.hid h
  have e2 : w.cell? ⟨0, 0, none⟩ = some (errV (E 2)) := ((hE _ (Only.refl _ _)).1 2 (by decide)).1
  clear hE h hp HR
  go_enter Tryd.func45, Tryd.ntmps45
  go_wp2_with fail
  refine (HPA.out _).mono ?_
  rintro y w1 ⟨rfl, rfl⟩
  go_wp2
  go_ret
  exact ⟨rfl, HH.out, Only.refl _ _⟩

set_option maxRecDepth 100000 in
set_option maxHeartbeats 6400000 in
theorem tlend_out (E : Nat → Addr) (p : Pl) (s : Ts) (page frame : Int) (wr : Bool) (w : World) (hE : ErrsK E p w) (h : PtAt w p s) (hp : isPage page = true) (hf : ¬ (0 ≤ frame ∧ frame < (s.F.length : Int))) :
    Calls Tryd.prog 45 #[.pointer (some ⟨p.tb, 0, none⟩), .int .i64 page, .int .i64 frame, .bool wr] w (PtQ E p (tLend s page frame wr) w) := by
  have HPA := Lib.hid (fun wx => tpage_any page wx)
  rw [hp] at HPA
  have hat : frAt s.F frame = none := by
    unfold frAt
    rw [if_neg (fun hh => hf ⟨hh.1, hh.2.1⟩)]
  have HR : Hid (tLend s page frame wr = (s, 107)) := Lib.hid (by unfold tLend; rw [if_pos hp, hat]; rfl)
  rw [HR.out]
  have HH := Lib.hid h
  have HFG := Lib.hid (fget_none s.F p.fb p.fg s.n frame w h.fr hf)
  have HE : Hid (∀ wx, Below w.heap.size w wx → wx.cell? ⟨3, 0, none⟩ = some (errV (E 6)) ∧ 3 < wx.heap.size) := Lib.hid fun wx hx => by
    have e6 := ((hE wx (Only.of_below hx)).1 6 (by decide)).1
    exact ⟨e6, World.block_lt_of_cell? _ _ e6⟩
  obtain ⟨-, c1, -, -, -⟩ := h.cells
  have ltb := blk_lt h.row
  clear hE h hp HR hf hat
  go_enter Tryd.func45, Tryd.ntmps45
  go_wp2_with fail
  refine (HPA.out _).mono ?_
  rintro y w1 ⟨rfl, rfl⟩
  go_wp2_with fail
  refine HFG.out.mono ?_
  rintro y w2 ⟨rfl, hb2⟩
  have HB2 := Lib.hid (hb2.alloc hb2.size (.cells #[.int .i64 0, .int .i64 0, .int .i64 0, .int .i64 0] 33))
  obtain ⟨e6, g6⟩ := HE.out _ HB2.out
  clear hb2 c1
  go_wp2
  go_ret
  exact ⟨rfl, HH.out.below HB2.out, Only.of_below HB2.out⟩

set_option maxRecDepth 100000 in
set_option maxHeartbeats 6400000 in
theorem tlend_free (E : Nat → Addr) (p : Pl) (s : Ts) (page : Int) (n : Nat) (wr : Bool) (w : World) (hE : ErrsK E p w) (h : PtAt w p s) (hp : isPage page = true) (hn : n < s.F.length) (ho : (s.F.getD n default).owner = -1) :
    Calls Tryd.prog 45 #[.pointer (some ⟨p.tb, 0, none⟩), .int .i64 page, .int .i64 (n : Int), .bool wr] w (PtQ E p (tLend s page (n : Int) wr) w) := by
  have HPA := Lib.hid (fun wx => tpage_any page wx)
  rw [hp] at HPA
  have hat : frAt s.F (n : Int) = none := by
    unfold frAt
    rw [if_neg (fun hh => hh.2.2 (by rw [Int.toNat_natCast]; exact ho))]
  have HR : Hid (tLend s page (n : Int) wr = (s, 107)) := Lib.hid (by unfold tLend; rw [if_pos hp, hat]; rfl)
  rw [HR.out]
  have HH := Lib.hid h
  have HFG := Lib.hid (fget_some s.F p.fb p.fg s.n n w h.fr hn)
  unfold frV at HFG
  obtain ⟨⟨xo, xk, xw, xu⟩, hx⟩ : ∃ x, s.F.getD n default = x := ⟨_, rfl⟩
  rw [hx] at HFG ho
  dsimp only at HFG ho
  subst ho
  have HE : Hid (∀ wx, Below w.heap.size w wx → wx.cell? ⟨3, 0, none⟩ = some (errV (E 6)) ∧ 3 < wx.heap.size) := Lib.hid fun wx hx => by
    have e6 := ((hE wx (Only.of_below hx)).1 6 (by decide)).1
    exact ⟨e6, World.block_lt_of_cell? _ _ e6⟩
  obtain ⟨-, c1, -, -, -⟩ := h.cells
  have ltb := blk_lt h.row
  clear hE h hp HR hat hx hn
  go_enter Tryd.func45, Tryd.ntmps45
  go_wp2_with fail
  refine (HPA.out _).mono ?_
  rintro y w1 ⟨rfl, rfl⟩
  go_wp2_with fail
  refine HFG.out.mono ?_
  rintro y w2 ⟨rfl, hb2⟩
  have HB2 := Lib.hid (hb2.alloc hb2.size (.cells #[.int .i64 (-1), .int .i64 xk, .int .i64 xw, .int .i64 xu] 33))
  have x0 := blk_cell (blk_new w2 (.cells #[.int .i64 (-1), .int .i64 xk, .int .i64 xw, .int .i64 xu] 33)) 0
  obtain ⟨e6, g6⟩ := HE.out _ HB2.out
  clear hb2 c1
  go_wp2
  go_ret
  exact ⟨rfl, HH.out.below HB2.out, Only.of_below HB2.out⟩

set_option maxRecDepth 100000 in
set_option maxHeartbeats 6400000 in
theorem tlend_set (E : Nat → Addr) (p : Pl) (s : Ts) (m : Int) (page : Int) (n : Nat) (wr : Bool) (w : World) (hE : ErrsK E p w) (h : PtAt w p s) (hi : TInv m s) (hm : m + 1 ≤ 1000000) (hp : isPage page = true) (hn : n < s.F.length) (ho : (s.F.getD n default).owner ≠ -1) :
    Calls Tryd.prog 45 #[.pointer (some ⟨p.tb, 0, none⟩), .int .i64 page, .int .i64 (n : Int), .bool wr] w (PtQ E p (tLend s page (n : Int) wr) w) := by
  have HPA := Lib.hid (fun wx => tpage_any page wx)
  have hat : frAt s.F (n : Int) = some n := by
    unfold frAt
    rw [if_pos ⟨by omega, by omega, by rw [Int.toNat_natCast]; exact ho⟩, Int.toNat_natCast]
  have HR : Hid (tLend s page (n : Int) wr = tSet s page (n : Int) wr) := Lib.hid (by unfold tLend; rw [if_pos hp, hat]; rfl)
  rw [HR.out]
  have HFG := Lib.hid (fget_some s.F p.fb p.fg s.n n w h.fr hn)
  unfold frV at HFG
  have HS : Hid (∀ wx, Below w.heap.size w wx → Calls Tryd.prog 79 #[.pointer (some ⟨p.tb, 0, none⟩), .int .i64 page, .int .i64 (n : Int), .bool wr] wx (PtQ E p (tSet s page (n : Int) wr) wx)) := Lib.hid fun wx hx => tset_any E p s m page (n : Int) wr wx (hE.next (Only.of_below hx)) (h.below hx) hi hm hp
  rw [hp] at HPA
  obtain ⟨⟨xo, xk, xw, xu⟩, hx⟩ : ∃ x, s.F.getD n default = x := ⟨_, rfl⟩
  rw [hx] at HFG ho
  dsimp only at HFG ho
  have hob : (xo == -1) = false := by simpa using ho
  obtain ⟨-, c1, -, -, -⟩ := h.cells
  have ltb := blk_lt h.row
  clear hE h hi hm hp HR hat hx hn ho
  go_enter Tryd.func45, Tryd.ntmps45
  go_wp2_with fail
  refine (HPA.out _).mono ?_
  rintro y w1 ⟨rfl, rfl⟩
  go_wp2_with fail
  refine HFG.out.mono ?_
  rintro y w2 ⟨rfl, hb2⟩
  have HB2 := Lib.hid (hb2.alloc hb2.size (.cells #[.int .i64 xo, .int .i64 xk, .int .i64 xw, .int .i64 xu] 33))
  have x0 := blk_cell (blk_new w2 (.cells #[.int .i64 xo, .int .i64 xk, .int .i64 xw, .int .i64 xu] 33)) 0
  clear hb2 c1
  go_wp2_with fail
  refine (HS.out _ HB2.out).mono ?_
  rintro y w3 hq
  have HQ : Hid (PtQ E p (tSet s page (n : Int) wr) w y w3) := Lib.hid (hq.later (Only.of_below HB2.out))
  obtain ⟨rfl, -, -⟩ := hq
  go_wp2
  go_ret
  exact HQ.out
theorem tlend_any (E : Nat → Addr) (p : Pl) (s : Ts) (m : Int) (page frame : Int) (wr : Bool) (w : World) (hE : ErrsK E p w) (h : PtAt w p s) (hi : TInv m s) (hm : m + 1 ≤ 1000000) :
    Calls Tryd.prog 45 #[.pointer (some ⟨p.tb, 0, none⟩), .int .i64 page, .int .i64 frame, .bool wr] w (PtQ E p (tLend s page frame wr) w) := by
  cases hp : isPage page with
  | false => exact tlend_nopage E p s page frame wr w hE h hp
  | true =>
    by_cases hf : 0 ≤ frame ∧ frame < (s.F.length : Int)
    · obtain ⟨n, rfl⟩ : ∃ n : Nat, frame = (n : Int) := ⟨frame.toNat, by omega⟩
      have hn : n < s.F.length := by omega
      by_cases ho : (s.F.getD n default).owner = -1
      · exact tlend_free E p s page n wr w hE h hp hn ho
      · exact tlend_set E p s m page n wr w hE h hi hm hp hn ho
    · exact tlend_out E p s page frame wr w hE h hp hf
end Go.Proofs.YtaoaachgnnengaaDoor

/-
  facadeworld.Number: any number as one from 0 to below a bound.
-/
namespace Go.Proofs.YtaoaachgnnengaaDoor
open Go.RowKit

set_option maxHeartbeats 400000 in
theorem number_any (n m : Int) (w : World) (h1 : -9223372036854775808 ≤ n) (h2 : n ≤ 9223372036854775807) (hm : 0 < m) (hm2 : m ≤ 1000000000) :
    Calls Tryd.prog 12 #[.int .i64 n, .int .i64 m] w fun e w' => e = .returned (.int .i64 (n % m)) ∧ w = w' := by
  by_cases hn : 0 ≤ n
  · have h3 := Int.emod_nonneg n (show m ≠ 0 by omega)
    have h4 : ¬ n % m < 0 := by omega
    go_enter Tryd.func12, Tryd.ntmps12
    go_wp2
    go_ret
    exact ⟨rfl, rfl⟩
  · obtain ⟨h3, h4, h5, h6⟩ := emod_of_tmod (show n < 0 by omega) hm
    obtain ⟨t, ht⟩ : ∃ t, n.tmod m = t := ⟨_, rfl⟩
    rw [ht] at h3 h4 h5 h6
    have H3 := Lib.hid h3
    have H4 := Lib.hid h4
    have hw := IntWalk.i64_in (t + m) (by omega)
    clear h3 h4
    by_cases hlt : t < 0
    · go_enter Tryd.func12, Tryd.ntmps12
      go_wp2
      go_ret
      exact ⟨by rw [← H3.out hlt]; rfl, rfl⟩
    · go_enter Tryd.func12, Tryd.ntmps12
      go_wp2
      go_ret
      exact ⟨by rw [← H4.out hlt]; rfl, rfl⟩
end Go.Proofs.YtaoaachgnnengaaDoor

/-
  TablesRefuse: the walk. Given where the sentinels lie.
-/
namespace Go.Proofs.YtaoaachgnnengaaDoor
open Go.RowKit

def rfCs : List Int := [107, 111, 103, 107, 103, 103, 111]
def RfTo (w0 : World) (i : Value) (wr : World) : Prop := ∃ k : Nat, k ≤ 7 ∧ i = .int .i64 (k : Int) ∧ Below w0.heap.size w0 wr
def RgTo (w0 : World) (v i : Value) (wr : World) : Prop := ∃ k : Nat, k ≤ 480 ∧ v = .int .i64 0 ∧ i = .int .i64 (k : Int) ∧ wr = w0
theorem rf_errs (E : Nat → Addr) (k : Nat) (hk : k < 7) : (#[errV (E 6), errV (E 10), errV (E 2), errV (E 6), errV (E 2), errV (E 2), errV (E 10)] : Array Value)[k]? = some (errC E (rfCs.getD k 0)) := by
  match k, hk with
  | 0, _ => rfl
  | 1, _ => rfl
  | 2, _ => rfl
  | 3, _ => rfl
  | 4, _ => rfl
  | 5, _ => rfl
  | 6, _ => rfl
theorem rf_ints (k : Nat) (hk : k < 7) : (#[Value.int .i64 107, .int .i64 111, .int .i64 103, .int .i64 107, .int .i64 103, .int .i64 103, .int .i64 111] : Array Value)[k]? = some (.int .i64 (rfCs.getD k 0)) := by
  match k, hk with
  | 0, _ => rfl
  | 1, _ => rfl
  | 2, _ => rfl
  | 3, _ => rfl
  | 4, _ => rfl
  | 5, _ => rfl
  | 6, _ => rfl
theorem rf_ok (k : Nat) (hk : k < 7) : okC (rfCs.getD k 0) := by
  match k, hk with
  | 0, _ => exact ok107
  | 1, _ => exact ok111
  | 2, _ => exact ok103
  | 3, _ => exact ok107
  | 4, _ => exact ok103
  | 5, _ => exact ok103
  | 6, _ => exact ok111

set_option maxRecDepth 100000 in
set_option maxHeartbeats 32000000 in
theorem tablesRefuse_walk (E : Nat → Addr) (x0 : Int) (w : World) (hE : ErrsAt errT gOf w E all16) (h0 : -9223372036854775808 ≤ x0 ∧ x0 ≤ 9223372036854775807) :
    Calls Tryd.prog 10 #[.int .i64 x0] w fun y w' => y = .returned (.bool true) ∧ Below w.heap.size w w' := by
  have HE16 : Hid (∀ wx, Below w.heap.size w wx → ErrsAt errT gOf wx E all16) := Lib.hid fun wx h => hE.mono h
  have HEK : Hid (∀ wx, Below w.heap.size w wx → ErrsAt errT gOf wx E nine) := Lib.hid fun wx h => errs9 (hE.mono h)
  have HF1 := Lib.hid (tfirst_true E w hE)
  have HN1 := Lib.hid (fun wx => number_any x0 256 wx h0.1 h0.2 (by decide) (by decide))
  have hpg : isPage (x0 % 256) = true := by simp [isPage]; omega
  obtain ⟨pg, hpg0⟩ : ∃ pg, x0 % 256 = pg := ⟨_, rfl⟩
  rw [hpg0] at HN1 hpg
  have HPG := Lib.hid hpg
  obtain ⟨hc2, htr⟩ := trS_at pg hpg
  have HTR := Lib.hid htr
  have HC2 := Lib.hid hc2
  have HS1 := Lib.hid trS1_at
  clear hE h0 hpg0 hpg hc2 htr
  go_enter Tryd.func10, Tryd.ntmps10
  go_wp2_with fail
  refine HF1.out.mono ?_
  rintro y w0 ⟨rfl, hb0⟩
  have HB0 := Lib.hid hb0
  have HM := Lib.hid (made_any E 30 2 w0 (HE16.out _ hb0) (by decide) (by decide))
  clear hb0
  go_wp2_with fail
  refine HM.out.mono ?_
  rintro y w1 ⟨p, z, rfl, htw, -⟩
  have HT1 : Hid (Tw w w1 p z (tNew 30 2 1) (tNew 30 2 1)) := Lib.hid ⟨htw.pt, htw.zt, htw.ap, fun k hk => Nat.le_trans HB0.out.size (htw.pb k hk), fun k hk => Nat.le_trans HB0.out.size (htw.zb k hk), HB0.out.trans (htw.b.mono HB0.out.size)⟩
  have had := tadd_any E p (tNew 30 2 1) 1 w1 (HT1.out.errs HEK.out) HT1.out.pt (tNew_inv 30 2 1 (by unfold frOwns; omega) (by decide) (by decide))
  unfold AddQ at had
  rw [HS1.out.1, HS1.out.2.1] at had
  obtain ⟨tb, htb⟩ : ∃ x, p.tb = x := ⟨_, rfl⟩
  obtain ⟨mb, hmb⟩ : ∃ x, p.mb = x := ⟨_, rfl⟩
  obtain ⟨fb, hfb⟩ : ∃ x, p.fb = x := ⟨_, rfl⟩
  rw [htb] at had
  have HAD := Lib.hid had
  have HPT := Lib.hid (And.intro htb (And.intro hmb hfb))
  rw [htb, hmb, hfb]
  clear htw had htb hmb hfb
  go_wp2_with fail
  refine HAD.out.mono ?_
  rintro y w2 ⟨pv2, rfl, hp2, ho2, hv2⟩
  obtain ⟨p1, hp1⟩ : ∃ p1 : Pl, { p with pv := pv2 } = p1 := ⟨_, rfl⟩
  have HT2 : Hid (Tw w w2 p1 z trS1 (tNew 30 2 1)) := Lib.hid (hp1 ▸ HT1.out.pAdd (by rw [HPT.out.1]; exact hp2) ho2 hv2)
  have HPX : Hid (p1.tb = tb ∧ p1.mb = mb ∧ p1.fb = fb) := Lib.hid (by rw [← hp1]; exact HPT.out)
  have hput := tput_any E p1 trS1 2 pg ⟨17, true, true, false⟩ w2 (HT2.out.errs HEK.out) HT2.out.pt HS1.out.2.2.1.inv (by decide)
  unfold PtQ at hput
  rw [HPX.out.1, HC2.out] at hput
  unfold Ent.v at hput
  dsimp only at hput
  have HPU := Lib.hid hput
  clear hp2 ho2 hv2 hp1 hput HAD
  unfold errC
  rw [if_pos rfl]
  go_wp2_with fail
  refine (HN1.out _).mono ?_
  rintro y wx ⟨rfl, rfl⟩
  go_wp2_with fail
  refine HPU.out.mono ?_
  rintro y w3 ⟨rfl, hp3, ho3⟩
  obtain ⟨S2, hS2⟩ : ∃ S, trS pg = S := ⟨_, rfl⟩
  have HS2 : Hid ((tPut trS1 pg ⟨17, true, true, false⟩).1 = S2) := Lib.hid hS2
  rw [hS2] at HTR
  have HT3 : Hid (Tw w w3 p1 z S2 (tNew 30 2 1)) := Lib.hid (HT2.out.pOp (HS2.out ▸ hp3) ho3)
  have hcl := mm_clone S2.M p1.mb S2.n p1.mv w3 HT3.out.pt.mem HTR.out.tb.inv.n1
  rw [HPX.out.2.1] at hcl
  have HCL := Lib.hid hcl
  have HSN : Hid (S2.n = 30) := Lib.hid HTR.out.tb.sn
  clear hp3 ho3 hcl hS2 HPU
  unfold errC
  rw [if_pos rfl]
  go_wp2_with fail
  refine HCL.out.mono ?_
  rintro y wc ⟨cb, cv, rfl, hmc, hcb, hcv, hbc⟩
  have HTC : Hid (Tw w wc p1 z S2 (tNew 30 2 1)) := Lib.hid (HT3.out.below hbc)
  have HOLD : Hid (∀ wx, Only p1.zw wc wx → MAt wx cb cv S2.n S2.M) := Lib.hid fun wx ho => hmc.only ho (fun hz => by have := HT3.out.plt cb (.inr hz); omega) (fun j hj hz => by have := HT3.out.plt j (.inr hz); have := hcv j hj; omega)
  have HO0 : Hid (Only p1.zw wc wc) := Lib.hid (Only.refl _ _)
  have HP0 : Hid (PtAt wc p1 S2) := Lib.hid HTC.out.pt
  have HEC : Hid (ErrsK E p1 wc) := Lib.hid (HTC.out.errs HEK.out)
  have HW := Lib.hid (fun wx (ho : Only p1.zw wc wx) => HTC.out.b.trans (ho.below (B := w.heap.size) HTC.out.b.size HTC.out.pb))
  clear hmc hcb hcv hbc HCL
  have q1 := tput_any E p1 S2 4 pg ⟨18, true, false, false⟩ wc (HEC.out.next HO0.out) HP0.out HTR.out.tb.inv (by decide)
  unfold PtQ at q1
  rw [HPX.out.1, HTR.out.r1] at q1
  dsimp only at q1
  rw [show errC E 107 = errV (E 6) from rfl] at q1
  try unfold Ent.v at q1
  try dsimp only [Ent.z] at q1
  have HQ1 := Lib.hid q1
  clear q1
  go_wp2_with fail
  refine HQ1.out.mono ?_
  rintro y v1 ⟨rfl, hp, ho⟩
  have HP1 : Hid (PtAt v1 p1 S2) := Lib.hid hp
  have HO1 := Lib.hid (HO0.out.trans ho)
  clear hp ho HQ1 HP0 HO0
  have q2 := tput_any E p1 S2 4 pg ⟨3, true, true, false⟩ v1 (HEC.out.next HO1.out) HP1.out HTR.out.tb.inv (by decide)
  unfold PtQ at q2
  rw [HPX.out.1, HTR.out.r2] at q2
  dsimp only at q2
  rw [show errC E 111 = errV (E 10) from rfl] at q2
  try unfold Ent.v at q2
  try dsimp only [Ent.z] at q2
  have HQ2 := Lib.hid q2
  clear q2
  go_wp2_with fail
  refine HQ2.out.mono ?_
  rintro y v2 ⟨rfl, hp, ho⟩
  have HP2 : Hid (PtAt v2 p1 S2) := Lib.hid hp
  have HO2 := Lib.hid (HO1.out.trans ho)
  clear hp ho HQ2 HP1 HO1
  have q3 := tput_any E p1 S2 4 256 Ent.z v2 (HEC.out.next HO2.out) HP2.out HTR.out.tb.inv (by decide)
  unfold PtQ at q3
  rw [HPX.out.1, TrAt.r3 S2] at q3
  dsimp only at q3
  rw [show errC E 103 = errV (E 2) from rfl] at q3
  try unfold Ent.v at q3
  try dsimp only [Ent.z] at q3
  have HQ3 := Lib.hid q3
  clear q3
  go_wp2_with fail
  refine HQ3.out.mono ?_
  rintro y v3 ⟨rfl, hp, ho⟩
  have HP3 : Hid (PtAt v3 p1 S2) := Lib.hid hp
  have HO3 := Lib.hid (HO2.out.trans ho)
  clear hp ho HQ3 HP2 HO2
  have q4 := tlend_any E p1 S2 4 pg 29 false v3 (HEC.out.next HO3.out) HP3.out HTR.out.tb.inv (by decide)
  unfold PtQ at q4
  rw [HPX.out.1, HTR.out.r4] at q4
  dsimp only at q4
  rw [show errC E 107 = errV (E 6) from rfl] at q4
  try unfold Ent.v at q4
  try dsimp only [Ent.z] at q4
  have HQ4 := Lib.hid q4
  clear q4
  go_wp2_with fail
  refine HQ4.out.mono ?_
  rintro y v4 ⟨rfl, hp, ho⟩
  have HP4 : Hid (PtAt v4 p1 S2) := Lib.hid hp
  have HO4 := Lib.hid (HO3.out.trans ho)
  clear hp ho HQ4 HP3 HO3
  have q5 := tput_any E p1 S2 4 pg ⟨1, false, false, false⟩ v4 (HEC.out.next HO4.out) HP4.out HTR.out.tb.inv (by decide)
  unfold PtQ at q5
  rw [HPX.out.1, HTR.out.r5] at q5
  dsimp only at q5
  rw [show errC E 103 = errV (E 2) from rfl] at q5
  try unfold Ent.v at q5
  try dsimp only [Ent.z] at q5
  have HQ5 := Lib.hid q5
  clear q5
  go_wp2_with fail
  refine HQ5.out.mono ?_
  rintro y v5 ⟨rfl, hp, ho⟩
  have HP5 : Hid (PtAt v5 p1 S2) := Lib.hid hp
  have HO5 := Lib.hid (HO4.out.trans ho)
  clear hp ho HQ5 HP4 HO4
  have q6 := tdrop_any E p1 S2 4 (-1) v5 (HEC.out.next HO5.out) HP5.out HTR.out.tb.inv (by decide)
  unfold PtQ at q6
  rw [HPX.out.1, TrAt.r6 S2] at q6
  dsimp only at q6
  rw [show errC E 103 = errV (E 2) from rfl] at q6
  try unfold Ent.v at q6
  try dsimp only [Ent.z] at q6
  have HQ6 := Lib.hid q6
  clear q6
  go_wp2_with fail
  refine HQ6.out.mono ?_
  rintro y v6 ⟨rfl, hp, ho⟩
  have HP6 : Hid (PtAt v6 p1 S2) := Lib.hid hp
  have HO6 := Lib.hid (HO5.out.trans ho)
  clear hp ho HQ6 HP5 HO5
  have q7 := tlend_any E p1 S2 4 pg 3 true v6 (HEC.out.next HO6.out) HP6.out HTR.out.tb.inv (by decide)
  unfold PtQ at q7
  rw [HPX.out.1, HTR.out.r7] at q7
  dsimp only at q7
  rw [show errC E 111 = errV (E 10) from rfl] at q7
  try unfold Ent.v at q7
  try dsimp only [Ent.z] at q7
  have HQ7 := Lib.hid q7
  clear q7
  go_wp2_with fail
  refine HQ7.out.mono ?_
  rintro y v7 ⟨rfl, hp, ho⟩
  have HP7 : Hid (PtAt v7 p1 S2) := Lib.hid hp
  have HO7 := Lib.hid (HO6.out.trans ho)
  clear hp ho HQ7 HP6 HO6
  have hA := blk_new v7 (.cells #[errV (E 6), errV (E 10), errV (E 2), errV (E 6), errV (E 2), errV (E 2), errV (E 10)] 26)
  obtain ⟨ab, hab⟩ : ∃ x, v7.heap.size = x := ⟨_, rfl⟩
  obtain ⟨v8, hv8⟩ : ∃ x, v7.alloc (.cells #[errV (E 6), errV (E 10), errV (E 2), errV (E 6), errV (E 2), errV (E 2), errV (E 10)] 26) = x := ⟨_, rfl⟩
  have HB8 : Hid (Below v7.heap.size v7 v8) := Lib.hid (hv8 ▸ (Below.refl _ _).alloc (Nat.le_refl _) _)
  rw [hab, hv8] at hA
  have hB := blk_new v8 (.cells #[.int .i64 107, .int .i64 111, .int .i64 103, .int .i64 107, .int .i64 103, .int .i64 103, .int .i64 111] 3)
  obtain ⟨bb, hbb⟩ : ∃ x, v8.heap.size = x := ⟨_, rfl⟩
  obtain ⟨v9, hv9⟩ : ∃ x, v8.alloc (.cells #[.int .i64 107, .int .i64 111, .int .i64 103, .int .i64 107, .int .i64 103, .int .i64 103, .int .i64 111] 3) = x := ⟨_, rfl⟩
  have hA9 := blk_old hA (.cells #[.int .i64 107, .int .i64 111, .int .i64 103, .int .i64 107, .int .i64 103, .int .i64 103, .int .i64 111] 3)
  rw [hbb, hv9] at hB
  rw [hv9] at hA9
  have HB9 : Hid (Below v7.heap.size v7 v9) := Lib.hid (hv9 ▸ HB8.out.alloc HB8.out.size _)
  have HA9 := Lib.hid hA9
  have HBB9 := Lib.hid hB
  have HO9 := Lib.hid (HO7.out.trans (Only.of_below (F := p1.zw) HB9.out))
  have HP9 := Lib.hid (HP7.out.below HB9.out)
  have HST : Hid (RfTo v9 (.int .i64 0) v9) := Lib.hid ⟨0, Nat.zero_le _, rfl, Below.refl _ _⟩
  clear hA hB hA9 HB8 HO7 HP7
  go_upto_region 14 with fail
  try rw [hab]
  try rw [hv8]
  try rw [hbb]
  try rw [hv9]
  clear hab hv8 hbb hv9
  go_wp2_with fail
  go_loopw [13] (fun i wr => RfTo v9 i wr) (fun i _ => 7 - (intOf i).toNat)
  case atStart => exact HST.out
  case round =>
    obtain ⟨k, hk, rfl, hb⟩ := hrel
    have HB := Lib.hid hb
    clear hb HST
    by_cases hlt : k < 7
    · have hki : (k : Int) < 7 := by omega
      have hk0 : (0 : Int) ≤ (k : Int) := by omega
      have wk := IntWalk.i64_in ((k : Int) + 1) (by omega)
      have a0 : wr.cell? ⟨ab, k, none⟩ = some (errC E (rfCs.getD k 0)) := (blk_cell (blk_below HA9.out HB.out (blk_lt HA9.out)) k).trans (rf_errs E k hlt)
      have b0 : wr.cell? ⟨bb, k, none⟩ = some (.int .i64 (rfCs.getD k 0)) := (blk_cell (blk_below HBB9.out HB.out (blk_lt HBB9.out)) k).trans (rf_ints k hlt)
      have la := blk_lt (blk_below HA9.out HB.out (blk_lt HA9.out))
      have lb := blk_lt (blk_below HBB9.out HB.out (blk_lt HBB9.out))
      have HOK := Lib.hid (rf_ok k hlt)
      obtain ⟨c, hc⟩ : ∃ c, rfCs.getD k 0 = c := ⟨_, rfl⟩
      rw [hc] at a0 b0 HOK
      obtain ⟨ev, hev⟩ : ∃ v, errC E c = v := ⟨_, rfl⟩
      have HEV : Hid (errNum ev E c) := Lib.hid (hev ▸ errC_num E c HOK.out)
      rw [hev] at a0
      have HWR : Hid (∀ wx, Below wr.heap.size wr wx → Below w.heap.size w wx) := Lib.hid fun wx hx => HW.out wx (HO9.out.trans (Only.of_below (F := p1.zw) (HB.out.trans (hx.mono HB.out.size))))
      have HIS : Hid (∀ wx, Below wr.heap.size wr wx → Calls Tryd.prog 17 #[ev, .int .i64 c] wx fun e w' => e = .returned (.bool true) ∧ Below wx.heap.size wx w') := Lib.hid fun wx hx => by
        have := is_any E ev c c HEV.out wx (HE16.out _ (HWR.out wx hx))
        rw [decide_eq_true (rfl : c = c)] at this
        exact this
      clear hc hev
      go_wp2_with fail
      go_region_with (first | (go_at_call 17; refine (HIS.out _ (by first | exact (Below.refl _ _).drew | exact Below.refl _ _)).mono ?_; rintro e v10 ⟨rfl, hb10⟩))
      all_goals
        have HB10 : Hid (Below v9.heap.size v9 v10) := Lib.hid (by first | exact HB.out.trans (hb10.mono HB.out.size) | exact HB.out.drew.trans (hb10.mono HB.out.size))
        clear hb10 a0 b0
        go_wp2_with fail
        go_roundw
        case rel => exact ⟨k + 1, by omega, by go_num, HB10.out⟩
        case measure => simp [intOf]; omega
    · have hki : ¬ (k : Int) < 7 := by omega
      have HOA := Lib.hid (HO9.out.trans (Only.of_below (F := p1.zw) HB.out))
      have HPA := Lib.hid (HP9.out.below HB.out)
      have hg := tget_any p1 S2 4 pg wr HPA.out HTR.out.tb.inv
      rw [HPX.out.1, HTR.out.get] at hg
      unfold Ent.v at hg
      dsimp only at hg
      have HGT := Lib.hid hg
      clear hg hk hlt
      go_wp2_with fail
      refine HGT.out.mono ?_
      rintro y va ⟨rfl, hba⟩
      have hna := blk_new va (.cells #[.int .i64 17, .bool true, .bool true, .bool true] 68)
      obtain ⟨b1, hb1⟩ : ∃ x, va.heap.size = x := ⟨_, rfl⟩
      obtain ⟨va2, hva2⟩ : ∃ x, va.alloc (.cells #[.int .i64 17, .bool true, .bool true, .bool true] 68) = x := ⟨_, rfl⟩
      have HBA : Hid (Below wr.heap.size wr va2) := Lib.hid (hva2 ▸ hba.alloc hba.size _)
      have HL1 : Hid (wr.heap.size ≤ b1) := Lib.hid (hb1 ▸ hba.size)
      rw [hb1, hva2] at hna
      have HNA := Lib.hid hna
      have HPB := Lib.hid (HPA.out.below HBA.out)
      have hfg := fget_some S2.F p1.fb p1.fg S2.n 19 va2 HPB.out.fr (by rw [HTR.out.tb.inv.lf, HSN.out]; decide)
      unfold frV at hfg
      rw [HPX.out.2.2, HTR.out.wr] at hfg
      obtain ⟨⟨fo, fk, fw', fu⟩, hfx⟩ : ∃ x, S2.F.getD 19 default = x := ⟨_, rfl⟩
      rw [hfx] at hfg
      dsimp only at hfg
      have HFG := Lib.hid hfg
      clear hba hna hfg hfx
      go_wp2_with fail
      try rw [hb1]
      try rw [hva2]
      clear hb1 hva2
      refine HFG.out.mono ?_
      rintro y vb ⟨rfl, hbb⟩
      have hnb := blk_new vb (.cells #[.int .i64 fo, .int .i64 fk, .int .i64 1, .int .i64 fu] 33)
      obtain ⟨b2, hb2⟩ : ∃ x, vb.heap.size = x := ⟨_, rfl⟩
      obtain ⟨vb2, hvb2⟩ : ∃ x, vb.alloc (.cells #[.int .i64 fo, .int .i64 fk, .int .i64 1, .int .i64 fu] 33) = x := ⟨_, rfl⟩
      have HBB : Hid (Below va2.heap.size va2 vb2) := Lib.hid (hvb2 ▸ hbb.alloc hbb.size _)
      rw [hb2, hvb2] at hnb
      have HNB := Lib.hid hnb
      have HNA2 := Lib.hid (blk_below HNA.out HBB.out (blk_lt HNA.out))
      have HPC := Lib.hid (HPB.out.below HBB.out)
      have HOC : Hid (Only p1.zw wc vb2) := Lib.hid ((HOA.out.trans (Only.of_below (F := p1.zw) HBA.out)).trans (Only.of_below (F := p1.zw) HBB.out))
      have HST2 : Hid (RgTo vb2 (.int .i64 0) (.int .i64 0) vb2) := Lib.hid ⟨0, Nat.zero_le _, rfl, rfl, rfl⟩
      have HLB : Hid (wr.heap.size ≤ b1 ∧ wr.heap.size ≤ b2) := Lib.hid ⟨HL1.out, hb2 ▸ Nat.le_trans HBA.out.size hbb.size⟩
      clear hbb hnb
      go_upto_region 22 with fail
      try rw [hb2]
      try rw [hvb2]
      clear hb2 hvb2
      go_wp2_with fail
      go_loopw [18, 19] (fun v i wr => RgTo vb2 v i wr) (fun _ i _ => 480 - (intOf i).toNat)
      case atStart => exact HST2.out
      case round =>
        obtain ⟨k, hk, rfl, rfl, hw⟩ := hrel
        subst hw
        clear HST2
        by_cases hlt : k < 480
        · have hki2 : (k : Int) < 480 := by omega
          have wk := IntWalk.i64_in ((k : Int) + 1) (by omega)
          have hr1 := mm_read_in S2.M cb S2.n k cv wr (HOLD.out _ HOC.out) (by rw [HSN.out]; omega)
          have hr2 := mm_read_in S2.M p1.mb S2.n k p1.mv wr HPC.out.mem (by rw [HSN.out]; omega)
          rw [HPX.out.2.1] at hr2
          obtain ⟨x, hx⟩ : ∃ x, S2.M.getD k 0 = x := ⟨_, rfl⟩
          rw [hx] at hr1 hr2
          have HR1 := Lib.hid hr1
          have HR2 := Lib.hid hr2
          clear hr1 hr2 hx
          go_wp2_with fail
          refine HR1.out.mono ?_
          rintro y wx ⟨rfl, rfl⟩
          go_wp2_with fail
          refine HR2.out.mono ?_
          rintro y wx ⟨rfl, rfl⟩
          go_wp2_with fail
          go_roundw
          case rel => exact ⟨k + 1, by omega, rfl, by go_num, rfl⟩
          case measure => simp [intOf]; omega
        · have hki2 : ¬ (k : Int) < 480 := by omega
          have hdr := tdrop_any E p1 S2 4 pg wr (HEC.out.next HOC.out) HPC.out HTR.out.tb.inv (by decide)
          unfold PtQ at hdr
          rw [HPX.out.1, HTR.out.drop.1] at hdr
          have HDR := Lib.hid hdr
          clear hdr hk hlt
          go_wp2_with fail
          refine HDR.out.mono ?_
          rintro y vd ⟨rfl, hpd, hod⟩
          have HPD := Lib.hid hpd
          have HOD := Lib.hid (HOC.out.trans hod)
          have hn1 := hod.blk HNA2.out (fun hz => by have := HTC.out.plt b1 (.inr hz); have := HLB.out; have := HOA.out.size; omega)
          have hn2 := hod.blk HNB.out (fun hz => by have := HTC.out.plt b2 (.inr hz); have := HLB.out; have := HOA.out.size; omega)
          have HN1' := Lib.hid hn1
          have HN2' := Lib.hid hn2
          have hg2 := tget_any p1 _ 5 pg vd HPD.out (tDrop_inv HTR.out.tb.inv pg)
          rw [HPX.out.1, HTR.out.drop.2] at hg2
          unfold Ent.v at hg2
          dsimp only [Ent.z] at hg2
          have HG2 := Lib.hid hg2
          clear hpd hod hn1 hn2 hg2
          unfold errC
          rw [if_pos rfl]
          go_wp2_with fail
          refine HG2.out.mono ?_
          rintro y ve ⟨rfl, hbe⟩
          have hq1 := blk_old (blk_below HN1'.out hbe (blk_lt HN1'.out)) (.cells #[.int .i64 0, .bool false, .bool false, .bool false] 68)
          have hq2 := blk_old (blk_below HN2'.out hbe (blk_lt HN2'.out)) (.cells #[.int .i64 0, .bool false, .bool false, .bool false] 68)
          have HBE : Hid (Below w.heap.size w (ve.alloc (.cells #[.int .i64 0, .bool false, .bool false, .bool false] 68))) := Lib.hid (HW.out _ (HOD.out.trans (Only.of_below (F := p1.zw) (hbe.alloc hbe.size _))))
          have z0 : (ve.alloc (.cells #[.int .i64 0, .bool false, .bool false, .bool false] 68)).cell? ⟨b1, 0, none⟩ = some (.int .i64 17) := blk_cell hq1 0
          have z2 : (ve.alloc (.cells #[.int .i64 0, .bool false, .bool false, .bool false] 68)).cell? ⟨b1, 2, none⟩ = some (.bool true) := blk_cell hq1 2
          have z3 : (ve.alloc (.cells #[.int .i64 0, .bool false, .bool false, .bool false] 68)).cell? ⟨b1, 3, none⟩ = some (.bool true) := blk_cell hq1 3
          have y2 : (ve.alloc (.cells #[.int .i64 0, .bool false, .bool false, .bool false] 68)).cell? ⟨b2, 2, none⟩ = some (.int .i64 1) := blk_cell hq2 2
          have lq1 := blk_lt hq1
          have lq2 := blk_lt hq2
          have ld1 := blk_lt (blk_below HN1'.out hbe (blk_lt HN1'.out))
          have ld2 := blk_lt (blk_below HN2'.out hbe (blk_lt HN2'.out))
          have k0 : ve.cell? ⟨b1, 0, none⟩ = some (.int .i64 17) := blk_cell (blk_below HN1'.out hbe (blk_lt HN1'.out)) 0
          have k2 : ve.cell? ⟨b1, 2, none⟩ = some (.bool true) := blk_cell (blk_below HN1'.out hbe (blk_lt HN1'.out)) 2
          have k3 : ve.cell? ⟨b1, 3, none⟩ = some (.bool true) := blk_cell (blk_below HN1'.out hbe (blk_lt HN1'.out)) 3
          have j2 : ve.cell? ⟨b2, 2, none⟩ = some (.int .i64 1) := blk_cell (blk_below HN2'.out hbe (blk_lt HN2'.out)) 2
          clear hbe hq1 hq2
          go_wp2
          go_ret
          exact ⟨rfl, HBE.out⟩
end Go.Proofs.YtaoaachgnnengaaDoor

