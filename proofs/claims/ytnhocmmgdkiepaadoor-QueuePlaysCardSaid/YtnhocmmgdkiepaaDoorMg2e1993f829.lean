/-
  Parts of one proof, one behind the other.
-/
import Derived.Test.YtnhocmmgdkiepaaDoorRows
import Derived.Test.YtnhocmmgdkiepaaDoorMg4eb791d37b
import Derived.BigQuiet
import Derived.Test.YtnhocmmgdkiepaaDoorMg93d22f9928
import Derived.Test.YtnhocmmgdkiepaaDoorMg578fbbb829
import Derived.Test.YtnhocmmgdkiepaaDoorMgf2eb2c9c1f
import Derived.Deep.RegionHeldLaw
import Derived.Deep.AppendLies
/-
  facaderef.SameInts: are two lists the same?
-/
namespace Go.Proofs.YtnhocmmgdkiepaaDoor
open Go.RowKit

/-- the first k are the same -/
def SameIntsTo (xs ys : List Int) (w : World) (i : Value) (wr : World) : Prop := ∃ k : Nat, k ≤ xs.length ∧ i = .int .i64 k ∧ xs.take k = ys.take k ∧ ∃ n, wr = w.drewN n

set_option maxHeartbeats 800000 in
theorem sameInts_any (xs ys : List Int) (ao bo : Option Addr) (c1 c2 : Nat) (w : World) (hx : AtL w ao (ints xs)) (hy : AtL w bo (ints ys)) (hl : xs.length ≤ 1000000000) (hl2 : ys.length ≤ 1000000000) :
    Calls Tryd.prog 23 #[.slice ao xs.length c1, .slice bo ys.length c2] w fun e w' => e = .returned (.bool (decide (xs = ys))) ∧ ∃ n, w' = w.drewN n := by
  by_cases hlen : xs.length = ys.length
  · have HX := Lib.hid hx
    have HY := Lib.hid hy
    have HLEN := Lib.hid hlen
    rw [← HLEN.out]
    clear hx hy hlen
    go_enter Tryd.func23, Tryd.ntmps23
    go_wp2_with fail
    go_loopw [5] (fun i wr => SameIntsTo xs ys w i wr) (fun i _ => xs.length - (intOf i).toNat)
    case atStart => exact ⟨0, Nat.zero_le _, rfl, rfl, 0, rfl⟩
    case round =>
      obtain ⟨k, hk, rfl, hs, n, rfl⟩ := hrel
      have HS := Lib.hid hs
      clear hs
      by_cases hlt : k < xs.length
      · have hlt2 : k < ys.length := by have := HLEN.out; omega
        obtain ⟨b, o, rfl, p0, hb⟩ := HX.out k _ (ints_get xs k hlt)
        obtain ⟨b2, o2, rfl, q0, hb2⟩ := HY.out k _ (ints_get ys k hlt2)
        obtain ⟨x, hx⟩ : ∃ x, xs.getD k 0 = x := ⟨_, rfl⟩
        obtain ⟨y, hy⟩ : ∃ y, ys.getD k 0 = y := ⟨_, rfl⟩
        rw [hx] at p0
        rw [hy] at q0
        have HXE := Lib.hid hx
        have HYE := Lib.hid hy
        have hki : (k : Int) < (xs.length : Int) := by omega
        clear hx hy
        by_cases hxy : x = y
        · have hbq : (x == y) = true := by simp [hxy]
          have HXY := Lib.hid hxy
          clear hxy
          go_wp2_with fail
          go_quiet (fail)
          go_wp2
          go_roundw
          case rel => exact ⟨k + 1, by omega, by go_num, take_eq 0 hlt hlt2 HS.out (by rw [HXE.out, HYE.out, HXY.out]), n + nq, rfl⟩
          case measure => simp [intOf]; omega
        · have hbq : (x == y) = false := by simp [hxy]
          have HXY := Lib.hid hxy
          clear hxy
          go_wp2_with fail
          go_quiet (fail)
          go_wp2
          go_ret
          refine ⟨ret_bool ?_, n + nq, rfl⟩
          symm
          rw [decide_eq_false_iff_not]
          intro h
          subst h
          exact HXY.out (HXE.out.symm.trans HYE.out)
      · obtain rfl : k = xs.length := by omega
        go_wp2
        go_ret
        refine ⟨ret_bool ?_, n, rfl⟩
        symm
        rw [decide_eq_true_eq]
        have := HS.out
        rwa [List.take_length, List.take_of_length_le (by rw [HLEN.out]; exact Nat.le_refl _)] at this
  · have hne : ((xs.length : Int) != (ys.length : Int)) = true := by rw [bne_iff_ne]; omega
    have HLEN := Lib.hid hlen
    clear hlen hx hy
    go_enter Tryd.func23, Tryd.ntmps23
    go_wp2
    go_ret
    refine ⟨ret_bool ?_, 0, rfl⟩
    symm
    rw [decide_eq_false_iff_not]
    intro h
    exact HLEN.out (by rw [h])
end Go.Proofs.YtnhocmmgdkiepaaDoor

/-
  facadeworld.Number: any number as one from 0 to below a bound.
-/
namespace Go.Proofs.YtnhocmmgdkiepaaDoor
open Go.RowKit

set_option maxHeartbeats 400000 in
theorem number_any (n m : Int) (w : World) (h1 : -9223372036854775808 ≤ n) (h2 : n ≤ 9223372036854775807) (hm : 0 < m) (hm2 : m ≤ 1000000000) :
    Calls Tryd.prog 13 #[.int .i64 n, .int .i64 m] w fun e w' => e = .returned (.int .i64 (n % m)) ∧ w = w' := by
  by_cases hn : 0 ≤ n
  · have h3 := Int.emod_nonneg n (show m ≠ 0 by omega)
    have h4 : ¬ n % m < 0 := by omega
    go_enter Tryd.func13, Tryd.ntmps13
    go_wp2
    go_ret
    exact ⟨rfl, rfl⟩
  · obtain ⟨h3, h4, h5, h6⟩ := emod_of_tmod (show n < 0 by omega) hm
    obtain ⟨t, ht⟩ : ∃ t, n.tmod m = t := ⟨_, rfl⟩
    rw [ht] at h3 h4 h5 h6
    have H3 := Lib.hid h3
    have H4 := Lib.hid h4
    have hw := IntWalk.i64_in (t + m) (by omega)
    clear h3 h4
    by_cases hlt : t < 0
    · go_enter Tryd.func13, Tryd.ntmps13
      go_wp2
      go_ret
      exact ⟨by rw [← H3.out hlt]; rfl, rfl⟩
    · go_enter Tryd.func13, Tryd.ntmps13
      go_wp2
      go_ret
      exact ⟨by rw [← H4.out hlt]; rfl, rfl⟩
end Go.Proofs.YtnhocmmgdkiepaaDoor

/-
  QueuePlays: the walk. Given where the sentinels lie.
-/
namespace Go.Proofs.YtnhocmmgdkiepaaDoor
open Go.RowKit

theorem infoRUp : (Tryd.prog.info? 84).map (fun i => (i.zero, i.size, i.bytes)) = some (some (.agg #[.int .i64 0, .int .u32 0]), 2, 16) := by kernel_rfl
theorem qp_same (e : Ent) (w : World) : Calls Tryd.prog 46 #[e.v, e.v] w fun x w' => x = .returned (.bool true) ∧ Below w.heap.size w w' := same_refl e.f e.t e.w e.u w
/-- the updates that wait behind the first k -/
def qpU (l : List Up) (k : Nat) : List Up := (l.take k).take 16
theorem qpU_len (l : List Up) (k : Nat) (h : k ≤ l.length) : (qpU l k).length = min 16 k := by unfold qpU; rw [List.length_take, List.length_take]; omega
theorem qpU_more (l : List Up) (k : Nat) (h : k < l.length) (h16 : k < 16) : qpU l (k + 1) = qpU l k ++ [l.getD k default] := by
  unfold qpU
  rw [List.take_take, List.take_take, show min 16 (k + 1) = k + 1 by omega, show min 16 k = k by omega, List.take_succ_eq_append_getElem h, List.getD_eq_getElem?_getD, List.getElem?_eq_getElem h]
  rfl
theorem qpU_full (l : List Up) (k : Nat) (h16 : ¬ k < 16) : qpU l (k + 1) = qpU l k := by
  unfold qpU
  rw [List.take_take, List.take_take, show min 16 (k + 1) = min 16 k by omega]
theorem qpU_mem (l : List Up) (k : Nat) : ∀ u ∈ qpU l k, u ∈ l := fun u hu => List.mem_of_mem_take (List.mem_of_mem_take hu)
theorem up_at {w : World} {ao : Option Addr} {l : List Up} (h : AtL w ao (l.flatMap upOne)) (k : Nat) (hk : k < l.length) : ∃ b off, ao = some ⟨b, off, none⟩ ∧ b < w.heap.size ∧ ∀ wx, Below w.heap.size w wx → wx.cell? ⟨b, off + k * 2, none⟩ = some (.int .i64 (l.getD k default).page) ∧ wx.cell? ⟨b, off + k * 2 + 1, none⟩ = some (.int .u32 (l.getD k default).word) := by
  have h0 := rec_get upOne 2 upOne_len l k 0 hk (by decide)
  have h1 := rec_get upOne 2 upOne_len l k 1 hk (by decide)
  obtain ⟨b, off, e, c0, hb⟩ := h _ _ h0
  refine ⟨b, off, e, hb, fun wx hx => ?_⟩
  obtain ⟨b1, off1, e1, c1, -⟩ := (h.mono hx) _ _ h0
  obtain ⟨b2, off2, e2, c2, -⟩ := (h.mono hx) _ _ h1
  rw [e] at e1 e2
  cases e1
  cases e2
  exact ⟨c1, c2⟩
theorem own_ups {T : TypeId} {w : World} {v : Value} {l : List Up} (h : w.ownsRow 0 T 2 v l.length (upCells l)) (h0 : 0 < l.length) : ∃ g cap, v = .slice (some ⟨g, 0, none⟩) l.length cap ∧ g < w.heap.size ∧ ∀ wx, Below w.heap.size w wx → ∀ k, k < l.length → wx.cell? ⟨g, k * 2, none⟩ = some (.int .i64 (l.getD k default).page) ∧ wx.cell? ⟨g, k * 2 + 1, none⟩ = some (.int .u32 (l.getD k default).word) := by
  rcases own_shape h with ⟨-, hz, -⟩ | ⟨g, cap, rfl, -⟩
  · omega
  · have hg := own_lt h (show inRow _ g from rfl)
    refine ⟨g, cap, rfl, hg, fun wx hx k hk => ?_⟩
    have h2 : wx.ownsRow 0 T 2 (.slice (some ⟨g, 0, none⟩) l.length cap) l.length (upCells l) := own_only h (Only.of_below (F := fun _ => False) hx) (fun _ _ h => h)
    exact ⟨(own_cell h2 (k * 2) (by omega)).trans (rec_get upOne 2 upOne_len l k 0 hk (by decide)), (own_cell h2 (k * 2 + 1) (by omega)).trans (rec_get upOne 2 upOne_len l k 1 hk (by decide))⟩
def QpA (s : Ts) (tb zb : Nat) (n : Nat) (w : World) (i : Value) (wr : World) : Prop := ∃ (k : Nat) (p : Pl) (z : Zl), k ≤ n ∧ i = .int .i64 (k : Int) ∧ p.tb = tb ∧ z.zb = zb ∧ Tw w wr p z (addN s k) (addN s k)
def QpB (l : List Up) (s : Ts) (p : Pl) (z : Zl) (qb : Nat) (w : World) (x i : Value) (wr : World) : Prop := ∃ (k : Nat) (qv : Value), k ≤ l.length ∧ i = .int .i64 (k : Int) ∧ QuAt wr qb qv (qpU l k) ∧ wr.ownsRow 0 84 2 x (qpU l k).length (upCells (qpU l k)) ∧ Tw w wr p z s s ∧ (∀ j, inRow qv j → qb < j) ∧ (∀ j, inRow x j → qb < j) ∧ (∀ j, inRow qv j → ¬ inRow x j)
def QpC (n : Nat) (w0 : World) (i : Value) (wr : World) : Prop := ∃ k : Nat, k ≤ n ∧ i = .int .i64 (k : Int) ∧ Below w0.heap.size w0 wr
def QpD (s : Ts) (p : Pl) (z : Zl) (w : World) (i : Value) (wr : World) : Prop := ∃ k : Nat, k ≤ 256 ∧ i = .int .i64 (k : Int) ∧ Tw w wr p z s s

set_option maxRecDepth 100000 in
set_option maxHeartbeats 64000000 in
theorem queuePlays_some (E : Nat → Addr) (l : List Up) (ao : Option Addr) (cap : Nat) (x1 : Int) (w : World) (hE : ErrsAt errT gOf w E all16) (hl : AtL w ao (l.flatMap upOne)) (hu : ∀ u ∈ l, upOk u) (hle : l.length ≤ 30) (h1 : -9223372036854775808 ≤ x1 ∧ x1 ≤ 9223372036854775807) :
    Calls Tryd.prog 8 #[.slice ao l.length cap, .int .i64 x1] w fun y w' => y = .returned (.bool true) ∧ Below w.heap.size w w' := by
  obtain ⟨i0, hi, hz0, hz1, hz2⟩ := info_parts infoRUp
  have HE16 : Hid (∀ wx, Below w.heap.size w wx → ErrsAt errT gOf wx E all16) := Lib.hid fun wx h => hE.mono h
  have HEK : Hid (∀ wx, Below w.heap.size w wx → ErrsAt errT gOf wx E nine) := Lib.hid fun wx h => errs9 (hE.mono h)
  have HF1 := Lib.hid (qfirst_true E w (errs9 hE))
  have HN1 := Lib.hid (fun wx => number_any x1 10 wx h1.1 h1.2 (by decide) (by decide))
  have HL := Lib.hid hl
  have HU := Lib.hid hu
  obtain ⟨N, hN⟩ : ∃ N : Nat, x1 % 10 = (N : Int) := ⟨(x1 % 10).toNat, by omega⟩
  have hN10 : N ≤ 10 := by omega
  obtain ⟨nm, hnm⟩ : ∃ nm, x1 % 10 = nm := ⟨_, rfl⟩
  rw [hnm] at HN1 hN
  have HNM := Lib.hid hN
  have hlen : ¬ (30 : Int) < (l.length : Int) := by omega
  clear hE hl hu h1 hnm hN
  go_enter Tryd.func8, Tryd.ntmps8
  go_wp2_with fail
  refine HF1.out.mono ?_
  rintro y w0 ⟨rfl, hb0⟩
  have HB0 := Lib.hid hb0
  clear hb0
  go_wp2_with fail
  refine (mm_new 40 _ (by decide) (by decide)).mono ?_
  rintro y wa ⟨mb, mv, rfl, hma, hsa, hva, hba⟩
  have HMA := Lib.hid hma
  have HSA := Lib.hid hsa
  have HVA := Lib.hid hva
  have HBA := Lib.hid (HB0.out.trans (hba.mono HB0.out.size))
  clear hma hsa hva hba
  go_wp2_with fail
  refine (fnew_ok 40 _ (by decide) (by decide)).mono ?_
  rintro y wb ⟨fb, fg, rfl, hfb, hsb, hsg, hbb⟩
  have HMB := Lib.hid (HMA.out.below hbb)
  have HFB : Hid (FrAt 128 126 wb fb fg 40 (frU 40 0 0 (2))) := Lib.hid (by rw [frU_new]; exact hfb)
  have HBB := Lib.hid (HBA.out.trans (hbb.mono HBA.out.size))
  have HZ0 : Hid (w.heap.size ≤ mb ∧ (∀ k, inRow mv k → w.heap.size ≤ k ∧ k < wa.heap.size) ∧ wa.heap.size ≤ fb ∧ wa.heap.size ≤ fg ∧ mb < wa.heap.size) := Lib.hid ⟨Nat.le_trans HB0.out.size HSA.out, fun k hk => ⟨Nat.le_trans HB0.out.size (HVA.out k hk), own_lt HMA.out.2.1 hk⟩, hsb, hsg, blk_lt HMA.out.1⟩
  clear hfb hsb hsg hbb
  have HZW : Hid (∀ wx, Only (nz mv fg) wb wx → Below w.heap.size w wx) := Lib.hid fun wx ho => HBB.out.trans (ho.below (B := w.heap.size) HBB.out.size fun k hk => by
    rcases hk with hk | hk
    · exact (HZ0.out.2.1 k hk).1
    · rw [hk]; exact Nat.le_trans HBA.out.size HZ0.out.2.2.2.1)
  have HNW := Lib.hid (tnew_ok E 40 0 mb fb fg mv (List.replicate (16 * 40) 0) (2) wb (fun wx ho => HEK.out wx (HZW.out wx ho)) HMB.out HFB.out ⟨fun k hk => ⟨fun e => by have := HZ0.out.2.1 k hk; have := HZ0.out.2.2.1; omega, fun e => by have := HZ0.out.2.1 k hk; have := HZ0.out.2.2.2.1; omega⟩, fun e => by have := HZ0.out.2.2.2; omega⟩ (by unfold frOwns; omega) (by decide) (by decide))
  go_wp2_with fail
  refine HNW.out.mono ?_
  rintro y wc ⟨pv, lv, rfl, hpc, hoc, hvc⟩
  have HBC := Lib.hid (HZW.out _ hoc)
  obtain ⟨p, hp⟩ : ∃ p : Pl, p = ⟨wb.heap.size + 1, mb, fb, fg, wb.heap.size, mv, pv, lv⟩ := ⟨_, rfl⟩
  have htb : p.tb = wb.heap.size + 1 := by rw [hp]
  have HPC : Hid (PtAt wc p (tNew 40 0 (2))) := Lib.hid (by rw [hp]; exact hpc)
  have HPZ : Hid (∀ k, p.zw k → w.heap.size ≤ k) := Lib.hid fun k hk => by
    rw [hp] at hk
    rcases hk with hk | hk | hk | hk
    · exact (HZ0.out.2.1 k hk).1
    · rw [show k = fg from hk]; exact Nat.le_trans HBA.out.size HZ0.out.2.2.2.1
    · rw [show k = wb.heap.size from hk]; exact HBB.out.size
    · exact Nat.le_trans HBB.out.size (hvc k hk)
  have HTI := Lib.hid (tNew_inv 40 0 (2) (by unfold frOwns; omega) (by decide) (by decide))
  have hs1 : w.heap.size ≤ wb.heap.size := HBB.out.size
  clear hpc hoc hvc HNW hp
  have HWC : Hid (w.heap.size ≤ wc.heap.size) := Lib.hid HBC.out.size
  have HPL : Hid (∀ k, (p.z0 k ∨ p.zw k) → k < wc.heap.size) := Lib.hid fun k hk => HPC.out.lt k (zw_all hk)
  go_wp2_with fail
  refine (mr_new 40 _ (by decide) (by decide)).mono ?_
  rintro y wd ⟨zmb, zmv, rfl, hmd, hsd, hvd, hbd⟩
  have HMD := Lib.hid hmd
  have HSD : Hid (wc.heap.size ≤ zmb ∧ (∀ k, inRow zmv k → wc.heap.size ≤ k ∧ k < wd.heap.size) ∧ zmb < wd.heap.size) := Lib.hid ⟨hsd, fun k hk => ⟨hvd k hk, own_lt hmd.2.1 hk⟩, blk_lt hmd.1⟩
  have HPD := Lib.hid (HPC.out.below hbd)
  have HBD := Lib.hid (HBC.out.trans (hbd.mono HBC.out.size))
  have HSZ : Hid (wc.heap.size ≤ wd.heap.size) := Lib.hid hbd.size
  clear hmd hsd hvd hbd
  go_wp2_with fail
  refine (rnew_ok 40 _ (by decide)).mono ?_
  rintro y we ⟨zfb, zfg, rfl, hfe, hse, hge, hbe⟩
  have HME := Lib.hid (HMD.out.below hbe)
  have HFE : Hid (FrAt 152 153 we zfb zfg 40 (frU 40 0 0 2)) := Lib.hid (by rw [frU_new]; exact hfe)
  have HSE : Hid (wd.heap.size ≤ zfb ∧ wd.heap.size ≤ zfg) := Lib.hid ⟨hse, hge⟩
  have HPE := Lib.hid (HPD.out.below hbe)
  have HBE := Lib.hid (HBD.out.trans (hbe.mono HBD.out.size))
  have HSY : Hid (wd.heap.size ≤ we.heap.size) := Lib.hid hbe.size
  clear hfe hse hge hbe
  have HNZ := Lib.hid (znew_ok 40 0 zmb zfb zfg zmv 2 we HME.out HFE.out ⟨fun k hk => ⟨fun e => by have := (HSD.out.2.1 k hk).2; have := HSE.out.1; omega, fun e => by have := (HSD.out.2.1 k hk).2; have := HSE.out.2; omega⟩, fun e => by have := HSD.out.2.2; have := HSE.out.2; omega⟩ (by unfold frOwns; omega) (by decide) (by decide))
  go_wp2_with fail
  refine HNZ.out.mono ?_
  rintro y wf ⟨gv, rfl, hzf, hof, hgf⟩
  obtain ⟨zb, hzb⟩ : ∃ x, we.heap.size = x := ⟨_, rfl⟩
  rw [hzb] at hzf
  obtain ⟨z, hz⟩ : ∃ z : Zl, z = ⟨zb, zmb, zfb, zfg, zmv, gv⟩ := ⟨_, rfl⟩
  have hzb2 : z.zb = zb := by rw [hz]
  obtain ⟨tb, htb2⟩ : ∃ x, wb.heap.size + 1 = x := ⟨_, rfl⟩
  rw [htb2] at htb
  have HZB : Hid (∀ k, (z.z0 k ∨ z.zw k) → wc.heap.size ≤ k) := Lib.hid fun k hk => by
    have h1 := HSZ.out
    have h2 := HSY.out
    have h3 := HSE.out
    rw [hz] at hk
    rcases hk with (hk | hk) | hk | hk | hk | hk
    · rw [show k = zmb from hk]; exact HSD.out.1
    · rw [show k = zfb from hk]; omega
    · exact (HSD.out.2.1 k hk).1
    · rw [show k = zfg from hk]; omega
    · rw [show k = zb from hk]; omega
    · have := hgf k hk; omega
  have HTW : Hid (Tw w wf p z (tNew 40 0 2) (tNew 40 0 2)) := Lib.hid (by
    have hap : ∀ k, (p.z0 k ∨ p.zw k) → ¬ nz zmv zfg k := fun k hk hn => by
      have h0 := HPL.out k hk
      have h1 := HSZ.out
      have h3 := HSE.out
      rcases hn with hn | hn
      · have := (HSD.out.2.1 k hn).1; omega
      · rw [hn] at h0; omega
    refine ⟨HPE.out.keep hof (fun k hk => hap k (.inl hk)) (fun k hk => hap k (.inr (zw_z1 hk))) (fun k hk => hap k (.inr (zw_z2 hk))) (fun k hk => hap k (.inr (zw_z3 hk))), by rw [hz]; exact hzf, fun k h1 h2 => ?_, HPZ.out, fun k hk => Nat.le_trans HWC.out (HZB.out k (.inr hk)), HBE.out.trans (hof.below (B := w.heap.size) HBE.out.size fun k hk => ?_)⟩
    · have := HPL.out k h1
      have := HZB.out k h2
      omega
    · have h0 := HWC.out
      have h1 := HSZ.out
      have h3 := HSE.out
      rcases hk with hk | hk
      · have := (HSD.out.2.1 k hk).1; omega
      · rw [hk]; omega)
  clear hzf hof hgf hz HPZ HPC HPD HPE HMD HME HFE HNZ HZB HPL HMA HMB HFB HZ0 HZW HVA HSA HSD HSE HSZ HSY HBA HBB HBC HBD HBE
  rw [hzb, htb2]
  clear hzb htb2 hs1
  obtain ⟨S0, hS0⟩ : ∃ S, tNew 40 0 2 = S := ⟨_, rfl⟩
  rw [hS0] at HTW HTI
  have HWH : Hid (S0.who ≠ -1) := Lib.hid (by rw [← hS0]; show (2 : Int) ≠ -1; decide)
  clear hS0
  go_wp2_with fail
  go_loopw [14] (fun i wr => QpA S0 tb zb N w i wr) (fun i _ => N - (intOf i).toNat)
  case atStart => exact ⟨0, p, z, Nat.zero_le _, rfl, htb, hzb2, HTW.out⟩
  case round =>
    obtain ⟨k, p1, z1, hk, rfl, htb1, hzb1, htw⟩ := hrel
    have HT := Lib.hid htw
    have HINV := Lib.hid (addN_inv HTI.out HWH.out k)
    have HT1 := Lib.hid htb1
    have HZ1 := Lib.hid hzb1
    clear htw HTW htb hzb2
    by_cases hlt : k < N
    · have hki : (k : Int) < nm := by rw [HNM.out]; omega
      have had := tadd_any E p1 (addN S0 k) (1 + (k : Int)) wr (HT.out.errs HEK.out) HT.out.pt HINV.out.1
      unfold AddQ at had
      rw [htb1] at had
      have HAD := Lib.hid had
      have HZA := Lib.hid (fun wx (hx : ZtAt wx z1 (addN S0 k)) => zadd_any z1 (addN S0 k) (1 + (k : Int)) wx hx HINV.out.1)
      unfold ZAddQ at HZA
      rw [hzb1] at HZA
      have wk := IntWalk.i64_in ((k : Int) + 1) (by omega)
      clear had htb1 hzb1
      go_wp2_with fail
      refine (HN1.out _).mono ?_
      rintro y wx ⟨rfl, rfl⟩
      go_wp2_with fail
      refine HAD.out.mono ?_
      rintro y wg ⟨pv2, rfl, hpd, hod, hvd⟩
      have HT2 := Lib.hid (HT.out.pAdd (by rw [HT1.out]; exact hpd) hod hvd)
      clear hpd hod hvd
      go_wp2_with fail
      refine (HZA.out _ HT2.out.zt).mono ?_
      rintro y wh ⟨gv2, rfl, hzd, hoz, hvz⟩
      have HT3 := Lib.hid (HT2.out.zAdd (by rw [HZ1.out]; exact hzd) hoz hvz)
      clear hzd hoz hvz
      go_wp2_with fail
      go_roundw
      case rel => exact ⟨k + 1, { p1 with pv := pv2 }, { z1 with gv := gv2 }, by omega, by go_num, HT1.out, HZ1.out, HT3.out⟩
      case measure => simp [intOf]; omega
    · have hki : ¬ (k : Int) < nm := by rw [HNM.out]; omega
      have HI := Lib.hid HINV.out.1
      obtain ⟨S, hS⟩ : ∃ S, addN S0 k = S := ⟨_, rfl⟩
      obtain ⟨m, hm⟩ : ∃ m : Int, 1 + (k : Int) = m := ⟨_, rfl⟩
      rw [hS] at HT HI
      rw [hm] at HI
      have hm11 : m ≤ 11 := by omega
      clear hS hm hlt hk HINV HNM
      go_wp2_with fail
      refine (HN1.out _).mono ?_
      rintro y wx ⟨rfl, rfl⟩
      obtain ⟨qb, hqb⟩ : ∃ qb, wr.heap.size = qb := ⟨_, rfl⟩
      have HQ0 : Hid (QuAt (wr.alloc (.cells #[.slice none 0 0] 53)) qb (.slice none 0 0) []) := Lib.hid (hqb ▸ QuAt.new wr)
      have HT0 := Lib.hid (HT.out.below ((Below.refl _ _).alloc (Nat.le_refl _) (.cells #[.slice none 0 0] 53)))
      have HZP : Hid (∀ k, (p1.z0 k ∨ p1.zw k) → k < qb) := Lib.hid fun k hk => hqb ▸ HT.out.plt k hk
      have HZZ : Hid (∀ k, (z1.z0 k ∨ z1.zw k) → k < qb) := Lib.hid fun k hk => hqb ▸ HT.out.zlt k hk
      have HQB : Hid (w.heap.size ≤ qb) := Lib.hid (hqb ▸ HT.out.b.size)
      have HST : Hid (QpB l S p1 z1 qb w (.slice none 0 0) (.int .i64 0) (wr.alloc (.cells #[.slice none 0 0] 53))) := Lib.hid ⟨0, _, Nat.zero_le _, rfl, HQ0.out, own_nil _ _ _, HT0.out, (fun j h => by cases h), (fun j h => by cases h), (fun j h => by cases h)⟩
      have HTB1 := Lib.hid htb1
      have HZB1 := Lib.hid hzb1
      clear htb1 hzb1
      go_wp2_with fail
      try rw [hqb]
      clear hqb HT HT0 HQ0
      go_loopw [16, 17] (fun x i wr => QpB l S p1 z1 qb w x i wr) (fun _ i _ => l.length - (intOf i).toNat)
      case atStart => exact HST.out
      case round =>
        obtain ⟨k, qv, hk, rfl, hq, hx, htw, hqq, hxx, hqx⟩ := hrel
        have HQ := Lib.hid hq
        have HX := Lib.hid hx
        have HT := Lib.hid htw
        have HQQ := Lib.hid hqq
        have HXX := Lib.hid hxx
        have HQX := Lib.hid hqx
        have HLU := Lib.hid (qpU_len l k hk)
        obtain ⟨ax, cx, rfl⟩ := own_slice hx
        clear hq hx htw hqq hxx hqx HST
        by_cases hlt : k < l.length
        · have hki : (k : Int) < (l.length : Int) := by omega
          have hk0 : (0 : Int) ≤ (k : Int) := by omega
          have wk := IntWalk.i64_in ((k : Int) + 1) (by omega)
          obtain ⟨b, off, hao, hbl, hcl⟩ := up_at HL.out k hlt
          have HCL := Lib.hid hcl
          have HM16 := Lib.hid (qpU_more l k hlt)
          have HF16 := Lib.hid (qpU_full l k)
          obtain ⟨⟨up, uw⟩, hue⟩ : ∃ u, l.getD k default = u := ⟨_, rfl⟩
          rw [hue] at HCL HM16
          dsimp only at HCL
          subst hao
          obtain ⟨x0, y0⟩ := HCL.out _ HT.out.b
          have lbr : b < wr.heap.size := Nat.lt_of_lt_of_le hbl HT.out.b.size
          clear hcl hue
          by_cases h16 : k < 16
          · have hu16 : (qpU l k).length = k := by rw [HLU.out]; omega
            rw [hu16] at HX ⊢
            have hkn : ¬ (16 : Int) ≤ (k : Int) := by omega
            have HT16 : Hid (qpU l (k + 1) = qpU l k ++ [⟨up, uw⟩]) := Lib.hid (HM16.out h16)
            have HUL : Hid ((qpU l k).length < 16) := Lib.hid (by omega)
            have HNEW : Hid (∀ (W : World) (T : TypeId) (j : Nat) (u : Value), ([.int .i64 up, .int .u32 uw] : List Value)[j]? = some u → (W.alloc (.cells #[.int .i64 up, .int .u32 uw] T)).cell? ((⟨W.heap.size, 0, none⟩ : Addr).add j) = some u) := Lib.hid fun W T j u hj => by
              rw [Addr.add_lit, blk_cell (blk_new W (.cells #[.int .i64 up, .int .u32 uw] T)), Nat.zero_add]
              simpa using hj
            have HONE : Hid (∀ u ∈ ([.int .i64 up, .int .u32 uw] : List Value), u.oneCell' = true) := Lib.hid fun u hu => by
              simp only [List.mem_cons, List.not_mem_nil, or_false] at hu
              rcases hu with rfl | rfl <;> rfl
            have HOA : Hid (∀ X, (wr.drew.alloc X).ownsRow 0 84 2 (.slice ax k cx) k (upCells (qpU l k))) := Lib.hid fun X => (show wr.drew.ownsRow _ _ _ _ _ _ from HX.out).alloc X
            have HOX : Hid (∀ X, Only (fun j => inRow (.slice ax k cx) j) wr (wr.drew.alloc X)) := Lib.hid fun X => (Only.refl _ _).drew.alloc' X
            have HNE : Hid (some b ≠ (Value.slice ax k cx).ownBlock) := Lib.hid fun e => by
              have h1 := HXX.out b (by rw [hu16]; exact e.symm)
              have h2 := HQB.out
              omega
            have HB0 := Lib.hid (show ∀ X, b < (wr.drew.alloc X).heap.size from fun X => by simp; omega)
            rw [hu16] at HXX HQX
            have HU16 := Lib.hid hu16
            clear hu16
            go_wp2_with fail
            go_region_held_law (fun w' => w'.cell? ⟨b, off + k * 2, none⟩ = some (.int .i64 up) ∧ w'.cell? ⟨b, off + k * 2 + 1, none⟩ = some (.int .u32 uw))
              (first | go_keep | (go_split_ands; refine ⟨?_, ?_⟩ <;> (rw [hgrow.cell_far _ (HB0.out _) HNE.out]; assumption)))
              ((refine step_append_lies _ (by rfl) _ _ _ (by rfl) 0 84 i0 (.agg #[.int .i64 0, .int .u32 0]) 2 16 Tryd.underlying83 hi hz0 hz1 hz2 rfl (by decide) (.slice ax k cx) k (upCells (qpU l k)) (by rfl) (HOA.out _) ⟨wr.heap.size, 0, none⟩ 1 1 [.int .i64 up, .int .u32 uw] (by rfl) rfl (HNEW.out wr.drew _) HONE.out (by decide) (by unfold maxLen; omega) (by omega) (Nat.zero_le _) _ rfl ?_; intro g cap2 w1 hown1 hgrow hat hlt1))
            have HO1 : Hid (Only (fun j => inRow (.slice ax k cx) j) wr w1) := Lib.hid ((HOX.out _).grown hgrow (fun j hj => .inl hj))
            have HX1 : Hid (w1.ownsRow 0 84 2 (.slice (some ⟨g, 0, none⟩) (k + 1) cap2) (k + 1) (upCells (qpU l (k + 1)))) := Lib.hid (by
              rw [HT16.out]
              unfold upCells at hown1 ⊢
              rw [List.flatMap_append]
              exact hown1)
            have HG1 : Hid (inRow (.slice ax k cx) g ∨ wr.heap.size ≤ g) := Lib.hid (by
              rcases hat with h | h
              · exact .inl h
              · have h' := h
                simp at h'
                exact .inr (by omega))
            have HT1 : Hid (Tw w w1 p1 z1 S S) := Lib.hid (HT.out.other HO1.out (fun j hj hi => by have := HXX.out j hi; have := HZP.out j hj; omega) (fun j hj hi => by have := HXX.out j hi; have := HZZ.out j hj; omega) (fun j hi => by have := HXX.out j hi; have := HQB.out; omega))
            have HQ1 : Hid (QuAt w1 qb qv (qpU l k)) := Lib.hid (HQ.out.only HO1.out (fun hi => by have := HXX.out qb hi; omega) (fun j hj hi => HQX.out j hj hi))
            have HXG : Hid (∀ j, inRow (.slice (some ⟨g, 0, none⟩) (k + 1) cap2) j → j = g) := Lib.hid fun j hj => by
              have hj' : g = j := by simpa [inRow, Value.ownBlock] using hj
              exact hj'.symm
            obtain ⟨x2, y2⟩ := HCL.out _ HT1.out.b
            have lb1 : b < w1.heap.size := Nat.lt_of_lt_of_le hbl HT1.out.b.size
            have HLT1 := Lib.hid hlt1
            have HS1 := Lib.hid HO1.out.size
            clear hown1 hgrow hat hlt1 x0 y0
            go_wp2_with fail
            refine (qput_ok (qpU l k) qb qv up uw _ HQ1.out HUL.out).mono ?_
            rintro y w2 ⟨rfl, qv2, hq2, ho2, hv2⟩
            have HT2 : Hid (Tw w w2 p1 z1 S S) := Lib.hid (HT1.out.other ho2 (fun j hj hi => by have := HZP.out j hj; rcases hi with hi | hi; omega; have := HQQ.out j hi; omega) (fun j hj hi => by have := HZZ.out j hj; rcases hi with hi | hi; omega; have := HQQ.out j hi; omega) (fun j hi => by have := HQB.out; rcases hi with hi | hi; omega; have := HQQ.out j hi; omega))
            have HQ2 : Hid (QuAt w2 qb qv2 (qpU l (k + 1))) := Lib.hid (by rw [HT16.out]; exact hq2)
            have HX2 : Hid (w2.ownsRow 0 84 2 (.slice (some ⟨g, 0, none⟩) (k + 1) cap2) (k + 1) (upCells (qpU l (k + 1)))) := Lib.hid (own_only HX1.out ho2 fun j hj hi => by
              rw [HXG.out j hj] at hi
              have hs := HS1.out
              have hq0 := blk_lt HQ.out.1
              rcases hi with hi | hi
              · rcases HG1.out with h | h
                · have := HXX.out g h; omega
                · omega
              · rcases HG1.out with h | h
                · exact HQX.out g hi h
                · have := own_lt HQ.out.2 hi; omega)
            have HQQ2 : Hid (∀ j, inRow qv2 j → qb < j) := Lib.hid fun j hj => by
              rcases hv2 j hj with h | h
              · exact HQQ.out j h
              · have := blk_lt HQ1.out.1; omega
            have HXX2 : Hid (∀ j, inRow (.slice (some ⟨g, 0, none⟩) (k + 1) cap2) j → qb < j) := Lib.hid fun j hj => by
              rw [HXG.out j hj]
              have hq0 := blk_lt HQ.out.1
              rcases HG1.out with h | h
              · exact HXX.out g h
              · omega
            have HQX2 : Hid (∀ j, inRow qv2 j → ¬ inRow (.slice (some ⟨g, 0, none⟩) (k + 1) cap2) j) := Lib.hid fun j hj hx => by
              have hjg := HXG.out j hx
              have hlt := own_lt HX1.out hx
              rcases hv2 j hj with h | h
              · rw [hjg] at h
                rcases HG1.out with h' | h'
                · exact HQX.out g h h'
                · have := own_lt HQ.out.2 h; omega
              · omega
            have HIS := Lib.hid (is_any E .nilIface 0 0 (.inl ⟨rfl, rfl⟩) w2 (HE16.out _ HT2.out.b))
            rw [decide_eq_true (rfl : (0 : Int) = 0)] at HIS
            clear hq2 ho2 hv2 x2 y2
            go_wp2_with fail
            refine HIS.out.mono ?_
            rintro y w3 ⟨rfl, hb3⟩
            have HB3 := Lib.hid hb3
            have HLN : Hid ((qpU l (k + 1)).length = k + 1) := Lib.hid (by rw [HT16.out, List.length_append, HU16.out]; rfl)
            have HQL := Lib.hid (qlen_any (qpU l (k + 1)) qb qv2 _ (HQ2.out.below HB3.out))
            rw [HLN.out] at HQL
            clear hb3
            go_wp2_with fail
            refine HQL.out.mono ?_
            rintro y w4 ⟨rfl, rfl⟩
            go_wp2_with fail
            go_roundw
            case rel => exact ⟨k + 1, qv2, by omega, by go_num, HQ2.out.below HB3.out, by rw [HLN.out]; exact own_only HX2.out (Only.of_below (F := fun _ => False) HB3.out) (fun _ _ h => h), HT2.out.below HB3.out, HQQ2.out, HXX2.out, HQX2.out⟩
            case measure => simp [intOf]; omega
          · have hu16 : (qpU l k).length = 16 := by rw [HLU.out]; omega
            rw [hu16] at HX ⊢
            have HT16 : Hid (qpU l (k + 1) = qpU l k) := Lib.hid (HF16.out h16)
            have HPF := Lib.hid (qput_full E (qpU l k) qb qv up uw wr (HEK.out _ HT.out.b) HQ.out (by omega))
            have HU16 := Lib.hid hu16
            clear hu16
            go_wp2_with fail
            refine HPF.out.mono ?_
            rintro y w2 ⟨rfl, hb2⟩
            have HB2 := Lib.hid hb2
            have HT2 := Lib.hid (HT.out.below hb2)
            have HIS := Lib.hid (is_any E (errC E 113) 113 113 (errC_num E 113 (.inr ⟨by decide, by decide⟩)) w2 (HE16.out _ HT2.out.b))
            rw [decide_eq_true (rfl : (113 : Int) = 113)] at HIS
            clear hb2 x0 y0
            go_wp2_with fail
            refine HIS.out.mono ?_
            rintro y w3 ⟨rfl, hb3⟩
            have HB3 := Lib.hid (HB2.out.trans (hb3.mono HB2.out.size))
            have HQL := Lib.hid (qlen_any (qpU l k) qb qv _ (HQ.out.below HB3.out))
            rw [HU16.out] at HQL
            clear hb3
            go_wp2_with fail
            refine HQL.out.mono ?_
            rintro y w4 ⟨rfl, rfl⟩
            go_wp2_with fail
            go_roundw
            case rel => exact ⟨k + 1, qv, by omega, by go_num, by rw [HT16.out]; exact HQ.out.below HB3.out, by rw [HT16.out, HU16.out]; exact own_only HX.out (Only.of_below (F := fun _ => False) HB3.out) (fun _ _ h => h), HT.out.below HB3.out, HQQ.out, fun j hj => HXX.out j (by rw [HU16.out]; exact hj), fun j h1 h2 => HQX.out j h1 (by rw [HU16.out]; exact h2)⟩
            case measure => simp [intOf]; omega
        · have hki : ¬ (k : Int) < (l.length : Int) := by omega
          obtain ⟨U, hU⟩ : ∃ U, qpU l k = U := ⟨_, rfl⟩
          have HUM : Hid (∀ u ∈ U, upOk u) := Lib.hid fun u hu => HU.out u (qpU_mem l k u (by rw [hU]; exact hu))
          rw [hU] at HQ HX HXX HQX HLU ⊢
          have hUL : U.length ≤ 16 := by rw [HLU.out]; omega
          have HAL := Lib.hid (qall_any U qb qv wr HQ.out (by omega))
          clear hU HLU hk hlt
          go_wp2_with fail
          refine HAL.out.mono ?_
          rintro y w1 ⟨av, rfl, ha, hra, hb1⟩
          have HA := Lib.hid ha
          have HB1 := Lib.hid hb1
          have HT1 := Lib.hid (HT.out.below hb1)
          have HQ1 := Lib.hid (HQ.out.below hb1)
          have HX1 : Hid (w1.ownsRow 0 84 2 (.slice ax U.length cx) U.length (upCells U)) := Lib.hid (own_only HX.out (Only.of_below (F := fun _ => False) hb1) (fun _ _ h => h))
          obtain ⟨aa, ca, rfl⟩ := own_slice ha
          have HST3 : Hid (QpC U.length w1 (.int .i64 0) w1) := Lib.hid ⟨0, Nat.zero_le _, rfl, Below.refl _ _⟩
          clear ha hra hb1 HQ HX HT HAL
          go_wp2_with fail
          go_loopw [20] (fun i wr => QpC U.length w1 i wr) (fun i _ => U.length - (intOf i).toNat)
          case atStart => exact HST3.out
          case round =>
            obtain ⟨k, hk, rfl, hb⟩ := hrel
            have HB := Lib.hid hb
            clear hb HST3
            by_cases hlt : k < U.length
            · have hki2 : (k : Int) < (U.length : Int) := by omega
              have hk0 : (0 : Int) ≤ (k : Int) := by omega
              have wk := IntWalk.i64_in ((k : Int) + 1) (by omega)
              obtain ⟨g1, c1, e1, hg1, q1⟩ := own_ups HA.out (by omega)
              obtain ⟨g2, c2, e2, hg2, q2⟩ := own_ups HX1.out (by omega)
              obtain ⟨e1a, -, e1b⟩ := Value.slice.inj e1
              obtain ⟨e2a, -, e2b⟩ := Value.slice.inj e2
              subst e1a e1b e2a e2b
              obtain ⟨m0, m1⟩ := q1 _ HB.out k hlt
              obtain ⟨n0, n1⟩ := q2 _ HB.out k hlt
              have l1 : g1 < wr.heap.size := Nat.lt_of_lt_of_le hg1 HB.out.size
              have l2 : g2 < wr.heap.size := Nat.lt_of_lt_of_le hg2 HB.out.size
              obtain ⟨⟨up, uw⟩, hue⟩ : ∃ u, U.getD k default = u := ⟨_, rfl⟩
              rw [hue] at m0 m1 n0 n1
              dsimp only at m0 m1 n0 n1
              clear hue q1 q2 hg1 hg2 e1 e2
              go_wp2_with fail
              go_quiet (fail)
              have HB5 := Lib.hid (below_drewN HB.out nq)
              clear m0 m1 n0 n1
              go_wp2_with fail
              go_roundw
              case rel => exact ⟨k + 1, by omega, by go_num, HB5.out⟩
              case measure => simp [intOf]; omega
            · have hki2 : ¬ (k : Int) < (U.length : Int) := by omega
              have HT4 := Lib.hid (HT1.out.below HB.out)
              have HQ4 := Lib.hid (HQ1.out.below HB.out)
              have HX4 : Hid (wr.ownsRow 0 84 2 (.slice ax U.length cx) U.length (upCells U)) := Lib.hid (own_only HX1.out (Only.of_below (F := fun _ => False) HB.out) (fun _ _ h => h))
              have HZQ : Hid (∀ k, p1.zq qb k → w.heap.size ≤ k) := Lib.hid fun k hk => by
                rcases hk with hk | hk
                · exact HT4.out.pb k hk
                · rw [hk]; exact HQB.out
              have hfl := qflush_any E p1 S m U qb qv wr (fun wx ho => HEK.out wx (HT4.out.b.trans (ho.below (B := w.heap.size) HT4.out.b.size HZQ.out))) HT4.out.pt HI.out (by omega) (by omega) HQ4.out (fun u hu => (HUM.out u hu).2) (qs_apart (fun k hk => by
                rcases hk with hk | hk | hk | hk
                · exact HZP.out k (.inl hk)
                · exact HZP.out k (.inr (zw_z1 hk))
                · exact HZP.out k (.inr (zw_z2 hk))
                · exact HZP.out k (.inr (zw_z3 hk))) HQQ.out)
              rw [HTB1.out] at hfl
              have HFL := Lib.hid hfl
              clear hfl hk hlt
              go_wp2_with fail
              refine HFL.out.mono ?_
              rintro y w5 ⟨k1, c1, hfi, rfl, hp5, ho5, hq5⟩
              have HFI := Lib.hid hfi
              have HQ5 := Lib.hid hq5
              have HX5 : Hid (w5.ownsRow 0 84 2 (.slice ax U.length cx) U.length (upCells U)) := Lib.hid (own_only HX4.out ho5 fun j hj hz => by
                have h1 := HXX.out j hj
                rcases hz with hz | hz
                · have := HZP.out j (.inr hz); omega
                · omega)
              have hzz : ∀ k, (z1.z0 k ∨ z1.zw k) → ¬ p1.zq qb k := fun k hk hz => by
                rcases hz with hz | hz
                · exact HT4.out.ap k (.inr hz) hk
                · have := HZZ.out k hk; omega
              have HT5 : Hid (Tw w w5 p1 z1 (qS S U k1) S) := Lib.hid ⟨hp5, ZAt.keep HT4.out.zt ho5 (fun k hk => hzz k (.inl hk)) (fun k hk => hzz k (.inr (.inl hk))) (fun k hk => hzz k (.inr (.inr (.inl hk)))) (fun k hk => hzz k (.inr (.inr (.inr hk)))), HT4.out.ap, HT4.out.pb, HT4.out.zb, HT4.out.b.trans (ho5.below (B := w.heap.size) HT4.out.b.size HZQ.out)⟩
              have hzf := zflush_any z1 S m U _ w5 HT5.out.zt HI.out (by omega) (by omega) HX5.out (fun u hu => (HUM.out u hu).2) (fun j hj hz => by have := HXX.out j hj; have := HZZ.out j (.inr hz); omega)
              rw [HZB1.out] at hzf
              have HZF := Lib.hid hzf
              clear hfi hp5 ho5 hq5 hzz hzf
              go_wp2_with fail
              refine HZF.out.mono ?_
              rintro y w6 ⟨k2, c2, hfi2, rfl, hz6, ho6⟩
              obtain ⟨rfl, rfl⟩ := HFI.out.same hfi2
              have HT6 := Lib.hid (HT5.out.zOp hz6 ho6)
              have HQ6 : Hid (QuAt w6 qb (.slice none 0 0) []) := Lib.hid (HQ5.out.only ho6 (fun hz => by have := HZZ.out qb (.inr hz); omega) (fun j hj => by cases hj))
              have HI6 := Lib.hid (qS_inv HI.out U k1)
              obtain ⟨S2, hS2⟩ : ∃ S2, qS S U k1 = S2 := ⟨_, rfl⟩
              rw [hS2] at HT6 HI6
              have HIS := Lib.hid (is_any E (errC E c1) c1 c1 (errC_num E c1 HFI.out.c) w6 (HE16.out _ HT6.out.b))
              rw [decide_eq_true (rfl : c1 = c1)] at HIS
              clear hfi2 hz6 ho6 hS2
              go_wp2_with fail
              refine HIS.out.mono ?_
              rintro y w7 ⟨rfl, hb7⟩
              have HT7 := Lib.hid (HT6.out.below hb7)
              have HQ7 := Lib.hid (HQ6.out.below hb7)
              clear hb7
              go_wp2_with fail
              refine (qlen_any _ _ _ _ HQ7.out).mono ?_
              rintro y wx ⟨rfl, rfl⟩
              have htl := tlive_any p1 S2 _ w7 HT7.out.pt HI6.out
              rw [HTB1.out] at htl
              have HTL := Lib.hid htl
              clear htl
              go_wp2_with fail
              refine HTL.out.mono ?_
              rintro y w8 ⟨lv, rfl, hl8, -, hb8⟩
              have HT8 := Lib.hid (HT7.out.below hb8)
              have HL8 := Lib.hid hl8
              have hzl := zlive_any z1 S2 _ w8 HT8.out.zt HI6.out
              rw [HZB1.out] at hzl
              have HZL := Lib.hid hzl
              clear hl8 hb8 hzl
              go_wp2_with fail
              refine HZL.out.mono ?_
              rintro y w9 ⟨lz, rfl, hl9, -, hb9⟩
              have HT9 := Lib.hid (HT8.out.below hb9)
              obtain ⟨a8, c8, hv8, hat8⟩ := atL_of_own (own_only HL8.out (Only.of_below (F := fun _ => False) hb9) (fun _ _ h => h))
              obtain ⟨a9, c9, hv9, hat9⟩ := atL_of_own hl9
              have hll := tLiveN_len S2 256
              have HSI := Lib.hid (sameInts_any (tLive S2) (tLive S2) a8 a9 c8 c9 w9 hat8 hat9 (by unfold tLive; omega) (by unfold tLive; omega))
              rw [decide_eq_true (rfl : tLive S2 = tLive S2)] at HSI
              subst hv8 hv9
              clear hl9 hb9 hat8 hat9 hll HTL HZL HL8
              go_wp2_with fail
              refine HSI.out.mono ?_
              rintro y wt ⟨rfl, d, hd⟩
              have HTT : Hid (Tw w wt p1 z1 S2 S2) := Lib.hid (by rw [hd]; exact HT9.out.below (below_drewN (Below.refl _ _) d))
              have HST4 : Hid (QpD S2 p1 z1 w (.int .i64 0) wt) := Lib.hid ⟨0, Nat.zero_le _, rfl, HTT.out⟩
              clear hd
              go_wp2_with fail
              go_loopw [25] (fun i wr => QpD S2 p1 z1 w i wr) (fun i _ => 256 - (intOf i).toNat)
              case atStart => exact HST4.out
              case round =>
                obtain ⟨k, hk, rfl, htw⟩ := hrel
                have HT := Lib.hid htw
                clear htw HST4
                by_cases hlt : k < 256
                · have hki3 : (k : Int) < 256 := by omega
                  have wk := IntWalk.i64_in ((k : Int) + 1) (by omega)
                  have hga := tget_any p1 S2 _ (k : Int) wr HT.out.pt HI6.out
                  rw [HTB1.out] at hga
                  have HZG := Lib.hid (fun wx (hx : ZtAt wx z1 S2) => zget_any z1 S2 _ (k : Int) wx hx HI6.out)
                  rw [HZB1.out] at HZG
                  have HSE := Lib.hid (qp_same (tGet S2 (k : Int)))
                  have HGA := Lib.hid hga
                  obtain ⟨⟨ef, et, ew, eu⟩, he⟩ : ∃ e, tGet S2 (k : Int) = e := ⟨_, rfl⟩
                  rw [he] at HGA HZG HSE
                  unfold Ent.v at HGA HZG HSE
                  dsimp only at HGA HZG HSE
                  clear hga he
                  go_wp2_with fail
                  refine HGA.out.mono ?_
                  rintro y wa ⟨rfl, hba⟩
                  have HBA := Lib.hid (hba.alloc hba.size (.cells #[.int .i64 ef, .bool et, .bool ew, .bool eu] 42))
                  have HTA := Lib.hid (HT.out.below HBA.out)
                  have hna := blk_new wa (.cells #[.int .i64 ef, .bool et, .bool ew, .bool eu] 42)
                  obtain ⟨b1, hb1⟩ : ∃ x, wa.heap.size = x := ⟨_, rfl⟩
                  rw [hb1] at hna
                  obtain ⟨wa2, hwa2⟩ : ∃ x, wa.alloc (.cells #[.int .i64 ef, .bool et, .bool ew, .bool eu] 42) = x := ⟨_, rfl⟩
                  rw [hwa2] at hna HTA
                  have HNA := Lib.hid hna
                  clear hna hba
                  go_wp2_with fail
                  try rw [hb1, hwa2]
                  clear hb1 hwa2
                  refine (HZG.out _ HTA.out.zt).mono ?_
                  rintro y wb2 ⟨rfl, hbb⟩
                  have hk1 := blk_below HNA.out hbb (blk_lt HNA.out)
                  have hk2 := blk_below hk1 ((Below.refl _ _).alloc (Nat.le_refl _) (.cells #[.int .i64 ef, .bool et, .bool ew, .bool eu] 42)) (blk_lt hk1)
                  have HTB := Lib.hid ((HTA.out.below hbb).below ((Below.refl _ _).alloc (Nat.le_refl _) (.cells #[.int .i64 ef, .bool et, .bool ew, .bool eu] 42)))
                  have hnb := blk_new wb2 (.cells #[.int .i64 ef, .bool et, .bool ew, .bool eu] 42)
                  obtain ⟨b2, hb2⟩ : ∃ x, wb2.heap.size = x := ⟨_, rfl⟩
                  rw [hb2] at hnb
                  obtain ⟨wb3, hwb3⟩ : ∃ x, wb2.alloc (.cells #[.int .i64 ef, .bool et, .bool ew, .bool eu] 42) = x := ⟨_, rfl⟩
                  rw [hwb3] at hnb hk2 HTB
                  have x0 : wb3.cell? ⟨b1, 0, none⟩ = some (.int .i64 ef) := blk_cell hk2 0
                  have x1 : wb3.cell? ⟨b1, 1, none⟩ = some (.bool et) := blk_cell hk2 1
                  have x2 : wb3.cell? ⟨b1, 2, none⟩ = some (.bool ew) := blk_cell hk2 2
                  have x3 : wb3.cell? ⟨b1, 3, none⟩ = some (.bool eu) := blk_cell hk2 3
                  have y0 : wb3.cell? ⟨b2, 0, none⟩ = some (.int .i64 ef) := blk_cell hnb 0
                  have y1 : wb3.cell? ⟨b2, 1, none⟩ = some (.bool et) := blk_cell hnb 1
                  have y2 : wb3.cell? ⟨b2, 2, none⟩ = some (.bool ew) := blk_cell hnb 2
                  have y3 : wb3.cell? ⟨b2, 3, none⟩ = some (.bool eu) := blk_cell hnb 3
                  have het : (et != et) = false := by cases et <;> rfl
                  clear hbb hk1 hk2 hnb HNA
                  go_wp2_with fail
                  try rw [hb2, hwb3]
                  clear hb2 hwb3
                  refine (HSE.out _).mono ?_
                  rintro y wc2 ⟨rfl, hbc⟩
                  have HTC := Lib.hid (HTB.out.below hbc)
                  clear hbc x0 x1 x2 x3 y0 y1 y2 y3
                  go_wp2_with fail
                  go_roundw
                  case rel => exact ⟨k + 1, by omega, by go_num, HTC.out⟩
                  case measure => simp [intOf]; omega
                · have hki3 : ¬ (k : Int) < 256 := by omega
                  go_wp2
                  go_ret
                  exact ⟨rfl, HT.out.b⟩
end Go.Proofs.YtnhocmmgdkiepaaDoor

/-
  QueuePlays: the walk, of updates of any number.
-/
namespace Go.Proofs.YtnhocmmgdkiepaaDoor
open Go.RowKit

set_option maxRecDepth 100000 in
set_option maxHeartbeats 1600000 in
theorem queuePlays_walk (E : Nat → Addr) (l : List Up) (ao : Option Addr) (cap : Nat) (x1 : Int) (w : World) (hE : ErrsAt errT gOf w E all16) (hl : AtL w ao (l.flatMap upOne)) (hu : ∀ u ∈ l, upOk u) (h1 : -9223372036854775808 ≤ x1 ∧ x1 ≤ 9223372036854775807) :
    Calls Tryd.prog 8 #[.slice ao l.length cap, .int .i64 x1] w fun y w' => y = .returned (.bool true) ∧ Below w.heap.size w w' := by
  by_cases hle : l.length ≤ 30
  · exact queuePlays_some E l ao cap x1 w hE hl hu hle h1
  · have HF1 := Lib.hid (qfirst_true E w (errs9 hE))
    obtain ⟨n, hn⟩ : ∃ n, l.length = n := ⟨_, rfl⟩
    rw [hn] at hle ⊢
    have hlen : (30 : Int) < (n : Int) := by omega
    clear hE hl hu h1 hn
    go_enter Tryd.func8, Tryd.ntmps8
    go_wp2_with fail
    refine HF1.out.mono ?_
    rintro y w0 ⟨rfl, hb0⟩
    have HB0 := Lib.hid hb0
    clear hb0
    go_wp2
    go_ret
    exact ⟨rfl, HB0.out⟩
end Go.Proofs.YtnhocmmgdkiepaaDoor

