/-
  Parts of one proof, one behind the other.
-/
import Derived.Test.YtnhocmmgdkiepaaDoorMgea7e7ee97c
import Derived.Test.YtnhocmmgdkiepaaDoorMgc590d16fa0
import Derived.Deep.RegionHeldLaw
import Derived.Test.YtnhocmmgdkiepaaDoorMg891e6fd1b3
/-
  SchedPlays: the walk. Given where the sentinels lie.
-/
namespace Go.Proofs.YtnhocmmgdkiepaaDoor
open Go.RowKit

def SpTo (n sb xb : Nat) (w : World) (i : Value) (wr : World) : Prop := ∃ (j : Nat) (st : Int → Option Gu), j ≤ n ∧ i = .int .i64 (j : Int) ∧ ScAt wr (fun b => w.heap.size ≤ b) sb j st ∧ (∃ v L, SdAt wr xb v L ∧ SdS L st ∧ L.length ≤ j ∧ ∀ b, sdz xb v b → w.heap.size ≤ b) ∧ Below w.heap.size w wr
def UsTo (W : World) (i : Value) (wr : World) : Prop := ∃ k : Nat, k ≤ 10 ∧ i = .int .i64 ((k : Int) - 1) ∧ W = wr
def HasTo (L : List Tn) (x : Int) (W : World) (h i : Value) (wr : World) : Prop := ∃ (k : Nat) (b : Bool), k ≤ L.length ∧ h = .bool b ∧ i = .int .i64 (k : Int) ∧ (b = true ↔ ∃ j, j < k ∧ (tg L j).id = x) ∧ W = wr
theorem sameInts_true (l : List Int) (ao bo : Option Addr) (c1 c2 : Nat) (w : World) (hx : AtL w ao (ints l)) (hy : AtL w bo (ints l)) (hl : l.length ≤ 100) :
    Calls Tryd.prog 23 #[.slice ao l.length c1, .slice bo l.length c2] w fun e w' => e = .returned (.bool true) ∧ ∃ n, w' = w.drewN n := by
  have := sameInts_any l l ao bo c1 c2 w hx hy (by omega) (by omega)
  rwa [decide_eq_true (rfl : l = l)] at this
set_option maxRecDepth 100000 in
set_option maxHeartbeats 64000000 in
theorem schedPlays_some (E : Nat → Addr) (l : List SDo) (ao : Option Addr) (cap : Nat) (w : World) (hE : ErrsAt errT gOf w E all16) (hl : AtL w ao (l.flatMap sdoCells)) (hok : ∀ x ∈ l, sdoOk x) (h100 : l.length ≤ 100) :
    Calls Tryd.prog 11 #[.slice ao l.length cap] w fun e w' => e = .returned (.bool true) ∧ Below w.heap.size w w' := by
  have HE16 : Hid (∀ wx, Below w.heap.size w wx → ErrsAt errT gOf wx E all16) := Lib.hid fun wx h => hE.mono h
  have HE : Hid (ErrL E w) := Lib.hid fun wx h => scErr_of (hE.mono h) (by decide) (by decide) (by decide)
  have HF := Lib.hid (scfirst_true E w HE.out)
  have HL := Lib.hid hl
  have HOK : Hid (∀ k, k < l.length → sdoOk (l.getD k default)) := Lib.hid fun k hk => by
    rw [List.getD_eq_getElem?_getD, List.getElem?_eq_getElem hk]
    exact hok _ (List.getElem_mem hk)
  have HIS : Hid (∀ c : Int, numOk c → ∀ wx, Below w.heap.size w wx → Calls Tryd.prog 19 #[errD E c, .int .i64 c] wx fun e w' => e = .returned (.bool true) ∧ Below wx.heap.size wx w') := Lib.hid fun c hc wx hx => by
    have := is_any E (errD E c) c c (errD_num E c hc) wx (HE16.out wx hx)
    rwa [decide_eq_true rfl] at this
  obtain ⟨n, hn⟩ : ∃ n, l.length = n := ⟨_, rfl⟩
  have HLN := Lib.hid hn
  rw [hn] at h100 ⊢
  have k1 : ¬ (100 : Int) < (n : Int) := by omega
  clear hE hl hok hn
  go_enter Tryd.func11, Tryd.ntmps11
  go_wp2_with fail
  refine HF.out.mono ?_
  rintro y w0 ⟨rfl, hb0⟩
  have HN := Lib.hid (slNew w w0 hb0)
  clear hb0
  go_wp2_with fail
  refine HN.out.mono ?_
  rintro y w1 ⟨sb, rfl, s1⟩
  obtain ⟨xb, hxb⟩ : ∃ x, w1.heap.size = x := ⟨_, rfl⟩
  have HST : Hid (SpTo n sb xb w (.int .i64 0) (w1.alloc (.cells #[.slice none 0 0] 92))) := Lib.hid (by
    have hb : Below w1.heap.size w1 (w1.alloc (.cells #[.slice none 0 0] 92)) := (Below.refl _ _).alloc (Nat.le_refl _) _
    refine ⟨0, noOne, Nat.zero_le _, rfl, s1.sc.below hb, ⟨.slice none 0 0, [], ⟨by rw [← hxb]; exact blk_new _ _, own_nil _ _ _⟩, sdS_nil, Nat.le_refl _, fun b hb2 => ?_⟩, s1.b.trans (hb.mono s1.b.size)⟩
    rcases hb2 with rfl | hb2
    · rw [← hxb]; exact s1.b.size
    · simp [inRow, Value.ownBlock] at hb2)
  clear s1
  go_wp2_with fail
  try rw [hxb]
  clear hxb
  go_loopw [6] (fun i wr => SpTo n sb xb w i wr) (fun i _ => n - (intOf i).toNat)
  case atStart => exact HST.out
  case round =>
    obtain ⟨j, st, hj, rfl, hs, hx, hb⟩ := hrel
    clear HST
    by_cases hlt : j < n
    · have hki : (j : Int) < (n : Int) := by omega
      have wj := IntWalk.i64_in ((j : Int) + 1) (by omega)
      have hj100 : j < 100 := by omega
      obtain ⟨v, L, hx, hxs, hxl, hxz⟩ := hx
      obtain ⟨g, off, rfl, c0, c1, c2, c3, lg⟩ := sdo_at (HL.out.mono hb) j (by rw [HLN.out]; exact hlt)
      have hok := HOK.out j (by rw [HLN.out]; exact hlt)
      obtain ⟨⟨kd, xa, xw, xn⟩, hd⟩ : ∃ d, l.getD j default = d := ⟨_, rfl⟩
      rw [hd] at c0 c1 c2 c3 hok
      dsimp only at c0 c1 c2 c3
      obtain ⟨-, hka, -, hxn⟩ := hok
      dsimp only at hka hxn
      have hka : kw xa := kw_of (by omega)
      obtain ⟨Zn, hsc, hZn, hT⟩ := hs.tightX
      have hw1 : Below wr.heap.size wr (wr.alloc (.cells #[.int .i64 kd, .int .i64 xa, .int .i64 xw, .int .i64 xn] 94)) := (Below.refl _ _).alloc (Nat.le_refl _) _
      have hnew := blk_new wr (.cells #[.int .i64 kd, .int .i64 xa, .int .i64 xw, .int .i64 xn] 94)
      have HCL := Lib.hid (sclone_any (wr.alloc (.cells #[.int .i64 kd, .int .i64 xa, .int .i64 xw, .int .i64 xn] 94)) Zn sb j st (hsc.below hw1))
      obtain ⟨da, hda⟩ : ∃ d, wr.heap.size = d := ⟨_, rfl⟩
      have HHX := Lib.hid hx
      have HPR : Hid (∀ W3 cb, Below (wr.alloc (.cells #[.int .i64 kd, .int .i64 xa, .int .i64 xw, .int .i64 xn] 94)).heap.size (wr.alloc (.cells #[.int .i64 kd, .int .i64 xa, .int .i64 xw, .int .i64 xn] 94)) W3 → ScAt W3 (fun b => (wr.alloc (.cells #[.int .i64 kd, .int .i64 xa, .int .i64 xw, .int .i64 xn] 94)).heap.size ≤ b) cb j st → (wr.alloc (.cells #[.int .i64 kd, .int .i64 xa, .int .i64 xw, .int .i64 xn] 94)).heap.size ≤ cb →
          Pre w W3 Zn da sb xb cb j j st st v L ∧ W3.heap[da]? = some (.cells #[.int .i64 kd, .int .i64 xa, .int .i64 xw, .int .i64 xn] 94 (0, 0)) ∧ da < W3.heap.size) := Lib.hid fun W3 cb h1 h2 h3 => by
        have e1 : (wr.alloc (.cells #[.int .i64 kd, .int .i64 xa, .int .i64 xw, .int .i64 xn] 94)).heap.size = da + 1 := by rw [← hda]; simp
        have h13 : Below wr.heap.size wr W3 := hw1.trans (h1.mono hw1.size)
        rw [e1] at h2 h3
        have hr := blk_below hnew h1 (by rw [e1, ← hda]; omega)
        rw [hda] at hr
        exact ⟨⟨hsc.below h13, fun b hb => ⟨(hZn b hb).1, by rw [← hda]; exact (hZn b hb).2⟩, hx.below h13, hxs, hxl, fun b hb => ⟨⟨hxz b hb, by rw [← hda]; exact hx.lt.2 b hb⟩, hT xb v L hx b hb⟩, h2.mono fun b _ hb => hb, h3, hb.trans (h13.mono hb.size)⟩, hr, blk_lt hr⟩
      clear hs hx hxs hxl hxz hb hsc hZn hT hnew hd hw1
      go_wp2_with fail
      try rw [hda]
      refine HCL.out.mono ?_
      rintro y W2 ⟨cb, rfl, hc2, hcb, hbw2⟩
      obtain ⟨q, hq⟩ : ∃ q, (rdL st).length = q := ⟨_, rfl⟩
      have HQ := Lib.hid hq
      have HRD := Lib.hid (rdS hc2 hq)
      have HC2 := Lib.hid hc2
      have HCB := Lib.hid hcb
      have HBW2 := Lib.hid hbw2
      clear hc2 hcb hbw2 hq c0 c1 c2 c3 lg hda HCL
      go_wp2_with fail
      refine HRD.out.mono ?_
      rintro y W3 ⟨r0, q0, rfl, -, hb3⟩
      obtain ⟨hpre, hr, hda3⟩ := HPR.out W3 cb (HBW2.out.trans (hb3.mono HBW2.out.size)) (HC2.out.below hb3) HCB.out
      have HPRE := Lib.hid hpre
      have d0 : W3.cell? ⟨da, 0, none⟩ = some (.int .i64 kd) := blk_cell hr 0
      have HKA : Hid (∀ wx, Only (fun k => w.heap.size ≤ k ∧ k < da) W3 wx → Only (fun k => w.heap.size ≤ k ∧ k < da) W3 wx ∧ wx.cell? ⟨da, 1, none⟩ = some (.int .i64 xa) ∧ wx.cell? ⟨da, 2, none⟩ = some (.int .i64 xw) ∧ wx.cell? ⟨da, 3, none⟩ = some (.int .i64 xn)) := Lib.hid fun wx ho => by
        have h := ho.blk hr (fun e => by have := e.2; omega)
        exact ⟨ho, blk_cell h 1, blk_cell h 2, blk_cell h 3⟩
      obtain ⟨-, d1, d2, d3⟩ := HKA.out _ (Only.refl _ W3)
      clear hpre hr hb3 HPR HC2 HCB HBW2
      by_cases hk1 : kd = 1
      · subst hk1
        as_aux_lemma =>
          have hB0 : Only (fun k => w.heap.size ≤ k ∧ k < da) W3 W3.drew := (Only.refl _ _).drew
          have HPD := Lib.hid (HPRE.out.below (Below.refl _ _).drew)
          have HW1 := Lib.hid (both_add HE.out HPD.out (by omega) xa xw)
          go_wp2_with fail
          go_region_held3 (fun wx => Only (fun k => w.heap.size ≤ k ∧ k < da) W3 wx ∧ wx.cell? ⟨da, 1, none⟩ = some (.int .i64 xa) ∧ wx.cell? ⟨da, 2, none⟩ = some (.int .i64 xw) ∧ wx.cell? ⟨da, 3, none⟩ = some (.int .i64 xn)) (first | exact HKA.out _ (by assumption))
            (first
              | (go_at_call 15; refine HW1.out.mono ?_; rintro e w5 ⟨c, st2, hc, rfl, hmid⟩; have hnum := addR_num hc; have hB5 : Only (fun k => w.heap.size ≤ k ∧ k < da) W3 w5 := hB0.trans hmid.o)
              | (go_at_call 49; refine (both_xadd HPD.out (by omega) xa xw hc hmid).mono ?_; rintro e w6 ⟨rfl, hspe, ho6⟩; have hB6 : Only (fun k => w.heap.size ≤ k ∧ k < da) W3 w6 := hB0.trans ho6)
              | (go_at_call 19; refine (HIS.out _ hnum _ hspe.b).mono ?_; rintro e w7 ⟨rfl, hb7⟩; have hB7 : Only (fun k => w.heap.size ≤ k ∧ k < da) W3 w7 := hB6.below' hb7))
          have HSPE := Lib.hid (hspe.below hb7)
          clear hspe hb7 hB7 ho6 hmid hc hnum
          clear hB0 hB5 hB6 d1 d2 d3
          have HPK := Lib.hid (spick_any _ _ sb (j + 1) st2 HSPE.out.s)
          have HXP := Lib.hid (pkX HSPE.out.x (by omega))
          obtain ⟨rn, hrn⟩ : ∃ n, (rdL st2).length = n := ⟨_, rfl⟩
          have HRN := Lib.hid hrn
          have hrn8 : rn ≤ 8 := by rw [← hrn]; exact Nat.le_trans (List.length_filter_le _ _) (by decide)
          clear hrn
          go_wp2_with fail
          refine HPK.out.mono ?_
          rintro y w8 ⟨⟨pv, rfl, hpv⟩, rfl⟩
          have HPV := Lib.hid hpv
          have hpk : (pv = .tuple #[.int .i64 0, .bool false]) ∨ ∃ x, pv = .tuple #[.int .i64 x, .bool true] := by
            rcases hpv with ⟨-, h⟩ | ⟨x, g, -, -, -, h⟩
            · exact .inl h
            · exact .inr ⟨x, h⟩
          clear hpv
          rcases hpk with rfl | ⟨px, rfl⟩
          · go_wp2_with fail
            refine HXP.out.mono ?_
            rintro y w9 ⟨pm, rfl, hpn, hb9⟩
            have HSP9 := Lib.hid (HSPE.out.below hb9)
            obtain rfl : pm = -1 := by
              rcases pickN_Q hpn HPV.out with ⟨h, -⟩ | ⟨-, h⟩
              · exact h
              · have e := Value.tuple.inj h
                simp at e
            clear hpn hb9
            have HR1 := Lib.hid (rdS HSP9.out.s HRN.out)
            go_wp2_with fail
            refine HR1.out.mono ?_
            rintro y w10 ⟨r1, q1, rfl, ha1, hb10⟩
            have HSP10 := Lib.hid (HSP9.out.below hb10)
            have HA1 := Lib.hid ha1
            have HR2 := Lib.hid (rdX HSP10.out.x (by omega) HRN.out)
            clear ha1 hb10
            go_wp2_with fail
            refine HR2.out.mono ?_
            rintro y w11 ⟨r2, q2, rfl, ha2, hb11⟩
            have HSP11 := Lib.hid (HSP10.out.below hb11)
            have hsi := sameInts_any (rdL st2) (rdL st2) r1 r2 q1 q2 w11 (HA1.out.mono hb11) ha2 (by rw [HRN.out]; omega) (by rw [HRN.out]; omega)
            rw [decide_eq_true (rfl : rdL st2 = rdL st2), HRN.out] at hsi
            have HSI := Lib.hid hsi
            clear ha2 hb11 hsi
            go_wp2_with fail
            refine HSI.out.mono ?_
            rintro y w12 ⟨rfl, d, rfl⟩
            have HSP12 : Hid (SpE w (w11.drewN d) sb xb cb (j + 1) j st2 st) := Lib.hid (HSP11.out.below (below_drewN (Below.refl _ _) d))
            obtain ⟨w12, hw12⟩ : ∃ x, w11.drewN d = x := ⟨_, rfl⟩
            rw [hw12] at HSP12 ⊢
            obtain ⟨Zc, hc12⟩ := HSP12.out.c
            have HR3 := Lib.hid (rdS hc12 HQ.out)
            have hqq : ((q : Int) != (q : Int)) = false := by simp
            clear hw12 hc12
            go_wp2_with fail
            refine HR3.out.mono ?_
            rintro y w13 ⟨r3, q3, rfl, -, hb13⟩
            have HSP13 := Lib.hid (HSP12.out.below hb13)
            clear hb13
            go_wp2_with fail
            go_roundw
            case rel => exact ⟨j + 1, st2, hlt, by go_num, HSP13.out.s, HSP13.out.x, HSP13.out.b⟩
            case measure => simp [intOf]; omega
          · go_wp2_with fail
            refine HXP.out.mono ?_
            rintro y w9 ⟨pm, rfl, hpn, hb9⟩
            have HSP9 := Lib.hid (HSPE.out.below hb9)
            obtain ⟨hpx, hp0⟩ : pm = px ∧ 0 ≤ pm := by
              rcases pickN_Q hpn HPV.out with ⟨-, h⟩ | ⟨h0, h⟩
              · have e := Value.tuple.inj h
                simp at e
              · have e := Value.tuple.inj h
                simp at e
                exact ⟨e.symm, h0⟩
            subst hpx
            have hpp : (pm != pm) = false := by simp
            have hp1 : decide (0 ≤ pm) = true := decide_eq_true hp0
            clear hpn hb9
            have HR1 := Lib.hid (rdS HSP9.out.s HRN.out)
            go_wp2_with fail
            refine HR1.out.mono ?_
            rintro y w10 ⟨r1, q1, rfl, ha1, hb10⟩
            have HSP10 := Lib.hid (HSP9.out.below hb10)
            have HA1 := Lib.hid ha1
            have HR2 := Lib.hid (rdX HSP10.out.x (by omega) HRN.out)
            clear ha1 hb10
            go_wp2_with fail
            refine HR2.out.mono ?_
            rintro y w11 ⟨r2, q2, rfl, ha2, hb11⟩
            have HSP11 := Lib.hid (HSP10.out.below hb11)
            have hsi := sameInts_any (rdL st2) (rdL st2) r1 r2 q1 q2 w11 (HA1.out.mono hb11) ha2 (by rw [HRN.out]; omega) (by rw [HRN.out]; omega)
            rw [decide_eq_true (rfl : rdL st2 = rdL st2), HRN.out] at hsi
            have HSI := Lib.hid hsi
            clear ha2 hb11 hsi
            go_wp2_with fail
            refine HSI.out.mono ?_
            rintro y w12 ⟨rfl, d, rfl⟩
            have HSP12 : Hid (SpE w (w11.drewN d) sb xb cb (j + 1) j st2 st) := Lib.hid (HSP11.out.below (below_drewN (Below.refl _ _) d))
            obtain ⟨w12, hw12⟩ : ∃ x, w11.drewN d = x := ⟨_, rfl⟩
            rw [hw12] at HSP12 ⊢
            obtain ⟨Zc, hc12⟩ := HSP12.out.c
            have HR3 := Lib.hid (rdS hc12 HQ.out)
            have hqq : ((q : Int) != (q : Int)) = false := by simp
            clear hw12 hc12
            go_wp2_with fail
            refine HR3.out.mono ?_
            rintro y w13 ⟨r3, q3, rfl, -, hb13⟩
            have HSP13 := Lib.hid (HSP12.out.below hb13)
            clear hb13
            go_wp2_with fail
            go_roundw
            case rel => exact ⟨j + 1, st2, hlt, by go_num, HSP13.out.s, HSP13.out.x, HSP13.out.b⟩
            case measure => simp [intOf]; omega
      have hkb1 : (kd == 1) = false := by rw [beq_eq_false_iff_ne]; exact hk1
      clear hk1
      by_cases hk2 : kd = 2
      · subst hk2
        as_aux_lemma =>
          have hB0 : Only (fun k => w.heap.size ≤ k ∧ k < da) W3 W3.drew := (Only.refl _ _).drew
          have HPD := Lib.hid (HPRE.out.below (Below.refl _ _).drew)
          have HW1 := Lib.hid (both_del HE.out HPD.out xa hka)
          have HW2 := Lib.hid (fun w5 h => both_xdel HPD.out (by omega) xa hka (w5 := w5) h)
          have hnum := del_num st xa
          obtain ⟨st2, hst2⟩ : ∃ s, (scDel st xa).1 = s := ⟨_, rfl⟩
          obtain ⟨c, hcc⟩ : ∃ s, (scDel st xa).2 = s := ⟨_, rfl⟩
          rw [hst2, hcc] at HW1
          rw [hst2] at HW2
          rw [hcc] at HW2 hnum
          clear hst2 hcc
          go_wp2_with fail
          go_region_held3 (fun wx => Only (fun k => w.heap.size ≤ k ∧ k < da) W3 wx ∧ wx.cell? ⟨da, 1, none⟩ = some (.int .i64 xa) ∧ wx.cell? ⟨da, 2, none⟩ = some (.int .i64 xw) ∧ wx.cell? ⟨da, 3, none⟩ = some (.int .i64 xn)) (first | exact HKA.out _ (by assumption))
            (first
              | (go_at_call 18; refine HW1.out.mono ?_; rintro e w5 ⟨rfl, hmid⟩; have hB5 : Only (fun k => w.heap.size ≤ k ∧ k < da) W3 w5 := hB0.trans hmid.o)
              | (go_at_call 50; refine (HW2.out _ hmid).mono ?_; rintro e w6 ⟨rfl, hspe, ho6⟩; have hB6 : Only (fun k => w.heap.size ≤ k ∧ k < da) W3 w6 := hB0.trans ho6)
              | (go_at_call 19; refine (HIS.out _ hnum _ hspe.b).mono ?_; rintro e w7 ⟨rfl, hb7⟩; have hB7 : Only (fun k => w.heap.size ≤ k ∧ k < da) W3 w7 := hB6.below' hb7))
          have HSPE := Lib.hid ((hspe.below hb7).up (Nat.le_succ j) (by omega))
          clear hspe hb7 hB7 ho6 hmid hnum
          clear hB0 hB5 hB6 d1 d2 d3
          have HPK := Lib.hid (spick_any _ _ sb (j + 1) st2 HSPE.out.s)
          have HXP := Lib.hid (pkX HSPE.out.x (by omega))
          obtain ⟨rn, hrn⟩ : ∃ n, (rdL st2).length = n := ⟨_, rfl⟩
          have HRN := Lib.hid hrn
          have hrn8 : rn ≤ 8 := by rw [← hrn]; exact Nat.le_trans (List.length_filter_le _ _) (by decide)
          clear hrn
          go_wp2_with fail
          refine HPK.out.mono ?_
          rintro y w8 ⟨⟨pv, rfl, hpv⟩, rfl⟩
          have HPV := Lib.hid hpv
          have hpk : (pv = .tuple #[.int .i64 0, .bool false]) ∨ ∃ x, pv = .tuple #[.int .i64 x, .bool true] := by
            rcases hpv with ⟨-, h⟩ | ⟨x, g, -, -, -, h⟩
            · exact .inl h
            · exact .inr ⟨x, h⟩
          clear hpv
          rcases hpk with rfl | ⟨px, rfl⟩
          · go_wp2_with fail
            refine HXP.out.mono ?_
            rintro y w9 ⟨pm, rfl, hpn, hb9⟩
            have HSP9 := Lib.hid (HSPE.out.below hb9)
            obtain rfl : pm = -1 := by
              rcases pickN_Q hpn HPV.out with ⟨h, -⟩ | ⟨-, h⟩
              · exact h
              · have e := Value.tuple.inj h
                simp at e
            clear hpn hb9
            have HR1 := Lib.hid (rdS HSP9.out.s HRN.out)
            go_wp2_with fail
            refine HR1.out.mono ?_
            rintro y w10 ⟨r1, q1, rfl, ha1, hb10⟩
            have HSP10 := Lib.hid (HSP9.out.below hb10)
            have HA1 := Lib.hid ha1
            have HR2 := Lib.hid (rdX HSP10.out.x (by omega) HRN.out)
            clear ha1 hb10
            go_wp2_with fail
            refine HR2.out.mono ?_
            rintro y w11 ⟨r2, q2, rfl, ha2, hb11⟩
            have HSP11 := Lib.hid (HSP10.out.below hb11)
            have hsi := sameInts_any (rdL st2) (rdL st2) r1 r2 q1 q2 w11 (HA1.out.mono hb11) ha2 (by rw [HRN.out]; omega) (by rw [HRN.out]; omega)
            rw [decide_eq_true (rfl : rdL st2 = rdL st2), HRN.out] at hsi
            have HSI := Lib.hid hsi
            clear ha2 hb11 hsi
            go_wp2_with fail
            refine HSI.out.mono ?_
            rintro y w12 ⟨rfl, d, rfl⟩
            have HSP12 : Hid (SpE w (w11.drewN d) sb xb cb (j + 1) j st2 st) := Lib.hid (HSP11.out.below (below_drewN (Below.refl _ _) d))
            obtain ⟨w12, hw12⟩ : ∃ x, w11.drewN d = x := ⟨_, rfl⟩
            rw [hw12] at HSP12 ⊢
            obtain ⟨Zc, hc12⟩ := HSP12.out.c
            have HR3 := Lib.hid (rdS hc12 HQ.out)
            have hqq : ((q : Int) != (q : Int)) = false := by simp
            clear hw12 hc12
            go_wp2_with fail
            refine HR3.out.mono ?_
            rintro y w13 ⟨r3, q3, rfl, -, hb13⟩
            have HSP13 := Lib.hid (HSP12.out.below hb13)
            clear hb13
            go_wp2_with fail
            go_roundw
            case rel => exact ⟨j + 1, st2, hlt, by go_num, HSP13.out.s, HSP13.out.x, HSP13.out.b⟩
            case measure => simp [intOf]; omega
          · go_wp2_with fail
            refine HXP.out.mono ?_
            rintro y w9 ⟨pm, rfl, hpn, hb9⟩
            have HSP9 := Lib.hid (HSPE.out.below hb9)
            obtain ⟨hpx, hp0⟩ : pm = px ∧ 0 ≤ pm := by
              rcases pickN_Q hpn HPV.out with ⟨-, h⟩ | ⟨h0, h⟩
              · have e := Value.tuple.inj h
                simp at e
              · have e := Value.tuple.inj h
                simp at e
                exact ⟨e.symm, h0⟩
            subst hpx
            have hpp : (pm != pm) = false := by simp
            have hp1 : decide (0 ≤ pm) = true := decide_eq_true hp0
            clear hpn hb9
            have HR1 := Lib.hid (rdS HSP9.out.s HRN.out)
            go_wp2_with fail
            refine HR1.out.mono ?_
            rintro y w10 ⟨r1, q1, rfl, ha1, hb10⟩
            have HSP10 := Lib.hid (HSP9.out.below hb10)
            have HA1 := Lib.hid ha1
            have HR2 := Lib.hid (rdX HSP10.out.x (by omega) HRN.out)
            clear ha1 hb10
            go_wp2_with fail
            refine HR2.out.mono ?_
            rintro y w11 ⟨r2, q2, rfl, ha2, hb11⟩
            have HSP11 := Lib.hid (HSP10.out.below hb11)
            have hsi := sameInts_any (rdL st2) (rdL st2) r1 r2 q1 q2 w11 (HA1.out.mono hb11) ha2 (by rw [HRN.out]; omega) (by rw [HRN.out]; omega)
            rw [decide_eq_true (rfl : rdL st2 = rdL st2), HRN.out] at hsi
            have HSI := Lib.hid hsi
            clear ha2 hb11 hsi
            go_wp2_with fail
            refine HSI.out.mono ?_
            rintro y w12 ⟨rfl, d, rfl⟩
            have HSP12 : Hid (SpE w (w11.drewN d) sb xb cb (j + 1) j st2 st) := Lib.hid (HSP11.out.below (below_drewN (Below.refl _ _) d))
            obtain ⟨w12, hw12⟩ : ∃ x, w11.drewN d = x := ⟨_, rfl⟩
            rw [hw12] at HSP12 ⊢
            obtain ⟨Zc, hc12⟩ := HSP12.out.c
            have HR3 := Lib.hid (rdS hc12 HQ.out)
            have hqq : ((q : Int) != (q : Int)) = false := by simp
            clear hw12 hc12
            go_wp2_with fail
            refine HR3.out.mono ?_
            rintro y w13 ⟨r3, q3, rfl, -, hb13⟩
            have HSP13 := Lib.hid (HSP12.out.below hb13)
            clear hb13
            go_wp2_with fail
            go_roundw
            case rel => exact ⟨j + 1, st2, hlt, by go_num, HSP13.out.s, HSP13.out.x, HSP13.out.b⟩
            case measure => simp [intOf]; omega
      have hkb2 : (kd == 2) = false := by rw [beq_eq_false_iff_ne]; exact hk2
      clear hk2
      by_cases hk3 : kd = 3
      · subst hk3
        as_aux_lemma =>
          have hB0 : Only (fun k => w.heap.size ≤ k ∧ k < da) W3 W3.drew := (Only.refl _ _).drew
          have HPD := Lib.hid (HPRE.out.below (Below.refl _ _).drew)
          have HW1 := Lib.hid (both_ran HE.out HPD.out xa xn hka hxn)
          have HW2 := Lib.hid (fun w5 h => both_xran HPD.out (by omega) xa xn hka hxn (w5 := w5) h)
          have hnum := ran_num st xa xn
          obtain ⟨st2, hst2⟩ : ∃ s, (scRan st xa xn).1 = s := ⟨_, rfl⟩
          obtain ⟨c, hcc⟩ : ∃ s, (scRan st xa xn).2 = s := ⟨_, rfl⟩
          rw [hst2, hcc] at HW1
          rw [hst2] at HW2
          rw [hcc] at HW2 hnum
          clear hst2 hcc
          go_wp2_with fail
          go_region_held3 (fun wx => Only (fun k => w.heap.size ≤ k ∧ k < da) W3 wx ∧ wx.cell? ⟨da, 1, none⟩ = some (.int .i64 xa) ∧ wx.cell? ⟨da, 2, none⟩ = some (.int .i64 xw) ∧ wx.cell? ⟨da, 3, none⟩ = some (.int .i64 xn)) (first | exact HKA.out _ (by assumption))
            (first
              | (go_at_call 16; refine HW1.out.mono ?_; rintro e w5 ⟨rfl, hmid⟩; have hB5 : Only (fun k => w.heap.size ≤ k ∧ k < da) W3 w5 := hB0.trans hmid.o)
              | (go_at_call 51; refine (HW2.out _ hmid).mono ?_; rintro e w6 ⟨rfl, hspe, ho6⟩; have hB6 : Only (fun k => w.heap.size ≤ k ∧ k < da) W3 w6 := hB0.trans ho6)
              | (go_at_call 19; refine (HIS.out _ hnum _ hspe.b).mono ?_; rintro e w7 ⟨rfl, hb7⟩; have hB7 : Only (fun k => w.heap.size ≤ k ∧ k < da) W3 w7 := hB6.below' hb7))
          have HSPE := Lib.hid ((hspe.below hb7).up (Nat.le_succ j) (by omega))
          clear hspe hb7 hB7 ho6 hmid hnum
          clear hB0 hB5 hB6 d1 d2 d3
          have HPK := Lib.hid (spick_any _ _ sb (j + 1) st2 HSPE.out.s)
          have HXP := Lib.hid (pkX HSPE.out.x (by omega))
          obtain ⟨rn, hrn⟩ : ∃ n, (rdL st2).length = n := ⟨_, rfl⟩
          have HRN := Lib.hid hrn
          have hrn8 : rn ≤ 8 := by rw [← hrn]; exact Nat.le_trans (List.length_filter_le _ _) (by decide)
          clear hrn
          go_wp2_with fail
          refine HPK.out.mono ?_
          rintro y w8 ⟨⟨pv, rfl, hpv⟩, rfl⟩
          have HPV := Lib.hid hpv
          have hpk : (pv = .tuple #[.int .i64 0, .bool false]) ∨ ∃ x, pv = .tuple #[.int .i64 x, .bool true] := by
            rcases hpv with ⟨-, h⟩ | ⟨x, g, -, -, -, h⟩
            · exact .inl h
            · exact .inr ⟨x, h⟩
          clear hpv
          rcases hpk with rfl | ⟨px, rfl⟩
          · go_wp2_with fail
            refine HXP.out.mono ?_
            rintro y w9 ⟨pm, rfl, hpn, hb9⟩
            have HSP9 := Lib.hid (HSPE.out.below hb9)
            obtain rfl : pm = -1 := by
              rcases pickN_Q hpn HPV.out with ⟨h, -⟩ | ⟨-, h⟩
              · exact h
              · have e := Value.tuple.inj h
                simp at e
            clear hpn hb9
            have HR1 := Lib.hid (rdS HSP9.out.s HRN.out)
            go_wp2_with fail
            refine HR1.out.mono ?_
            rintro y w10 ⟨r1, q1, rfl, ha1, hb10⟩
            have HSP10 := Lib.hid (HSP9.out.below hb10)
            have HA1 := Lib.hid ha1
            have HR2 := Lib.hid (rdX HSP10.out.x (by omega) HRN.out)
            clear ha1 hb10
            go_wp2_with fail
            refine HR2.out.mono ?_
            rintro y w11 ⟨r2, q2, rfl, ha2, hb11⟩
            have HSP11 := Lib.hid (HSP10.out.below hb11)
            have hsi := sameInts_any (rdL st2) (rdL st2) r1 r2 q1 q2 w11 (HA1.out.mono hb11) ha2 (by rw [HRN.out]; omega) (by rw [HRN.out]; omega)
            rw [decide_eq_true (rfl : rdL st2 = rdL st2), HRN.out] at hsi
            have HSI := Lib.hid hsi
            clear ha2 hb11 hsi
            go_wp2_with fail
            refine HSI.out.mono ?_
            rintro y w12 ⟨rfl, d, rfl⟩
            have HSP12 : Hid (SpE w (w11.drewN d) sb xb cb (j + 1) j st2 st) := Lib.hid (HSP11.out.below (below_drewN (Below.refl _ _) d))
            obtain ⟨w12, hw12⟩ : ∃ x, w11.drewN d = x := ⟨_, rfl⟩
            rw [hw12] at HSP12 ⊢
            obtain ⟨Zc, hc12⟩ := HSP12.out.c
            have HR3 := Lib.hid (rdS hc12 HQ.out)
            have hqq : ((q : Int) != (q : Int)) = false := by simp
            clear hw12 hc12
            go_wp2_with fail
            refine HR3.out.mono ?_
            rintro y w13 ⟨r3, q3, rfl, -, hb13⟩
            have HSP13 := Lib.hid (HSP12.out.below hb13)
            clear hb13
            go_wp2_with fail
            go_roundw
            case rel => exact ⟨j + 1, st2, hlt, by go_num, HSP13.out.s, HSP13.out.x, HSP13.out.b⟩
            case measure => simp [intOf]; omega
          · go_wp2_with fail
            refine HXP.out.mono ?_
            rintro y w9 ⟨pm, rfl, hpn, hb9⟩
            have HSP9 := Lib.hid (HSPE.out.below hb9)
            obtain ⟨hpx, hp0⟩ : pm = px ∧ 0 ≤ pm := by
              rcases pickN_Q hpn HPV.out with ⟨-, h⟩ | ⟨h0, h⟩
              · have e := Value.tuple.inj h
                simp at e
              · have e := Value.tuple.inj h
                simp at e
                exact ⟨e.symm, h0⟩
            subst hpx
            have hpp : (pm != pm) = false := by simp
            have hp1 : decide (0 ≤ pm) = true := decide_eq_true hp0
            clear hpn hb9
            have HR1 := Lib.hid (rdS HSP9.out.s HRN.out)
            go_wp2_with fail
            refine HR1.out.mono ?_
            rintro y w10 ⟨r1, q1, rfl, ha1, hb10⟩
            have HSP10 := Lib.hid (HSP9.out.below hb10)
            have HA1 := Lib.hid ha1
            have HR2 := Lib.hid (rdX HSP10.out.x (by omega) HRN.out)
            clear ha1 hb10
            go_wp2_with fail
            refine HR2.out.mono ?_
            rintro y w11 ⟨r2, q2, rfl, ha2, hb11⟩
            have HSP11 := Lib.hid (HSP10.out.below hb11)
            have hsi := sameInts_any (rdL st2) (rdL st2) r1 r2 q1 q2 w11 (HA1.out.mono hb11) ha2 (by rw [HRN.out]; omega) (by rw [HRN.out]; omega)
            rw [decide_eq_true (rfl : rdL st2 = rdL st2), HRN.out] at hsi
            have HSI := Lib.hid hsi
            clear ha2 hb11 hsi
            go_wp2_with fail
            refine HSI.out.mono ?_
            rintro y w12 ⟨rfl, d, rfl⟩
            have HSP12 : Hid (SpE w (w11.drewN d) sb xb cb (j + 1) j st2 st) := Lib.hid (HSP11.out.below (below_drewN (Below.refl _ _) d))
            obtain ⟨w12, hw12⟩ : ∃ x, w11.drewN d = x := ⟨_, rfl⟩
            rw [hw12] at HSP12 ⊢
            obtain ⟨Zc, hc12⟩ := HSP12.out.c
            have HR3 := Lib.hid (rdS hc12 HQ.out)
            have hqq : ((q : Int) != (q : Int)) = false := by simp
            clear hw12 hc12
            go_wp2_with fail
            refine HR3.out.mono ?_
            rintro y w13 ⟨r3, q3, rfl, -, hb13⟩
            have HSP13 := Lib.hid (HSP12.out.below hb13)
            clear hb13
            go_wp2_with fail
            go_roundw
            case rel => exact ⟨j + 1, st2, hlt, by go_num, HSP13.out.s, HSP13.out.x, HSP13.out.b⟩
            case measure => simp [intOf]; omega
      have hkb3 : (kd == 3) = false := by rw [beq_eq_false_iff_ne]; exact hk3
      clear hk3
      by_cases hk4 : kd = 4
      · subst hk4
        as_aux_lemma =>
          have hB0 : Only (fun k => w.heap.size ≤ k ∧ k < da) W3 W3.drew := (Only.refl _ _).drew
          have HPD := Lib.hid (HPRE.out.below (Below.refl _ _).drew)
          have HW1 := Lib.hid (both_sleep HE.out HPD.out xa xn hka hxn)
          have HW2 := Lib.hid (fun w5 h => both_xsleep HPD.out (by omega) xa xn hka hxn (w5 := w5) h)
          have hnum := sleep_num st xa xn
          obtain ⟨st2, hst2⟩ : ∃ s, (scSleep st xa xn).1 = s := ⟨_, rfl⟩
          obtain ⟨c, hcc⟩ : ∃ s, (scSleep st xa xn).2 = s := ⟨_, rfl⟩
          rw [hst2, hcc] at HW1
          rw [hst2] at HW2
          rw [hcc] at HW2 hnum
          clear hst2 hcc
          go_wp2_with fail
          go_region_held3 (fun wx => Only (fun k => w.heap.size ≤ k ∧ k < da) W3 wx ∧ wx.cell? ⟨da, 1, none⟩ = some (.int .i64 xa) ∧ wx.cell? ⟨da, 2, none⟩ = some (.int .i64 xw) ∧ wx.cell? ⟨da, 3, none⟩ = some (.int .i64 xn)) (first | exact HKA.out _ (by assumption))
            (first
              | (go_at_call 20; refine HW1.out.mono ?_; rintro e w5 ⟨rfl, hmid⟩; have hB5 : Only (fun k => w.heap.size ≤ k ∧ k < da) W3 w5 := hB0.trans hmid.o)
              | (go_at_call 52; refine (HW2.out _ hmid).mono ?_; rintro e w6 ⟨rfl, hspe, ho6⟩; have hB6 : Only (fun k => w.heap.size ≤ k ∧ k < da) W3 w6 := hB0.trans ho6)
              | (go_at_call 19; refine (HIS.out _ hnum _ hspe.b).mono ?_; rintro e w7 ⟨rfl, hb7⟩; have hB7 : Only (fun k => w.heap.size ≤ k ∧ k < da) W3 w7 := hB6.below' hb7))
          have HSPE := Lib.hid ((hspe.below hb7).up (Nat.le_succ j) (by omega))
          clear hspe hb7 hB7 ho6 hmid hnum
          clear hB0 hB5 hB6 d1 d2 d3
          have HPK := Lib.hid (spick_any _ _ sb (j + 1) st2 HSPE.out.s)
          have HXP := Lib.hid (pkX HSPE.out.x (by omega))
          obtain ⟨rn, hrn⟩ : ∃ n, (rdL st2).length = n := ⟨_, rfl⟩
          have HRN := Lib.hid hrn
          have hrn8 : rn ≤ 8 := by rw [← hrn]; exact Nat.le_trans (List.length_filter_le _ _) (by decide)
          clear hrn
          go_wp2_with fail
          refine HPK.out.mono ?_
          rintro y w8 ⟨⟨pv, rfl, hpv⟩, rfl⟩
          have HPV := Lib.hid hpv
          have hpk : (pv = .tuple #[.int .i64 0, .bool false]) ∨ ∃ x, pv = .tuple #[.int .i64 x, .bool true] := by
            rcases hpv with ⟨-, h⟩ | ⟨x, g, -, -, -, h⟩
            · exact .inl h
            · exact .inr ⟨x, h⟩
          clear hpv
          rcases hpk with rfl | ⟨px, rfl⟩
          · go_wp2_with fail
            refine HXP.out.mono ?_
            rintro y w9 ⟨pm, rfl, hpn, hb9⟩
            have HSP9 := Lib.hid (HSPE.out.below hb9)
            obtain rfl : pm = -1 := by
              rcases pickN_Q hpn HPV.out with ⟨h, -⟩ | ⟨-, h⟩
              · exact h
              · have e := Value.tuple.inj h
                simp at e
            clear hpn hb9
            have HR1 := Lib.hid (rdS HSP9.out.s HRN.out)
            go_wp2_with fail
            refine HR1.out.mono ?_
            rintro y w10 ⟨r1, q1, rfl, ha1, hb10⟩
            have HSP10 := Lib.hid (HSP9.out.below hb10)
            have HA1 := Lib.hid ha1
            have HR2 := Lib.hid (rdX HSP10.out.x (by omega) HRN.out)
            clear ha1 hb10
            go_wp2_with fail
            refine HR2.out.mono ?_
            rintro y w11 ⟨r2, q2, rfl, ha2, hb11⟩
            have HSP11 := Lib.hid (HSP10.out.below hb11)
            have hsi := sameInts_any (rdL st2) (rdL st2) r1 r2 q1 q2 w11 (HA1.out.mono hb11) ha2 (by rw [HRN.out]; omega) (by rw [HRN.out]; omega)
            rw [decide_eq_true (rfl : rdL st2 = rdL st2), HRN.out] at hsi
            have HSI := Lib.hid hsi
            clear ha2 hb11 hsi
            go_wp2_with fail
            refine HSI.out.mono ?_
            rintro y w12 ⟨rfl, d, rfl⟩
            have HSP12 : Hid (SpE w (w11.drewN d) sb xb cb (j + 1) j st2 st) := Lib.hid (HSP11.out.below (below_drewN (Below.refl _ _) d))
            obtain ⟨w12, hw12⟩ : ∃ x, w11.drewN d = x := ⟨_, rfl⟩
            rw [hw12] at HSP12 ⊢
            obtain ⟨Zc, hc12⟩ := HSP12.out.c
            have HR3 := Lib.hid (rdS hc12 HQ.out)
            have hqq : ((q : Int) != (q : Int)) = false := by simp
            clear hw12 hc12
            go_wp2_with fail
            refine HR3.out.mono ?_
            rintro y w13 ⟨r3, q3, rfl, -, hb13⟩
            have HSP13 := Lib.hid (HSP12.out.below hb13)
            clear hb13
            go_wp2_with fail
            go_roundw
            case rel => exact ⟨j + 1, st2, hlt, by go_num, HSP13.out.s, HSP13.out.x, HSP13.out.b⟩
            case measure => simp [intOf]; omega
          · go_wp2_with fail
            refine HXP.out.mono ?_
            rintro y w9 ⟨pm, rfl, hpn, hb9⟩
            have HSP9 := Lib.hid (HSPE.out.below hb9)
            obtain ⟨hpx, hp0⟩ : pm = px ∧ 0 ≤ pm := by
              rcases pickN_Q hpn HPV.out with ⟨-, h⟩ | ⟨h0, h⟩
              · have e := Value.tuple.inj h
                simp at e
              · have e := Value.tuple.inj h
                simp at e
                exact ⟨e.symm, h0⟩
            subst hpx
            have hpp : (pm != pm) = false := by simp
            have hp1 : decide (0 ≤ pm) = true := decide_eq_true hp0
            clear hpn hb9
            have HR1 := Lib.hid (rdS HSP9.out.s HRN.out)
            go_wp2_with fail
            refine HR1.out.mono ?_
            rintro y w10 ⟨r1, q1, rfl, ha1, hb10⟩
            have HSP10 := Lib.hid (HSP9.out.below hb10)
            have HA1 := Lib.hid ha1
            have HR2 := Lib.hid (rdX HSP10.out.x (by omega) HRN.out)
            clear ha1 hb10
            go_wp2_with fail
            refine HR2.out.mono ?_
            rintro y w11 ⟨r2, q2, rfl, ha2, hb11⟩
            have HSP11 := Lib.hid (HSP10.out.below hb11)
            have hsi := sameInts_any (rdL st2) (rdL st2) r1 r2 q1 q2 w11 (HA1.out.mono hb11) ha2 (by rw [HRN.out]; omega) (by rw [HRN.out]; omega)
            rw [decide_eq_true (rfl : rdL st2 = rdL st2), HRN.out] at hsi
            have HSI := Lib.hid hsi
            clear ha2 hb11 hsi
            go_wp2_with fail
            refine HSI.out.mono ?_
            rintro y w12 ⟨rfl, d, rfl⟩
            have HSP12 : Hid (SpE w (w11.drewN d) sb xb cb (j + 1) j st2 st) := Lib.hid (HSP11.out.below (below_drewN (Below.refl _ _) d))
            obtain ⟨w12, hw12⟩ : ∃ x, w11.drewN d = x := ⟨_, rfl⟩
            rw [hw12] at HSP12 ⊢
            obtain ⟨Zc, hc12⟩ := HSP12.out.c
            have HR3 := Lib.hid (rdS hc12 HQ.out)
            have hqq : ((q : Int) != (q : Int)) = false := by simp
            clear hw12 hc12
            go_wp2_with fail
            refine HR3.out.mono ?_
            rintro y w13 ⟨r3, q3, rfl, -, hb13⟩
            have HSP13 := Lib.hid (HSP12.out.below hb13)
            clear hb13
            go_wp2_with fail
            go_roundw
            case rel => exact ⟨j + 1, st2, hlt, by go_num, HSP13.out.s, HSP13.out.x, HSP13.out.b⟩
            case measure => simp [intOf]; omega
      have hkb4 : (kd == 4) = false := by rw [beq_eq_false_iff_ne]; exact hk4
      clear hk4
      by_cases hk5 : kd = 5
      · subst hk5
        as_aux_lemma =>
          have hB0 : Only (fun k => w.heap.size ≤ k ∧ k < da) W3 W3.drew := (Only.refl _ _).drew
          have HPD := Lib.hid (HPRE.out.below (Below.refl _ _).drew)
          have HW1 := Lib.hid (both_wake HPD.out xn hda3)
          go_wp2_with fail
          go_region_held3 (fun wx => Only (fun k => w.heap.size ≤ k ∧ k < da) W3 wx ∧ wx.cell? ⟨da, 1, none⟩ = some (.int .i64 xa) ∧ wx.cell? ⟨da, 2, none⟩ = some (.int .i64 xw) ∧ wx.cell? ⟨da, 3, none⟩ = some (.int .i64 xn)) (first | exact HKA.out _ (by assumption))
            (first
              | (go_at_call 22; refine HW1.out.mono ?_; rintro e w5 ⟨wo, wc, wl, st2, rfl, hwk, hwl, hmid, hown, hfr⟩; have hB5 : Only (fun k => w.heap.size ≤ k ∧ k < da) W3 w5 := hB0.trans hmid.o)
              | (go_at_call 53; refine (both_xwake HPD.out (by omega) xn hwk hmid hown hfr).mono ?_; rintro e w6 ⟨bo, bc, rfl, hat1, hat2, hspe, ho6⟩; have hB6 : Only (fun k => w.heap.size ≤ k ∧ k < da) W3 w6 := hB0.trans ho6)
              | (go_at_call 23; refine (sameInts_true wl wo bo wc bc _ hat1 hat2 hwl).mono ?_; rintro e w7 ⟨rfl, dn, rfl⟩; have hB7 : Only (fun k => w.heap.size ≤ k ∧ k < da) W3 (w6.drewN dn) := hB6.below' (below_drewN (Below.refl _ _) dn)))
          have HSPE := Lib.hid ((hspe.below (below_drewN (Below.refl _ _) dn)).up (Nat.le_succ j) (by omega))
          clear hspe hB7 ho6 hmid hwk hwl hown hfr hat1 hat2
          obtain ⟨w7, hw7⟩ : ∃ x, w6.drewN dn = x := ⟨_, rfl⟩
          rw [hw7] at HSPE ⊢
          clear hw7
          clear hB0 hB5 hB6 d1 d2 d3
          have HPK := Lib.hid (spick_any _ _ sb (j + 1) st2 HSPE.out.s)
          have HXP := Lib.hid (pkX HSPE.out.x (by omega))
          obtain ⟨rn, hrn⟩ : ∃ n, (rdL st2).length = n := ⟨_, rfl⟩
          have HRN := Lib.hid hrn
          have hrn8 : rn ≤ 8 := by rw [← hrn]; exact Nat.le_trans (List.length_filter_le _ _) (by decide)
          clear hrn
          go_wp2_with fail
          refine HPK.out.mono ?_
          rintro y w8 ⟨⟨pv, rfl, hpv⟩, rfl⟩
          have HPV := Lib.hid hpv
          have hpk : (pv = .tuple #[.int .i64 0, .bool false]) ∨ ∃ x, pv = .tuple #[.int .i64 x, .bool true] := by
            rcases hpv with ⟨-, h⟩ | ⟨x, g, -, -, -, h⟩
            · exact .inl h
            · exact .inr ⟨x, h⟩
          clear hpv
          rcases hpk with rfl | ⟨px, rfl⟩
          · go_wp2_with fail
            refine HXP.out.mono ?_
            rintro y w9 ⟨pm, rfl, hpn, hb9⟩
            have HSP9 := Lib.hid (HSPE.out.below hb9)
            obtain rfl : pm = -1 := by
              rcases pickN_Q hpn HPV.out with ⟨h, -⟩ | ⟨-, h⟩
              · exact h
              · have e := Value.tuple.inj h
                simp at e
            clear hpn hb9
            have HR1 := Lib.hid (rdS HSP9.out.s HRN.out)
            go_wp2_with fail
            refine HR1.out.mono ?_
            rintro y w10 ⟨r1, q1, rfl, ha1, hb10⟩
            have HSP10 := Lib.hid (HSP9.out.below hb10)
            have HA1 := Lib.hid ha1
            have HR2 := Lib.hid (rdX HSP10.out.x (by omega) HRN.out)
            clear ha1 hb10
            go_wp2_with fail
            refine HR2.out.mono ?_
            rintro y w11 ⟨r2, q2, rfl, ha2, hb11⟩
            have HSP11 := Lib.hid (HSP10.out.below hb11)
            have hsi := sameInts_any (rdL st2) (rdL st2) r1 r2 q1 q2 w11 (HA1.out.mono hb11) ha2 (by rw [HRN.out]; omega) (by rw [HRN.out]; omega)
            rw [decide_eq_true (rfl : rdL st2 = rdL st2), HRN.out] at hsi
            have HSI := Lib.hid hsi
            clear ha2 hb11 hsi
            go_wp2_with fail
            refine HSI.out.mono ?_
            rintro y w12 ⟨rfl, d, rfl⟩
            have HSP12 : Hid (SpE w (w11.drewN d) sb xb cb (j + 1) j st2 st) := Lib.hid (HSP11.out.below (below_drewN (Below.refl _ _) d))
            obtain ⟨w12, hw12⟩ : ∃ x, w11.drewN d = x := ⟨_, rfl⟩
            rw [hw12] at HSP12 ⊢
            obtain ⟨Zc, hc12⟩ := HSP12.out.c
            have HR3 := Lib.hid (rdS hc12 HQ.out)
            have hqq : ((q : Int) != (q : Int)) = false := by simp
            clear hw12 hc12
            go_wp2_with fail
            refine HR3.out.mono ?_
            rintro y w13 ⟨r3, q3, rfl, -, hb13⟩
            have HSP13 := Lib.hid (HSP12.out.below hb13)
            clear hb13
            go_wp2_with fail
            go_roundw
            case rel => exact ⟨j + 1, st2, hlt, by go_num, HSP13.out.s, HSP13.out.x, HSP13.out.b⟩
            case measure => simp [intOf]; omega
          · go_wp2_with fail
            refine HXP.out.mono ?_
            rintro y w9 ⟨pm, rfl, hpn, hb9⟩
            have HSP9 := Lib.hid (HSPE.out.below hb9)
            obtain ⟨hpx, hp0⟩ : pm = px ∧ 0 ≤ pm := by
              rcases pickN_Q hpn HPV.out with ⟨-, h⟩ | ⟨h0, h⟩
              · have e := Value.tuple.inj h
                simp at e
              · have e := Value.tuple.inj h
                simp at e
                exact ⟨e.symm, h0⟩
            subst hpx
            have hpp : (pm != pm) = false := by simp
            have hp1 : decide (0 ≤ pm) = true := decide_eq_true hp0
            clear hpn hb9
            have HR1 := Lib.hid (rdS HSP9.out.s HRN.out)
            go_wp2_with fail
            refine HR1.out.mono ?_
            rintro y w10 ⟨r1, q1, rfl, ha1, hb10⟩
            have HSP10 := Lib.hid (HSP9.out.below hb10)
            have HA1 := Lib.hid ha1
            have HR2 := Lib.hid (rdX HSP10.out.x (by omega) HRN.out)
            clear ha1 hb10
            go_wp2_with fail
            refine HR2.out.mono ?_
            rintro y w11 ⟨r2, q2, rfl, ha2, hb11⟩
            have HSP11 := Lib.hid (HSP10.out.below hb11)
            have hsi := sameInts_any (rdL st2) (rdL st2) r1 r2 q1 q2 w11 (HA1.out.mono hb11) ha2 (by rw [HRN.out]; omega) (by rw [HRN.out]; omega)
            rw [decide_eq_true (rfl : rdL st2 = rdL st2), HRN.out] at hsi
            have HSI := Lib.hid hsi
            clear ha2 hb11 hsi
            go_wp2_with fail
            refine HSI.out.mono ?_
            rintro y w12 ⟨rfl, d, rfl⟩
            have HSP12 : Hid (SpE w (w11.drewN d) sb xb cb (j + 1) j st2 st) := Lib.hid (HSP11.out.below (below_drewN (Below.refl _ _) d))
            obtain ⟨w12, hw12⟩ : ∃ x, w11.drewN d = x := ⟨_, rfl⟩
            rw [hw12] at HSP12 ⊢
            obtain ⟨Zc, hc12⟩ := HSP12.out.c
            have HR3 := Lib.hid (rdS hc12 HQ.out)
            have hqq : ((q : Int) != (q : Int)) = false := by simp
            clear hw12 hc12
            go_wp2_with fail
            refine HR3.out.mono ?_
            rintro y w13 ⟨r3, q3, rfl, -, hb13⟩
            have HSP13 := Lib.hid (HSP12.out.below hb13)
            clear hb13
            go_wp2_with fail
            go_roundw
            case rel => exact ⟨j + 1, st2, hlt, by go_num, HSP13.out.s, HSP13.out.x, HSP13.out.b⟩
            case measure => simp [intOf]; omega
      have hkb5 : (kd == 5) = false := by rw [beq_eq_false_iff_ne]; exact hk5
      clear hk5
      have HSPE := Lib.hid (HPRE.out.none.up (Nat.le_succ j) (by omega))
      obtain ⟨st2, hst2⟩ : ∃ s, s = st := ⟨_, rfl⟩
      have HSPE : Hid (SpE w W3 sb xb cb (j + 1) j st2 st) := Lib.hid (hst2 ▸ HSPE.out)
      clear hst2 d1 d2 d3
      have HPK := Lib.hid (spick_any _ _ sb (j + 1) st2 HSPE.out.s)
      have HXP := Lib.hid (pkX HSPE.out.x (by omega))
      obtain ⟨rn, hrn⟩ : ∃ n, (rdL st2).length = n := ⟨_, rfl⟩
      have HRN := Lib.hid hrn
      have hrn8 : rn ≤ 8 := by rw [← hrn]; exact Nat.le_trans (List.length_filter_le _ _) (by decide)
      clear hrn
      go_wp2_with fail
      refine HPK.out.mono ?_
      rintro y w8 ⟨⟨pv, rfl, hpv⟩, rfl⟩
      have HPV := Lib.hid hpv
      have hpk : (pv = .tuple #[.int .i64 0, .bool false]) ∨ ∃ x, pv = .tuple #[.int .i64 x, .bool true] := by
        rcases hpv with ⟨-, h⟩ | ⟨x, g, -, -, -, h⟩
        · exact .inl h
        · exact .inr ⟨x, h⟩
      clear hpv
      rcases hpk with rfl | ⟨px, rfl⟩
      · go_wp2_with fail
        refine HXP.out.mono ?_
        rintro y w9 ⟨pm, rfl, hpn, hb9⟩
        have HSP9 := Lib.hid (HSPE.out.below hb9)
        obtain rfl : pm = -1 := by
          rcases pickN_Q hpn HPV.out with ⟨h, -⟩ | ⟨-, h⟩
          · exact h
          · have e := Value.tuple.inj h
            simp at e
        clear hpn hb9
        have HR1 := Lib.hid (rdS HSP9.out.s HRN.out)
        go_wp2_with fail
        refine HR1.out.mono ?_
        rintro y w10 ⟨r1, q1, rfl, ha1, hb10⟩
        have HSP10 := Lib.hid (HSP9.out.below hb10)
        have HA1 := Lib.hid ha1
        have HR2 := Lib.hid (rdX HSP10.out.x (by omega) HRN.out)
        clear ha1 hb10
        go_wp2_with fail
        refine HR2.out.mono ?_
        rintro y w11 ⟨r2, q2, rfl, ha2, hb11⟩
        have HSP11 := Lib.hid (HSP10.out.below hb11)
        have hsi := sameInts_any (rdL st2) (rdL st2) r1 r2 q1 q2 w11 (HA1.out.mono hb11) ha2 (by rw [HRN.out]; omega) (by rw [HRN.out]; omega)
        rw [decide_eq_true (rfl : rdL st2 = rdL st2), HRN.out] at hsi
        have HSI := Lib.hid hsi
        clear ha2 hb11 hsi
        go_wp2_with fail
        refine HSI.out.mono ?_
        rintro y w12 ⟨rfl, d, rfl⟩
        have HSP12 : Hid (SpE w (w11.drewN d) sb xb cb (j + 1) j st2 st) := Lib.hid (HSP11.out.below (below_drewN (Below.refl _ _) d))
        obtain ⟨w12, hw12⟩ : ∃ x, w11.drewN d = x := ⟨_, rfl⟩
        rw [hw12] at HSP12 ⊢
        obtain ⟨Zc, hc12⟩ := HSP12.out.c
        have HR3 := Lib.hid (rdS hc12 HQ.out)
        have hqq : ((q : Int) != (q : Int)) = false := by simp
        clear hw12 hc12
        go_wp2_with fail
        refine HR3.out.mono ?_
        rintro y w13 ⟨r3, q3, rfl, -, hb13⟩
        have HSP13 := Lib.hid (HSP12.out.below hb13)
        clear hb13
        go_wp2_with fail
        go_roundw
        case rel => exact ⟨j + 1, st2, hlt, by go_num, HSP13.out.s, HSP13.out.x, HSP13.out.b⟩
        case measure => simp [intOf]; omega
      · go_wp2_with fail
        refine HXP.out.mono ?_
        rintro y w9 ⟨pm, rfl, hpn, hb9⟩
        have HSP9 := Lib.hid (HSPE.out.below hb9)
        obtain ⟨hpx, hp0⟩ : pm = px ∧ 0 ≤ pm := by
          rcases pickN_Q hpn HPV.out with ⟨-, h⟩ | ⟨h0, h⟩
          · have e := Value.tuple.inj h
            simp at e
          · have e := Value.tuple.inj h
            simp at e
            exact ⟨e.symm, h0⟩
        subst hpx
        have hpp : (pm != pm) = false := by simp
        have hp1 : decide (0 ≤ pm) = true := decide_eq_true hp0
        clear hpn hb9
        have HR1 := Lib.hid (rdS HSP9.out.s HRN.out)
        go_wp2_with fail
        refine HR1.out.mono ?_
        rintro y w10 ⟨r1, q1, rfl, ha1, hb10⟩
        have HSP10 := Lib.hid (HSP9.out.below hb10)
        have HA1 := Lib.hid ha1
        have HR2 := Lib.hid (rdX HSP10.out.x (by omega) HRN.out)
        clear ha1 hb10
        go_wp2_with fail
        refine HR2.out.mono ?_
        rintro y w11 ⟨r2, q2, rfl, ha2, hb11⟩
        have HSP11 := Lib.hid (HSP10.out.below hb11)
        have hsi := sameInts_any (rdL st2) (rdL st2) r1 r2 q1 q2 w11 (HA1.out.mono hb11) ha2 (by rw [HRN.out]; omega) (by rw [HRN.out]; omega)
        rw [decide_eq_true (rfl : rdL st2 = rdL st2), HRN.out] at hsi
        have HSI := Lib.hid hsi
        clear ha2 hb11 hsi
        go_wp2_with fail
        refine HSI.out.mono ?_
        rintro y w12 ⟨rfl, d, rfl⟩
        have HSP12 : Hid (SpE w (w11.drewN d) sb xb cb (j + 1) j st2 st) := Lib.hid (HSP11.out.below (below_drewN (Below.refl _ _) d))
        obtain ⟨w12, hw12⟩ : ∃ x, w11.drewN d = x := ⟨_, rfl⟩
        rw [hw12] at HSP12 ⊢
        obtain ⟨Zc, hc12⟩ := HSP12.out.c
        have HR3 := Lib.hid (rdS hc12 HQ.out)
        have hqq : ((q : Int) != (q : Int)) = false := by simp
        clear hw12 hc12
        go_wp2_with fail
        refine HR3.out.mono ?_
        rintro y w13 ⟨r3, q3, rfl, -, hb13⟩
        have HSP13 := Lib.hid (HSP12.out.below hb13)
        clear hb13
        go_wp2_with fail
        go_roundw
        case rel => exact ⟨j + 1, st2, hlt, by go_num, HSP13.out.s, HSP13.out.x, HSP13.out.b⟩
        case measure => simp [intOf]; omega
    · obtain rfl : j = n := by omega
      have hki : ¬ (j : Int) < (j : Int) := by omega
      have HB := Lib.hid hb
      have HS := Lib.hid hs
      obtain ⟨v, L, hx, hxs, hxl, -⟩ := hx
      have HX := Lib.hid hx
      have HXS := Lib.hid hxs
      obtain ⟨W, hW⟩ : ∃ W, W = wr := ⟨_, rfl⟩
      subst hW
      have hl100 : L.length ≤ 100 := by omega
      obtain ⟨vo, vc, rfl⟩ := HX.out.slice
      clear hs hx hxs hb hj hxl
      go_wp2_with fail
      go_loopw [13] (fun i wr => UsTo W i wr) (fun i _ => (9 - intOf i).toNat)
      case atStart => exact ⟨0, by omega, rfl, rfl⟩
      case round =>
        obtain ⟨k, hk, rfl, rfl⟩ := hrel
        obtain ⟨x, hx⟩ : ∃ x, (k : Int) - 1 = x := ⟨_, rfl⟩
        rw [hx]
        have hkx : (k : Int) = x + 1 := by omega
        by_cases hk10 : k < 10
        · have hx8 : x ≤ 8 := by omega
          have wx1 := IntWalk.i64_in (x + 1) (by omega)
          have HUS := Lib.hid (sused_any W _ sb j st HS.out x (kw_of (by omega)))
          have HU : Hid (∀ i, i < L.length → (tg L i).id = x → (tg L i).us = usO (st x)) := Lib.hid fun i hi e => by
            obtain ⟨g, hg, hf⟩ := HXS.out.s1 i hi
            rw [e] at hg
            rw [hg]
            exact hf.2.1.symm
          have HI : Hid ((st x).isSome = true ↔ ∃ i, i < L.length ∧ (tg L i).id = x) := Lib.hid ⟨fun h => by
            obtain ⟨g, hg⟩ := Option.isSome_iff_exists.1 h
            exact HXS.out.s2 x g hg, fun ⟨i, hi, e⟩ => by
            obtain ⟨g, hg, -⟩ := HXS.out.s1 i hi
            rw [← e, hg]
            rfl⟩
          obtain ⟨us, hus⟩ : ∃ u, usO (st x) = u := ⟨_, rfl⟩
          obtain ⟨bs, hbs⟩ : ∃ u, (st x).isSome = u := ⟨_, rfl⟩
          rw [hus, hbs] at HUS
          rw [hus] at HU
          rw [hbs] at HI
          clear hus hbs
          go_wp2_with fail
          refine HUS.out.mono ?_
          rintro y w' ⟨rfl, rfl⟩
          have HST9 : Hid (HasTo L x W (.bool false) (.int .i64 0) W) := Lib.hid ⟨0, false, Nat.zero_le _, rfl, rfl, ⟨(fun h => by cases h), fun ⟨i, h, _⟩ => by omega⟩, rfl⟩
          go_wp2_with fail
          go_loopw [16, 17] (fun h i wr => HasTo L x W h i wr) (fun _ i _ => L.length - (intOf i).toNat)
          case atStart => exact HST9.out
          case round =>
            obtain ⟨i, hb, hi, rfl, rfl, hiff, rfl⟩ := hrel
            have HIFF := Lib.hid hiff
            have c := HX.out.cell
            have lt := blk_lt HX.out.1
            clear hiff HST9
            by_cases hlt : i < L.length
            · have hii : (i : Int) < (L.length : Int) := by omega
              have wi := IntWalk.i64_in ((i : Int) + 1) (by omega)
              obtain ⟨g, cap2, hv⟩ := HX.out.row (by omega)
              obtain ⟨rfl, -, rfl⟩ := Value.slice.inj hv
              obtain ⟨c0, -, c2, -, -⟩ := HX.out.at i hlt
              have ltg := own_lt HX.out.2 (k := g) rfl
              by_cases hid : (tg L i).id = x
              · rw [HU.out i hlt hid] at c2
                have hN : Hid (HasTo L x W (.bool true) (.int .i64 ((i : Int) + 1)) W) := Lib.hid ⟨i + 1, true, hlt, rfl, by go_num, ⟨fun _ => ⟨i, by omega, hid⟩, fun _ => rfl⟩, rfl⟩
                rw [hid] at c0
                have hxx : (x == x) = true := by rw [beq_iff_eq]
                have huu : (us != us) = false := by simp
                clear hid hv
                go_wp2_with fail
                go_roundw
                case rel => exact hN.out
                case measure => simp [intOf]; omega
              · have hN : Hid (HasTo L x W (.bool hb) (.int .i64 ((i : Int) + 1)) W) := Lib.hid ⟨i + 1, hb, hlt, rfl, by go_num, ⟨fun h => by
                  obtain ⟨j, hj, e⟩ := HIFF.out.1 h
                  exact ⟨j, by omega, e⟩, fun ⟨j, hj, e⟩ => HIFF.out.2 ⟨j, by
                    by_cases e2 : j = i
                    · rw [e2] at e; exact absurd e hid
                    · omega, e⟩⟩, rfl⟩
                obtain ⟨z, hz⟩ : ∃ z, (tg L i).id = z := ⟨_, rfl⟩
                rw [hz] at c0 hid
                have hxx : (z == x) = false := by rw [beq_eq_false_iff_ne]; exact hid
                clear hid hv hz
                go_wp2_with fail
                go_roundw
                case rel => exact hN.out
                case measure => simp [intOf]; omega
            · have hii : ¬ (i : Int) < (L.length : Int) := by omega
              obtain rfl : i = L.length := by omega
              obtain rfl : hb = bs := by
                rw [Bool.eq_iff_iff, HIFF.out, HI.out]
              have hbb : (hb != hb) = false := by simp
              clear hi
              go_wp2_with fail
              go_roundw
              case rel => exact ⟨k + 1, by omega, by rw [show ((k + 1 : Nat) : Int) - 1 = x + 1 by omega], rfl⟩
              case measure => simp [intOf]; omega
        · have hx9 : ¬ x ≤ 8 := by omega
          go_wp2_with fail
          go_ret
          exact ⟨rfl, HB.out⟩
set_option maxRecDepth 100000 in
theorem schedPlays_walk (E : Nat → Addr) (l : List SDo) (ao : Option Addr) (cap : Nat) (w : World) (hE : ErrsAt errT gOf w E all16) (hl : AtL w ao (l.flatMap sdoCells)) (hok : ∀ x ∈ l, sdoOk x) :
    Calls Tryd.prog 11 #[.slice ao l.length cap] w fun e w' => e = .returned (.bool true) ∧ Below w.heap.size w w' := by
  by_cases hle : l.length ≤ 100
  · exact schedPlays_some E l ao cap w hE hl hok hle
  · have HE : Hid (ErrL E w) := Lib.hid fun wx h => scErr_of (hE.mono h) (by decide) (by decide) (by decide)
    have HF1 := Lib.hid (scfirst_true E w HE.out)
    obtain ⟨n, hn⟩ : ∃ n, l.length = n := ⟨_, rfl⟩
    rw [hn] at hle ⊢
    have hlen2 : (100 : Int) < (n : Int) := by omega
    clear hE hl hok hn hle HE
    go_enter Tryd.func11, Tryd.ntmps11
    go_wp2_with fail
    refine HF1.out.mono ?_
    rintro y w0 ⟨rfl, hb0⟩
    have HB0 := Lib.hid hb0
    clear hb0
    go_wp2
    go_ret
    exact ⟨rfl, HB0.out⟩
end Go.Proofs.YtnhocmmgdkiepaaDoor

/-
  The fields of a struct that came in, read off its cells: numbers, bools, rows of numbers.
-/
namespace Go.Proofs.YtnhocmmgdkiepaaDoor
open Go.ChangeShapes Go.WideShapes Go.ChangeAt Go.RowKit Go.Joins
section
variable {H : Type} {enc : TypeId × Value → H} {P : Program} {w : World} {base : Nat} {spare : Nat → Bool} {held : Bool} {n : Nat}

theorem cut1 {cs : List Value} {o : Nat} {v : Value} (h : (cs.drop o).take 1 = [v]) : cs[o]? = some v := by
  have := congrArg (fun l => l[0]?) h
  simpa [List.getElem?_take, List.getElem?_drop] using this
theorem fld_int {cs : List Value} {o : Nat} {t : TypeId} {k : IntKind} {y : DataW H × List MemPlace} (ht : P.underlying t = some (.int k)) (hc : P.cellsOf t = 1)
    (h : DataW.trod enc P w base spare held n t ((cs.drop o).take (P.cellsOf t)) = some y) : ∃ z, cs[o]? = some (.int k z) ∧ (Lit.int k z).wf = true := by
  rw [hc] at h
  obtain ⟨z, e, -, wz⟩ := DataW.trod_int ht h
  exact ⟨z, cut1 e, wz⟩
theorem fld_bool {cs : List Value} {o : Nat} {t : TypeId} {y : DataW H × List MemPlace} (ht : P.underlying t = some .bool) (hc : P.cellsOf t = 1)
    (h : DataW.trod enc P w base spare held n t ((cs.drop o).take (P.cellsOf t)) = some y) : ∃ z, cs[o]? = some (.bool z) := by
  rw [hc] at h
  obtain ⟨z, e, -⟩ := DataW.trod_bool ht h
  exact ⟨z, cut1 e⟩
theorem ints_row {k : IntKind} : ∀ {m : Nat} {l : List Value}, l.length = m → (∀ i, i < m → ∃ z, l[i]? = some (.int k z) ∧ (Lit.int k z).wf = true) → ∃ zs : List Int, zs.length = m ∧ l = zs.map (Value.int k) ∧ ∀ z ∈ zs, (Lit.int k z).wf = true
  | 0, l, hl, _ => ⟨[], rfl, List.eq_nil_of_length_eq_zero hl, by simp⟩
  | m + 1, [], hl, _ => by simp at hl
  | m + 1, v :: l, hl, h => by
    obtain ⟨z, hz, wz⟩ := h 0 (by omega)
    simp at hz
    subst hz
    obtain ⟨zs, h1, h2, h3⟩ := ints_row (l := l) (m := m) (by simpa using hl) (fun i hi => by simpa using h (i + 1) (by omega))
    exact ⟨z :: zs, by simp [h1], by simp [h2], by simp [wz]; exact h3⟩
theorem fld_ints {cs : List Value} {o m : Nat} {t e : TypeId} {k : IntKind} {y : DataW H × List MemPlace} (ht : P.underlying t = some (.array m e)) (he : P.underlying e = some (.int k)) (hce : P.cellsOf e = 1) (hc : P.cellsOf t = m)
    (h : DataW.trod enc P w base spare held n t ((cs.drop o).take (P.cellsOf t)) = some y) : ∃ zs : List Int, zs.length = m ∧ (cs.drop o).take m = zs.map (Value.int k) ∧ ∀ z ∈ zs, (Lit.int k z).wf = true := by
  obtain ⟨xs, n', -, -, hl, hx, hi⟩ := DataW.trod_array ht h
  rw [hc] at hl hi
  refine ints_row hl fun i him => ?_
  have hsome : ∃ y, xs[i]? = some y := ⟨_, List.getElem?_eq_getElem (by omega)⟩
  obtain ⟨y', hy'⟩ := hsome
  have := (hi i him).trans hy'
  rw [hce] at this
  obtain ⟨z, e', -, wz⟩ := DataW.trod_int he this
  rw [Nat.mul_one] at e'
  exact ⟨z, cut1 e', wz⟩
end
end Go.Proofs.YtnhocmmgdkiepaaDoor

