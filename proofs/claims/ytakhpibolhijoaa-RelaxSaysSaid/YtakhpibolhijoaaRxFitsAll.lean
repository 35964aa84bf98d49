/-
  relax.Fits: does each branch that is not long fit?
-/
import Derived.Test.YtakhpibolhijoaaRxFits
import Derived.Test.YtakhpibolhijoaaRxPlaces
import Derived.Test.YtakhpibolhijoaaRxMay
namespace Go.Proofs.Ytakhpibolhijoaa
open Go.RowKit

/-- branch i fits, is long, or is none -/
def okAt (l : List Rx.It) (bs : List Bool) (i : Nat) : Bool := !(l.getD i default).br || (bs.getD i false || !Rx.bad (Rx.gap (Rx.pl 0 l bs) (l.getD i default) i))
def allOk (l : List Rx.It) (bs : List Bool) : Bool := decide (∀ i, i < l.length → okAt l bs i = true)
theorem may_of_fair {l : List Rx.It} (hf : Rx.Fair l) : (!l.any (badTo l.length)) = true := by
  simp only [Bool.not_eq_true', List.any_eq_false]
  intro x hx
  obtain ⟨k, hk, rfl⟩ := List.getElem_of_mem hx
  have h := hf k hk
  have e : l.getD k default = l[k] := by simp [List.getD_eq_getElem?_getD, hk]
  rw [e] at h
  cases hb : l[k].br
  · simp [badTo, hb]
  · have := h.2.2 hb
    simp [badTo, hb]
    omega

def OkTo (l : List Rx.It) (bs : List Bool) (w : World) (i : Value) (wr : World) : Prop := ∃ k : Nat, k ≤ l.length ∧ i = .int .i64 k ∧ (∀ j, j < k → okAt l bs j = true) ∧ Below w.heap.size w wr

set_option maxHeartbeats 2000000 in
theorem Fits_any (l : List Rx.It) (bs : List Bool) (ao bo : Option Addr) (c1 c2 : Nat) (w : World) (hl : AtIt w ao l) (hbl : AtL w bo (bls bs)) (hlen : bs.length = l.length) (hf : Rx.Fair l) (hn : l.length ≤ 5000) :
    Calls Try.prog 19 #[.slice ao l.length c1, .slice bo bs.length c2] w fun e w' => e = .returned (.bool (allOk l bs)) ∧ Below w.heap.size w w' := by
  have HL := Lib.hid hl
  have HBL := Lib.hid hbl
  have HLEN := Lib.hid hlen
  have HF := Lib.hid hf
  rw [HLEN.out]
  clear hl hbl hlen hf
  have hpl := Lib.hid (Rx.pl_length 0 l bs HLEN.out)
  have HBND := Lib.hid (pl_small l bs HLEN.out HF.out hn)
  go_enter Try.func19, Try.ntmps19
  go_wp2_with fail
  refine (may_any l ao c1 _ HL.out (by omega)).mono ?_
  rintro e w1 ⟨rfl, hb1⟩
  rw [may_of_fair HF.out]
  have HB1 := Lib.hid hb1
  clear hb1
  go_wp2_with fail
  have hpc := places_any l bs ao bo c1 c2 w1 (HL.out.mono HB1.out) (HBL.out.mono HB1.out) HLEN.out HF.out hn
  rw [HLEN.out] at hpc
  refine hpc.mono ?_
  clear hpc
  rintro e w2 ⟨pv, rfl, hpo, hpf, hb2⟩
  obtain ⟨ap, cp, rfl, hpa⟩ := atL_of_own hpo
  have HB2 := Lib.hid (HB1.out.trans (hb2.mono HB1.out.size))
  have HPA := Lib.hid hpa
  clear hpo hpf hb2 hpa
  go_wp2_with fail
  go_loopw [23] (fun i wr => OkTo l bs w2 i wr) (fun i _ => l.length - (intOf i).toNat)
  case atStart => exact ⟨0, Nat.zero_le _, rfl, fun j hj => by omega, Below.refl _ _⟩
  case round =>
    obtain ⟨k, hk, rfl, hok, hbw⟩ := hrel
    have HW := Lib.hid (HB2.out.trans (hbw.mono HB2.out.size))
    have HW2 := Lib.hid hbw
    have HOK := Lib.hid hok
    clear hbw hok
    by_cases hlt : k < l.length
    · obtain ⟨b, off, rfl, -, x0, x1, x2⟩ := (HL.out.mono HW.out) k hlt
      obtain ⟨d, q, rfl, y0, -⟩ := (HBL.out.mono HW.out) k _ (bls_get bs k (by rw [HLEN.out]; exact hlt))
      have hki : (k : Int) < (l.length : Int) := by omega
      have hfk := HF.out k hlt
      have H1 : Hid (∀ g : Bool, okAt l bs k = g → okAt l bs k = g) := Lib.hid fun _ h => h
      have HD : Hid (okAt l bs k = (!(l.getD k default).br || (bs.getD k false || !Rx.bad (Rx.gap (Rx.pl 0 l bs) (l.getD k default) k)))) := Lib.hid rfl
      have HX : Hid ((l.getD k default).br = true → 0 ≤ (l.getD k default).to_ ∧ (l.getD k default).to_ ≤ l.length) := Lib.hid hfk.2.2
      obtain ⟨s, hs⟩ : ∃ s, (l.getD k default).size = s := ⟨_, rfl⟩
      obtain ⟨t, ht⟩ : ∃ t, (l.getD k default).to_ = t := ⟨_, rfl⟩
      obtain ⟨r, hr⟩ : ∃ r, (l.getD k default).br = r := ⟨_, rfl⟩
      obtain ⟨g, hg⟩ : ∃ g, bs.getD k false = g := ⟨_, rfl⟩
      rw [hs] at x0
      rw [ht] at x1
      rw [hr] at x2 HD HX
      rw [hg] at y0 HD
      clear hs ht hr hg hfk
      have hbi : Below w2.heap.size w2 (wr.alloc (.cells #[.int .i64 s, .int .i64 t, .bool r] 29)) := HW2.out.alloc HW2.out.size _
      have HBI := Lib.hid hbi
      have y1 := cell_past y0 (.cells #[.int .i64 s, .int .i64 t, .bool r] 29)
      clear hbi y0
      cases r
      · have HD' : Hid (okAt l bs k = true) := Lib.hid (by rw [HD.out]; rfl)
        clear HD
        go_wp2
        go_roundw
        case rel => exact ⟨k + 1, by omega, by go_num, fun j hj => by rcases Nat.lt_succ_iff_lt_or_eq.1 hj with h | rfl; exact HOK.out j h; exact HD'.out, HBI.out⟩
        case measure => simp [intOf]; omega
      · cases g
        · go_wp2_with fail
          have hfc := fits_any l (Rx.pl 0 l bs) k _ ap c1 cp _ ((HL.out.mono HB2.out).mono HBI.out) (HPA.out.mono HBI.out) hlt (HX.out (by trivial)).1 (by rw [hpl.out]; have := (HX.out (by trivial)).2; omega) (by rw [hpl.out]; omega) HBND.out (by omega)
          rw [hpl.out] at hfc
          refine hfc.mono ?_
          clear hfc
          rintro e w3 ⟨rfl, hb3⟩
          have HB3 := Lib.hid (HBI.out.trans (hb3.mono HBI.out.size))
          have HW3 := Lib.hid (HB2.out.trans (HB3.out.mono HB2.out.size))
          obtain ⟨v, hv⟩ : ∃ v, (!Rx.bad (Rx.gap (Rx.pl 0 l bs) (l.getD k default) k)) = v := ⟨_, rfl⟩
          rw [hv] at HD ⊢
          clear hb3 hv
          cases v
          · have HD' : Hid (allOk l bs = false) := Lib.hid (by
              unfold allOk
              rw [decide_eq_false_iff_not]
              intro h
              have := h k hlt
              rw [HD.out] at this
              cases this)
            clear HD
            go_wp2
            go_ret
            exact ⟨ret_bool HD'.out.symm, HW3.out⟩
          · have HD' : Hid (okAt l bs k = true) := Lib.hid (by rw [HD.out]; rfl)
            clear HD
            go_wp2
            go_roundw
            case rel => exact ⟨k + 1, by omega, by go_num, fun j hj => by rcases Nat.lt_succ_iff_lt_or_eq.1 hj with h | rfl; exact HOK.out j h; exact HD'.out, HB3.out⟩
            case measure => simp [intOf]; omega
        · have HD' : Hid (okAt l bs k = true) := Lib.hid (by rw [HD.out]; rfl)
          clear HD
          go_wp2
          go_roundw
          case rel => exact ⟨k + 1, by omega, by go_num, fun j hj => by rcases Nat.lt_succ_iff_lt_or_eq.1 hj with h | rfl; exact HOK.out j h; exact HD'.out, HBI.out⟩
          case measure => simp [intOf]; omega
    · obtain rfl : k = l.length := by omega
      have HA : Hid (allOk l bs = true) := Lib.hid (by unfold allOk; rw [decide_eq_true_eq]; exact HOK.out)
      go_wp2
      go_ret
      exact ⟨ret_bool HA.out.symm, HW.out⟩
end Go.Proofs.Ytakhpibolhijoaa
