/-
  evch.Net: Bits, Any, Take.
-/
import Derived.Test.YtpmbbbgmaipmbaaDoorEv4
import Derived.Test.YtpmbbbgmaipmbaaDoorPart
import Derived.Test.YtpmbbbgmaipmbaaDoorWordBits
namespace Go.Proofs.YtpmbbbgmaipmbaaDoor
open Go.RowKit

def pendB (l : List Pe) (g i : Nat) : Bool := (l.getD (g * 16 + i) default).pend
def maskB (l : List Pe) (g i : Nat) : Bool := (l.getD (g * 16 + i) default).masked
theorem infoEnd16 : (Tryd.prog.info? 38).map (·.size) = some (16 * 6) := by kernel_rfl
@[go_sem ↓] theorem load_e16 (a : Addr) : loadVar 38 a = loadT 38 a := rfl
def rowE (l : List Pe) (g : Nat) : Array Value := (((l.drop (g * 16)).take 16).flatMap peOne).toArray
theorem load_row {w : World} {b : Nat} {l : List Pe} (h : NAt w b l) (g : Nat) (hg : g < 8) : (loadT 38 ⟨b, g * 96, none⟩).run Tryd.prog w = .ok (.agg (rowE l g)) w := by
  show (loadVar 38 ⟨b, g * 96, none⟩).run Tryd.prog w = _
  have := load_part (P := Tryd.prog) peOne_len 16 Tryd.underlying38 rfl infoEnd16 h.1 (g * 16) (by rw [h.2]; omega)
  rw [show g * 16 * 6 = g * 96 by omega] at this
  exact this
theorem index_e (l : List Pe) (hl : l.length = 128) (g j : Nat) (hg : g < 8) (hj : j < 16) (w : World) : (Instr.index 38 (.agg (rowE l g)) (.int .i64 (j : Int))).run Tryd.prog w =
    .ok (.agg #[.bool (l.getD (g * 16 + j) default).live, .bool (l.getD (g * 16 + j) default).bound, .bool (l.getD (g * 16 + j) default).masked, .bool (l.getD (g * 16 + j) default).pend, .int .i64 (l.getD (g * 16 + j) default).guest, .int .i64 (l.getD (g * 16 + j) default).port]) w := by
  have hlen : ((l.drop (g * 16)).take 16).length = 16 := by rw [List.length_take, List.length_drop]; omega
  have hget : ((l.drop (g * 16)).take 16).getD j default = l.getD (g * 16 + j) default := by
    rw [List.getD_eq_getElem?_getD, List.getElem?_take, if_pos hj, List.getElem?_drop, List.getD_eq_getElem?_getD]
  unfold rowE
  rw [index_row (n := 6) Tryd.underlying38 Tryd.underlying37 rfl end_info _ j hj w, rec_extract peOne 6 peOne_len _ j (by omega), hget]
  rfl

def BitsTo (l : List Pe) (g : Nat) (w : World) (p m i : Value) (wr : World) : Prop :=
  ∃ j : Nat, j ≤ 16 ∧ i = .int .i64 (j : Int) ∧ p = .int .u32 (orN (pendB l g) j : Nat) ∧ m = .int .u32 (orN (maskB l g) j : Nat) ∧ Below w.heap.size w wr
theorem ebits_bad (b : Nat) (g : Int) (w : World) (h : ¬ (0 ≤ g ∧ g < 8)) :
    Calls Tryd.prog 23 #[.pointer (some ⟨b, 0, none⟩), .int .i64 g] w fun e w' => e = .returned (.tuple #[.int .u32 0, .int .u32 0]) ∧ w = w' := by
  have HG := Lib.hid (guest_no g h)
  clear h
  go_enter Tryd.func23, Tryd.ntmps23
  go_wp2_with (go_at_call 51; refine (HG.out _).mono ?_; rintro e w1 ⟨rfl, rfl⟩)
  go_ret2
  exact ⟨rfl, rfl⟩
set_option maxRecDepth 100000 in
set_option maxHeartbeats 1600000 in
theorem ebits_any (l : List Pe) (b g : Nat) (w : World) (h : NAt w b l) (hg : g < 8) :
    Calls Tryd.prog 23 #[.pointer (some ⟨b, 0, none⟩), .int .i64 g] w fun e w' => e = .returned (.tuple #[.int .u32 (orN (pendB l g) 16 : Nat), .int .u32 (orN (maskB l g) 16 : Nat)]) ∧ Below w.heap.size w w' := by
  have hload := load_row h g hg
  have HIX := Lib.hid (fun j hj wx => index_e l h.2 g j hg hj wx)
  have HG := Lib.hid (guest_yes g hg)
  have hgi : (g : Int) < 8 := by omega
  have hlt := h.lt
  clear h
  go_enter Tryd.func23, Tryd.ntmps23
  go_wp2_with (go_at_call 51; refine (HG.out _).mono ?_; rintro e w1 ⟨rfl, rfl⟩)
  go_loopw [6, 7, 19] (fun p m i wr => BitsTo l g w p m i wr) (fun _ _ i _ => 16 - (intOf i).toNat)
  case atStart => exact ⟨0, Nat.zero_le _, rfl, rfl, rfl, Below.refl _ _⟩
  case round =>
    obtain ⟨j, hj, rfl, rfl, rfl, hb⟩ := hrel
    have HB := Lib.hid hb
    clear hb hload
    by_cases hlt16 : j < 16
    · have hix := HIX.out j hlt16
      have hji : (j : Int) < 16 := by omega
      have HP1 := Lib.hid (orN_step' (pendB l g) j (by omega))
      have HP0 := Lib.hid (orN_skip (pendB l g) j)
      have HM1 := Lib.hid (orN_step' (maskB l g) j (by omega))
      have HM0 := Lib.hid (orN_skip (maskB l g) j)
      have HPB : Hid (pendB l g j = (l.getD (g * 16 + j) default).pend ∧ maskB l g j = (l.getD (g * 16 + j) default).masked) := Lib.hid ⟨rfl, rfl⟩
      obtain ⟨⟨lv, bd, mk, pn, gu, po⟩, hx⟩ : ∃ x, l.getD (g * 16 + j) default = x := ⟨_, rfl⟩
      rw [hx] at hix HPB
      dsimp only at hix
      have HBA := Lib.hid (HB.out.alloc HB.out.size (.cells #[.bool lv, .bool bd, .bool mk, .bool pn, .int .i64 gu, .int .i64 po] 37))
      obtain ⟨P0, hP0⟩ : ∃ S : Int, ((orN (pendB l g) j : Nat) : Int) = S := ⟨_, rfl⟩
      obtain ⟨M0, hM0⟩ : ∃ S : Int, ((orN (maskB l g) j : Nat) : Int) = S := ⟨_, rfl⟩
      have HPe := Lib.hid hP0
      have HMe := Lib.hid hM0
      rw [hP0] at HP1 ⊢
      rw [hM0] at HM1 ⊢
      clear hx hP0 hM0 HIX
      cases pn
      all_goals
        cases mk
        all_goals
          first
            | have hq1 := HP1.out HPB.out.1
            | have HQ1 := Lib.hid (HP0.out HPB.out.1)
          first
            | have hq2 := HM1.out HPB.out.2
            | have HQ2 := Lib.hid (HM0.out HPB.out.2)
          go_wp2
          go_roundw
          case rel => exact ⟨j + 1, by omega, by go_num, by first | rfl | rw [HQ1.out, HPe.out], by first | rfl | rw [HQ2.out, HMe.out], HBA.out⟩
          case measure => simp [intOf]; omega
    · obtain rfl : j = 16 := by omega
      go_wp2
      go_ret2
      exact ⟨rfl, HB.out⟩
/-- would something be told? -/
def anyE (l : List Pe) (g : Nat) : Nat := orN (fun i => pendB l g i && !maskB l g i) 16
theorem any_bad (b : Nat) (g : Int) (w : World) (h : ¬ (0 ≤ g ∧ g < 8)) :
    Calls Tryd.prog 31 #[.pointer (some ⟨b, 0, none⟩), .int .i64 g] w fun e w' => e = .returned (.bool false) ∧ w = w' := by
  have HX := Lib.hid (ebits_bad b g w h)
  clear h
  go_enter Tryd.func31, Tryd.ntmps31
  go_wp2_with (go_at_call 23; refine HX.out.mono ?_; rintro e w1 ⟨rfl, rfl⟩)
  go_ret
  exact ⟨ret_bool (by decide), rfl⟩
theorem any_any (l : List Pe) (b g : Nat) (w : World) (h : NAt w b l) (hg : g < 8) :
    Calls Tryd.prog 31 #[.pointer (some ⟨b, 0, none⟩), .int .i64 g] w fun e w' => e = .returned (.bool (decide (anyE l g ≠ 0))) ∧ Below w.heap.size w w' := by
  have HX := Lib.hid (ebits_any l b g w h hg)
  have HE := Lib.hid (orN_andNot (pendB l g) (maskB l g) 16 (by decide))
  obtain ⟨P, hP⟩ : ∃ S : Int, ((orN (pendB l g) 16 : Nat) : Int) = S := ⟨_, rfl⟩
  obtain ⟨M, hM⟩ : ∃ S : Int, ((orN (maskB l g) 16 : Nat) : Int) = S := ⟨_, rfl⟩
  rw [hP, hM] at HE HX
  clear hP hM h
  have hq := HE.out
  have HF : Hid (∀ z : Int, z = ((anyE l g : Nat) : Int) → decide (0 < z) = decide (anyE l g ≠ 0)) := Lib.hid fun z hz => by
    rw [hz, decide_eq_decide]; omega
  have HZ : Hid (((orN (fun i => pendB l g i && !maskB l g i) 16 : Nat) : Int) = ((anyE l g : Nat) : Int)) := Lib.hid rfl
  obtain ⟨Z, hZ⟩ : ∃ S : Int, ((orN (fun i => pendB l g i && !maskB l g i) 16 : Nat) : Int) = S := ⟨_, rfl⟩
  rw [hZ] at hq HZ
  clear hZ HE
  go_enter Tryd.func31, Tryd.ntmps31
  go_wp2_with (go_at_call 23; refine HX.out.mono ?_; rintro e w1 ⟨rfl, hb1⟩)
  go_ret
  exact ⟨ret_bool (HF.out Z HZ.out), hb1⟩

/-- what pends and is not masked pends no more, among the first k -/
def takeE (l : List Pe) (g : Nat) : Nat → List Pe
  | 0 => l
  | k + 1 => if pendB l g k && !maskB l g k then (takeE l g k).set (g * 16 + k) { l.getD (g * 16 + k) default with pend := false } else takeE l g k
theorem takeE_len (l : List Pe) (g k : Nat) : (takeE l g k).length = l.length := by
  induction k with
  | zero => rfl
  | succ k ih => unfold takeE; split <;> simp [ih]
theorem takeE_get (l : List Pe) (g k i : Nat) (hl : g * 16 + k ≤ l.length) : (takeE l g k).getD i default = if g * 16 ≤ i ∧ i < g * 16 + k then { l.getD i default with pend := (l.getD i default).pend && (l.getD i default).masked } else l.getD i default := by
  induction k with
  | zero => rw [if_neg (by omega)]; rfl
  | succ k ih =>
    have ih := ih (by omega)
    unfold takeE
    by_cases hc : (pendB l g k && !maskB l g k) = true
    · rw [if_pos hc, set_getD _ _ _ _ (by rw [takeE_len]; omega)]
      by_cases e : i = g * 16 + k
      · subst e
        unfold pendB maskB at hc
        rw [if_pos rfl, if_pos ⟨by omega, by omega⟩]
        have hm : (l.getD (g * 16 + k) default).masked = false := by revert hc; cases (l.getD (g * 16 + k) default).masked <;> simp
        rw [hm, Bool.and_false]
      · rw [if_neg e, ih]
        by_cases h : g * 16 ≤ i ∧ i < g * 16 + k
        · rw [if_pos h, if_pos (by omega)]
        · rw [if_neg h, if_neg (by omega)]
    · rw [if_neg hc, ih]
      by_cases e : i = g * 16 + k
      · subst e
        unfold pendB maskB at hc
        rw [if_neg (by omega), if_pos ⟨by omega, by omega⟩]
        revert hc
        generalize l.getD (g * 16 + k) default = x
        obtain ⟨_, _, m, p, _, _⟩ := x
        cases m <;> cases p <;> simp
      · by_cases h : g * 16 ≤ i ∧ i < g * 16 + k
        · rw [if_pos h, if_pos (by omega)]
        · rw [if_neg h, if_neg (by omega)]
theorem take_bad (b : Nat) (g : Int) (w : World) (h : ¬ (0 ≤ g ∧ g < 8)) :
    Calls Tryd.prog 22 #[.pointer (some ⟨b, 0, none⟩), .int .i64 g] w fun e w' => e = .returned (.int .u32 0) ∧ w = w' := by
  have HG := Lib.hid (guest_no g h)
  clear h
  go_enter Tryd.func22, Tryd.ntmps22
  go_wp2_with (go_at_call 51; refine (HG.out _).mono ?_; rintro e w1 ⟨rfl, rfl⟩)
  go_ret
  exact ⟨rfl, rfl⟩
def TakeTo (l : List Pe) (b g : Nat) (w : World) (p i : Value) (wr : World) : Prop :=
  ∃ j : Nat, j ≤ 16 ∧ i = .int .i64 (j : Int) ∧ p = .int .u32 (orN (fun i => pendB l g i && !maskB l g i) j : Nat) ∧ NAt wr b (takeE l g j) ∧ Only (fun k => k = b) w wr
set_option maxRecDepth 100000 in
set_option maxHeartbeats 1600000 in
theorem take_any' (l : List Pe) (b g : Nat) (w : World) (h : NAt w b l) (hg : g < 8) :
    Calls Tryd.prog 22 #[.pointer (some ⟨b, 0, none⟩), .int .i64 g] w fun e w' => e = .returned (.int .u32 (anyE l g : Nat)) ∧ NAt w' b (takeE l g 16) ∧ Only (fun k => k = b) w w' := by
  have HG := Lib.hid (guest_yes g hg)
  have hgi : (g : Int) < 8 := by omega
  have hlt := h.lt
  have HL := Lib.hid h.2
  have HST : Hid (TakeTo l b g w (.int .u32 0) (.int .i64 0) w) := Lib.hid ⟨0, Nat.zero_le _, rfl, rfl, h, Only.refl _ _⟩
  clear h
  go_enter Tryd.func22, Tryd.ntmps22
  go_wp2_with (go_at_call 51; refine (HG.out _).mono ?_; rintro e w1 ⟨rfl, rfl⟩)
  go_loopw [5, 11] (fun p i wr => TakeTo l b g w p i wr) (fun _ i _ => 16 - (intOf i).toNat)
  case atStart => exact HST.out
  case round =>
    obtain ⟨j, hj, rfl, rfl, hn, ho⟩ := hrel
    have HN := Lib.hid hn
    have HO := Lib.hid ho
    have hltr : b < wr.heap.size := hn.lt
    clear hn ho HST
    by_cases hlt16 : j < 16
    · have hji : (j : Int) < 16 := by omega
      obtain ⟨-, -, c2, c3, -⟩ := HN.out.cells g j hg hlt16
      have f3 := HN.out.free (g * 96 + j * 6 + 3)
      rw [takeE_get l g j (g * 16 + j) (by rw [HL.out]; omega), if_neg (by omega)] at c2 c3
      have HPUT := Lib.hid (HN.out.put3 g j hg hlt16 false)
      rw [takeE_get l g j (g * 16 + j) (by rw [HL.out]; omega), if_neg (by omega)] at HPUT
      have HO1 := Lib.hid (HO.out.trans (ev1 wr b (g * 96 + j * 6 + 3) (.bool false)))
      have HT : Hid (takeE l g (j + 1) = if pendB l g j && !maskB l g j then (takeE l g j).set (g * 16 + j) { l.getD (g * 16 + j) default with pend := false } else takeE l g j) := Lib.hid rfl
      have HP1 := Lib.hid (orN_step' (fun i => pendB l g i && !maskB l g i) j (by omega))
      have HP0 := Lib.hid (orN_skip (fun i => pendB l g i && !maskB l g i) j)
      have HPB : Hid (pendB l g j = (l.getD (g * 16 + j) default).pend ∧ maskB l g j = (l.getD (g * 16 + j) default).masked) := Lib.hid ⟨rfl, rfl⟩
      obtain ⟨mk, hmk⟩ : ∃ x, (l.getD (g * 16 + j) default).masked = x := ⟨_, rfl⟩
      obtain ⟨pn, hpn⟩ : ∃ x, (l.getD (g * 16 + j) default).pend = x := ⟨_, rfl⟩
      rw [hmk] at c2 HPB
      rw [hpn] at c3 HPB
      obtain ⟨P0, hP0⟩ : ∃ S : Int, ((orN (fun i => pendB l g i && !maskB l g i) j : Nat) : Int) = S := ⟨_, rfl⟩
      have HPe := Lib.hid hP0
      rw [hP0] at HP1 ⊢
      clear hP0 hmk hpn
      have HN1 : Hid ((pendB l g j && !maskB l g j) = true → NAt (wr.setCell ⟨b, g * 96 + j * 6 + 3, none⟩ (.bool false)) b (takeE l g (j + 1))) := Lib.hid fun hc => by
        rw [HT.out, if_pos hc]; exact HPUT.out
      have HN0 : Hid ((pendB l g j && !maskB l g j) = false → NAt wr b (takeE l g (j + 1))) := Lib.hid fun hc => by
        rw [HT.out, hc]; exact HN.out
      cases pn
      · have HF : Hid ((pendB l g j && !maskB l g j) = false) := Lib.hid (by rw [HPB.out.1]; rfl)
        go_wp2
        go_roundw
        case rel => exact ⟨j + 1, by omega, by go_num, by rw [HP0.out HF.out, HPe.out], HN0.out HF.out, HO.out⟩
        case measure => simp [intOf]; omega
      · cases mk
        · have HF : Hid ((pendB l g j && !maskB l g j) = true) := Lib.hid (by rw [HPB.out.1, HPB.out.2]; rfl)
          have hq := HP1.out HF.out
          go_wp2
          go_roundw
          case rel => exact ⟨j + 1, by omega, by go_num, rfl, HN1.out HF.out, HO1.out⟩
          case measure => simp [intOf]; omega
        · have HF : Hid ((pendB l g j && !maskB l g j) = false) := Lib.hid (by rw [HPB.out.2, Bool.not_true, Bool.and_false])
          go_wp2
          go_roundw
          case rel => exact ⟨j + 1, by omega, by go_num, by rw [HP0.out HF.out, HPe.out], HN0.out HF.out, HO.out⟩
          case measure => simp [intOf]; omega
    · obtain rfl : j = 16 := by omega
      go_wp2
      go_ret
      exact ⟨rfl, HN.out, HO.out⟩
end Go.Proofs.YtpmbbbgmaipmbaaDoor
