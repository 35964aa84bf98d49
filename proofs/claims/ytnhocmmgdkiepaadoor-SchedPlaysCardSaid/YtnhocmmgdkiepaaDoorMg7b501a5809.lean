/-
  Parts of one proof, one behind the other.
-/
import Derived.Test.YtnhocmmgdkiepaaDoorMgdf1c79bb83
import Derived.Test.YtnhocmmgdkiepaaDoorMgacec6907cb
import Derived.Laws.AppendOwnNone
import Derived.Test.YtnhocmmgdkiepaaDoorMg314fc8bd28
import Derived.Test.YtnhocmmgdkiepaaDoorRows
import Derived.Test.YtnhocmmgdkiepaaDoorMg891e6fd1b3
import Derived.BigQuiet
/-
  facaderef.Put: a number among those that rise; facaderef16.Sched: Ready.
-/
namespace Go.Proofs.YtnhocmmgdkiepaaDoor
open Go.RowKit

def PutTo (l : List Int) (n : Int) (w : World) (i : Value) (wr : World) : Prop := ∃ k : Nat, k ≤ l.length ∧ i = .int .i64 (k : Int) ∧ (∀ j, j < k → l.getD j 0 < n) ∧ w = wr
theorem atL_take {w : World} {ao : Option Addr} {l : List Int} (h : AtL w ao (ints l)) (k : Nat) : AtL w ao (ints (l.take k)) := fun j u hj => by
  refine h j u ?_
  unfold ints at hj ⊢
  rw [List.map_take, List.getElem?_take] at hj
  split at hj
  · exact hj
  · cases hj
theorem atL_drop {w : World} {b off : Nat} {l : List Int} (h : AtL w (some ⟨b, off, none⟩) (ints l)) (k : Nat) (j : Nat) (u : Value) (hj : (ints (l.drop k))[j]? = some u) : w.cell? ((⟨b, off + k, none⟩ : Addr).add j) = some u := by
  have h1 : (ints l)[k + j]? = some u := by
    unfold ints at hj ⊢
    rw [List.map_drop, List.getElem?_drop] at hj
    exact hj
  obtain ⟨b', off', e, c, -⟩ := h (k + j) u h1
  obtain ⟨rfl⟩ := Option.some.inj e
  rw [Addr.add_lit, Nat.add_assoc]
  exact c
def PutQ (l : List Int) (n : Int) (w : World) (e : Ending) (w' : World) : Prop := ∃ v q, e = .returned v ∧ PutK l n q ∧ w'.ownsRow 0 3 1 v (putL l q n).length (ints (putL l q n)) ∧ Below w.heap.size w w' ∧ ∀ b, inRow v b → w.heap.size ≤ b
set_option maxRecDepth 100000 in
set_option maxHeartbeats 6400000 in
theorem put_ints (w : World) (v : Value) (l : List Int) (h : w.ownsRow 0 3 1 v l.length (ints l)) (n : Int) (h100 : l.length ≤ 100) :
    Calls Tryd.prog 90 #[v, .int .i64 n] w (PutQ l n w) := by
  obtain ⟨i0, hi, hz0, hz1, hz2⟩ := info_parts infoInts
  obtain ⟨ao, cap, rfl, hat⟩ := atL_of_own h
  have hcap0 : l.length ≤ cap := by
    rcases own_shape h with ⟨e, h0, -⟩ | ⟨g, c2, e, h1, -⟩
    · omega
    · obtain ⟨-, -, rfl⟩ := Value.slice.inj e
      exact h1
  have HCAP := Lib.hid hcap0
  have HSH := Lib.hid (own_shape h)
  have HAT := Lib.hid hat
  clear h hat hcap0
  go_enter Tryd.func90, Tryd.ntmps90
  go_wp2_with fail
  go_loopw [5] (fun i wr => PutTo l n w i wr) (fun i _ => l.length - (intOf i).toNat)
  case atStart => exact ⟨0, Nat.zero_le _, rfl, (fun j hj => by omega), rfl⟩
  case round =>
    obtain ⟨k, hk, rfl, hn, rfl⟩ := hrel
    have HN := Lib.hid hn
    clear hn
    by_cases hlt : k < l.length
    · have hki : (k : Int) < (l.length : Int) := by omega
      have wk := IntWalk.i64_in ((k : Int) + 1) (by omega)
      obtain ⟨g, off, rfl, c0, ltg⟩ := HAT.out k _ (ints_get l k hlt)
      obtain ⟨z, hz⟩ : ∃ z, l.getD k 0 = z := ⟨_, rfl⟩
      have HZ := Lib.hid hz
      rw [hz] at c0
      clear hz
      by_cases hzx : z < n
      · have HN2 : Hid (∀ j, j < k + 1 → l.getD j 0 < n) := Lib.hid fun j hj => by
          by_cases e : j = k
          · rw [e, HZ.out]; exact hzx
          · exact HN.out j (by omega)
        go_wp2_with fail
        go_roundw
        case rel => exact ⟨k + 1, hlt, by go_num, HN2.out, rfl⟩
        case measure => simp [intOf]; omega
      · have HPK : Hid (PutK l n k) := Lib.hid ⟨hk, HN.out, fun _ => by rw [HZ.out]; omega⟩
        by_cases hze : z = n
        · have hzb : (z == n) = true := by rw [beq_iff_eq]; exact hze
          have HCP := Lib.hid (copyInts_any (some ⟨g, off, none⟩) cap l w HAT.out (by omega))
          have HPL : Hid (putL l k n = l) := Lib.hid (by unfold putL; rw [if_pos ⟨hlt, HZ.out.trans hze⟩])
          clear hze
          go_wp2_with fail
          refine HCP.out.mono ?_
          rintro y w1 ⟨v1, rfl, ho1, hf1, hb1⟩
          have HF : Hid (PutQ l n w (.returned v1) w1) := Lib.hid ⟨v1, k, rfl, HPK.out, by rw [HPL.out]; exact ho1, hb1, hf1⟩
          clear ho1 hf1 hb1
          go_wp2_with fail
          go_ret
          exact HF.out
        · have hzb : (z == n) = false := by rw [beq_eq_false_iff_ne]; exact hze
          have HCP := Lib.hid (copyInts_any (some ⟨g, off, none⟩) cap (l.take k) w (atL_take HAT.out k) (by rw [List.length_take]; omega))
          rw [show (l.take k).length = k by rw [List.length_take]; omega] at HCP
          have hkc : k ≤ cap := by have := HCAP.out; omega
          have hkl : k ≤ l.length := hk
          have hck : ¬ cap = k := by have := HCAP.out; omega
          have HPL : Hid (putL l k n = l.take k ++ [n] ++ l.drop k) := Lib.hid (by unfold putL; rw [if_neg (fun e => hze (HZ.out.symm.trans e.2))])
          clear hze
          go_wp2_with fail
          refine HCP.out.mono ?_
          rintro y w1 ⟨v1, rfl, ho1, hf1, hb1⟩
          have HLEN : Hid ((ints (l.drop k)).length = (l.length - k) * 1) := Lib.hid (by simp [ints])
          have HDRP : Hid (∀ W, Below w.heap.size w W → ∀ (j : Nat) (u : Value), (ints (l.drop k))[j]? = some u → W.cell? ((⟨g, off + k, none⟩ : Addr).add j) = some u) := Lib.hid fun W hW => atL_drop (HAT.out.mono hW) k
          have HONE : Hid (∀ u ∈ ints (l.drop k), u.oneCell' = true) := Lib.hid fun u hu => by
            unfold ints at hu
            obtain ⟨z, -, rfl⟩ := List.mem_map.1 hu
            rfl
          have HEQ : Hid ((l.take k ++ [n] ++ l.drop k).length = k + 1 + (l.length - k) ∧ ints (l.take k ++ [n] ++ l.drop k) = ints (l.take k) ++ [.int .i64 n] ++ ints (l.drop k)) := Lib.hid ⟨by simp; omega, by simp [ints]⟩
          obtain ⟨ao1, c1, rfl⟩ := own_slice ho1
          have HO1 := Lib.hid ho1
          have HF1 := Lib.hid hf1
          have HB1 := Lib.hid hb1
          clear ho1 hf1 hb1
          go_wp2_with (at_builtin; refine wpList_append_sep _ rfl _ _ 35 rfl 3 i0 (.int .i64 0) 1 8 Tryd.underlying35 hi hz0 hz1 hz2 rfl (by decide) _ _ _ rfl (HO1.out.alloc _) ⟨w1.heap.size, 0, none⟩ 1 1 [.int .i64 n] rfl rfl (cell_one_new _ _ _) (by simp [Value.oneCell']) (by unfold maxLen; omega) (by omega) ?_)
          intro v2 w2 ho2 hg2 hs2
          obtain ⟨ao2, c2, rfl⟩ := own_slice ho2
          have hb2 : Below w.heap.size w w2 := (HB1.out.alloc HB1.out.size _).grown hg2 (by have := HB1.out.size; simp; omega) (fun j hj => HF1.out j hj)
          have HF2 : Hid (∀ b, inRow (.slice ao2 (k + 1) c2) b → w.heap.size ≤ b) := Lib.hid fun b hb => by
            rcases hs2 b hb with h | h
            · exact HF1.out b h
            · exact Nat.le_trans HB1.out.size (Nat.le_trans (by simp) h)
          have HO2 := Lib.hid ho2
          have HB2 := Lib.hid hb2
          clear ho2 hg2 hs2 hb2
          go_wp2_with (at_builtin; refine wpList_append_sep _ rfl _ _ 35 rfl 3 i0 (.int .i64 0) 1 8 Tryd.underlying35 hi hz0 hz1 hz2 rfl (by decide) _ _ _ rfl HO2.out ⟨g, off + k, none⟩ (l.length - k) (cap - k) (ints (l.drop k)) rfl HLEN.out (HDRP.out w2 HB2.out) HONE.out (by unfold maxLen; omega) (by omega) ?_)
          all_goals (try (exfalso; have := HCAP.out; omega))
          intro v3 w3 ho3 hg3 hs3
          have HF : Hid (PutQ l n w (.returned v3) w3) := Lib.hid ⟨v3, k, rfl, HPK.out, by
            rw [HPL.out]
            have e1 := HEQ.out
            rw [e1.1, e1.2, List.append_assoc, List.singleton_append]
            exact ho3, HB2.out.grown hg3 HB2.out.size (fun j hj => HF2.out j hj), fun b hb => by
            rcases hs3 b hb with h | h
            · exact HF2.out b h
            · exact Nat.le_trans HB2.out.size h⟩
          clear ho3 hg3 hs3
          go_wp2_with fail
          go_ret
          exact HF.out
    · have hki : ¬ (k : Int) < (l.length : Int) := by omega
      obtain rfl : k = l.length := by omega
      have HPK : Hid (PutK l n l.length) := Lib.hid ⟨hk, HN.out, fun e => by omega⟩
      have HCP := Lib.hid (copyInts_any ao cap l w HAT.out (by omega))
      have hkc : l.length ≤ cap := HCAP.out
      have HPL : Hid (putL l l.length n = l.take l.length ++ [n] ++ l.drop l.length) := Lib.hid (by unfold putL; rw [if_neg (fun e => by omega)])
      clear hk
      rcases HSH.out with ⟨hv, h0, -⟩ | ⟨g, cap2, hv, -⟩
      · obtain ⟨rfl, -, rfl⟩ := Value.slice.inj hv
        obtain rfl : l = [] := List.eq_nil_of_length_eq_zero h0
        rw [show ([] : List Int).length = 0 from rfl] at HCP HPK HPL hkc hki ⊢
        clear h0 hv
        go_wp2_with fail
        refine HCP.out.mono ?_
        rintro y w1 ⟨v1, rfl, ho1, hf1, hb1⟩
        obtain ⟨ao1, c1, rfl⟩ := own_slice ho1
        have HO1 := Lib.hid ho1
        have HF1 := Lib.hid hf1
        have HB1 := Lib.hid hb1
        clear ho1 hf1 hb1
        go_wp2_with (at_builtin; refine wpList_append_sep _ rfl _ _ 35 rfl 3 i0 (.int .i64 0) 1 8 Tryd.underlying35 hi hz0 hz1 hz2 rfl (by decide) _ _ _ rfl (HO1.out.alloc _) ⟨w1.heap.size, 0, none⟩ 1 1 [.int .i64 n] rfl rfl (cell_one_new _ _ _) (by simp [Value.oneCell']) (by unfold maxLen; omega) (by omega) ?_)
        intro v2 w2 ho2 hg2 hs2
        obtain ⟨ao2, c2, rfl⟩ := own_slice ho2
        have hb2 : Below w.heap.size w w2 := (HB1.out.alloc HB1.out.size _).grown hg2 (by have := HB1.out.size; simp; omega) (fun j hj => HF1.out j hj)
        have HF2 : Hid (∀ b, inRow (.slice ao2 (0 + 1) c2) b → w.heap.size ≤ b) := Lib.hid fun b hb => by
          rcases hs2 b hb with h | h
          · exact HF1.out b h
          · exact Nat.le_trans HB1.out.size (Nat.le_trans (by simp) h)
        have HO2 := Lib.hid ho2
        have HB2 := Lib.hid hb2
        clear ho2 hg2 hs2 hb2
        go_wp2_with (at_builtin; refine wpList_append_own_none rfl _ _ 35 rfl 0 3 i0 1 Tryd.underlying35 hi _ _ _ rfl HO2.out rfl ?_)
        have HF : Hid (PutQ [] n w (.returned (.slice ao2 (0 + 1) c2)) w2) := Lib.hid ⟨_, 0, rfl, HPK.out, by
          have := HO2.out
          rw [show putL [] 0 n = [n] by simp [putL]]
          exact this, HB2.out, HF2.out⟩
        go_wp2_with fail
        go_ret
        exact HF.out
      · obtain ⟨rfl, -, -⟩ := Value.slice.inj hv
        clear hv
        have HEQ : Hid (putL l l.length n = l ++ [n] ∧ (l ++ [n]).length = l.length + 1 ∧ ints (l ++ [n]) = ints l ++ [.int .i64 n]) := Lib.hid ⟨by rw [HPL.out, List.take_length, List.drop_length, List.append_nil], by simp, by simp [ints]⟩
        have HTK : Hid (ints (l.take l.length) = ints l) := Lib.hid (by rw [List.take_length])
        obtain ⟨N, hN⟩ : ∃ N, l.length = N := ⟨_, rfl⟩
        rw [hN] at HCP HPK HPL HEQ HTK hkc h100 ⊢
        have hki : ¬ (N : Int) < (N : Int) := by omega
        have h63 : N + 1 + 0 ≤ maxLen := by unfold maxLen; omega
        clear hN HCAP HSH HAT HN hlt
        have HFQ : Hid (∀ (v2 v3 : Value) (w1 w2 w3 : World), Below w.heap.size w w2 → (∀ b, inRow v2 b → w.heap.size ≤ b) → w3.ownsRow 0 3 1 v3 (N + 1) (ints l ++ [.int .i64 n]) → w2.grownBy w3 v2.ownBlock → (∀ b, inRow v3 b → inRow v2 b ∨ w2.heap.size ≤ b) → PutQ l n w (.returned v3) w3) := Lib.hid fun v2 v3 w1 w2 w3 hb hf ho hg hs => ⟨v3, N, rfl, HPK.out, by
          rw [HEQ.out.1, HEQ.out.2.1, HEQ.out.2.2]
          exact ho, hb.grown hg hb.size (fun j hj => hf j hj), fun b hb2 => by
          rcases hs b hb2 with h | h
          · exact hf b h
          · exact Nat.le_trans hb.size h⟩
        go_wp2_with fail
        refine HCP.out.mono ?_
        rintro y w1 ⟨v1, rfl, ho1, hf1, hb1⟩
        obtain ⟨ao1, c1, rfl⟩ := own_slice ho1
        have HO1 := Lib.hid ho1
        have HF1 := Lib.hid hf1
        have HB1 := Lib.hid hb1
        clear ho1 hf1 hb1
        go_wp2_with (at_builtin; refine wpList_append_sep _ rfl _ _ 35 rfl 3 i0 (.int .i64 0) 1 8 Tryd.underlying35 hi hz0 hz1 hz2 rfl (by decide) _ _ _ rfl (HO1.out.alloc _) ⟨w1.heap.size, 0, none⟩ 1 1 [.int .i64 n] rfl rfl (cell_one_new _ _ _) (by simp [Value.oneCell']) (by unfold maxLen; omega) (by omega) ?_)
        intro v2 w2 ho2 hg2 hs2
        obtain ⟨ao2, c2, rfl⟩ := own_slice ho2
        have hb2 : Below w.heap.size w w2 := (HB1.out.alloc HB1.out.size _).grown hg2 (by have := HB1.out.size; simp; omega) (fun j hj => HF1.out j hj)
        have HF2 : Hid (∀ b, inRow (.slice ao2 (N + 1) c2) b → w.heap.size ≤ b) := Lib.hid fun b hb => by
          rcases hs2 b hb with h | h
          · exact HF1.out b h
          · exact Nat.le_trans HB1.out.size (Nat.le_trans (by simp) h)
        have HO2 := Lib.hid ho2
        have HB2 := Lib.hid hb2
        clear ho2 hg2 hs2 hb2
        by_cases hcN : cap = N
        · subst hcN
          go_wp2_with (at_builtin; refine wpList_append_sep _ rfl _ _ 35 rfl 3 i0 (.int .i64 0) 1 8 Tryd.underlying35 hi hz0 hz1 hz2 rfl (by decide) _ _ _ rfl HO2.out ⟨g, 0, none⟩ 0 0 [] rfl rfl (fun j u h => by simp at h) (fun u h => by simp at h) h63 (by omega) ?_)
          intro v3 w3 ho3 hg3 hs3
          have HF := Lib.hid (HFQ.out _ _ w1 w2 w3 HB2.out HF2.out ho3 hg3 hs3)
          clear ho3 hg3 hs3
          go_wp2_with fail
          go_ret
          exact HF.out
        · go_wp2_with (at_builtin; refine wpList_append_sep _ rfl _ _ 35 rfl 3 i0 (.int .i64 0) 1 8 Tryd.underlying35 hi hz0 hz1 hz2 rfl (by decide) _ _ _ rfl HO2.out ⟨g, N, none⟩ 0 (cap - N) [] rfl rfl (fun j u h => by simp at h) (fun u h => by simp at h) h63 (by omega) ?_)
          intro v3 w3 ho3 hg3 hs3
          have HF := Lib.hid (HFQ.out _ _ w1 w2 w3 HB2.out HF2.out ho3 hg3 hs3)
          clear ho3 hg3 hs3
          go_wp2_with fail
          go_ret
          exact HF.out
def SdRdTo (L : List Tn) (w : World) (v i : Value) (wr : World) : Prop := ∃ (k : Nat) (xs : List Int) (vo : Option Addr) (vc : Nat), k ≤ L.length ∧ i = .int .i64 (k : Int) ∧ v = .slice vo xs.length vc ∧ RdP L k xs ∧ Below w.heap.size w wr ∧ wr.ownsRow 0 3 1 v xs.length (ints xs) ∧ ∀ b, inRow v b → w.heap.size ≤ b
set_option maxRecDepth 100000 in
set_option maxHeartbeats 6400000 in
theorem sdready_any (w : World) (xb : Nat) (v : Value) (L : List Tn) (st : Int → Option Gu) (h : SdAt w xb v L) (hs : SdS L st) (h100 : L.length ≤ 100) :
    Calls Tryd.prog 55 #[.pointer (some ⟨xb, 0, none⟩)] w (RdQ st w) := by
  have HH := Lib.hid h
  have HS := Lib.hid hs
  have HST : Hid (SdRdTo L w (.slice none 0 0) (.int .i64 0) w) := Lib.hid ⟨0, [], none, 0, Nat.zero_le _, rfl, rfl, rdP_zero L, Below.refl _ _, own_nil _ _ _, fun b hb => by simp [inRow, Value.ownBlock] at hb⟩
  obtain ⟨ao, cap, rfl⟩ := h.slice
  clear h hs
  go_enter Tryd.func55, Tryd.ntmps55
  go_wp2_with fail
  go_loopw [3, 4] (fun b i wr => SdRdTo L w b i wr) (fun _ i _ => L.length - (intOf i).toNat)
  case atStart => exact HST.out
  case round =>
    obtain ⟨k, xs, vo, vc, hk, rfl, rfl, hrd, hb, hown, hfr⟩ := hrel
    have HRD := Lib.hid hrd
    have HB := Lib.hid hb
    have HOWN := Lib.hid hown
    have HFR := Lib.hid hfr
    have hhr := HH.out.below hb
    have HR := Lib.hid hhr
    have c := hhr.cell
    have lt := blk_lt hhr.1
    clear hrd hb hhr hown hfr HST
    by_cases hlt : k < L.length
    · have hki : (k : Int) < (L.length : Int) := by omega
      have wk := IntWalk.i64_in ((k : Int) + 1) (by omega)
      obtain ⟨g, cap2, hv⟩ := HR.out.row (by omega)
      obtain ⟨rfl, -, rfl⟩ := Value.slice.inj hv
      obtain ⟨c0, -, -, c3, -⟩ := HR.out.at k hlt
      have ltg := own_lt HR.out.2 (k := g) rfl
      have HPT := Lib.hid (put_ints wr (.slice vo xs.length vc) xs HOWN.out (tg L k).id (by have := HRD.out.2.1; omega))
      have HNEXT : Hid (∀ (v' : Value) (w' : World) (q : Nat), (tg L k).sl = false → PutK xs (tg L k).id q → w'.ownsRow 0 3 1 v' (putL xs q (tg L k).id).length (ints (putL xs q (tg L k).id)) → Below wr.heap.size wr w' → (∀ b, inRow v' b → wr.heap.size ≤ b) → SdRdTo L w v' (.int .i64 ((k : Int) + 1)) w') := Lib.hid fun v' w' q hsl hq ho hb hf => by
        obtain ⟨ao', cap', rfl⟩ := own_slice ho
        exact ⟨k + 1, _, ao', cap', hlt, by go_num, rfl, rdP_yes HRD.out hsl hq, HB.out.trans (hb.mono HB.out.size), ho, fun b hb2 => Nat.le_trans HB.out.size (hf b hb2)⟩
      have HSKIP : Hid ((tg L k).sl = true → SdRdTo L w (.slice vo xs.length vc) (.int .i64 ((k : Int) + 1)) wr) := Lib.hid fun hsl => ⟨k + 1, xs, vo, vc, hlt, by go_num, rfl, rdP_no HRD.out hsl, HB.out, HOWN.out, HFR.out⟩
      obtain ⟨⟨ti, tw, tu, ts, tn⟩, ht⟩ : ∃ t, tg L k = t := ⟨_, rfl⟩
      rw [ht] at c0 c3 HPT HNEXT HSKIP
      dsimp only at c0 c3 HPT HNEXT HSKIP
      obtain ⟨a, ha⟩ : ∃ a, xs.length = a := ⟨_, rfl⟩
      rw [ha] at HPT HSKIP ⊢
      clear ht hv ha HOWN HFR
      cases ts
      · go_wp2_with fail
        refine HPT.out.mono ?_
        rintro y w1 ⟨v1, q, rfl, hq, ho, hb, hf⟩
        have HN := Lib.hid (HNEXT.out v1 w1 q (by simp) hq ho hb hf)
        clear hq ho hb hf
        go_wp2_with fail
        go_roundw
        case rel => exact HN.out
        case measure => simp [intOf]; omega
      · have HN := Lib.hid (HSKIP.out (by simp))
        go_wp2_with fail
        go_roundw
        case rel => exact HN.out
        case measure => simp [intOf]; omega
    · have hki : ¬ (k : Int) < (L.length : Int) := by omega
      obtain rfl : k = L.length := by omega
      have HF : Hid (RdQ st w (.returned (.slice vo xs.length vc)) wr) := Lib.hid (by
        have e := HS.out.ready HRD.out
        subst e
        exact ⟨_, rfl, HOWN.out, HB.out, HFR.out⟩)
      obtain ⟨a, ha⟩ : ∃ a, xs.length = a := ⟨_, rfl⟩
      rw [ha] at HF ⊢
      clear hk ha HOWN HFR
      go_wp2_with fail
      go_ret
      exact HF.out
end Go.Proofs.YtnhocmmgdkiepaaDoor

/-
  sched.Sched: Clone.
-/
namespace Go.Proofs.YtnhocmmgdkiepaaDoor
open Go.RowKit Go.Maps

theorem MpR.cnt_le {w : World} {mb r n : Nat} {F : Int → Option Nat} {left : Int → Bool} {cnt : Nat} (h : MpR w mb r n F left cnt) : cnt ≤ n := by
  obtain ⟨D, lf, ⟨es, clock, since, seen, c0, -, -, hs, -, -, -, hc, -⟩, -⟩ := h
  have : (leftOf es seen).size ≤ es.size := by
    unfold leftOf
    exact Array.size_filter_le
  omega
/-- somebody new, from wherever: the map, then the heap that he is in -/
theorem scIn {w1 : World} {p : Sl} {m : Nat} {F : Int → Option Nat} {R A : List On} {st : Int → Option Gu} (hm : ScMem w1 p m F R A) (hp : ScP m F R A) (hs : ScS R A st) (o : On) (pl : Int) (hok : onOk o) (hno : st o.id = none) (hm1 : m < 100) (hob : w1.heap[o.blk]? = some (.cells (onCells o pl) 109 (0, 0))) (hnb : ∀ z, InS R A z → z.blk ≠ o.blk) :
    (w1.cell? ⟨p.sb, 0, none⟩ = some (.map (some p.mb)) ∧ p.sb < w1.heap.size ∧ MpAt w1 p.mb m F) ∧ ∀ w4, MpAt w4 p.mb (m + 1) (updF F o.id (some o.blk)) → Only (fun k => k = p.mb) w1 w4 →
      (Calls Tryd.prog 58 #[.pointer (some ⟨p.sb, 0, none⟩), .pointer (some ⟨o.blk, 0, none⟩)] w4 fun e w' => e = .returned (.pointer (some ⟨if o.sl = true then p.ab else p.rb, 0, none⟩)) ∧ w4 = w') ∧
      Calls Tryd.prog 56 #[.iface 101 (.pointer (some ⟨if o.sl = true then p.ab else p.rb, 0, none⟩)), .iface 107 (.pointer (some ⟨o.blk, 0, none⟩))] w4 fun e w5 => e = .returned (.tuple #[]) ∧ ScAt w5 (fun b => scz p R A b ∨ b = o.blk ∨ w1.heap.size ≤ b) p.sb (m + 1) (upd st o.id (some o.gu)) ∧ Only (fun b => scz p R A b ∨ b = o.blk) w1 w5 := by
  refine ⟨⟨blk_cell hm.row 0, blk_lt hm.row, hm.map⟩, fun w4 h4 ho4 => ?_⟩
  have hm4 := hm.mapOp h4 ho4
  have hb4 : w4.heap[o.blk]? = some (.cells (onCells o pl) 109 (0, 0)) := by
    obtain ⟨es, c, hh⟩ := hm.map.ty
    exact ho4.blk hob (map_ne hh hob).symm
  refine ⟨sof_row w4 p.sb p.mb p.rb p.ab hm4.row o pl hb4, ?_⟩
  have hc := hp.cnt
  have fin : ∀ w5 p5 R5 A5, InOk w4 p (m + 1) (updF F o.id (some o.blk)) R A o w5 p5 R5 A5 → ScAt w5 (fun b => scz p R A b ∨ b = o.blk ∨ w1.heap.size ≤ b) p.sb (m + 1) (upd st o.id (some o.gu)) ∧ Only (fun b => scz p R A b ∨ b = o.blk) w1 w5 := fun w5 p5 R5 A5 h6 => by
    obtain ⟨g1, g2⟩ := scP_add hp hs (o' := o) hm1 hok hno h6.ins h6.ls (by have := h6.len; omega)
    refine ⟨⟨p5, _, R5, A5, h6.sb, h6.mem, g1, g2, fun b hb => ?_⟩, (ho4.mono fun b hb => .inl (.inl (.inl hb))).trans h6.only⟩
    rcases h6.zn b hb with h7 | h7 | h7
    · exact .inl h7
    · exact .inr (.inl h7)
    · exact .inr (.inr (Nat.le_trans ho4.size h7))
  by_cases hsl : o.sl = true
  · rw [if_pos hsl]
    refine (hpush_any p.ab p.av A o pl w4 hm4.sd hb4 (fun j hj => hnb _ (.a hj)) (by omega)).mono ?_
    rintro e w5 ⟨rfl, v', h5, ho5, hv5⟩
    obtain ⟨p5, R5, A5, h6⟩ := in_A hm4 ⟨hp.sr, hp.sa, hp.hr, hp.ha⟩ (o := o) hsl hb4 hnb h5 ho5 hv5
    exact ⟨rfl, fin w5 p5 R5 A5 h6⟩
  · rw [if_neg hsl]
    refine (hpush_any p.rb p.rv R o pl w4 hm4.rd hb4 (fun j hj => hnb _ (.r hj)) (by omega)).mono ?_
    rintro e w5 ⟨rfl, v', h5, ho5, hv5⟩
    obtain ⟨p5, R5, A5, h6⟩ := in_R hm4 ⟨hp.sr, hp.sa, hp.hr, hp.ha⟩ (o := o) (by simpa using hsl) hb4 hnb h5 ho5 hv5
    exact ⟨rfl, fin w5 p5 R5 A5 h6⟩
/-- what is copied so far -/
def CloTo (F : Int → Option Nat) (st : Int → Option Gu) (mb r m sb : Nat) (w : World) (wr : World) : Prop := ∃ (left : Int → Bool) (cnt m' : Nat) (st' : Int → Option Gu), MpR wr mb r m F left cnt ∧ ScAt wr (fun b => w.heap.size ≤ b ∧ b ≠ r) sb m' st' ∧ m' + cnt ≤ m ∧ (∀ x, kw x → left x = false → st' x = st x) ∧ (∀ x, kw x → left x = true → st' x = none) ∧ (∀ x, ¬ kw x → st' x = none) ∧ Below w.heap.size w wr ∧ r < wr.heap.size
def CloQ (m : Nat) (st : Int → Option Gu) (w : World) (e : Ending) (w' : World) : Prop := ∃ sb, e = .returned (.pointer (some ⟨sb, 0, none⟩)) ∧ ScAt w' (fun b => w.heap.size ≤ b) sb m st ∧ w.heap.size ≤ sb ∧ Below w.heap.size w w'
theorem st_kw {m : Nat} {F : Int → Option Nat} {R A : List On} {st : Int → Option Gu} (hp : ScP m F R A) (hs : ScS R A st) (x : Int) (hx : ¬ kw x) : st x = none := by
  cases hg : st x with
  | none => rfl
  | some g =>
    obtain ⟨o, ho, rfl⟩ := hs.s2 x g hg
    exact absurd (kw_of (by have := (hp.ids o ho).1; omega)) hx
set_option maxRecDepth 100000 in
set_option maxHeartbeats 12800000 in
theorem sclone_any (w : World) (Z : Nat → Prop) (sb m : Nat) (st : Int → Option Gu) (h : ScAt w Z sb m st) :
    Calls Tryd.prog 48 #[.pointer (some ⟨sb, 0, none⟩)] w (CloQ m st w) := by
  obtain ⟨p, F, R, A, rfl, hmm, hp, hs, -⟩ := h
  have HMM := Lib.hid hmm
  have HP := Lib.hid hp
  have HS := Lib.hid hs
  have HN := Lib.hid (snew_any w)
  have lsb := blk_lt hmm.row
  have HSB := Lib.hid lsb
  clear hmm hp hs lsb
  go_enter Tryd.func48, Tryd.ntmps48
  go_wp2_with fail
  refine HN.out.mono ?_
  rintro y w1 ⟨nb, rfl, hn1, hnb, hb1⟩
  have hmm1 := HMM.out.below hb1
  have HMP1 := Lib.hid hmm1.map
  have HN1 := Lib.hid hn1
  have HB1 := Lib.hid hb1
  have HNB := Lib.hid hnb
  have d0 : w1.cell? ⟨p.sb, 0, none⟩ = some (.map (some p.mb)) := blk_cell hmm1.row 0
  have dl := blk_lt hmm1.row
  clear hmm1 hn1 hb1 hnb
  go_wp2_with (first | (at_range; refine wp_range_mp _ rfl _ rfl p.mb m F rfl HMP1.out ?_; intro w2 cnt hr2 ho2 hs2) | go_in)
  have hb2 : Below w1.heap.size w1 w2 := ho2.below (B := w1.heap.size) (Nat.le_refl _) (fun k hk => hk.elim)
  have HST : Hid (CloTo F st p.mb w1.heap.size m nb w w2) := Lib.hid (by
    refine ⟨_, cnt, 0, noOne, hr2, (HN1.out.mono (Z' := fun b => w.heap.size ≤ b ∧ b ≠ w1.heap.size) fun b hlt hb => ⟨hb, by omega⟩).below hb2, by have := hr2.cnt_le; omega, fun x hx h => ?_, fun _ _ _ => rfl, fun _ _ => rfl, HB1.out.trans (hb2.mono HB1.out.size), by omega⟩
    rcases sc_look (w := w) (p := p) HP.out HS.out x hx with ⟨-, h2⟩ | ⟨o, -, -, h2, -⟩
    · exact h2.symm
    · rw [h2] at h
      cases h)
  obtain ⟨r, hr⟩ : ∃ r, w1.heap.size = r := ⟨_, rfl⟩
  have HRR : Hid (w.heap.size ≤ r ∧ nb < r) := Lib.hid (by rw [← hr]; exact ⟨HB1.out.size, HN1.out.lt⟩)
  rw [hr] at HST ⊢
  clear hr2 ho2 hs2 hb2 d0 dl HMP1 HN1 hr HB1
  simp only [Act.put, List.setIfInBounds_toArray, List.set_cons_succ, List.set_cons_zero]
  go_loopw [] (fun wr => CloTo F st p.mb r m nb w wr) (fun wr => wr.rangeLeft p.mb r)
  case atStart => exact HST.out
  case round =>
    obtain ⟨left, cnt, m', st', hr, hsc, hle, hl0, hl1, hl2, hb, hrs⟩ := hrel
    have HR := Lib.hid hr
    have HSC := Lib.hid hsc
    have HLE := Lib.hid hle
    have HL0 := Lib.hid hl0
    have HL1 := Lib.hid hl1
    have HL2 := Lib.hid hl2
    have HB := Lib.hid hb
    have HRS := Lib.hid hrs
    have hcnt := hr.cnt_eq
    have HCNT := Lib.hid hcnt
    have HM100 : Hid (m ≤ 100 ∧ p.mb < w.heap.size) := Lib.hid ⟨HP.out.m100, HMM.out.map.lt⟩
    clear hr hsc hle hl0 hl1 hl2 hb hrs hcnt HST
    go_wp2_with (first | (at_next; refine wp_next_mp _ rfl _ rfl p.mb r m F left cnt rfl HR.out ?_ ?_) | go_in)
    · intro hdone
      have HFIN : Hid (CloQ m st w (.returned (.pointer (some ⟨nb, 0, none⟩))) wr) := Lib.hid (by
        have est : st' = st := by
          funext x
          by_cases hx : kw x
          · exact HL0.out x hx (hdone x hx)
          · rw [HL2.out x hx, st_kw HP.out HS.out x hx]
        have h2 := HSC.out
        rw [est] at h2
        exact ⟨nb, rfl, (h2.up (by have := HLE.out; omega) HM100.out.1).mono fun b _ hb => hb.1, HNB.out, HB.out⟩)
      clear hdone
      go_wp2_with fail
      go_ret
      exact HFIN.out
    · intro z bz w3 cnt3 hz hlz hFz hr3 hlt3 ho3 hs3 hen
      obtain ⟨oz, hoz, hzid, hzb⟩ := HP.out.f2 z bz hz hFz
      subst hzid
      subst hzb
      obtain ⟨i, hbl, -⟩ := HMM.out.one hoz
      have hlz2 := blk_lt hbl
      have hbw : wr.heap[oz.blk]? = some (.cells (onCells oz (i : Int)) 109 (0, 0)) := blk_below hbl HB.out hlz2
      have hb3 := ho3.blk hbw (fun e => by have := HRR.out; omega)
      have c0 : w3.cell? ⟨oz.blk, 0, none⟩ = some (.int .i64 oz.id) := blk_cell hb3 0
      have c1 : w3.cell? ⟨oz.blk, 1, none⟩ = some (.int .i64 oz.wt) := blk_cell hb3 1
      have c2 : w3.cell? ⟨oz.blk, 2, none⟩ = some (.int .i64 oz.us) := blk_cell hb3 2
      have c3 : w3.cell? ⟨oz.blk, 3, none⟩ = some (.bool oz.sl) := blk_cell hb3 3
      have c4 : w3.cell? ⟨oz.blk, 4, none⟩ = some (.int .i64 oz.un) := blk_cell hb3 4
      have c5 : w3.cell? ⟨oz.blk, 5, none⟩ = some (.int .i64 (i : Int)) := blk_cell hb3 5
      have cl := blk_lt hb3
      obtain ⟨p', F', R', A', hpb, hm', hp', hs', hz'⟩ := HSC.out.keep ho3 (fun e => by have := HRR.out; omega) (fun b hb _ e => hb.2 e)
      subst hpb
      have x0 : w3.cell? ⟨p'.sb, 0, none⟩ = some (.map (some p'.mb)) := blk_cell hm'.row 0
      have xl := blk_lt hm'.row
      obtain ⟨o', ho'⟩ : ∃ o' : On, o' = ⟨oz.id, oz.wt, oz.us, oz.sl, oz.un, w3.heap.size⟩ := ⟨_, rfl⟩
      obtain ⟨W3, hW3⟩ : ∃ W3, w3.alloc (.cells (onCells oz (i : Int)) 109) = W3 := ⟨_, rfl⟩
      have hbW : Below w3.heap.size w3 W3 := hW3 ▸ (Below.refl _ _).alloc (Nat.le_refl _) _
      have hkW : W3.heap[o'.blk]? = some (.cells (onCells o' (i : Int)) 109 (0, 0)) := by
        rw [ho', ← hW3]
        exact blk_new w3 _
      have hsW : W3.heap.size = w3.heap.size + 1 := by rw [← hW3]; simp
      have hmW := hm'.below hbW
      have hnbk : ∀ q, InS R' A' q → q.blk ≠ o'.blk := fun q hq e => by
        obtain ⟨k, hh, -⟩ := hm'.one hq
        have := blk_lt hh
        rw [e, ho'] at this
        exact Nat.lt_irrefl _ this
      have hid : o'.id = oz.id := by rw [ho']
      have hbk : o'.blk = w3.heap.size := by rw [ho']
      have hgu : o'.gu = oz.gu := by rw [ho']; rfl
      have hsl : o'.sl = oz.sl := by rw [ho']
      have HXW : Hid (m' < 100 ∧ m' + 1 + cnt3 ≤ m) := Lib.hid (by
        have h1 := HLE.out
        have h2 := HM100.out.1
        omega)
      obtain ⟨-, hin⟩ := scIn hmW hp' hs' o' (i : Int) (by
        have := HP.out.ids oz hoz
        rw [ho']
        exact this) (by rw [hid]; exact HL1.out _ hz hlz) HXW.out.1 hkW hnbk
      rw [hid, hbk, hgu, hsl] at hin
      obtain ⟨hh, hhh⟩ : ∃ x, (if oz.sl = true then p'.ab else p'.rb) = x := ⟨_, rfl⟩
      rw [hhh] at hin
      clear hhh
      have HIN := Lib.hid hin
      have HMAP := Lib.hid hmW.map
      have HFIN : Hid (∀ w5, ScAt w5 (fun b => scz p' R' A' b ∨ b = w3.heap.size ∨ W3.heap.size ≤ b) p'.sb (m' + 1) (upd st' oz.id (some oz.gu)) ∧ Only (fun b => scz p' R' A' b ∨ b = w3.heap.size) W3 w5 → CloTo F st p.mb r m p'.sb w w5 ∧ w5.rangeLeft p.mb r < wr.rangeLeft p.mb r) := Lib.hid fun w5 ⟨h1, h2⟩ => by
        have hsz := HB.out.size
        have hsz3 : wr.heap.size ≤ w3.heap.size := ho3.size
        have hrr := HRR.out
        have hrlt := HRS.out
        have hmr : MpR w5 p.mb r m F (fun q => left q && !(q == oz.id)) cnt3 := by
          refine (hr3.keep (G := fun _ => False) (Only.of_below hbW) (fun h => h) (fun h => h)).keep h2 (fun h => ?_) (fun h => ?_)
          · rcases h with h | h
            · have := (hz' _ h).1; have := HM100.out.2; omega
            · have := HM100.out.2; omega
          · rcases h with h | h
            · exact (hz' _ h).2 rfl
            · omega
        refine ⟨⟨_, cnt3, m' + 1, _, hmr, h1.mono fun b _ hb => ?_, HXW.out.2, fun x hx h => ?_, fun x hx h => ?_, fun x hx => ?_, ?_, ?_⟩, ?_⟩
        · rcases hb with hb | hb | hb
          · exact hz' b hb
          · omega
          · omega
        · by_cases e : x = oz.id
          · rw [e]
            exact (if_pos rfl).trans (HS.out.s1 oz hoz).symm
          · rw [show upd st' oz.id (some oz.gu) x = st' x from if_neg e]
            refine HL0.out x hx ?_
            simpa [e] using h
        · have h3 : left x = true ∧ x ≠ oz.id := by simpa using h
          rw [show upd st' oz.id (some oz.gu) x = st' x from if_neg h3.2]
          exact HL1.out x hx h3.1
        · rw [show upd st' oz.id (some oz.gu) x = st' x from if_neg (fun e => hx (by rw [e]; exact hz))]
          exact HL2.out x hx
        · refine ((HB.out.trans (ho3.below (B := w.heap.size) hsz fun b hb => by have h4 : b = r := hb; omega)).trans (hbW.mono (by omega))).trans (h2.below (B := w.heap.size) (by omega) fun b hb => ?_)
          rcases hb with hb | hb
          · exact (hz' b hb).1
          · omega
        · have := h2.size
          omega
        · rw [hmr.cnt_eq, HCNT.out]
          exact hlt3
      unfold onCells at hW3
      have HW3 := Lib.hid hW3
      obtain ⟨zi, hzi⟩ : ∃ x, oz.id = x := ⟨_, rfl⟩
      rw [hzi] at c0 HIN HFIN HW3 hz hen ⊢
      have HKZ := Lib.hid hz
      obtain ⟨B, hB⟩ : ∃ B, w3.heap.size = B := ⟨_, rfl⟩
      have HBB := Lib.hid hB
      have HM90 : Hid (m' < maxLen) := Lib.hid (by have := HXW.out.1; unfold maxLen; omega)
      clear hFz hlz hoz hbl hlz2 hbw hb3 hr3 hlt3 ho3 hs3 hm' hp' hs' hz' ho' hW3 hbW hkW hsW hmW hnbk hid hbk hgu hsl hin HXW hB hz
      go_wp2_with (at_mapUpdate; rw [HW3.out]; refine wp_update_mp _ rfl _ _ _ rfl p'.mb m' HM90.out F' rfl HMAP.out zi rfl HKZ.out w3.heap.size rfl ?_)
      intro w4 h4 ho4
      obtain ⟨hof, hpu⟩ := HIN.out w4 h4 ho4
      have HOF := Lib.hid hof
      have HPU := Lib.hid hpu
      clear h4 ho4 hof hpu x0 xl c0 c1 c2 c3 c4 c5 cl
      go_wp2_with fail
      refine HOF.out.mono ?_
      rintro y w4' ⟨rfl, rfl⟩
      go_wp2_with fail
      refine HPU.out.mono ?_
      rintro y w5 ⟨rfl, hf⟩
      have HF := Lib.hid (HFIN.out w5 hf)
      clear hf
      go_wp2_with fail
      go_roundw
      case rel => exact HF.out.1
      case measure => exact HF.out.2
end Go.Proofs.YtnhocmmgdkiepaaDoor

/-
  facaderef.SameInts: are two lists the same?
-/
namespace Go.Proofs.YtnhocmmgdkiepaaDoor
open Go.RowKit

/-- the first k are the same -/
def SameIntsTo (xs ys : List Int) (w : World) (i : Value) (wr : World) : Prop := ∃ k : Nat, k ≤ xs.length ∧ i = .int .i64 k ∧ xs.take k = ys.take k ∧ ∃ n, wr = w.drewN n

set_option maxHeartbeats 800000 in
theorem sameInts_any (xs ys : List Int) (ao bo : Option Addr) (c1 c2 : Nat) (w : World) (hx : AtL w ao (ints xs)) (hy : AtL w bo (ints ys)) (hl : xs.length ≤ 1000000000) (hl2 : ys.length ≤ 1000000000) :
    Calls Tryd.prog 23 #[.slice ao xs.length c1, .slice bo ys.length c2] w fun e w' => e = .returned (.bool (decide (xs = ys))) ∧ ∃ n, w' = w.drewN n := by
  by_cases hlen : xs.length = ys.length
  · have HX := Lib.hid hx
    have HY := Lib.hid hy
    have HLEN := Lib.hid hlen
    rw [← HLEN.out]
    clear hx hy hlen
    go_enter Tryd.func23, Tryd.ntmps23
    go_wp2_with fail
    go_loopw [5] (fun i wr => SameIntsTo xs ys w i wr) (fun i _ => xs.length - (intOf i).toNat)
    case atStart => exact ⟨0, Nat.zero_le _, rfl, rfl, 0, rfl⟩
    case round =>
      obtain ⟨k, hk, rfl, hs, n, rfl⟩ := hrel
      have HS := Lib.hid hs
      clear hs
      by_cases hlt : k < xs.length
      · have hlt2 : k < ys.length := by have := HLEN.out; omega
        obtain ⟨b, o, rfl, p0, hb⟩ := HX.out k _ (ints_get xs k hlt)
        obtain ⟨b2, o2, rfl, q0, hb2⟩ := HY.out k _ (ints_get ys k hlt2)
        obtain ⟨x, hx⟩ : ∃ x, xs.getD k 0 = x := ⟨_, rfl⟩
        obtain ⟨y, hy⟩ : ∃ y, ys.getD k 0 = y := ⟨_, rfl⟩
        rw [hx] at p0
        rw [hy] at q0
        have HXE := Lib.hid hx
        have HYE := Lib.hid hy
        have hki : (k : Int) < (xs.length : Int) := by omega
        clear hx hy
        by_cases hxy : x = y
        · have hbq : (x == y) = true := by simp [hxy]
          have HXY := Lib.hid hxy
          clear hxy
          go_wp2_with fail
          go_quiet (fail)
          go_wp2
          go_roundw
          case rel => exact ⟨k + 1, by omega, by go_num, take_eq 0 hlt hlt2 HS.out (by rw [HXE.out, HYE.out, HXY.out]), n + nq, rfl⟩
          case measure => simp [intOf]; omega
        · have hbq : (x == y) = false := by simp [hxy]
          have HXY := Lib.hid hxy
          clear hxy
          go_wp2_with fail
          go_quiet (fail)
          go_wp2
          go_ret
          refine ⟨ret_bool ?_, n + nq, rfl⟩
          symm
          rw [decide_eq_false_iff_not]
          intro h
          subst h
          exact HXY.out (HXE.out.symm.trans HYE.out)
      · obtain rfl : k = xs.length := by omega
        go_wp2
        go_ret
        refine ⟨ret_bool ?_, n, rfl⟩
        symm
        rw [decide_eq_true_eq]
        have := HS.out
        rwa [List.take_length, List.take_of_length_le (by rw [HLEN.out]; exact Nat.le_refl _)] at this
  · have hne : ((xs.length : Int) != (ys.length : Int)) = true := by rw [bne_iff_ne]; omega
    have HLEN := Lib.hid hlen
    clear hlen hx hy
    go_enter Tryd.func23, Tryd.ntmps23
    go_wp2
    go_ret
    refine ⟨ret_bool ?_, 0, rfl⟩
    symm
    rw [decide_eq_false_iff_not]
    intro h
    exact HLEN.out (by rw [h])
end Go.Proofs.YtnhocmmgdkiepaaDoor

