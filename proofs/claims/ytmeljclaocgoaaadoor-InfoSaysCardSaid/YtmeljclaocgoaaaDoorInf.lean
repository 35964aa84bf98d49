/-
  info: what its functions answer.
-/
import Derived.Test.YtmeljclaocgoaaaDoorAppMade
import Derived.Test.YtmeljclaocgoaaaDoorCloneU32
namespace Go.Proofs.YtmeljclaocgoaaaDoor
open Go.RowKit

structure InfS where
  p : Int
  m : Int
  t : Int
  on : Bool
  q : Int
  f : Int
abbrev infV (x : InfS) : Value := .agg #[.int .u32 x.p, .int .u32 x.m, .int .i64 x.t, .bool x.on, .int .i64 x.q, .int .i64 x.f]
theorem infoU32i : (Tryd.prog.info? 22).map (fun i => (i.zero, i.size, i.bytes)) = some (some (.int .u32 0), 1, 4) := by kernel_rfl

def bl (b : Bool) : Int := if b then 1 else 0
def infW (x : InfS) : List Int := [x.p, x.m, x.t % 4294967296, x.t / 4294967296 % 4294967296, bl x.on, x.q % 4294967296, x.f % 4294967296, 0, 0, 0, 0, 0, 0, 0, 0, 0]

set_option maxRecDepth 100000 in
set_option maxHeartbeats 800000 in
theorem inf_words (x : InfS) (w : World) :
    Calls Tryd.prog 19 #[infV x] w fun e w' => ∃ g c, e = .returned (.slice (some ⟨g, 0, none⟩) 16 c) ∧ w'.ownsRow 0 22 1 (.slice (some ⟨g, 0, none⟩) 16 c) 16 (u32s (infW x)) ∧ w.heap.size ≤ g ∧ Below w.heap.size w w' := by
  obtain ⟨i0, hi, hz0, hz1, hz2⟩ := info_parts infoU32i
  obtain ⟨p, m, t, on, q, f⟩ := x
  have HXB : Hid (u32s (infW ⟨p, m, t, on, q, f⟩) = [.int .u32 p, .int .u32 m, .int .u32 (t % 4294967296), .int .u32 (t / 4294967296 % 4294967296), .int .u32 (bl on), .int .u32 (q % 4294967296), .int .u32 (f % 4294967296)] ++ List.replicate 9 (.int .u32 0)) := Lib.hid rfl
  cases on
  all_goals
    go_enter Tryd.func19, Tryd.ntmps19
    go_wp2_with (at_builtin; refine wpList_append_made _ rfl _ _ 25 3 rfl 22 i0 (.int .u32 0) 4 Tryd.underlying25 Tryd.underlying3 hi hz0 hz1 hz2 rfl _ 7 7 rfl 9 rfl _ (own_new' _ _ [_, _, _, _, _, _, _] 7 _ (by simp) rfl (by unfold maxLen; omega)) (by omega) (by omega) (by unfold maxLen; omega) (by omega) ?_)
    intro c' w' ho hb
    have HO := Lib.hid ho
    have h2 : ∀ o1 o2, Below w.heap.size w ((w.alloc o1).alloc o2) := fun o1 o2 => ((Below.refl w.heap.size w).alloc (Nat.le_refl _) o1).alloc (by simp) o2
    have HB := Lib.hid ((h2 _ _).trans (hb.mono (by omega)))
    clear ho hb h2
    go_wp2
    go_ret
    exact ⟨_, _, rfl, by rw [HXB.out]; exact HO.out, by first | omega | (simp; omega), HB.out⟩
end Go.Proofs.YtmeljclaocgoaaaDoor
