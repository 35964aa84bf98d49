/-
  Parts of one proof, one behind the other.
-/
import Derived.Test.YtbigilbbbmanjaaGreatDoorMg289f39a477
/-
  The evaluator of closed calls: a part.
-/
set_option linter.unusedVariables false
set_option linter.unusedSimpArgs false
set_option maxRecDepth 100000
namespace Go.Ev
noncomputable section
def r329 : F := .mk 3 [.tmp (.a (.a .e))] (c_seq (fun c a h n _ _ => s_set (.a (.a .e)) .nilp a fun a => n a h) (c_seq (c_seq (fun c a h n _ _ => s_get (.c .e) a fun v0 => r_bin1 b_lss v0 (.int .i64 0) fun v1 => s_get (.c .e) a fun v2 => gR v1 false (kV v2) fun v3 => gR v1 false (r_bin1 b_geq v3 (.int .i64 16)) fun v4 => r_pick v1 (.bool true) v4 fun v5 => s_get (.a .e) a fun v6 => gR v5 false (kV v6) fun v7 => s_get (.b .e) a fun v8 => gR v5 false (kV v8) fun v9 => s_get (.c .e) a fun v10 => gR v5 false (kV v10) fun v11 => gR v5 false (r_nilc v7) fun v12 => gR v5 false (r_faddr 0 v12) fun v13 => gR v5 false (r_iaddrA 8 96 v13 v9) fun v14 => gR v5 false (r_iaddrA 16 6 v14 v11) fun v15 => gR v5 false (r_faddr 0 v15) fun v16 => gR v5 false (r_load1 v16 h) fun v17 => gR v5 false (r_not v17) fun v18 => r_pick v5 (.bool true) v18 fun v19 => s_set (.d .e) v19 a fun a => n a h) (c_cond (.d .e) (c_seq (fun c a h n _ _ => s_set (.a (.a .e)) .nilp a fun a => n a h) c_ret) c_skip)) (c_seq (fun c a h n _ _ => s_get (.a .e) a fun v20 => s_get (.b .e) a fun v21 => s_get (.c .e) a fun v22 => r_nilc v20 fun v23 => r_faddr 0 v23 fun v24 => r_iaddrA 8 96 v24 v21 fun v25 => r_iaddrA 16 6 v25 v22 fun v26 => s_set (.a (.a .e)) v26 a fun a => n a h) c_ret)))
def r368 : F := .mk 1 [.tmp (.b .e)] (c_seq (fun c a h n _ _ => s_set (.b .e) .nili a fun a => n a h) (c_seq (fun c a h n _ _ => s_get (.a .e) a fun v0 => r_build [(0, 1)] [(.str ⟨#[]⟩)] [(0, v0)] fun v1 => aK (a_box 492 v1) h fun v2 h => s_set (.b .e) (.ifc 471 v2) a fun a => n a h) c_ret))
end
end Go.Ev

