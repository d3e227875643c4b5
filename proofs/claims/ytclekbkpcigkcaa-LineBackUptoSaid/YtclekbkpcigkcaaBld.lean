/- What strings.Builder's methods do, over named trees. -/
import Derived.Test.YtclekbkpcigkcaaAbsU
import Derived.Test.YtclekbkpcigkcaaTy
namespace Go.Proofs.Ytclekbkpcigkcaa.Bld
open Go.RowKit Mem Abs

theorem noEscape (y : Value) (w : World) : (callFunc 64 #[y]).run Try.prog w = .ok (.value y) w := by
  rw [run_callFunc_extern Try.func64 (by kernel_rfl) (by kernel_rfl) (by kernel_rfl) (e := Extern.AbiNoEscape.same) (by kernel_rfl)]
  rfl
/-- A builder that nothing was written into; and one that holds the bytes of row 1. -/
abbrev fresh : Blk := .els 62 2 [.agg [.nilp, .nils]]
abbrev used (n m : Nat) (p : List UInt8) : Blk := .els 62 2 [.agg [.loc n 0 0, .own m 0 p.length]]
abbrev bytesB (p : List UInt8) : Blk := .els 5 1 (p.map byteT)
set_option maxRecDepth 100000 in
set_option maxHeartbeats 4000000 in
theorem check0 : MCalls Try.prog 50 [.loc 0 0 0] [fresh] (.tup []) [some (.els 62 2 [.agg [.loc 0 0 0, .nils]])] := by
  refine mfun tb_ok Try.func50 rfl Try.ntmps50 Try.results50 rfl rfl rfl rfl fun N pl => ?_
  repeat' (first
      | with_reducible first | refine awp_seq ?_ | refine awp_region ?_ | refine awp_draw mixed ?_ | refine then_n ?_ | refine awp_skip ?_ | refine awp_block ?_ | refine awp_exit ?_ | refine awp_ret ?_ | refine awp_label ?_ | refine then_exit ?_ | refine then_ret ?_ | refine blk_n ?_ | refine blk_ret ?_ | refine blk_exit ?_ | refine blk_other rfl ?_ | refine then_k ?_
      | refine awp_true rfl ?_
      | refine awp_false rfl ?_
      | refine awp_split rfl (fun hb => ?_) (fun hb => ?_)
      | (refine isR ?_; first | refine x_far [] tb_ok rfl ?_ | refine r_nil ?_ | refine r_nild (by kernel_rfl) ?_ | refine x_eqlPN ?_ | refine x_same noEscape ?_ | refine x_toU tb_ok ?_ | refine x_fromU tb_ok ?_ | refine x_neqPS ?_ | refine x_eqlT ?_ | refine x_eqlF ?_ | refine x_eql (fun hc => ?_) (fun hc => ?_) | refine x_neqT ?_ | refine x_neqF ?_ | refine x_neq (fun hc => ?_) (fun hc => ?_) | refine x_eqlB ?_ | refine x_eqlST ?_ | refine x_eqlSF ?_ | refine x_eqlS (fun hc => ?_) (fun hc => ?_) | refine x_eqlI ?_ | refine x_eqlN ?_ | refine x_neqB ?_ | refine x_neqST ?_ | refine x_neqSF ?_ | refine x_neqS (fun hc => ?_) (fun hc => ?_) | refine x_neqI ?_ | refine x_neqN ?_ | refine x_bytes tb_ok ?_ | refine x_cv64 tb_ok ?_ | refine x_eqlA tb_ok ?_ | refine x_eqlAS tb_ok (fun hc => ?_) (fun hc => ?_) | refine x_neqA tb_ok ?_ | refine x_neqAS tb_ok (fun hc => ?_) (fun hc => ?_))
      | refine x_mret [0] ?_ ?_
      | refine x_mnor [0] ?_ ?_
      | refine x_ret ?_
      | refine x_nor ?_
      | exact x_le)
  · rfl
  · exact .on (.ren rfl) .nil
set_option maxRecDepth 100000 in
set_option maxHeartbeats 4000000 in
theorem check1 {p : List UInt8} : MCalls Try.prog 50 [.loc 0 0 0] [used 0 1 p, bytesB p] (.tup []) [some (used 0 1 p), some (bytesB p)] := by
  refine mfun tb_ok Try.func50 rfl Try.ntmps50 Try.results50 rfl rfl rfl rfl fun N pl => ?_
  repeat' (first
      | with_reducible first | refine awp_seq ?_ | refine awp_region ?_ | refine awp_draw mixed ?_ | refine then_n ?_ | refine awp_skip ?_ | refine awp_block ?_ | refine awp_exit ?_ | refine awp_ret ?_ | refine awp_label ?_ | refine then_exit ?_ | refine then_ret ?_ | refine blk_n ?_ | refine blk_ret ?_ | refine blk_exit ?_ | refine blk_other rfl ?_ | refine then_k ?_
      | refine awp_true rfl ?_
      | refine awp_false rfl ?_
      | refine awp_split rfl (fun hb => ?_) (fun hb => ?_)
      | (refine isR ?_; first | refine x_far [] tb_ok rfl ?_ | refine r_nil ?_ | refine r_nild (by kernel_rfl) ?_ | refine x_eqlPL ?_ | refine x_same noEscape ?_ | refine x_toU tb_ok ?_ | refine x_fromU tb_ok ?_ | refine x_neqPS ?_ | refine x_eqlT ?_ | refine x_eqlF ?_ | refine x_eql (fun hc => ?_) (fun hc => ?_) | refine x_neqT ?_ | refine x_neqF ?_ | refine x_neq (fun hc => ?_) (fun hc => ?_) | refine x_eqlB ?_ | refine x_eqlST ?_ | refine x_eqlSF ?_ | refine x_eqlS (fun hc => ?_) (fun hc => ?_) | refine x_eqlI ?_ | refine x_eqlN ?_ | refine x_neqB ?_ | refine x_neqST ?_ | refine x_neqSF ?_ | refine x_neqS (fun hc => ?_) (fun hc => ?_) | refine x_neqI ?_ | refine x_neqN ?_ | refine x_bytes tb_ok ?_ | refine x_cv64 tb_ok ?_ | refine x_eqlA tb_ok ?_ | refine x_eqlAS tb_ok (fun hc => ?_) (fun hc => ?_) | refine x_neqA tb_ok ?_ | refine x_neqAS tb_ok (fun hc => ?_) (fun hc => ?_))
      | refine x_mret [0, 1] ?_ ?_
      | refine x_mnor [0, 1] ?_ ?_
      | refine x_ret ?_
      | refine x_nor ?_
      | exact x_le)
  · rfl
  · exact .on (.ren rfl) (.on (.same (nl_map fun _ => rfl)) .nil)
set_option maxRecDepth 100000 in
set_option maxHeartbeats 4000000 in
theorem write0 {q : List UInt8} (hq : q.length ≤ 140737488355328) : MCalls Try.prog 34 [.loc 0 0 0, strT q] [fresh] (.tup [.int .i64 q.length, .nili]) [some (used 0 1 q), some (bytesB q)] := by
  refine mfun tb_ok Try.func34 rfl Try.ntmps34 Try.results34 rfl rfl rfl rfl fun N pl => ?_
  repeat' (first
      | with_reducible first | refine awp_seq ?_ | refine awp_region ?_ | refine awp_draw mixed ?_ | refine then_n ?_ | refine awp_skip ?_ | refine awp_block ?_ | refine awp_exit ?_ | refine awp_ret ?_ | refine awp_label ?_ | refine then_exit ?_ | refine then_ret ?_ | refine blk_n ?_ | refine blk_ret ?_ | refine blk_exit ?_ | refine blk_other rfl ?_ | refine then_k ?_
      | refine awp_true rfl ?_
      | refine awp_false rfl ?_
      | refine awp_split rfl (fun hb => ?_) (fun hb => ?_)
      | (refine isR ?_; first | refine x_far [] tb_ok rfl ?_ | refine r_nil ?_ | refine r_nild (by kernel_rfl) ?_ | refine x_m [0] [] (check0 _) ?_ | refine x_m0 [0] [] (check0 _) ?_ | refine x_m [0] [] (check0) ?_ | refine x_m0 [0] [] (check0) ?_ | refine x_appS0 tb_ok ?_ | refine x_lenF tb_ok ?_ | refine x_lenO tb_ok ?_ | refine x_lenN tb_ok ?_ | refine x_lenS ?_)
      | refine x_mret [0, 1] ?_ ?_
      | refine x_mnor [0, 1] ?_ ?_
      | refine x_ret ?_
      | refine x_nor ?_
      | exact x_le)
  · rfl
  · exact .on (.ren rfl) (.on (.same (nl_map fun _ => rfl)) .nil)
set_option maxRecDepth 100000 in
set_option maxHeartbeats 4000000 in
theorem write1 {p q : List UInt8} (hq : p.length + q.length ≤ 140737488355328) : MCalls Try.prog 34 [.loc 0 0 0, strT q] [used 0 1 p, bytesB p] (.tup [.int .i64 q.length, .nili]) [some (used 0 2 (p ++ q)), none, some (bytesB (p ++ q))] := by
  refine mfun tb_ok Try.func34 rfl Try.ntmps34 Try.results34 rfl rfl rfl rfl fun N pl => ?_
  repeat' (first
      | with_reducible first | refine awp_seq ?_ | refine awp_region ?_ | refine awp_draw mixed ?_ | refine then_n ?_ | refine awp_skip ?_ | refine awp_block ?_ | refine awp_exit ?_ | refine awp_ret ?_ | refine awp_label ?_ | refine then_exit ?_ | refine then_ret ?_ | refine blk_n ?_ | refine blk_ret ?_ | refine blk_exit ?_ | refine blk_other rfl ?_ | refine then_k ?_
      | refine awp_true rfl ?_
      | refine awp_false rfl ?_
      | refine awp_split rfl (fun hb => ?_) (fun hb => ?_)
      | (refine isR ?_; first | refine x_far [] tb_ok rfl ?_ | refine r_nil ?_ | refine r_nild (by kernel_rfl) ?_ | refine x_m [0,1] [] (check1 _) ?_ | refine x_m0 [0,1] [] (check1 _) ?_ | refine x_m [0,1] [] (check1) ?_ | refine x_m0 [0,1] [] (check1) ?_ | refine x_appS tb_ok ?_ | refine x_lenF tb_ok ?_ | refine x_lenO tb_ok ?_ | refine x_lenN tb_ok ?_ | refine x_lenS ?_)
      | refine x_mret [0, 1, 2] ?_ ?_
      | refine x_mnor [0, 1, 2] ?_ ?_
      | refine x_ret ?_
      | refine x_nor ?_
      | exact x_le)
  · rfl
  · exact .on (.ren rfl) (.no (.on (.same (nl_map fun _ => rfl)) .nil))
set_option maxRecDepth 100000 in
set_option maxHeartbeats 4000000 in
theorem string0 : MCalls Try.prog 35 [.loc 0 0 0] [fresh] (strT []) [some fresh] := by
  refine mfun tb_ok Try.func35 rfl Try.ntmps35 Try.results35 rfl rfl rfl rfl fun N pl => ?_
  repeat' (first
      | with_reducible first | refine awp_seq ?_ | refine awp_region ?_ | refine awp_draw mixed ?_ | refine then_n ?_ | refine awp_skip ?_ | refine awp_block ?_ | refine awp_exit ?_ | refine awp_ret ?_ | refine awp_label ?_ | refine then_exit ?_ | refine then_ret ?_ | refine blk_n ?_ | refine blk_ret ?_ | refine blk_exit ?_ | refine blk_other rfl ?_ | refine then_k ?_
      | refine awp_true rfl ?_
      | refine awp_false rfl ?_
      | refine awp_split rfl (fun hb => ?_) (fun hb => ?_)
      | (refine isR ?_; first | refine x_far [] tb_ok rfl ?_ | refine r_nil ?_ | refine r_nild (by kernel_rfl) ?_ | refine x_sdata0 ?_ | refine x_ustr0 ?_ | refine x_lenF tb_ok ?_ | refine x_lenO tb_ok ?_ | refine x_lenN tb_ok ?_ | refine x_lenS ?_)
      | refine x_mret [0] ?_ ?_
      | refine x_mnor [0] ?_ ?_
      | refine x_ret ?_
      | refine x_nor ?_
      | exact x_le)
  · rfl
  · exact .on (.ren rfl) .nil
set_option maxRecDepth 100000 in
set_option maxHeartbeats 4000000 in
theorem string1 {p : List UInt8} (hp : p ≠ []) : MCalls Try.prog 35 [.loc 0 0 0] [used 0 1 p, bytesB p] (strT p) [some (used 0 1 p), none] := by
  refine mfun tb_ok Try.func35 rfl Try.ntmps35 Try.results35 rfl rfl rfl rfl fun N pl => ?_
  repeat' (first
      | with_reducible first | refine awp_seq ?_ | refine awp_region ?_ | refine awp_draw mixed ?_ | refine then_n ?_ | refine awp_skip ?_ | refine awp_block ?_ | refine awp_exit ?_ | refine awp_ret ?_ | refine awp_label ?_ | refine then_exit ?_ | refine then_ret ?_ | refine blk_n ?_ | refine blk_ret ?_ | refine blk_exit ?_ | refine blk_other rfl ?_ | refine then_k ?_
      | refine awp_true rfl ?_
      | refine awp_false rfl ?_
      | refine awp_split rfl (fun hb => ?_) (fun hb => ?_)
      | (refine isR ?_; first | refine x_far [] tb_ok rfl ?_ | refine r_nil ?_ | refine r_nild (by kernel_rfl) ?_ | refine x_sdata ?_ | refine x_ustr ?_ | refine x_lenF tb_ok ?_ | refine x_lenO tb_ok ?_ | refine x_lenN tb_ok ?_ | refine x_lenS ?_)
      | refine x_mret [0, 1] ?_ ?_
      | refine x_mnor [0, 1] ?_ ?_
      | refine x_ret ?_
      | refine x_nor ?_
      | exact x_le)
  · rfl
  · exact .on (.ren rfl) (.no .nil)
end Go.Proofs.Ytclekbkpcigkcaa.Bld
