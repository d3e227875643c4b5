/- The consent reader's walks. -/
import Derived.Test.YtfhfpanemalbmaaDoorCoS
import Derived.Test.YtfhfpanemalbmaaDoorEld
namespace Go.Proofs.YtfhfpanemalbmaaDoor.ConR
open Go.RowKit Mem Abs BitsP BitsS BitsT ConA ConS ConG

abbrev bitsN (s : List UInt8) (n W : Nat) : Nat := num (((tbits s).drop n).take W)
set_option maxRecDepth 100000 in
set_option maxHeartbeats 4000000 in
theorem rnumber_v {T n W : Nat} {s : List UInt8} (hs : s.length ≤ 1048576) (hW : W ≤ 62) (hn : n + W ≤ 8 * s.length) :
    MCalls Tryd.prog 57 [.loc 0 0 0, .int .i64 (W : Int)] [srcB T s n] (.int .i64 (bitsN s n W : Int)) [some (srcB T s (n + W))] := by
  have c1 := left_v (T := T) (n := n) (s := s) hs (by omega)
  have c2 := get_v (T := T) (n := n) (W := W) (s := s) hs (by omega) hn
  have hlt : num (((tbits s).drop n).take W) < 9223372036854775808 := by
    refine Nat.lt_of_lt_of_le (num_lt (fun b hb => tbits_bin s b (List.mem_of_mem_drop (List.mem_of_mem_take hb)))) (Nat.le_trans (Nat.pow_le_pow_right (by omega) (List.length_take_le _ _)) (Nat.le_trans (Nat.pow_le_pow_right (by omega) hW) (by decide)))
  have hle : (W : Int) ≤ ((8 * s.length - n : Nat) : Int) := by omega
  have hcv : IntKind.i64.wrap (num (((tbits s).drop n).take W) : Int) = (num (((tbits s).drop n).take W) : Int) := IntWalk.i64_in _ (by omega)
  show MCalls _ _ _ _ (.int .i64 (num (((tbits s).drop n).take W) : Int)) _
  generalize num (((tbits s).drop n).take W) = z at *
  refine mfun tb_ok Tryd.func57 rfl Tryd.ntmps57 Tryd.results57 rfl rfl rfl rfl fun N pl => ?_
  repeat' (first
      | with_reducible first | refine awp_seq ?_ | refine awp_region ?_ | refine awp_draw mixed ?_ | refine then_n ?_ | refine awp_skip ?_ | refine awp_block ?_ | refine awp_exit ?_ | refine awp_ret ?_ | refine awp_label ?_ | refine then_exit ?_ | refine then_ret ?_ | refine blk_n ?_ | refine blk_ret ?_ | refine blk_exit ?_ | refine blk_other rfl ?_ | refine then_k ?_
      | refine awp_true rfl ?_
      | refine awp_false rfl ?_
      | refine awp_split rfl (fun hb => ?_) (fun hb => ?_)
      | (refine isR ?_; first | refine x_far [] tb_ok rfl ?_ | refine r_nil ?_ | refine r_nild (by kernel_rfl) ?_ | refine x_cv .i64 tb_ok ?_ | refine x_m [0] [] (c1 _) ?_ | refine x_m0 [0] [] (c1 _) ?_ | refine x_m [0] [] (c1) ?_ | refine x_m0 [0] [] (c1) ?_ | refine x_m [0] [] (c2 _) ?_ | refine x_m0 [0] [] (c2 _) ?_ | refine x_m [0] [] (c2) ?_ | refine x_m0 [0] [] (c2) ?_ | refine x_lssT ?_ | refine x_lssF ?_ | refine x_lss (fun hc => ?_) (fun hc => ?_) | refine x_bytes tb_ok ?_ | refine x_cv64 tb_ok ?_)
      | refine x_mret [0] ?_ ?_
      | refine x_mnor [0] ?_ ?_
      | refine x_ret ?_
      | refine x_nor ?_
      | exact x_le)
  · rfl
  · exact .on (.same rfl) .nil
set_option maxRecDepth 100000 in
set_option maxHeartbeats 4000000 in
theorem rmark_v {T n : Nat} {s : List UInt8} (hs : s.length ≤ 1048576) (hn : n + 1 ≤ 8 * s.length) :
    MCalls Tryd.prog 58 [.loc 0 0 0] [srcB T s n] (.bool (decide (bitsN s n 1 = 1))) [some (srcB T s (n + 1))] := by
  have c : MCalls Tryd.prog 57 [.loc 0 0 0, .int .i64 1] [srcB T s n] (.int .i64 (bitsN s n 1 : Int)) [some (srcB T s (n + 1))] := rnumber_v (W := 1) hs (by omega) hn
  generalize bitsN s n 1 = z at *
  by_cases h : z = 1
  · subst h
    refine mfun tb_ok Tryd.func58 rfl Tryd.ntmps58 Tryd.results58 rfl rfl rfl rfl fun N pl => ?_
    repeat' (first
        | with_reducible first | refine awp_seq ?_ | refine awp_region ?_ | refine awp_draw mixed ?_ | refine then_n ?_ | refine awp_skip ?_ | refine awp_block ?_ | refine awp_exit ?_ | refine awp_ret ?_ | refine awp_label ?_ | refine then_exit ?_ | refine then_ret ?_ | refine blk_n ?_ | refine blk_ret ?_ | refine blk_exit ?_ | refine blk_other rfl ?_ | refine then_k ?_
        | refine awp_true rfl ?_
        | refine awp_false rfl ?_
        | refine awp_split rfl (fun hb => ?_) (fun hb => ?_)
        | (refine isR ?_; first | refine x_far [] tb_ok rfl ?_ | refine r_nil ?_ | refine r_nild (by kernel_rfl) ?_ | refine x_m [0] [] (c _) ?_ | refine x_m0 [0] [] (c _) ?_ | refine x_m [0] [] (c) ?_ | refine x_m0 [0] [] (c) ?_ | refine x_eqlT ?_ | refine x_eqlF ?_ | refine x_eql (fun hc => ?_) (fun hc => ?_) | refine x_eqlB ?_ | refine x_eqlST ?_ | refine x_eqlSF ?_ | refine x_eqlS (fun hc => ?_) (fun hc => ?_) | refine x_eqlI ?_ | refine x_eqlN ?_ | refine x_eqlA tb_ok ?_ | refine x_eqlAS tb_ok (fun hc => ?_) (fun hc => ?_))
        | refine x_mret [0] ?_ ?_
        | refine x_mnor [0] ?_ ?_
        | refine x_ret ?_
        | refine x_nor ?_
        | exact x_le)
    · rfl
    · exact .on (.same rfl) .nil
  · have h1 : ¬ (z : Int) = 1 := by omega
    rw [decide_eq_false h]
    refine mfun tb_ok Tryd.func58 rfl Tryd.ntmps58 Tryd.results58 rfl rfl rfl rfl fun N pl => ?_
    repeat' (first
        | with_reducible first | refine awp_seq ?_ | refine awp_region ?_ | refine awp_draw mixed ?_ | refine then_n ?_ | refine awp_skip ?_ | refine awp_block ?_ | refine awp_exit ?_ | refine awp_ret ?_ | refine awp_label ?_ | refine then_exit ?_ | refine then_ret ?_ | refine blk_n ?_ | refine blk_ret ?_ | refine blk_exit ?_ | refine blk_other rfl ?_ | refine then_k ?_
        | refine awp_true rfl ?_
        | refine awp_false rfl ?_
        | refine awp_split rfl (fun hb => ?_) (fun hb => ?_)
        | (refine isR ?_; first | refine x_far [] tb_ok rfl ?_ | refine r_nil ?_ | refine r_nild (by kernel_rfl) ?_ | refine x_m [0] [] (c _) ?_ | refine x_m0 [0] [] (c _) ?_ | refine x_m [0] [] (c) ?_ | refine x_m0 [0] [] (c) ?_ | refine x_eqlT ?_ | refine x_eqlF ?_ | refine x_eql (fun hc => ?_) (fun hc => ?_) | refine x_eqlB ?_ | refine x_eqlST ?_ | refine x_eqlSF ?_ | refine x_eqlS (fun hc => ?_) (fun hc => ?_) | refine x_eqlI ?_ | refine x_eqlN ?_ | refine x_eqlA tb_ok ?_ | refine x_eqlAS tb_ok (fun hc => ?_) (fun hc => ?_))
        | refine x_mret [0] ?_ ?_
        | refine x_mnor [0] ?_ ?_
        | refine x_ret ?_
        | refine x_nor ?_
        | exact x_le)
    · rfl
    · exact .on (.same rfl) .nil
/-- What a reader gives up by. -/
abbrev gaveUp (n : Int) : List PanicEntry := [{ v := .iface 50 (.agg #[.int .i64 n]), recovered := false }]
set_option maxRecDepth 100000 in
set_option maxHeartbeats 4000000 in
theorem rnumber_p {T n W : Nat} {s : List UInt8} (hs : s.length ≤ 1048576) (hn : n ≤ 8 * s.length) (hn2 : 8 * s.length < n + W) :
    MPan Tryd.prog 57 [.loc 0 0 0, .int .i64 (W : Int)] [srcB T s n] (gaveUp 5) := fun g => by
  have c1 := left_v (T := T) (n := n) (s := s) hs hn
  have hlt : ((8 * s.length - n : Nat) : Int) < (W : Int) := by omega
  refine mpanG_of Tryd.func57 rfl rfl fun bl pl => ?_
  rw [Tryd.ntmps57]
  repeat' (first
      | refine awp_regionP (id := 2) 2 ?_
      | ((refine r_end ?_; refine p_panic ?_))
      | with_reducible first | refine awp_seq ?_ | refine awp_region ?_ | refine awp_draw mixed ?_ | refine then_n ?_ | refine awp_skip ?_ | refine awp_block ?_ | refine awp_exit ?_ | refine awp_ret ?_ | refine awp_label ?_ | refine then_exit ?_ | refine then_ret ?_ | refine blk_n ?_ | refine blk_ret ?_ | refine blk_exit ?_ | refine blk_other rfl ?_ | refine then_k ?_
      | refine awp_true rfl ?_
      | refine awp_false rfl ?_
      | refine awp_split rfl (fun hb => ?_) (fun hb => ?_)
      | (refine isR ?_; first | refine x_far [] tb_ok rfl ?_ | refine r_nil ?_ | refine r_nild (by kernel_rfl) ?_ | refine x_m [0] [] (c1 _) ?_ | refine x_m0 [0] [] (c1 _) ?_ | refine x_m [0] [] (c1) ?_ | refine x_m0 [0] [] (c1) ?_ | refine x_bs tb_ok ?_ | refine x_addE ?_ | refine x_add ?_ | refine x_subE ?_ | refine x_sub ?_ | refine x_mulE ?_ | refine x_mul ?_ | refine x_cat ?_ | refine x_lenF tb_ok ?_ | refine x_lenO tb_ok ?_ | refine x_lenN tb_ok ?_ | refine x_lenS ?_ | refine x_lssT ?_ | refine x_lssF ?_ | refine x_lss (fun hc => ?_) (fun hc => ?_) | refine x_leqT ?_ | refine x_leqF ?_ | refine x_leq (fun hc => ?_) (fun hc => ?_) | refine x_gtrT ?_ | refine x_gtrF ?_ | refine x_gtr (fun hc => ?_) (fun hc => ?_) | refine x_geqT ?_ | refine x_geqF ?_ | refine x_geq (fun hc => ?_) (fun hc => ?_) | refine x_eqlT ?_ | refine x_eqlF ?_ | refine x_eql (fun hc => ?_) (fun hc => ?_) | refine x_neqT ?_ | refine x_neqF ?_ | refine x_neq (fun hc => ?_) (fun hc => ?_) | refine x_eqlB ?_ | refine x_eqlST ?_ | refine x_eqlSF ?_ | refine x_eqlS (fun hc => ?_) (fun hc => ?_) | refine x_eqlI ?_ | refine x_eqlN ?_ | refine x_neqB ?_ | refine x_neqST ?_ | refine x_neqSF ?_ | refine x_neqS (fun hc => ?_) (fun hc => ?_) | refine x_neqI ?_ | refine x_neqN ?_ | refine x_ixS tb_ok ?_ | refine x_ixA tb_ok ?_ | refine x_iaF tb_ok ?_ | refine x_iaO tb_ok ?_ | refine x_iaA tb_ok ?_ | refine x_iaAF tb_ok ?_ | refine x_slSf tb_ok ?_ | refine x_slSt tb_ok ?_ | refine x_slSm tb_ok ?_ | refine x_slFf tb_ok ?_ | refine x_slFt tb_ok ?_ | refine x_slFm tb_ok ?_ | refine x_bytes tb_ok ?_ | refine x_cv64 tb_ok ?_ | refine x_eqlA tb_ok ?_ | refine x_eqlAS tb_ok (fun hc => ?_) (fun hc => ?_) | refine x_neqA tb_ok ?_ | refine x_neqAS tb_ok (fun hc => ?_) (fun hc => ?_))
      | refine x_ret ?_
      | refine x_nor ?_
      | exact x_le)
  exact rfl
set_option maxRecDepth 100000 in
set_option maxHeartbeats 4000000 in
theorem rmark_p {T n : Nat} {s : List UInt8} (hs : s.length ≤ 1048576) (hn : n ≤ 8 * s.length) (hn2 : 8 * s.length < n + 1) :
    MPan Tryd.prog 58 [.loc 0 0 0] [srcB T s n] (gaveUp 5) := fun g => by
  have c : MPan Tryd.prog 57 [.loc 0 0 0, .int .i64 1] [srcB T s n] (gaveUp 5) := rnumber_p (W := 1) hs hn hn2
  refine mpanG_of Tryd.func58 rfl rfl fun bl pl => ?_
  rw [Tryd.ntmps58]
  repeat' (first
      | refine awp_regionP (id := 1) 1 ?_
      | ((refine r_end ?_; refine p_call [0] (c _) ?_))
      | with_reducible first | refine awp_seq ?_ | refine awp_region ?_ | refine awp_draw mixed ?_ | refine then_n ?_ | refine awp_skip ?_ | refine awp_block ?_ | refine awp_exit ?_ | refine awp_ret ?_ | refine awp_label ?_ | refine then_exit ?_ | refine then_ret ?_ | refine blk_n ?_ | refine blk_ret ?_ | refine blk_exit ?_ | refine blk_other rfl ?_ | refine then_k ?_
      | refine awp_true rfl ?_
      | refine awp_false rfl ?_
      | refine awp_split rfl (fun hb => ?_) (fun hb => ?_)
      | (refine isR ?_; first | refine x_far [] tb_ok rfl ?_ | refine r_nil ?_ | refine r_nild (by kernel_rfl) ?_ | refine x_bs tb_ok ?_ | refine x_addE ?_ | refine x_add ?_ | refine x_subE ?_ | refine x_sub ?_ | refine x_mulE ?_ | refine x_mul ?_ | refine x_cat ?_ | refine x_lenF tb_ok ?_ | refine x_lenO tb_ok ?_ | refine x_lenN tb_ok ?_ | refine x_lenS ?_ | refine x_lssT ?_ | refine x_lssF ?_ | refine x_lss (fun hc => ?_) (fun hc => ?_) | refine x_leqT ?_ | refine x_leqF ?_ | refine x_leq (fun hc => ?_) (fun hc => ?_) | refine x_gtrT ?_ | refine x_gtrF ?_ | refine x_gtr (fun hc => ?_) (fun hc => ?_) | refine x_geqT ?_ | refine x_geqF ?_ | refine x_geq (fun hc => ?_) (fun hc => ?_) | refine x_eqlT ?_ | refine x_eqlF ?_ | refine x_eql (fun hc => ?_) (fun hc => ?_) | refine x_neqT ?_ | refine x_neqF ?_ | refine x_neq (fun hc => ?_) (fun hc => ?_) | refine x_eqlB ?_ | refine x_eqlST ?_ | refine x_eqlSF ?_ | refine x_eqlS (fun hc => ?_) (fun hc => ?_) | refine x_eqlI ?_ | refine x_eqlN ?_ | refine x_neqB ?_ | refine x_neqST ?_ | refine x_neqSF ?_ | refine x_neqS (fun hc => ?_) (fun hc => ?_) | refine x_neqI ?_ | refine x_neqN ?_ | refine x_ixS tb_ok ?_ | refine x_ixA tb_ok ?_ | refine x_iaF tb_ok ?_ | refine x_iaO tb_ok ?_ | refine x_iaA tb_ok ?_ | refine x_iaAF tb_ok ?_ | refine x_slSf tb_ok ?_ | refine x_slSt tb_ok ?_ | refine x_slSm tb_ok ?_ | refine x_slFf tb_ok ?_ | refine x_slFt tb_ok ?_ | refine x_slFm tb_ok ?_ | refine x_bytes tb_ok ?_ | refine x_cv64 tb_ok ?_ | refine x_eqlA tb_ok ?_ | refine x_eqlAS tb_ok (fun hc => ?_) (fun hc => ?_) | refine x_neqA tb_ok ?_ | refine x_neqAS tb_ok (fun hc => ?_) (fun hc => ?_))
      | refine x_ret ?_
      | refine x_nor ?_
      | exact x_le)
  exact rfl
end Go.Proofs.YtfhfpanemalbmaaDoor.ConR
