/- Disks: a crash in the midst of steps. (Written by genDiskM.py.) -/
import Derived.Test.YtdimidhacccdjaaDoorDiskL
namespace Go.Proofs.YtdimidhacccdjaaDoor.DiskM
open Go.RowKit Mem Abs TreeW Globs SplT Both NumP WordS DiskP FnS DiskA DiskB DiskC DiskD DiskE DiskF DiskL

theorem not_more (L : List (List UInt8)) (s : List UInt8) : decide (L ++ [s] = L) = false := decide_eq_false fun h => by have := congrArg List.length h; simp at this
theorem differ_v {L : List (List UInt8)} {s : List UInt8} : ACalls Tryd.prog 24 [.fro ((L ++ [s]).map strT), .fro (L.map strT)] (.bool false) := by
  have := sameTexts_v (L := L ++ [s]) (K := L)
  rwa [not_more] at this
theorem more_v {L : List (List UInt8)} {s : List UInt8} : ACalls Tryd.prog 24 [.fro ((L ++ [s]).map strT), .fro (List.take (([] ++ L) ++ [s]).length (List.drop 0 ((([] ++ L) ++ [s]).map strT)))] (.bool true) := by
  have hf : List.take (([] ++ L) ++ [s]).length (List.drop 0 ((([] ++ L) ++ [s]).map strT)) = (L ++ [s]).map strT := full strT (L ++ [s])
  rw [hf]
  exact same_v (L := L ++ [s])
abbrev STEPS (K : List (List UInt8)) (s : List UInt8) (p q : Nat) (w : List UInt8) : Prop := ACallsG Tryd.prog gBoth 18 [kD K, strT s] (.tup [.fro [.agg [.int .i64 (p : Int), strT s], .agg [.int .i64 (q : Int), strT w]], .int .i64 0])
abbrev ITEMS (K L : List (List UInt8)) : Prop := ACallsG Tryd.prog gBoth 17 [kD K] (.tup [.fro (L.map strT), .int .i64 0])
abbrev WRITE (K : List (List UInt8)) (p : Nat) (s : List UInt8) : Prop := ACalls Tryd.prog 7 [kD K, .int .i64 (p : Int), strT s] (.tup [kW K p s, .int .i64 0])
abbrev FLUSH (K : List (List UInt8)) (p : Nat) (s : List UInt8) (K2 : List (List UInt8)) : Prop := ACalls Tryd.prog 8 [kW K p s] (.tup [kD K2, .int .i64 0])
abbrev CRASH (a : Abs.V) (m : Nat) (K : List (List UInt8)) : Prop := ACalls Tryd.prog 9 [a, .int .u64 (m : Int)] (.tup [kD K, .int .i64 0])
abbrev NEXT (K L : List (List UInt8)) (nx : List UInt8) : Prop := ACallsG Tryd.prog gBoth 19 [kD K, strT nx] (.tup [.agg [.fro [], .fro []], .int .i64 2]) ∨ ∃ K3, ACallsG Tryd.prog gBoth 19 [kD K, strT nx] (.tup [kD K3, .int .i64 0]) ∧ ITEMS K3 (L ++ [nx])
set_option maxRecDepth 100000 in
set_option maxHeartbeats 4000000 in
theorem walk0t {K K1 Kc L : List (List UInt8)} {p q m : Nat} {s w nx : List UInt8} (c1 : STEPS K s p q w) (c2 : ITEMS K L) (c3 : WRITE K p s) (c4 : FLUSH K p s K1) (c7 : CRASH (kD K1) m Kc) (c8 : ITEMS Kc L) (c9 : NEXT Kc L nx) (hl : L.length ≤ 40) : ACallsG Tryd.prog gBoth 6 [kD K, strT s, .int .i64 0, .bool true, .int .u64 (m : Int), strT nx] (.bool true) := by
  have hz : (([V.agg [.int .i64 (p : Int), strT s], V.agg [.int .i64 (q : Int), strT w]] : List Abs.V).length : Int) = 2 := rfl
  have e0 : [V.agg [.int .i64 (p : Int), strT s], V.agg [.int .i64 (q : Int), strT w]][0]? = some (V.agg [.int .i64 (p : Int), strT s]) := rfl
  have e1 : [V.agg [.int .i64 (p : Int), strT s], V.agg [.int .i64 (q : Int), strT w]][1]? = some (V.agg [.int .i64 (q : Int), strT w]) := rfl
  have hw1 : (([] : List (List UInt8)) ++ L).length = L.length := by simp
  have hw2 : (([] : List (List UInt8)) ++ L).length = L.length := by simp
  have d1 := same_v (L := L)
  have d1 : ACalls Tryd.prog 24 [.fro (L.map strT), .fro (L.map strT)] (.bool true) := d1
  have d2 := more_v (L := L) (s := s)
  have d3 := more_v (L := L) (s := nx)
  refine funG6 tb_ok Tryd.func6 rfl Tryd.ntmps6 Tryd.results6 rfl fun N => ?_
  repeat' (first
      | with_reducible first | refine awp_seq ?_ | refine awp_region ?_ | refine awp_draw mixed ?_ | refine then_n ?_ | refine awp_skip ?_ | refine awp_block ?_ | refine awp_exit ?_ | refine awp_ret ?_ | refine awp_label ?_ | refine then_exit ?_ | refine then_ret ?_ | refine blk_n ?_ | refine blk_ret ?_ | refine blk_exit ?_ | refine blk_other rfl ?_ | refine then_k ?_
      | refine awp_true rfl ?_
      | refine awp_false rfl ?_
      | refine awp_split rfl (fun hb => ?_) (fun hb => ?_)
      | (refine isR ?_; first | refine x_far [] tb_ok rfl ?_ | refine r_nil ?_ | refine r_nild (by kernel_rfl) ?_ | refine x_call (begun_v _) ?_ | refine x_call (begun_v) ?_ | refine x_call (c1 _) ?_ | refine x_call (c1) ?_ | refine x_call (c2 _) ?_ | refine x_call (c2) ?_ | refine x_bs tb_ok ?_ | refine x_addE ?_ | refine x_add ?_ | refine x_subE ?_ | refine x_sub ?_ | refine x_cat ?_ | refine x_lenF tb_ok ?_ | refine x_lenO tb_ok ?_ | refine x_lenN tb_ok ?_ | refine x_lenS ?_ | refine x_lssT ?_ | refine x_lssF ?_ | refine x_lss (fun hc => ?_) (fun hc => ?_) | refine x_leqT ?_ | refine x_leqF ?_ | refine x_leq (fun hc => ?_) (fun hc => ?_) | refine x_geqT ?_ | refine x_geqF ?_ | refine x_geq (fun hc => ?_) (fun hc => ?_) | refine x_eqlT ?_ | refine x_eqlF ?_ | refine x_eql (fun hc => ?_) (fun hc => ?_) | refine x_neqT ?_ | refine x_neqF ?_ | refine x_neq (fun hc => ?_) (fun hc => ?_) | refine x_eqlB ?_ | refine x_eqlST ?_ | refine x_eqlSF ?_ | refine x_eqlS (fun hc => ?_) (fun hc => ?_) | refine x_eqlI ?_ | refine x_eqlN ?_ | refine x_neqB ?_ | refine x_neqST ?_ | refine x_neqSF ?_ | refine x_neqS (fun hc => ?_) (fun hc => ?_) | refine x_neqI ?_ | refine x_neqN ?_ | refine x_iaF tb_ok ?_ | refine x_iaO tb_ok ?_ | refine x_iaA tb_ok ?_ | refine x_iaAF tb_ok ?_ | refine x_eqlA tb_ok ?_ | refine x_eqlAS tb_ok (fun hc => ?_) (fun hc => ?_) | refine x_neqA tb_ok ?_ | refine x_neqAS tb_ok (fun hc => ?_) (fun hc => ?_))
      | refine x_ret ?_
      | refine x_nor ?_
      | exact x_le)
  refine awp_forN (fun j => ⟨[(1, strT s), (2, .int .i64 0), (3, .bool true), (4, .int .u64 (m : Int)), (5, strT nx), (13, .fro [.agg [.int .i64 (p : Int), strT s], .agg [.int .i64 (q : Int), strT w]]), (15, .fro (L.map strT)), (17, .loc 0 0 0), (18, .int .i64 (j : Int))], [(0, some (.els TD 2 [if j = 0 then kD K else kD K1]))], 1, 174⟩) (fun j => j ≤ 1) 1 0 (by exact x_le) (by decide) ?_
  intro j hj
  obtain rfl | rfl : j = 0 ∨ j = 1 := by omega
  · skip
    repeat' (first
        | with_reducible first | refine awp_seq ?_ | refine awp_region ?_ | refine awp_draw mixed ?_ | refine then_n ?_ | refine awp_skip ?_ | refine awp_block ?_ | refine awp_exit ?_ | refine awp_ret ?_ | refine awp_label ?_ | refine then_exit ?_ | refine then_ret ?_ | refine blk_n ?_ | refine blk_ret ?_ | refine blk_exit ?_ | refine blk_other rfl ?_ | refine then_k ?_
        | refine awp_true rfl ?_
        | refine awp_false rfl ?_
        | refine awp_split rfl (fun hb => ?_) (fun hb => ?_)
        | (refine isR ?_; first | refine x_far [] tb_ok rfl ?_ | refine r_nil ?_ | refine r_nild (by kernel_rfl) ?_ | refine x_call (c3 _) ?_ | refine x_call (c3) ?_ | refine x_call (c4 _) ?_ | refine x_call (c4) ?_ | refine x_bs tb_ok ?_ | refine x_addE ?_ | refine x_add ?_ | refine x_subE ?_ | refine x_sub ?_ | refine x_cat ?_ | refine x_lenF tb_ok ?_ | refine x_lenO tb_ok ?_ | refine x_lenN tb_ok ?_ | refine x_lenS ?_ | refine x_lssT ?_ | refine x_lssF ?_ | refine x_lss (fun hc => ?_) (fun hc => ?_) | refine x_leqT ?_ | refine x_leqF ?_ | refine x_leq (fun hc => ?_) (fun hc => ?_) | refine x_geqT ?_ | refine x_geqF ?_ | refine x_geq (fun hc => ?_) (fun hc => ?_) | refine x_eqlT ?_ | refine x_eqlF ?_ | refine x_eql (fun hc => ?_) (fun hc => ?_) | refine x_neqT ?_ | refine x_neqF ?_ | refine x_neq (fun hc => ?_) (fun hc => ?_) | refine x_eqlB ?_ | refine x_eqlST ?_ | refine x_eqlSF ?_ | refine x_eqlS (fun hc => ?_) (fun hc => ?_) | refine x_eqlI ?_ | refine x_eqlN ?_ | refine x_neqB ?_ | refine x_neqST ?_ | refine x_neqSF ?_ | refine x_neqS (fun hc => ?_) (fun hc => ?_) | refine x_neqI ?_ | refine x_neqN ?_ | refine x_iaF tb_ok ?_ | refine x_iaO tb_ok ?_ | refine x_iaA tb_ok ?_ | refine x_iaAF tb_ok ?_ | refine x_eqlA tb_ok ?_ | refine x_eqlAS tb_ok (fun hc => ?_) (fun hc => ?_) | refine x_neqA tb_ok ?_ | refine x_neqAS tb_ok (fun hc => ?_) (fun hc => ?_))
        | refine x_ret ?_
        | refine x_nor ?_
        | exact x_le)
    refine ⟨by omega, by omega, ?_⟩
    exact (by exact x_len [0])
  · rcases c9 with c9 | ⟨K3, c9, c10⟩
    · skip
      repeat' (first
          | with_reducible first | refine awp_seq ?_ | refine awp_region ?_ | refine awp_draw mixed ?_ | refine then_n ?_ | refine awp_skip ?_ | refine awp_block ?_ | refine awp_exit ?_ | refine awp_ret ?_ | refine awp_label ?_ | refine then_exit ?_ | refine then_ret ?_ | refine blk_n ?_ | refine blk_ret ?_ | refine blk_exit ?_ | refine blk_other rfl ?_ | refine then_k ?_
          | refine awp_true rfl ?_
          | refine awp_false rfl ?_
          | refine awp_split rfl (fun hb => ?_) (fun hb => ?_)
          | (refine isR ?_; first | refine x_far [107, 166] tb_ok rfl ?_ | refine r_nil ?_ | refine r_nild (by kernel_rfl) ?_ | refine x_call (c7 _) ?_ | refine x_call (c7) ?_ | refine x_call (c8 _) ?_ | refine x_call (c8) ?_ | refine x_call (c9 _) ?_ | refine x_call (c9) ?_ | refine x_call (d1 _) ?_ | refine x_call (d1) ?_ | refine x_callz [4] (d2 _) ?_ | refine x_callz [4] (d2) ?_ | refine x_appK strT (L := []) (K' := L) tb_ok ?_ | refine x_app strT (a1 := (s)) tb_ok ?_ | refine x_bsO 107 tb_ok ?_ | refine x_bsO 166 tb_ok ?_ | refine x_bs tb_ok ?_ | refine x_addE ?_ | refine x_add ?_ | refine x_subE ?_ | refine x_sub ?_ | refine x_cat ?_ | refine x_lenF tb_ok ?_ | refine x_lenO tb_ok ?_ | refine x_lenN tb_ok ?_ | refine x_lenS ?_ | refine x_lssT ?_ | refine x_lssF ?_ | refine x_lss (fun hc => ?_) (fun hc => ?_) | refine x_leqT ?_ | refine x_leqF ?_ | refine x_leq (fun hc => ?_) (fun hc => ?_) | refine x_geqT ?_ | refine x_geqF ?_ | refine x_geq (fun hc => ?_) (fun hc => ?_) | refine x_eqlT ?_ | refine x_eqlF ?_ | refine x_eql (fun hc => ?_) (fun hc => ?_) | refine x_neqT ?_ | refine x_neqF ?_ | refine x_neq (fun hc => ?_) (fun hc => ?_) | refine x_eqlB ?_ | refine x_eqlST ?_ | refine x_eqlSF ?_ | refine x_eqlS (fun hc => ?_) (fun hc => ?_) | refine x_eqlI ?_ | refine x_eqlN ?_ | refine x_neqB ?_ | refine x_neqST ?_ | refine x_neqSF ?_ | refine x_neqS (fun hc => ?_) (fun hc => ?_) | refine x_neqI ?_ | refine x_neqN ?_ | refine x_iaF tb_ok ?_ | refine x_iaO tb_ok ?_ | refine x_iaA tb_ok ?_ | refine x_iaAF tb_ok ?_ | refine x_eqlA tb_ok ?_ | refine x_eqlAS tb_ok (fun hc => ?_) (fun hc => ?_) | refine x_neqA tb_ok ?_ | refine x_neqAS tb_ok (fun hc => ?_) (fun hc => ?_))
          | refine x_ret ?_
          | refine x_nor ?_
          | exact x_le)
      all_goals first | rfl | skip
    · skip
      repeat' (first
          | with_reducible first | refine awp_seq ?_ | refine awp_region ?_ | refine awp_draw mixed ?_ | refine then_n ?_ | refine awp_skip ?_ | refine awp_block ?_ | refine awp_exit ?_ | refine awp_ret ?_ | refine awp_label ?_ | refine then_exit ?_ | refine then_ret ?_ | refine blk_n ?_ | refine blk_ret ?_ | refine blk_exit ?_ | refine blk_other rfl ?_ | refine then_k ?_
          | refine awp_true rfl ?_
          | refine awp_false rfl ?_
          | refine awp_split rfl (fun hb => ?_) (fun hb => ?_)
          | (refine isR ?_; first | refine x_far [107, 166] tb_ok rfl ?_ | refine r_nil ?_ | refine r_nild (by kernel_rfl) ?_ | refine x_call (c7 _) ?_ | refine x_call (c7) ?_ | refine x_call (c8 _) ?_ | refine x_call (c8) ?_ | refine x_call (c9 _) ?_ | refine x_call (c9) ?_ | refine x_call (c10 _) ?_ | refine x_call (c10) ?_ | refine x_call (d1 _) ?_ | refine x_call (d1) ?_ | refine x_callz [4] (d2 _) ?_ | refine x_callz [4] (d2) ?_ | refine x_callz [8] (d3 _) ?_ | refine x_callz [8] (d3) ?_ | refine x_appK strT (L := []) (K' := L) tb_ok ?_ | refine x_app strT (a1 := (s)) tb_ok ?_ | refine x_app strT (a1 := (nx)) tb_ok ?_ | refine x_bsO 107 tb_ok ?_ | refine x_bsO 166 tb_ok ?_ | refine x_bs tb_ok ?_ | refine x_addE ?_ | refine x_add ?_ | refine x_subE ?_ | refine x_sub ?_ | refine x_cat ?_ | refine x_lenF tb_ok ?_ | refine x_lenO tb_ok ?_ | refine x_lenN tb_ok ?_ | refine x_lenS ?_ | refine x_lssT ?_ | refine x_lssF ?_ | refine x_lss (fun hc => ?_) (fun hc => ?_) | refine x_leqT ?_ | refine x_leqF ?_ | refine x_leq (fun hc => ?_) (fun hc => ?_) | refine x_geqT ?_ | refine x_geqF ?_ | refine x_geq (fun hc => ?_) (fun hc => ?_) | refine x_eqlT ?_ | refine x_eqlF ?_ | refine x_eql (fun hc => ?_) (fun hc => ?_) | refine x_neqT ?_ | refine x_neqF ?_ | refine x_neq (fun hc => ?_) (fun hc => ?_) | refine x_eqlB ?_ | refine x_eqlST ?_ | refine x_eqlSF ?_ | refine x_eqlS (fun hc => ?_) (fun hc => ?_) | refine x_eqlI ?_ | refine x_eqlN ?_ | refine x_neqB ?_ | refine x_neqST ?_ | refine x_neqSF ?_ | refine x_neqS (fun hc => ?_) (fun hc => ?_) | refine x_neqI ?_ | refine x_neqN ?_ | refine x_iaF tb_ok ?_ | refine x_iaO tb_ok ?_ | refine x_iaA tb_ok ?_ | refine x_iaAF tb_ok ?_ | refine x_eqlA tb_ok ?_ | refine x_eqlAS tb_ok (fun hc => ?_) (fun hc => ?_) | refine x_neqA tb_ok ?_ | refine x_neqAS tb_ok (fun hc => ?_) (fun hc => ?_))
          | refine x_ret ?_
          | refine x_nor ?_
          | exact x_le)
      all_goals first | rfl | skip
set_option maxRecDepth 100000 in
set_option maxHeartbeats 4000000 in
theorem walk0f {K Kc L : List (List UInt8)} {p q m : Nat} {s w nx : List UInt8} (c1 : STEPS K s p q w) (c2 : ITEMS K L) (c3 : WRITE K p s) (c7 : CRASH (kW K p s) m Kc) (c8 : ITEMS Kc L) (c9 : NEXT Kc L nx) (hl : L.length ≤ 40) : ACallsG Tryd.prog gBoth 6 [kD K, strT s, .int .i64 0, .bool false, .int .u64 (m : Int), strT nx] (.bool true) := by
  have hz : (([V.agg [.int .i64 (p : Int), strT s], V.agg [.int .i64 (q : Int), strT w]] : List Abs.V).length : Int) = 2 := rfl
  have e0 : [V.agg [.int .i64 (p : Int), strT s], V.agg [.int .i64 (q : Int), strT w]][0]? = some (V.agg [.int .i64 (p : Int), strT s]) := rfl
  have e1 : [V.agg [.int .i64 (p : Int), strT s], V.agg [.int .i64 (q : Int), strT w]][1]? = some (V.agg [.int .i64 (q : Int), strT w]) := rfl
  have hw1 : (([] : List (List UInt8)) ++ L).length = L.length := by simp
  have hw2 : (([] : List (List UInt8)) ++ L).length = L.length := by simp
  have d1 := same_v (L := L)
  have d1 : ACalls Tryd.prog 24 [.fro (L.map strT), .fro (L.map strT)] (.bool true) := d1
  have d2 := more_v (L := L) (s := s)
  have d3 := more_v (L := L) (s := nx)
  refine funG6 tb_ok Tryd.func6 rfl Tryd.ntmps6 Tryd.results6 rfl fun N => ?_
  repeat' (first
      | with_reducible first | refine awp_seq ?_ | refine awp_region ?_ | refine awp_draw mixed ?_ | refine then_n ?_ | refine awp_skip ?_ | refine awp_block ?_ | refine awp_exit ?_ | refine awp_ret ?_ | refine awp_label ?_ | refine then_exit ?_ | refine then_ret ?_ | refine blk_n ?_ | refine blk_ret ?_ | refine blk_exit ?_ | refine blk_other rfl ?_ | refine then_k ?_
      | refine awp_true rfl ?_
      | refine awp_false rfl ?_
      | refine awp_split rfl (fun hb => ?_) (fun hb => ?_)
      | (refine isR ?_; first | refine x_far [] tb_ok rfl ?_ | refine r_nil ?_ | refine r_nild (by kernel_rfl) ?_ | refine x_call (begun_v _) ?_ | refine x_call (begun_v) ?_ | refine x_call (c1 _) ?_ | refine x_call (c1) ?_ | refine x_call (c2 _) ?_ | refine x_call (c2) ?_ | refine x_bs tb_ok ?_ | refine x_addE ?_ | refine x_add ?_ | refine x_subE ?_ | refine x_sub ?_ | refine x_cat ?_ | refine x_lenF tb_ok ?_ | refine x_lenO tb_ok ?_ | refine x_lenN tb_ok ?_ | refine x_lenS ?_ | refine x_lssT ?_ | refine x_lssF ?_ | refine x_lss (fun hc => ?_) (fun hc => ?_) | refine x_leqT ?_ | refine x_leqF ?_ | refine x_leq (fun hc => ?_) (fun hc => ?_) | refine x_geqT ?_ | refine x_geqF ?_ | refine x_geq (fun hc => ?_) (fun hc => ?_) | refine x_eqlT ?_ | refine x_eqlF ?_ | refine x_eql (fun hc => ?_) (fun hc => ?_) | refine x_neqT ?_ | refine x_neqF ?_ | refine x_neq (fun hc => ?_) (fun hc => ?_) | refine x_eqlB ?_ | refine x_eqlST ?_ | refine x_eqlSF ?_ | refine x_eqlS (fun hc => ?_) (fun hc => ?_) | refine x_eqlI ?_ | refine x_eqlN ?_ | refine x_neqB ?_ | refine x_neqST ?_ | refine x_neqSF ?_ | refine x_neqS (fun hc => ?_) (fun hc => ?_) | refine x_neqI ?_ | refine x_neqN ?_ | refine x_iaF tb_ok ?_ | refine x_iaO tb_ok ?_ | refine x_iaA tb_ok ?_ | refine x_iaAF tb_ok ?_ | refine x_eqlA tb_ok ?_ | refine x_eqlAS tb_ok (fun hc => ?_) (fun hc => ?_) | refine x_neqA tb_ok ?_ | refine x_neqAS tb_ok (fun hc => ?_) (fun hc => ?_))
      | refine x_ret ?_
      | refine x_nor ?_
      | exact x_le)
  refine awp_forN (fun j => ⟨[(1, strT s), (2, .int .i64 0), (3, .bool false), (4, .int .u64 (m : Int)), (5, strT nx), (13, .fro [.agg [.int .i64 (p : Int), strT s], .agg [.int .i64 (q : Int), strT w]]), (15, .fro (L.map strT)), (17, .loc 0 0 0), (18, .int .i64 (j : Int))], [(0, some (.els TD 2 [if j = 0 then kD K else kW K p s]))], 1, 174⟩) (fun j => j ≤ 1) 1 0 (by exact x_le) (by decide) ?_
  intro j hj
  obtain rfl | rfl : j = 0 ∨ j = 1 := by omega
  · skip
    repeat' (first
        | with_reducible first | refine awp_seq ?_ | refine awp_region ?_ | refine awp_draw mixed ?_ | refine then_n ?_ | refine awp_skip ?_ | refine awp_block ?_ | refine awp_exit ?_ | refine awp_ret ?_ | refine awp_label ?_ | refine then_exit ?_ | refine then_ret ?_ | refine blk_n ?_ | refine blk_ret ?_ | refine blk_exit ?_ | refine blk_other rfl ?_ | refine then_k ?_
        | refine awp_true rfl ?_
        | refine awp_false rfl ?_
        | refine awp_split rfl (fun hb => ?_) (fun hb => ?_)
        | (refine isR ?_; first | refine x_far [] tb_ok rfl ?_ | refine r_nil ?_ | refine r_nild (by kernel_rfl) ?_ | refine x_call (c3 _) ?_ | refine x_call (c3) ?_ | refine x_bs tb_ok ?_ | refine x_addE ?_ | refine x_add ?_ | refine x_subE ?_ | refine x_sub ?_ | refine x_cat ?_ | refine x_lenF tb_ok ?_ | refine x_lenO tb_ok ?_ | refine x_lenN tb_ok ?_ | refine x_lenS ?_ | refine x_lssT ?_ | refine x_lssF ?_ | refine x_lss (fun hc => ?_) (fun hc => ?_) | refine x_leqT ?_ | refine x_leqF ?_ | refine x_leq (fun hc => ?_) (fun hc => ?_) | refine x_geqT ?_ | refine x_geqF ?_ | refine x_geq (fun hc => ?_) (fun hc => ?_) | refine x_eqlT ?_ | refine x_eqlF ?_ | refine x_eql (fun hc => ?_) (fun hc => ?_) | refine x_neqT ?_ | refine x_neqF ?_ | refine x_neq (fun hc => ?_) (fun hc => ?_) | refine x_eqlB ?_ | refine x_eqlST ?_ | refine x_eqlSF ?_ | refine x_eqlS (fun hc => ?_) (fun hc => ?_) | refine x_eqlI ?_ | refine x_eqlN ?_ | refine x_neqB ?_ | refine x_neqST ?_ | refine x_neqSF ?_ | refine x_neqS (fun hc => ?_) (fun hc => ?_) | refine x_neqI ?_ | refine x_neqN ?_ | refine x_iaF tb_ok ?_ | refine x_iaO tb_ok ?_ | refine x_iaA tb_ok ?_ | refine x_iaAF tb_ok ?_ | refine x_eqlA tb_ok ?_ | refine x_eqlAS tb_ok (fun hc => ?_) (fun hc => ?_) | refine x_neqA tb_ok ?_ | refine x_neqAS tb_ok (fun hc => ?_) (fun hc => ?_))
        | refine x_ret ?_
        | refine x_nor ?_
        | exact x_le)
    refine ⟨by omega, by omega, ?_⟩
    exact (by exact x_len [0])
  · rcases c9 with c9 | ⟨K3, c9, c10⟩
    · skip
      repeat' (first
          | with_reducible first | refine awp_seq ?_ | refine awp_region ?_ | refine awp_draw mixed ?_ | refine then_n ?_ | refine awp_skip ?_ | refine awp_block ?_ | refine awp_exit ?_ | refine awp_ret ?_ | refine awp_label ?_ | refine then_exit ?_ | refine then_ret ?_ | refine blk_n ?_ | refine blk_ret ?_ | refine blk_exit ?_ | refine blk_other rfl ?_ | refine then_k ?_
          | refine awp_true rfl ?_
          | refine awp_false rfl ?_
          | refine awp_split rfl (fun hb => ?_) (fun hb => ?_)
          | (refine isR ?_; first | refine x_far [107, 166] tb_ok rfl ?_ | refine r_nil ?_ | refine r_nild (by kernel_rfl) ?_ | refine x_call (c7 _) ?_ | refine x_call (c7) ?_ | refine x_call (c8 _) ?_ | refine x_call (c8) ?_ | refine x_call (c9 _) ?_ | refine x_call (c9) ?_ | refine x_call (d1 _) ?_ | refine x_call (d1) ?_ | refine x_callz [4] (d2 _) ?_ | refine x_callz [4] (d2) ?_ | refine x_appK strT (L := []) (K' := L) tb_ok ?_ | refine x_app strT (a1 := (s)) tb_ok ?_ | refine x_bsO 107 tb_ok ?_ | refine x_bsO 166 tb_ok ?_ | refine x_bs tb_ok ?_ | refine x_addE ?_ | refine x_add ?_ | refine x_subE ?_ | refine x_sub ?_ | refine x_cat ?_ | refine x_lenF tb_ok ?_ | refine x_lenO tb_ok ?_ | refine x_lenN tb_ok ?_ | refine x_lenS ?_ | refine x_lssT ?_ | refine x_lssF ?_ | refine x_lss (fun hc => ?_) (fun hc => ?_) | refine x_leqT ?_ | refine x_leqF ?_ | refine x_leq (fun hc => ?_) (fun hc => ?_) | refine x_geqT ?_ | refine x_geqF ?_ | refine x_geq (fun hc => ?_) (fun hc => ?_) | refine x_eqlT ?_ | refine x_eqlF ?_ | refine x_eql (fun hc => ?_) (fun hc => ?_) | refine x_neqT ?_ | refine x_neqF ?_ | refine x_neq (fun hc => ?_) (fun hc => ?_) | refine x_eqlB ?_ | refine x_eqlST ?_ | refine x_eqlSF ?_ | refine x_eqlS (fun hc => ?_) (fun hc => ?_) | refine x_eqlI ?_ | refine x_eqlN ?_ | refine x_neqB ?_ | refine x_neqST ?_ | refine x_neqSF ?_ | refine x_neqS (fun hc => ?_) (fun hc => ?_) | refine x_neqI ?_ | refine x_neqN ?_ | refine x_iaF tb_ok ?_ | refine x_iaO tb_ok ?_ | refine x_iaA tb_ok ?_ | refine x_iaAF tb_ok ?_ | refine x_eqlA tb_ok ?_ | refine x_eqlAS tb_ok (fun hc => ?_) (fun hc => ?_) | refine x_neqA tb_ok ?_ | refine x_neqAS tb_ok (fun hc => ?_) (fun hc => ?_))
          | refine x_ret ?_
          | refine x_nor ?_
          | exact x_le)
      all_goals first | rfl | skip
    · skip
      repeat' (first
          | with_reducible first | refine awp_seq ?_ | refine awp_region ?_ | refine awp_draw mixed ?_ | refine then_n ?_ | refine awp_skip ?_ | refine awp_block ?_ | refine awp_exit ?_ | refine awp_ret ?_ | refine awp_label ?_ | refine then_exit ?_ | refine then_ret ?_ | refine blk_n ?_ | refine blk_ret ?_ | refine blk_exit ?_ | refine blk_other rfl ?_ | refine then_k ?_
          | refine awp_true rfl ?_
          | refine awp_false rfl ?_
          | refine awp_split rfl (fun hb => ?_) (fun hb => ?_)
          | (refine isR ?_; first | refine x_far [107, 166] tb_ok rfl ?_ | refine r_nil ?_ | refine r_nild (by kernel_rfl) ?_ | refine x_call (c7 _) ?_ | refine x_call (c7) ?_ | refine x_call (c8 _) ?_ | refine x_call (c8) ?_ | refine x_call (c9 _) ?_ | refine x_call (c9) ?_ | refine x_call (c10 _) ?_ | refine x_call (c10) ?_ | refine x_call (d1 _) ?_ | refine x_call (d1) ?_ | refine x_callz [4] (d2 _) ?_ | refine x_callz [4] (d2) ?_ | refine x_callz [8] (d3 _) ?_ | refine x_callz [8] (d3) ?_ | refine x_appK strT (L := []) (K' := L) tb_ok ?_ | refine x_app strT (a1 := (s)) tb_ok ?_ | refine x_app strT (a1 := (nx)) tb_ok ?_ | refine x_bsO 107 tb_ok ?_ | refine x_bsO 166 tb_ok ?_ | refine x_bs tb_ok ?_ | refine x_addE ?_ | refine x_add ?_ | refine x_subE ?_ | refine x_sub ?_ | refine x_cat ?_ | refine x_lenF tb_ok ?_ | refine x_lenO tb_ok ?_ | refine x_lenN tb_ok ?_ | refine x_lenS ?_ | refine x_lssT ?_ | refine x_lssF ?_ | refine x_lss (fun hc => ?_) (fun hc => ?_) | refine x_leqT ?_ | refine x_leqF ?_ | refine x_leq (fun hc => ?_) (fun hc => ?_) | refine x_geqT ?_ | refine x_geqF ?_ | refine x_geq (fun hc => ?_) (fun hc => ?_) | refine x_eqlT ?_ | refine x_eqlF ?_ | refine x_eql (fun hc => ?_) (fun hc => ?_) | refine x_neqT ?_ | refine x_neqF ?_ | refine x_neq (fun hc => ?_) (fun hc => ?_) | refine x_eqlB ?_ | refine x_eqlST ?_ | refine x_eqlSF ?_ | refine x_eqlS (fun hc => ?_) (fun hc => ?_) | refine x_eqlI ?_ | refine x_eqlN ?_ | refine x_neqB ?_ | refine x_neqST ?_ | refine x_neqSF ?_ | refine x_neqS (fun hc => ?_) (fun hc => ?_) | refine x_neqI ?_ | refine x_neqN ?_ | refine x_iaF tb_ok ?_ | refine x_iaO tb_ok ?_ | refine x_iaA tb_ok ?_ | refine x_iaAF tb_ok ?_ | refine x_eqlA tb_ok ?_ | refine x_eqlAS tb_ok (fun hc => ?_) (fun hc => ?_) | refine x_neqA tb_ok ?_ | refine x_neqAS tb_ok (fun hc => ?_) (fun hc => ?_))
          | refine x_ret ?_
          | refine x_nor ?_
          | exact x_le)
      all_goals first | rfl | skip
set_option maxRecDepth 100000 in
set_option maxHeartbeats 4000000 in
theorem walk1tm {K K1 K2 Kc L : List (List UInt8)} {p q m : Nat} {s w nx : List UInt8} (c1 : STEPS K s p q w) (c2 : ITEMS K L) (c3 : WRITE K p s) (c4 : FLUSH K p s K1) (c5 : WRITE K1 q w) (c6 : FLUSH K1 q w K2) (c7 : CRASH (kD K2) m Kc) (c8 : ITEMS Kc (L ++ [s])) (c9 : NEXT Kc (L ++ [s]) nx) (hl : L.length ≤ 40) : ACallsG Tryd.prog gBoth 6 [kD K, strT s, .int .i64 1, .bool true, .int .u64 (m : Int), strT nx] (.bool true) := by
  have hz : (([V.agg [.int .i64 (p : Int), strT s], V.agg [.int .i64 (q : Int), strT w]] : List Abs.V).length : Int) = 2 := rfl
  have e0 : [V.agg [.int .i64 (p : Int), strT s], V.agg [.int .i64 (q : Int), strT w]][0]? = some (V.agg [.int .i64 (p : Int), strT s]) := rfl
  have e1 : [V.agg [.int .i64 (p : Int), strT s], V.agg [.int .i64 (q : Int), strT w]][1]? = some (V.agg [.int .i64 (q : Int), strT w]) := rfl
  have hw1 : (([] : List (List UInt8)) ++ L).length = L.length := by simp
  have hw2 : (([] : List (List UInt8)) ++ (L ++ [s])).length = L.length + 1 := by simp
  have hw3 : (L ++ [s]).length = L.length + 1 := by simp
  have d1 := differ_v (L := L) (s := s)
  have d1 : ACalls Tryd.prog 24 [.fro ((L ++ [s]).map strT), .fro (L.map strT)] (.bool false) := d1
  have d2 := more_v (L := L) (s := s)
  have d3 := more_v (L := (L ++ [s])) (s := nx)
  refine funG6 tb_ok Tryd.func6 rfl Tryd.ntmps6 Tryd.results6 rfl fun N => ?_
  repeat' (first
      | with_reducible first | refine awp_seq ?_ | refine awp_region ?_ | refine awp_draw mixed ?_ | refine then_n ?_ | refine awp_skip ?_ | refine awp_block ?_ | refine awp_exit ?_ | refine awp_ret ?_ | refine awp_label ?_ | refine then_exit ?_ | refine then_ret ?_ | refine blk_n ?_ | refine blk_ret ?_ | refine blk_exit ?_ | refine blk_other rfl ?_ | refine then_k ?_
      | refine awp_true rfl ?_
      | refine awp_false rfl ?_
      | refine awp_split rfl (fun hb => ?_) (fun hb => ?_)
      | (refine isR ?_; first | refine x_far [] tb_ok rfl ?_ | refine r_nil ?_ | refine r_nild (by kernel_rfl) ?_ | refine x_call (begun_v _) ?_ | refine x_call (begun_v) ?_ | refine x_call (c1 _) ?_ | refine x_call (c1) ?_ | refine x_call (c2 _) ?_ | refine x_call (c2) ?_ | refine x_bs tb_ok ?_ | refine x_addE ?_ | refine x_add ?_ | refine x_subE ?_ | refine x_sub ?_ | refine x_cat ?_ | refine x_lenF tb_ok ?_ | refine x_lenO tb_ok ?_ | refine x_lenN tb_ok ?_ | refine x_lenS ?_ | refine x_lssT ?_ | refine x_lssF ?_ | refine x_lss (fun hc => ?_) (fun hc => ?_) | refine x_leqT ?_ | refine x_leqF ?_ | refine x_leq (fun hc => ?_) (fun hc => ?_) | refine x_geqT ?_ | refine x_geqF ?_ | refine x_geq (fun hc => ?_) (fun hc => ?_) | refine x_eqlT ?_ | refine x_eqlF ?_ | refine x_eql (fun hc => ?_) (fun hc => ?_) | refine x_neqT ?_ | refine x_neqF ?_ | refine x_neq (fun hc => ?_) (fun hc => ?_) | refine x_eqlB ?_ | refine x_eqlST ?_ | refine x_eqlSF ?_ | refine x_eqlS (fun hc => ?_) (fun hc => ?_) | refine x_eqlI ?_ | refine x_eqlN ?_ | refine x_neqB ?_ | refine x_neqST ?_ | refine x_neqSF ?_ | refine x_neqS (fun hc => ?_) (fun hc => ?_) | refine x_neqI ?_ | refine x_neqN ?_ | refine x_iaF tb_ok ?_ | refine x_iaO tb_ok ?_ | refine x_iaA tb_ok ?_ | refine x_iaAF tb_ok ?_ | refine x_eqlA tb_ok ?_ | refine x_eqlAS tb_ok (fun hc => ?_) (fun hc => ?_) | refine x_neqA tb_ok ?_ | refine x_neqAS tb_ok (fun hc => ?_) (fun hc => ?_))
      | refine x_ret ?_
      | refine x_nor ?_
      | exact x_le)
  refine awp_forN (fun j => ⟨[(1, strT s), (2, .int .i64 1), (3, .bool true), (4, .int .u64 (m : Int)), (5, strT nx), (13, .fro [.agg [.int .i64 (p : Int), strT s], .agg [.int .i64 (q : Int), strT w]]), (15, .fro (L.map strT)), (17, .loc 0 0 0), (18, .int .i64 (j : Int))], [(0, some (.els TD 2 [if j = 0 then kD K else if j = 1 then kD K1 else kD K2]))], 1, 174⟩) (fun j => j ≤ 2) 2 0 (by exact x_le) (by decide) ?_
  intro j hj
  obtain rfl | rfl | rfl : j = 0 ∨ j = 1 ∨ j = 2 := by omega
  · skip
    repeat' (first
        | with_reducible first | refine awp_seq ?_ | refine awp_region ?_ | refine awp_draw mixed ?_ | refine then_n ?_ | refine awp_skip ?_ | refine awp_block ?_ | refine awp_exit ?_ | refine awp_ret ?_ | refine awp_label ?_ | refine then_exit ?_ | refine then_ret ?_ | refine blk_n ?_ | refine blk_ret ?_ | refine blk_exit ?_ | refine blk_other rfl ?_ | refine then_k ?_
        | refine awp_true rfl ?_
        | refine awp_false rfl ?_
        | refine awp_split rfl (fun hb => ?_) (fun hb => ?_)
        | (refine isR ?_; first | refine x_far [] tb_ok rfl ?_ | refine r_nil ?_ | refine r_nild (by kernel_rfl) ?_ | refine x_call (c3 _) ?_ | refine x_call (c3) ?_ | refine x_call (c4 _) ?_ | refine x_call (c4) ?_ | refine x_bs tb_ok ?_ | refine x_addE ?_ | refine x_add ?_ | refine x_subE ?_ | refine x_sub ?_ | refine x_cat ?_ | refine x_lenF tb_ok ?_ | refine x_lenO tb_ok ?_ | refine x_lenN tb_ok ?_ | refine x_lenS ?_ | refine x_lssT ?_ | refine x_lssF ?_ | refine x_lss (fun hc => ?_) (fun hc => ?_) | refine x_leqT ?_ | refine x_leqF ?_ | refine x_leq (fun hc => ?_) (fun hc => ?_) | refine x_geqT ?_ | refine x_geqF ?_ | refine x_geq (fun hc => ?_) (fun hc => ?_) | refine x_eqlT ?_ | refine x_eqlF ?_ | refine x_eql (fun hc => ?_) (fun hc => ?_) | refine x_neqT ?_ | refine x_neqF ?_ | refine x_neq (fun hc => ?_) (fun hc => ?_) | refine x_eqlB ?_ | refine x_eqlST ?_ | refine x_eqlSF ?_ | refine x_eqlS (fun hc => ?_) (fun hc => ?_) | refine x_eqlI ?_ | refine x_eqlN ?_ | refine x_neqB ?_ | refine x_neqST ?_ | refine x_neqSF ?_ | refine x_neqS (fun hc => ?_) (fun hc => ?_) | refine x_neqI ?_ | refine x_neqN ?_ | refine x_iaF tb_ok ?_ | refine x_iaO tb_ok ?_ | refine x_iaA tb_ok ?_ | refine x_iaAF tb_ok ?_ | refine x_eqlA tb_ok ?_ | refine x_eqlAS tb_ok (fun hc => ?_) (fun hc => ?_) | refine x_neqA tb_ok ?_ | refine x_neqAS tb_ok (fun hc => ?_) (fun hc => ?_))
        | refine x_ret ?_
        | refine x_nor ?_
        | exact x_le)
    refine ⟨by omega, by omega, ?_⟩
    exact (by exact x_len [0])
  · skip
    repeat' (first
        | with_reducible first | refine awp_seq ?_ | refine awp_region ?_ | refine awp_draw mixed ?_ | refine then_n ?_ | refine awp_skip ?_ | refine awp_block ?_ | refine awp_exit ?_ | refine awp_ret ?_ | refine awp_label ?_ | refine then_exit ?_ | refine then_ret ?_ | refine blk_n ?_ | refine blk_ret ?_ | refine blk_exit ?_ | refine blk_other rfl ?_ | refine then_k ?_
        | refine awp_true rfl ?_
        | refine awp_false rfl ?_
        | refine awp_split rfl (fun hb => ?_) (fun hb => ?_)
        | (refine isR ?_; first | refine x_far [] tb_ok rfl ?_ | refine r_nil ?_ | refine r_nild (by kernel_rfl) ?_ | refine x_call (c5 _) ?_ | refine x_call (c5) ?_ | refine x_call (c6 _) ?_ | refine x_call (c6) ?_ | refine x_bs tb_ok ?_ | refine x_addE ?_ | refine x_add ?_ | refine x_subE ?_ | refine x_sub ?_ | refine x_cat ?_ | refine x_lenF tb_ok ?_ | refine x_lenO tb_ok ?_ | refine x_lenN tb_ok ?_ | refine x_lenS ?_ | refine x_lssT ?_ | refine x_lssF ?_ | refine x_lss (fun hc => ?_) (fun hc => ?_) | refine x_leqT ?_ | refine x_leqF ?_ | refine x_leq (fun hc => ?_) (fun hc => ?_) | refine x_geqT ?_ | refine x_geqF ?_ | refine x_geq (fun hc => ?_) (fun hc => ?_) | refine x_eqlT ?_ | refine x_eqlF ?_ | refine x_eql (fun hc => ?_) (fun hc => ?_) | refine x_neqT ?_ | refine x_neqF ?_ | refine x_neq (fun hc => ?_) (fun hc => ?_) | refine x_eqlB ?_ | refine x_eqlST ?_ | refine x_eqlSF ?_ | refine x_eqlS (fun hc => ?_) (fun hc => ?_) | refine x_eqlI ?_ | refine x_eqlN ?_ | refine x_neqB ?_ | refine x_neqST ?_ | refine x_neqSF ?_ | refine x_neqS (fun hc => ?_) (fun hc => ?_) | refine x_neqI ?_ | refine x_neqN ?_ | refine x_iaF tb_ok ?_ | refine x_iaO tb_ok ?_ | refine x_iaA tb_ok ?_ | refine x_iaAF tb_ok ?_ | refine x_eqlA tb_ok ?_ | refine x_eqlAS tb_ok (fun hc => ?_) (fun hc => ?_) | refine x_neqA tb_ok ?_ | refine x_neqAS tb_ok (fun hc => ?_) (fun hc => ?_))
        | refine x_ret ?_
        | refine x_nor ?_
        | exact x_le)
    refine ⟨by omega, by omega, ?_⟩
    exact (by exact x_len [0])
  · rcases c9 with c9 | ⟨K3, c9, c10⟩
    · skip
      repeat' (first
          | with_reducible first | refine awp_seq ?_ | refine awp_region ?_ | refine awp_draw mixed ?_ | refine then_n ?_ | refine awp_skip ?_ | refine awp_block ?_ | refine awp_exit ?_ | refine awp_ret ?_ | refine awp_label ?_ | refine then_exit ?_ | refine then_ret ?_ | refine blk_n ?_ | refine blk_ret ?_ | refine blk_exit ?_ | refine blk_other rfl ?_ | refine then_k ?_
          | refine awp_true rfl ?_
          | refine awp_false rfl ?_
          | refine awp_split rfl (fun hb => ?_) (fun hb => ?_)
          | (refine isR ?_; first | refine x_far [107, 166] tb_ok rfl ?_ | refine r_nil ?_ | refine r_nild (by kernel_rfl) ?_ | refine x_call (c7 _) ?_ | refine x_call (c7) ?_ | refine x_call (c8 _) ?_ | refine x_call (c8) ?_ | refine x_call (c9 _) ?_ | refine x_call (c9) ?_ | refine x_call (d1 _) ?_ | refine x_call (d1) ?_ | refine x_callz [4] (d2 _) ?_ | refine x_callz [4] (d2) ?_ | refine x_appK strT (L := []) (K' := L) tb_ok ?_ | refine x_app strT (a1 := (s)) tb_ok ?_ | refine x_bsO 107 tb_ok ?_ | refine x_bsO 166 tb_ok ?_ | refine x_bs tb_ok ?_ | refine x_addE ?_ | refine x_add ?_ | refine x_subE ?_ | refine x_sub ?_ | refine x_cat ?_ | refine x_lenF tb_ok ?_ | refine x_lenO tb_ok ?_ | refine x_lenN tb_ok ?_ | refine x_lenS ?_ | refine x_lssT ?_ | refine x_lssF ?_ | refine x_lss (fun hc => ?_) (fun hc => ?_) | refine x_leqT ?_ | refine x_leqF ?_ | refine x_leq (fun hc => ?_) (fun hc => ?_) | refine x_geqT ?_ | refine x_geqF ?_ | refine x_geq (fun hc => ?_) (fun hc => ?_) | refine x_eqlT ?_ | refine x_eqlF ?_ | refine x_eql (fun hc => ?_) (fun hc => ?_) | refine x_neqT ?_ | refine x_neqF ?_ | refine x_neq (fun hc => ?_) (fun hc => ?_) | refine x_eqlB ?_ | refine x_eqlST ?_ | refine x_eqlSF ?_ | refine x_eqlS (fun hc => ?_) (fun hc => ?_) | refine x_eqlI ?_ | refine x_eqlN ?_ | refine x_neqB ?_ | refine x_neqST ?_ | refine x_neqSF ?_ | refine x_neqS (fun hc => ?_) (fun hc => ?_) | refine x_neqI ?_ | refine x_neqN ?_ | refine x_iaF tb_ok ?_ | refine x_iaO tb_ok ?_ | refine x_iaA tb_ok ?_ | refine x_iaAF tb_ok ?_ | refine x_eqlA tb_ok ?_ | refine x_eqlAS tb_ok (fun hc => ?_) (fun hc => ?_) | refine x_neqA tb_ok ?_ | refine x_neqAS tb_ok (fun hc => ?_) (fun hc => ?_))
          | refine x_ret ?_
          | refine x_nor ?_
          | exact x_le)
      all_goals first | rfl | skip
    · skip
      repeat' (first
          | with_reducible first | refine awp_seq ?_ | refine awp_region ?_ | refine awp_draw mixed ?_ | refine then_n ?_ | refine awp_skip ?_ | refine awp_block ?_ | refine awp_exit ?_ | refine awp_ret ?_ | refine awp_label ?_ | refine then_exit ?_ | refine then_ret ?_ | refine blk_n ?_ | refine blk_ret ?_ | refine blk_exit ?_ | refine blk_other rfl ?_ | refine then_k ?_
          | refine awp_true rfl ?_
          | refine awp_false rfl ?_
          | refine awp_split rfl (fun hb => ?_) (fun hb => ?_)
          | (refine isR ?_; first | refine x_far [107, 166] tb_ok rfl ?_ | refine r_nil ?_ | refine r_nild (by kernel_rfl) ?_ | refine x_call (c7 _) ?_ | refine x_call (c7) ?_ | refine x_call (c8 _) ?_ | refine x_call (c8) ?_ | refine x_call (c9 _) ?_ | refine x_call (c9) ?_ | refine x_call (c10 _) ?_ | refine x_call (c10) ?_ | refine x_call (d1 _) ?_ | refine x_call (d1) ?_ | refine x_callz [4] (d2 _) ?_ | refine x_callz [4] (d2) ?_ | refine x_callz [8] (d3 _) ?_ | refine x_callz [8] (d3) ?_ | refine x_appK strT (L := []) (K' := L) tb_ok ?_ | refine x_appK strT (L := []) (K' := L ++ [s]) tb_ok ?_ (hlim := by simp only [LIM]; omega) | refine x_app strT (a1 := (s)) tb_ok ?_ | refine x_app strT (a1 := (nx)) tb_ok ?_ | refine x_bsO 107 tb_ok ?_ | refine x_bsO 166 tb_ok ?_ | refine x_bs tb_ok ?_ | refine x_addE ?_ | refine x_add ?_ | refine x_subE ?_ | refine x_sub ?_ | refine x_cat ?_ | refine x_lenF tb_ok ?_ | refine x_lenO tb_ok ?_ | refine x_lenN tb_ok ?_ | refine x_lenS ?_ | refine x_lssT ?_ | refine x_lssF ?_ | refine x_lss (fun hc => ?_) (fun hc => ?_) | refine x_leqT ?_ | refine x_leqF ?_ | refine x_leq (fun hc => ?_) (fun hc => ?_) | refine x_geqT ?_ | refine x_geqF ?_ | refine x_geq (fun hc => ?_) (fun hc => ?_) | refine x_eqlT ?_ | refine x_eqlF ?_ | refine x_eql (fun hc => ?_) (fun hc => ?_) | refine x_neqT ?_ | refine x_neqF ?_ | refine x_neq (fun hc => ?_) (fun hc => ?_) | refine x_eqlB ?_ | refine x_eqlST ?_ | refine x_eqlSF ?_ | refine x_eqlS (fun hc => ?_) (fun hc => ?_) | refine x_eqlI ?_ | refine x_eqlN ?_ | refine x_neqB ?_ | refine x_neqST ?_ | refine x_neqSF ?_ | refine x_neqS (fun hc => ?_) (fun hc => ?_) | refine x_neqI ?_ | refine x_neqN ?_ | refine x_iaF tb_ok ?_ | refine x_iaO tb_ok ?_ | refine x_iaA tb_ok ?_ | refine x_iaAF tb_ok ?_ | refine x_eqlA tb_ok ?_ | refine x_eqlAS tb_ok (fun hc => ?_) (fun hc => ?_) | refine x_neqA tb_ok ?_ | refine x_neqAS tb_ok (fun hc => ?_) (fun hc => ?_))
          | refine x_ret ?_
          | refine x_nor ?_
          | exact x_le)
      all_goals first | rfl | skip
set_option maxRecDepth 100000 in
set_option maxHeartbeats 4000000 in
theorem walk1fm {K K1 Kc L : List (List UInt8)} {p q m : Nat} {s w nx : List UInt8} (c1 : STEPS K s p q w) (c2 : ITEMS K L) (c3 : WRITE K p s) (c4 : FLUSH K p s K1) (c5 : WRITE K1 q w) (c7 : CRASH (kW K1 q w) m Kc) (c8 : ITEMS Kc (L ++ [s])) (c9 : NEXT Kc (L ++ [s]) nx) (hl : L.length ≤ 40) : ACallsG Tryd.prog gBoth 6 [kD K, strT s, .int .i64 1, .bool false, .int .u64 (m : Int), strT nx] (.bool true) := by
  have hz : (([V.agg [.int .i64 (p : Int), strT s], V.agg [.int .i64 (q : Int), strT w]] : List Abs.V).length : Int) = 2 := rfl
  have e0 : [V.agg [.int .i64 (p : Int), strT s], V.agg [.int .i64 (q : Int), strT w]][0]? = some (V.agg [.int .i64 (p : Int), strT s]) := rfl
  have e1 : [V.agg [.int .i64 (p : Int), strT s], V.agg [.int .i64 (q : Int), strT w]][1]? = some (V.agg [.int .i64 (q : Int), strT w]) := rfl
  have hw1 : (([] : List (List UInt8)) ++ L).length = L.length := by simp
  have hw2 : (([] : List (List UInt8)) ++ (L ++ [s])).length = L.length + 1 := by simp
  have hw3 : (L ++ [s]).length = L.length + 1 := by simp
  have d1 := differ_v (L := L) (s := s)
  have d1 : ACalls Tryd.prog 24 [.fro ((L ++ [s]).map strT), .fro (L.map strT)] (.bool false) := d1
  have d2 := more_v (L := L) (s := s)
  have d3 := more_v (L := (L ++ [s])) (s := nx)
  refine funG6 tb_ok Tryd.func6 rfl Tryd.ntmps6 Tryd.results6 rfl fun N => ?_
  repeat' (first
      | with_reducible first | refine awp_seq ?_ | refine awp_region ?_ | refine awp_draw mixed ?_ | refine then_n ?_ | refine awp_skip ?_ | refine awp_block ?_ | refine awp_exit ?_ | refine awp_ret ?_ | refine awp_label ?_ | refine then_exit ?_ | refine then_ret ?_ | refine blk_n ?_ | refine blk_ret ?_ | refine blk_exit ?_ | refine blk_other rfl ?_ | refine then_k ?_
      | refine awp_true rfl ?_
      | refine awp_false rfl ?_
      | refine awp_split rfl (fun hb => ?_) (fun hb => ?_)
      | (refine isR ?_; first | refine x_far [] tb_ok rfl ?_ | refine r_nil ?_ | refine r_nild (by kernel_rfl) ?_ | refine x_call (begun_v _) ?_ | refine x_call (begun_v) ?_ | refine x_call (c1 _) ?_ | refine x_call (c1) ?_ | refine x_call (c2 _) ?_ | refine x_call (c2) ?_ | refine x_bs tb_ok ?_ | refine x_addE ?_ | refine x_add ?_ | refine x_subE ?_ | refine x_sub ?_ | refine x_cat ?_ | refine x_lenF tb_ok ?_ | refine x_lenO tb_ok ?_ | refine x_lenN tb_ok ?_ | refine x_lenS ?_ | refine x_lssT ?_ | refine x_lssF ?_ | refine x_lss (fun hc => ?_) (fun hc => ?_) | refine x_leqT ?_ | refine x_leqF ?_ | refine x_leq (fun hc => ?_) (fun hc => ?_) | refine x_geqT ?_ | refine x_geqF ?_ | refine x_geq (fun hc => ?_) (fun hc => ?_) | refine x_eqlT ?_ | refine x_eqlF ?_ | refine x_eql (fun hc => ?_) (fun hc => ?_) | refine x_neqT ?_ | refine x_neqF ?_ | refine x_neq (fun hc => ?_) (fun hc => ?_) | refine x_eqlB ?_ | refine x_eqlST ?_ | refine x_eqlSF ?_ | refine x_eqlS (fun hc => ?_) (fun hc => ?_) | refine x_eqlI ?_ | refine x_eqlN ?_ | refine x_neqB ?_ | refine x_neqST ?_ | refine x_neqSF ?_ | refine x_neqS (fun hc => ?_) (fun hc => ?_) | refine x_neqI ?_ | refine x_neqN ?_ | refine x_iaF tb_ok ?_ | refine x_iaO tb_ok ?_ | refine x_iaA tb_ok ?_ | refine x_iaAF tb_ok ?_ | refine x_eqlA tb_ok ?_ | refine x_eqlAS tb_ok (fun hc => ?_) (fun hc => ?_) | refine x_neqA tb_ok ?_ | refine x_neqAS tb_ok (fun hc => ?_) (fun hc => ?_))
      | refine x_ret ?_
      | refine x_nor ?_
      | exact x_le)
  refine awp_forN (fun j => ⟨[(1, strT s), (2, .int .i64 1), (3, .bool false), (4, .int .u64 (m : Int)), (5, strT nx), (13, .fro [.agg [.int .i64 (p : Int), strT s], .agg [.int .i64 (q : Int), strT w]]), (15, .fro (L.map strT)), (17, .loc 0 0 0), (18, .int .i64 (j : Int))], [(0, some (.els TD 2 [if j = 0 then kD K else if j = 1 then kD K1 else kW K1 q w]))], 1, 174⟩) (fun j => j ≤ 2) 2 0 (by exact x_le) (by decide) ?_
  intro j hj
  obtain rfl | rfl | rfl : j = 0 ∨ j = 1 ∨ j = 2 := by omega
  · skip
    repeat' (first
        | with_reducible first | refine awp_seq ?_ | refine awp_region ?_ | refine awp_draw mixed ?_ | refine then_n ?_ | refine awp_skip ?_ | refine awp_block ?_ | refine awp_exit ?_ | refine awp_ret ?_ | refine awp_label ?_ | refine then_exit ?_ | refine then_ret ?_ | refine blk_n ?_ | refine blk_ret ?_ | refine blk_exit ?_ | refine blk_other rfl ?_ | refine then_k ?_
        | refine awp_true rfl ?_
        | refine awp_false rfl ?_
        | refine awp_split rfl (fun hb => ?_) (fun hb => ?_)
        | (refine isR ?_; first | refine x_far [] tb_ok rfl ?_ | refine r_nil ?_ | refine r_nild (by kernel_rfl) ?_ | refine x_call (c3 _) ?_ | refine x_call (c3) ?_ | refine x_call (c4 _) ?_ | refine x_call (c4) ?_ | refine x_bs tb_ok ?_ | refine x_addE ?_ | refine x_add ?_ | refine x_subE ?_ | refine x_sub ?_ | refine x_cat ?_ | refine x_lenF tb_ok ?_ | refine x_lenO tb_ok ?_ | refine x_lenN tb_ok ?_ | refine x_lenS ?_ | refine x_lssT ?_ | refine x_lssF ?_ | refine x_lss (fun hc => ?_) (fun hc => ?_) | refine x_leqT ?_ | refine x_leqF ?_ | refine x_leq (fun hc => ?_) (fun hc => ?_) | refine x_geqT ?_ | refine x_geqF ?_ | refine x_geq (fun hc => ?_) (fun hc => ?_) | refine x_eqlT ?_ | refine x_eqlF ?_ | refine x_eql (fun hc => ?_) (fun hc => ?_) | refine x_neqT ?_ | refine x_neqF ?_ | refine x_neq (fun hc => ?_) (fun hc => ?_) | refine x_eqlB ?_ | refine x_eqlST ?_ | refine x_eqlSF ?_ | refine x_eqlS (fun hc => ?_) (fun hc => ?_) | refine x_eqlI ?_ | refine x_eqlN ?_ | refine x_neqB ?_ | refine x_neqST ?_ | refine x_neqSF ?_ | refine x_neqS (fun hc => ?_) (fun hc => ?_) | refine x_neqI ?_ | refine x_neqN ?_ | refine x_iaF tb_ok ?_ | refine x_iaO tb_ok ?_ | refine x_iaA tb_ok ?_ | refine x_iaAF tb_ok ?_ | refine x_eqlA tb_ok ?_ | refine x_eqlAS tb_ok (fun hc => ?_) (fun hc => ?_) | refine x_neqA tb_ok ?_ | refine x_neqAS tb_ok (fun hc => ?_) (fun hc => ?_))
        | refine x_ret ?_
        | refine x_nor ?_
        | exact x_le)
    refine ⟨by omega, by omega, ?_⟩
    exact (by exact x_len [0])
  · skip
    repeat' (first
        | with_reducible first | refine awp_seq ?_ | refine awp_region ?_ | refine awp_draw mixed ?_ | refine then_n ?_ | refine awp_skip ?_ | refine awp_block ?_ | refine awp_exit ?_ | refine awp_ret ?_ | refine awp_label ?_ | refine then_exit ?_ | refine then_ret ?_ | refine blk_n ?_ | refine blk_ret ?_ | refine blk_exit ?_ | refine blk_other rfl ?_ | refine then_k ?_
        | refine awp_true rfl ?_
        | refine awp_false rfl ?_
        | refine awp_split rfl (fun hb => ?_) (fun hb => ?_)
        | (refine isR ?_; first | refine x_far [] tb_ok rfl ?_ | refine r_nil ?_ | refine r_nild (by kernel_rfl) ?_ | refine x_call (c5 _) ?_ | refine x_call (c5) ?_ | refine x_bs tb_ok ?_ | refine x_addE ?_ | refine x_add ?_ | refine x_subE ?_ | refine x_sub ?_ | refine x_cat ?_ | refine x_lenF tb_ok ?_ | refine x_lenO tb_ok ?_ | refine x_lenN tb_ok ?_ | refine x_lenS ?_ | refine x_lssT ?_ | refine x_lssF ?_ | refine x_lss (fun hc => ?_) (fun hc => ?_) | refine x_leqT ?_ | refine x_leqF ?_ | refine x_leq (fun hc => ?_) (fun hc => ?_) | refine x_geqT ?_ | refine x_geqF ?_ | refine x_geq (fun hc => ?_) (fun hc => ?_) | refine x_eqlT ?_ | refine x_eqlF ?_ | refine x_eql (fun hc => ?_) (fun hc => ?_) | refine x_neqT ?_ | refine x_neqF ?_ | refine x_neq (fun hc => ?_) (fun hc => ?_) | refine x_eqlB ?_ | refine x_eqlST ?_ | refine x_eqlSF ?_ | refine x_eqlS (fun hc => ?_) (fun hc => ?_) | refine x_eqlI ?_ | refine x_eqlN ?_ | refine x_neqB ?_ | refine x_neqST ?_ | refine x_neqSF ?_ | refine x_neqS (fun hc => ?_) (fun hc => ?_) | refine x_neqI ?_ | refine x_neqN ?_ | refine x_iaF tb_ok ?_ | refine x_iaO tb_ok ?_ | refine x_iaA tb_ok ?_ | refine x_iaAF tb_ok ?_ | refine x_eqlA tb_ok ?_ | refine x_eqlAS tb_ok (fun hc => ?_) (fun hc => ?_) | refine x_neqA tb_ok ?_ | refine x_neqAS tb_ok (fun hc => ?_) (fun hc => ?_))
        | refine x_ret ?_
        | refine x_nor ?_
        | exact x_le)
    refine ⟨by omega, by omega, ?_⟩
    exact (by exact x_len [0])
  · rcases c9 with c9 | ⟨K3, c9, c10⟩
    · skip
      repeat' (first
          | with_reducible first | refine awp_seq ?_ | refine awp_region ?_ | refine awp_draw mixed ?_ | refine then_n ?_ | refine awp_skip ?_ | refine awp_block ?_ | refine awp_exit ?_ | refine awp_ret ?_ | refine awp_label ?_ | refine then_exit ?_ | refine then_ret ?_ | refine blk_n ?_ | refine blk_ret ?_ | refine blk_exit ?_ | refine blk_other rfl ?_ | refine then_k ?_
          | refine awp_true rfl ?_
          | refine awp_false rfl ?_
          | refine awp_split rfl (fun hb => ?_) (fun hb => ?_)
          | (refine isR ?_; first | refine x_far [107, 166] tb_ok rfl ?_ | refine r_nil ?_ | refine r_nild (by kernel_rfl) ?_ | refine x_call (c7 _) ?_ | refine x_call (c7) ?_ | refine x_call (c8 _) ?_ | refine x_call (c8) ?_ | refine x_call (c9 _) ?_ | refine x_call (c9) ?_ | refine x_call (d1 _) ?_ | refine x_call (d1) ?_ | refine x_callz [4] (d2 _) ?_ | refine x_callz [4] (d2) ?_ | refine x_appK strT (L := []) (K' := L) tb_ok ?_ | refine x_app strT (a1 := (s)) tb_ok ?_ | refine x_bsO 107 tb_ok ?_ | refine x_bsO 166 tb_ok ?_ | refine x_bs tb_ok ?_ | refine x_addE ?_ | refine x_add ?_ | refine x_subE ?_ | refine x_sub ?_ | refine x_cat ?_ | refine x_lenF tb_ok ?_ | refine x_lenO tb_ok ?_ | refine x_lenN tb_ok ?_ | refine x_lenS ?_ | refine x_lssT ?_ | refine x_lssF ?_ | refine x_lss (fun hc => ?_) (fun hc => ?_) | refine x_leqT ?_ | refine x_leqF ?_ | refine x_leq (fun hc => ?_) (fun hc => ?_) | refine x_geqT ?_ | refine x_geqF ?_ | refine x_geq (fun hc => ?_) (fun hc => ?_) | refine x_eqlT ?_ | refine x_eqlF ?_ | refine x_eql (fun hc => ?_) (fun hc => ?_) | refine x_neqT ?_ | refine x_neqF ?_ | refine x_neq (fun hc => ?_) (fun hc => ?_) | refine x_eqlB ?_ | refine x_eqlST ?_ | refine x_eqlSF ?_ | refine x_eqlS (fun hc => ?_) (fun hc => ?_) | refine x_eqlI ?_ | refine x_eqlN ?_ | refine x_neqB ?_ | refine x_neqST ?_ | refine x_neqSF ?_ | refine x_neqS (fun hc => ?_) (fun hc => ?_) | refine x_neqI ?_ | refine x_neqN ?_ | refine x_iaF tb_ok ?_ | refine x_iaO tb_ok ?_ | refine x_iaA tb_ok ?_ | refine x_iaAF tb_ok ?_ | refine x_eqlA tb_ok ?_ | refine x_eqlAS tb_ok (fun hc => ?_) (fun hc => ?_) | refine x_neqA tb_ok ?_ | refine x_neqAS tb_ok (fun hc => ?_) (fun hc => ?_))
          | refine x_ret ?_
          | refine x_nor ?_
          | exact x_le)
      all_goals first | rfl | skip
    · skip
      repeat' (first
          | with_reducible first | refine awp_seq ?_ | refine awp_region ?_ | refine awp_draw mixed ?_ | refine then_n ?_ | refine awp_skip ?_ | refine awp_block ?_ | refine awp_exit ?_ | refine awp_ret ?_ | refine awp_label ?_ | refine then_exit ?_ | refine then_ret ?_ | refine blk_n ?_ | refine blk_ret ?_ | refine blk_exit ?_ | refine blk_other rfl ?_ | refine then_k ?_
          | refine awp_true rfl ?_
          | refine awp_false rfl ?_
          | refine awp_split rfl (fun hb => ?_) (fun hb => ?_)
          | (refine isR ?_; first | refine x_far [107, 166] tb_ok rfl ?_ | refine r_nil ?_ | refine r_nild (by kernel_rfl) ?_ | refine x_call (c7 _) ?_ | refine x_call (c7) ?_ | refine x_call (c8 _) ?_ | refine x_call (c8) ?_ | refine x_call (c9 _) ?_ | refine x_call (c9) ?_ | refine x_call (c10 _) ?_ | refine x_call (c10) ?_ | refine x_call (d1 _) ?_ | refine x_call (d1) ?_ | refine x_callz [4] (d2 _) ?_ | refine x_callz [4] (d2) ?_ | refine x_callz [8] (d3 _) ?_ | refine x_callz [8] (d3) ?_ | refine x_appK strT (L := []) (K' := L) tb_ok ?_ | refine x_appK strT (L := []) (K' := L ++ [s]) tb_ok ?_ (hlim := by simp only [LIM]; omega) | refine x_app strT (a1 := (s)) tb_ok ?_ | refine x_app strT (a1 := (nx)) tb_ok ?_ | refine x_bsO 107 tb_ok ?_ | refine x_bsO 166 tb_ok ?_ | refine x_bs tb_ok ?_ | refine x_addE ?_ | refine x_add ?_ | refine x_subE ?_ | refine x_sub ?_ | refine x_cat ?_ | refine x_lenF tb_ok ?_ | refine x_lenO tb_ok ?_ | refine x_lenN tb_ok ?_ | refine x_lenS ?_ | refine x_lssT ?_ | refine x_lssF ?_ | refine x_lss (fun hc => ?_) (fun hc => ?_) | refine x_leqT ?_ | refine x_leqF ?_ | refine x_leq (fun hc => ?_) (fun hc => ?_) | refine x_geqT ?_ | refine x_geqF ?_ | refine x_geq (fun hc => ?_) (fun hc => ?_) | refine x_eqlT ?_ | refine x_eqlF ?_ | refine x_eql (fun hc => ?_) (fun hc => ?_) | refine x_neqT ?_ | refine x_neqF ?_ | refine x_neq (fun hc => ?_) (fun hc => ?_) | refine x_eqlB ?_ | refine x_eqlST ?_ | refine x_eqlSF ?_ | refine x_eqlS (fun hc => ?_) (fun hc => ?_) | refine x_eqlI ?_ | refine x_eqlN ?_ | refine x_neqB ?_ | refine x_neqST ?_ | refine x_neqSF ?_ | refine x_neqS (fun hc => ?_) (fun hc => ?_) | refine x_neqI ?_ | refine x_neqN ?_ | refine x_iaF tb_ok ?_ | refine x_iaO tb_ok ?_ | refine x_iaA tb_ok ?_ | refine x_iaAF tb_ok ?_ | refine x_eqlA tb_ok ?_ | refine x_eqlAS tb_ok (fun hc => ?_) (fun hc => ?_) | refine x_neqA tb_ok ?_ | refine x_neqAS tb_ok (fun hc => ?_) (fun hc => ?_))
          | refine x_ret ?_
          | refine x_nor ?_
          | exact x_le)
      all_goals first | rfl | skip
set_option maxRecDepth 100000 in
set_option maxHeartbeats 4000000 in
theorem walk1f {K K1 Kc L : List (List UInt8)} {p q m : Nat} {s w nx : List UInt8} (c1 : STEPS K s p q w) (c2 : ITEMS K L) (c3 : WRITE K p s) (c4 : FLUSH K p s K1) (c5 : WRITE K1 q w) (c7 : CRASH (kW K1 q w) m Kc) (c8 : ITEMS Kc L) (c9 : NEXT Kc L nx) (hl : L.length ≤ 40) : ACallsG Tryd.prog gBoth 6 [kD K, strT s, .int .i64 1, .bool false, .int .u64 (m : Int), strT nx] (.bool true) := by
  have hz : (([V.agg [.int .i64 (p : Int), strT s], V.agg [.int .i64 (q : Int), strT w]] : List Abs.V).length : Int) = 2 := rfl
  have e0 : [V.agg [.int .i64 (p : Int), strT s], V.agg [.int .i64 (q : Int), strT w]][0]? = some (V.agg [.int .i64 (p : Int), strT s]) := rfl
  have e1 : [V.agg [.int .i64 (p : Int), strT s], V.agg [.int .i64 (q : Int), strT w]][1]? = some (V.agg [.int .i64 (q : Int), strT w]) := rfl
  have hw1 : (([] : List (List UInt8)) ++ L).length = L.length := by simp
  have hw2 : (([] : List (List UInt8)) ++ L).length = L.length := by simp
  have d1 := same_v (L := L)
  have d1 : ACalls Tryd.prog 24 [.fro (L.map strT), .fro (L.map strT)] (.bool true) := d1
  have d2 := more_v (L := L) (s := s)
  have d3 := more_v (L := L) (s := nx)
  refine funG6 tb_ok Tryd.func6 rfl Tryd.ntmps6 Tryd.results6 rfl fun N => ?_
  repeat' (first
      | with_reducible first | refine awp_seq ?_ | refine awp_region ?_ | refine awp_draw mixed ?_ | refine then_n ?_ | refine awp_skip ?_ | refine awp_block ?_ | refine awp_exit ?_ | refine awp_ret ?_ | refine awp_label ?_ | refine then_exit ?_ | refine then_ret ?_ | refine blk_n ?_ | refine blk_ret ?_ | refine blk_exit ?_ | refine blk_other rfl ?_ | refine then_k ?_
      | refine awp_true rfl ?_
      | refine awp_false rfl ?_
      | refine awp_split rfl (fun hb => ?_) (fun hb => ?_)
      | (refine isR ?_; first | refine x_far [] tb_ok rfl ?_ | refine r_nil ?_ | refine r_nild (by kernel_rfl) ?_ | refine x_call (begun_v _) ?_ | refine x_call (begun_v) ?_ | refine x_call (c1 _) ?_ | refine x_call (c1) ?_ | refine x_call (c2 _) ?_ | refine x_call (c2) ?_ | refine x_bs tb_ok ?_ | refine x_addE ?_ | refine x_add ?_ | refine x_subE ?_ | refine x_sub ?_ | refine x_cat ?_ | refine x_lenF tb_ok ?_ | refine x_lenO tb_ok ?_ | refine x_lenN tb_ok ?_ | refine x_lenS ?_ | refine x_lssT ?_ | refine x_lssF ?_ | refine x_lss (fun hc => ?_) (fun hc => ?_) | refine x_leqT ?_ | refine x_leqF ?_ | refine x_leq (fun hc => ?_) (fun hc => ?_) | refine x_geqT ?_ | refine x_geqF ?_ | refine x_geq (fun hc => ?_) (fun hc => ?_) | refine x_eqlT ?_ | refine x_eqlF ?_ | refine x_eql (fun hc => ?_) (fun hc => ?_) | refine x_neqT ?_ | refine x_neqF ?_ | refine x_neq (fun hc => ?_) (fun hc => ?_) | refine x_eqlB ?_ | refine x_eqlST ?_ | refine x_eqlSF ?_ | refine x_eqlS (fun hc => ?_) (fun hc => ?_) | refine x_eqlI ?_ | refine x_eqlN ?_ | refine x_neqB ?_ | refine x_neqST ?_ | refine x_neqSF ?_ | refine x_neqS (fun hc => ?_) (fun hc => ?_) | refine x_neqI ?_ | refine x_neqN ?_ | refine x_iaF tb_ok ?_ | refine x_iaO tb_ok ?_ | refine x_iaA tb_ok ?_ | refine x_iaAF tb_ok ?_ | refine x_eqlA tb_ok ?_ | refine x_eqlAS tb_ok (fun hc => ?_) (fun hc => ?_) | refine x_neqA tb_ok ?_ | refine x_neqAS tb_ok (fun hc => ?_) (fun hc => ?_))
      | refine x_ret ?_
      | refine x_nor ?_
      | exact x_le)
  refine awp_forN (fun j => ⟨[(1, strT s), (2, .int .i64 1), (3, .bool false), (4, .int .u64 (m : Int)), (5, strT nx), (13, .fro [.agg [.int .i64 (p : Int), strT s], .agg [.int .i64 (q : Int), strT w]]), (15, .fro (L.map strT)), (17, .loc 0 0 0), (18, .int .i64 (j : Int))], [(0, some (.els TD 2 [if j = 0 then kD K else if j = 1 then kD K1 else kW K1 q w]))], 1, 174⟩) (fun j => j ≤ 2) 2 0 (by exact x_le) (by decide) ?_
  intro j hj
  obtain rfl | rfl | rfl : j = 0 ∨ j = 1 ∨ j = 2 := by omega
  · skip
    repeat' (first
        | with_reducible first | refine awp_seq ?_ | refine awp_region ?_ | refine awp_draw mixed ?_ | refine then_n ?_ | refine awp_skip ?_ | refine awp_block ?_ | refine awp_exit ?_ | refine awp_ret ?_ | refine awp_label ?_ | refine then_exit ?_ | refine then_ret ?_ | refine blk_n ?_ | refine blk_ret ?_ | refine blk_exit ?_ | refine blk_other rfl ?_ | refine then_k ?_
        | refine awp_true rfl ?_
        | refine awp_false rfl ?_
        | refine awp_split rfl (fun hb => ?_) (fun hb => ?_)
        | (refine isR ?_; first | refine x_far [] tb_ok rfl ?_ | refine r_nil ?_ | refine r_nild (by kernel_rfl) ?_ | refine x_call (c3 _) ?_ | refine x_call (c3) ?_ | refine x_call (c4 _) ?_ | refine x_call (c4) ?_ | refine x_bs tb_ok ?_ | refine x_addE ?_ | refine x_add ?_ | refine x_subE ?_ | refine x_sub ?_ | refine x_cat ?_ | refine x_lenF tb_ok ?_ | refine x_lenO tb_ok ?_ | refine x_lenN tb_ok ?_ | refine x_lenS ?_ | refine x_lssT ?_ | refine x_lssF ?_ | refine x_lss (fun hc => ?_) (fun hc => ?_) | refine x_leqT ?_ | refine x_leqF ?_ | refine x_leq (fun hc => ?_) (fun hc => ?_) | refine x_geqT ?_ | refine x_geqF ?_ | refine x_geq (fun hc => ?_) (fun hc => ?_) | refine x_eqlT ?_ | refine x_eqlF ?_ | refine x_eql (fun hc => ?_) (fun hc => ?_) | refine x_neqT ?_ | refine x_neqF ?_ | refine x_neq (fun hc => ?_) (fun hc => ?_) | refine x_eqlB ?_ | refine x_eqlST ?_ | refine x_eqlSF ?_ | refine x_eqlS (fun hc => ?_) (fun hc => ?_) | refine x_eqlI ?_ | refine x_eqlN ?_ | refine x_neqB ?_ | refine x_neqST ?_ | refine x_neqSF ?_ | refine x_neqS (fun hc => ?_) (fun hc => ?_) | refine x_neqI ?_ | refine x_neqN ?_ | refine x_iaF tb_ok ?_ | refine x_iaO tb_ok ?_ | refine x_iaA tb_ok ?_ | refine x_iaAF tb_ok ?_ | refine x_eqlA tb_ok ?_ | refine x_eqlAS tb_ok (fun hc => ?_) (fun hc => ?_) | refine x_neqA tb_ok ?_ | refine x_neqAS tb_ok (fun hc => ?_) (fun hc => ?_))
        | refine x_ret ?_
        | refine x_nor ?_
        | exact x_le)
    refine ⟨by omega, by omega, ?_⟩
    exact (by exact x_len [0])
  · skip
    repeat' (first
        | with_reducible first | refine awp_seq ?_ | refine awp_region ?_ | refine awp_draw mixed ?_ | refine then_n ?_ | refine awp_skip ?_ | refine awp_block ?_ | refine awp_exit ?_ | refine awp_ret ?_ | refine awp_label ?_ | refine then_exit ?_ | refine then_ret ?_ | refine blk_n ?_ | refine blk_ret ?_ | refine blk_exit ?_ | refine blk_other rfl ?_ | refine then_k ?_
        | refine awp_true rfl ?_
        | refine awp_false rfl ?_
        | refine awp_split rfl (fun hb => ?_) (fun hb => ?_)
        | (refine isR ?_; first | refine x_far [] tb_ok rfl ?_ | refine r_nil ?_ | refine r_nild (by kernel_rfl) ?_ | refine x_call (c5 _) ?_ | refine x_call (c5) ?_ | refine x_bs tb_ok ?_ | refine x_addE ?_ | refine x_add ?_ | refine x_subE ?_ | refine x_sub ?_ | refine x_cat ?_ | refine x_lenF tb_ok ?_ | refine x_lenO tb_ok ?_ | refine x_lenN tb_ok ?_ | refine x_lenS ?_ | refine x_lssT ?_ | refine x_lssF ?_ | refine x_lss (fun hc => ?_) (fun hc => ?_) | refine x_leqT ?_ | refine x_leqF ?_ | refine x_leq (fun hc => ?_) (fun hc => ?_) | refine x_geqT ?_ | refine x_geqF ?_ | refine x_geq (fun hc => ?_) (fun hc => ?_) | refine x_eqlT ?_ | refine x_eqlF ?_ | refine x_eql (fun hc => ?_) (fun hc => ?_) | refine x_neqT ?_ | refine x_neqF ?_ | refine x_neq (fun hc => ?_) (fun hc => ?_) | refine x_eqlB ?_ | refine x_eqlST ?_ | refine x_eqlSF ?_ | refine x_eqlS (fun hc => ?_) (fun hc => ?_) | refine x_eqlI ?_ | refine x_eqlN ?_ | refine x_neqB ?_ | refine x_neqST ?_ | refine x_neqSF ?_ | refine x_neqS (fun hc => ?_) (fun hc => ?_) | refine x_neqI ?_ | refine x_neqN ?_ | refine x_iaF tb_ok ?_ | refine x_iaO tb_ok ?_ | refine x_iaA tb_ok ?_ | refine x_iaAF tb_ok ?_ | refine x_eqlA tb_ok ?_ | refine x_eqlAS tb_ok (fun hc => ?_) (fun hc => ?_) | refine x_neqA tb_ok ?_ | refine x_neqAS tb_ok (fun hc => ?_) (fun hc => ?_))
        | refine x_ret ?_
        | refine x_nor ?_
        | exact x_le)
    refine ⟨by omega, by omega, ?_⟩
    exact (by exact x_len [0])
  · rcases c9 with c9 | ⟨K3, c9, c10⟩
    · skip
      repeat' (first
          | with_reducible first | refine awp_seq ?_ | refine awp_region ?_ | refine awp_draw mixed ?_ | refine then_n ?_ | refine awp_skip ?_ | refine awp_block ?_ | refine awp_exit ?_ | refine awp_ret ?_ | refine awp_label ?_ | refine then_exit ?_ | refine then_ret ?_ | refine blk_n ?_ | refine blk_ret ?_ | refine blk_exit ?_ | refine blk_other rfl ?_ | refine then_k ?_
          | refine awp_true rfl ?_
          | refine awp_false rfl ?_
          | refine awp_split rfl (fun hb => ?_) (fun hb => ?_)
          | (refine isR ?_; first | refine x_far [107, 166] tb_ok rfl ?_ | refine r_nil ?_ | refine r_nild (by kernel_rfl) ?_ | refine x_call (c7 _) ?_ | refine x_call (c7) ?_ | refine x_call (c8 _) ?_ | refine x_call (c8) ?_ | refine x_call (c9 _) ?_ | refine x_call (c9) ?_ | refine x_call (d1 _) ?_ | refine x_call (d1) ?_ | refine x_callz [4] (d2 _) ?_ | refine x_callz [4] (d2) ?_ | refine x_appK strT (L := []) (K' := L) tb_ok ?_ | refine x_app strT (a1 := (s)) tb_ok ?_ | refine x_bsO 107 tb_ok ?_ | refine x_bsO 166 tb_ok ?_ | refine x_bs tb_ok ?_ | refine x_addE ?_ | refine x_add ?_ | refine x_subE ?_ | refine x_sub ?_ | refine x_cat ?_ | refine x_lenF tb_ok ?_ | refine x_lenO tb_ok ?_ | refine x_lenN tb_ok ?_ | refine x_lenS ?_ | refine x_lssT ?_ | refine x_lssF ?_ | refine x_lss (fun hc => ?_) (fun hc => ?_) | refine x_leqT ?_ | refine x_leqF ?_ | refine x_leq (fun hc => ?_) (fun hc => ?_) | refine x_geqT ?_ | refine x_geqF ?_ | refine x_geq (fun hc => ?_) (fun hc => ?_) | refine x_eqlT ?_ | refine x_eqlF ?_ | refine x_eql (fun hc => ?_) (fun hc => ?_) | refine x_neqT ?_ | refine x_neqF ?_ | refine x_neq (fun hc => ?_) (fun hc => ?_) | refine x_eqlB ?_ | refine x_eqlST ?_ | refine x_eqlSF ?_ | refine x_eqlS (fun hc => ?_) (fun hc => ?_) | refine x_eqlI ?_ | refine x_eqlN ?_ | refine x_neqB ?_ | refine x_neqST ?_ | refine x_neqSF ?_ | refine x_neqS (fun hc => ?_) (fun hc => ?_) | refine x_neqI ?_ | refine x_neqN ?_ | refine x_iaF tb_ok ?_ | refine x_iaO tb_ok ?_ | refine x_iaA tb_ok ?_ | refine x_iaAF tb_ok ?_ | refine x_eqlA tb_ok ?_ | refine x_eqlAS tb_ok (fun hc => ?_) (fun hc => ?_) | refine x_neqA tb_ok ?_ | refine x_neqAS tb_ok (fun hc => ?_) (fun hc => ?_))
          | refine x_ret ?_
          | refine x_nor ?_
          | exact x_le)
      all_goals first | rfl | skip
    · skip
      repeat' (first
          | with_reducible first | refine awp_seq ?_ | refine awp_region ?_ | refine awp_draw mixed ?_ | refine then_n ?_ | refine awp_skip ?_ | refine awp_block ?_ | refine awp_exit ?_ | refine awp_ret ?_ | refine awp_label ?_ | refine then_exit ?_ | refine then_ret ?_ | refine blk_n ?_ | refine blk_ret ?_ | refine blk_exit ?_ | refine blk_other rfl ?_ | refine then_k ?_
          | refine awp_true rfl ?_
          | refine awp_false rfl ?_
          | refine awp_split rfl (fun hb => ?_) (fun hb => ?_)
          | (refine isR ?_; first | refine x_far [107, 166] tb_ok rfl ?_ | refine r_nil ?_ | refine r_nild (by kernel_rfl) ?_ | refine x_call (c7 _) ?_ | refine x_call (c7) ?_ | refine x_call (c8 _) ?_ | refine x_call (c8) ?_ | refine x_call (c9 _) ?_ | refine x_call (c9) ?_ | refine x_call (c10 _) ?_ | refine x_call (c10) ?_ | refine x_call (d1 _) ?_ | refine x_call (d1) ?_ | refine x_callz [4] (d2 _) ?_ | refine x_callz [4] (d2) ?_ | refine x_callz [8] (d3 _) ?_ | refine x_callz [8] (d3) ?_ | refine x_appK strT (L := []) (K' := L) tb_ok ?_ | refine x_app strT (a1 := (s)) tb_ok ?_ | refine x_app strT (a1 := (nx)) tb_ok ?_ | refine x_bsO 107 tb_ok ?_ | refine x_bsO 166 tb_ok ?_ | refine x_bs tb_ok ?_ | refine x_addE ?_ | refine x_add ?_ | refine x_subE ?_ | refine x_sub ?_ | refine x_cat ?_ | refine x_lenF tb_ok ?_ | refine x_lenO tb_ok ?_ | refine x_lenN tb_ok ?_ | refine x_lenS ?_ | refine x_lssT ?_ | refine x_lssF ?_ | refine x_lss (fun hc => ?_) (fun hc => ?_) | refine x_leqT ?_ | refine x_leqF ?_ | refine x_leq (fun hc => ?_) (fun hc => ?_) | refine x_geqT ?_ | refine x_geqF ?_ | refine x_geq (fun hc => ?_) (fun hc => ?_) | refine x_eqlT ?_ | refine x_eqlF ?_ | refine x_eql (fun hc => ?_) (fun hc => ?_) | refine x_neqT ?_ | refine x_neqF ?_ | refine x_neq (fun hc => ?_) (fun hc => ?_) | refine x_eqlB ?_ | refine x_eqlST ?_ | refine x_eqlSF ?_ | refine x_eqlS (fun hc => ?_) (fun hc => ?_) | refine x_eqlI ?_ | refine x_eqlN ?_ | refine x_neqB ?_ | refine x_neqST ?_ | refine x_neqSF ?_ | refine x_neqS (fun hc => ?_) (fun hc => ?_) | refine x_neqI ?_ | refine x_neqN ?_ | refine x_iaF tb_ok ?_ | refine x_iaO tb_ok ?_ | refine x_iaA tb_ok ?_ | refine x_iaAF tb_ok ?_ | refine x_eqlA tb_ok ?_ | refine x_eqlAS tb_ok (fun hc => ?_) (fun hc => ?_) | refine x_neqA tb_ok ?_ | refine x_neqAS tb_ok (fun hc => ?_) (fun hc => ?_))
          | refine x_ret ?_
          | refine x_nor ?_
          | exact x_le)
      all_goals first | rfl | skip
theorem err_is {d : Disk} {t m : Nat} {s : List UInt8} (h : Log d t m) (h0 : (stepsF d s).2 ≠ 0) : (stepsF d s).2 = 2 := by
  unfold stepsF at h0 ⊢
  rw [h.count] at h0 ⊢
  rw [if_neg (by simp)] at h0 ⊢
  dsimp only at h0 ⊢
  split
  · rfl
  · rename_i hn
    rw [if_neg hn] at h0
    exact absurd rfl h0
/-- Behind a crash it goes on. -/
theorem next_v {K L : List (List UInt8)} {t m : Nat} {nx : List UInt8} (h : Log ⟨K, []⟩ t m) (hL : (K.drop 2).take m = L) : ITEMS K L ∧ NEXT K L nx := by
  have c2 := items_v (d := ⟨K, []⟩)
  rw [h.items, hL] at c2
  refine ⟨c2, ?_⟩
  have c1 := append_v (d := ⟨K, []⟩) (s := nx)
  by_cases h0 : (appendF ⟨K, []⟩ nx).2 = 0
  · obtain ⟨t', k, hL', h1, h2, h3, _⟩ := steps_ok (append_ok ▸ h0)
    obtain ⟨_, g2, g3⟩ := append_log hL' h1 h2 h3
    have c3 := items_v (d := (appendF ⟨K, []⟩ nx).1)
    have e3 : (itemsF (appendF ⟨K, []⟩ nx).1) = ((itemsF ⟨K, []⟩).1 ++ [nx], 0) := by rw [← g3, g2.items]
    rw [e3, h.items, hL] at c3
    have hw := g2.wt
    rw [h0] at c1
    generalize (appendF ⟨K, []⟩ nx).1 = a at *
    obtain ⟨K3, W3⟩ := a
    dsimp only at hw
    subst hw
    exact .inr ⟨K3, c1, c3⟩
  · have hne : (stepsF ⟨K, []⟩ nx).2 ≠ 0 := append_ok ▸ h0
    rw [append_no h0, err_is h hne] at c1
    exact .inl c1
set_option maxRecDepth 100000 in
set_option maxHeartbeats 4000000 in
theorem whole_law {d : Disk} {k m : Int} {fl : Bool} {s nx : List UInt8} (hm : InR .u64 m) : ACallsG Tryd.prog gBoth 6 [d.v, strT s, .int .i64 k, .bool fl, .int .u64 m, strT nx] (.bool true) := by
  obtain ⟨m, rfl⟩ : ∃ k : Nat, m = (k : Int) := ⟨m.toNat, by have := hm.1; simp only [rng] at this; omega⟩
  have hm : m < 18446744073709551616 := by have := hm.2; simp only [rng] at this; omega
  have c0 := begun_v
  have c1 := steps_v (d := d) (s := s)
  have c2 := items_v (d := d)
  by_cases h0 : (stepsF d s).2 = 0
  · obtain ⟨t, n, hL, h1, h2, h3, h4⟩ := steps_ok h0
    rw [h4] at c1
    rw [hL.items] at c2
    have hl : ((d.kept.drop 2).take n).length ≤ 40 := by
      obtain ⟨b1, _⟩ := disk_bd hL
      rw [List.length_take, List.length_drop]; omega
    obtain ⟨K, W⟩ := d
    have hW : W = [] := hL.wt
    subst hW
    have c1 : STEPS K s (2 + n) ((t + 1) % 2) (txt (t + 1) (n + 1)) := c1
    have c2 : ITEMS K ((K.drop 2).take n) := c2
    show ACallsG _ _ _ [kD K, strT s, .int .i64 k, .bool fl, .int .u64 (m : Int), strT nx] _
    dsimp only at h2 hl
    by_cases k1 : k < 0
    · clear h4 h0 hL h1 h2 h3
      refine funG6 tb_ok Tryd.func6 rfl Tryd.ntmps6 Tryd.results6 rfl fun N => ?_
      repeat' (first
          | with_reducible first | refine awp_seq ?_ | refine awp_region ?_ | refine awp_draw mixed ?_ | refine then_n ?_ | refine awp_skip ?_ | refine awp_block ?_ | refine awp_exit ?_ | refine awp_ret ?_ | refine awp_label ?_ | refine then_exit ?_ | refine then_ret ?_ | refine blk_n ?_ | refine blk_ret ?_ | refine blk_exit ?_ | refine blk_other rfl ?_ | refine then_k ?_
          | refine awp_true rfl ?_
          | refine awp_false rfl ?_
          | refine awp_split rfl (fun hb => ?_) (fun hb => ?_)
          | (refine isR ?_; first | refine x_far [] tb_ok rfl ?_ | refine r_nil ?_ | refine r_nild (by kernel_rfl) ?_ | refine x_call (c0 _) ?_ | refine x_call (c0) ?_ | refine x_call (c1 _) ?_ | refine x_call (c1) ?_ | refine x_call (c2 _) ?_ | refine x_call (c2) ?_ | refine x_bs tb_ok ?_ | refine x_addE ?_ | refine x_add ?_ | refine x_subE ?_ | refine x_sub ?_ | refine x_cat ?_ | refine x_lenF tb_ok ?_ | refine x_lenO tb_ok ?_ | refine x_lenN tb_ok ?_ | refine x_lenS ?_ | refine x_lssT ?_ | refine x_lssF ?_ | refine x_lss (fun hc => ?_) (fun hc => ?_) | refine x_leqT ?_ | refine x_leqF ?_ | refine x_leq (fun hc => ?_) (fun hc => ?_) | refine x_geqT ?_ | refine x_geqF ?_ | refine x_geq (fun hc => ?_) (fun hc => ?_) | refine x_eqlT ?_ | refine x_eqlF ?_ | refine x_eql (fun hc => ?_) (fun hc => ?_) | refine x_neqT ?_ | refine x_neqF ?_ | refine x_neq (fun hc => ?_) (fun hc => ?_) | refine x_eqlB ?_ | refine x_eqlST ?_ | refine x_eqlSF ?_ | refine x_eqlS (fun hc => ?_) (fun hc => ?_) | refine x_eqlI ?_ | refine x_eqlN ?_ | refine x_neqB ?_ | refine x_neqST ?_ | refine x_neqSF ?_ | refine x_neqS (fun hc => ?_) (fun hc => ?_) | refine x_neqI ?_ | refine x_neqN ?_ | refine x_iaF tb_ok ?_ | refine x_iaO tb_ok ?_ | refine x_iaA tb_ok ?_ | refine x_iaAF tb_ok ?_ | refine x_eqlA tb_ok ?_ | refine x_eqlAS tb_ok (fun hc => ?_) (fun hc => ?_) | refine x_neqA tb_ok ?_ | refine x_neqAS tb_ok (fun hc => ?_) (fun hc => ?_))
          | refine x_ret ?_
          | refine x_nor ?_
          | exact x_le)
      all_goals first | rfl | skip
    · by_cases k2 : 2 ≤ k
      · clear h4 h0 hL h1 h2 h3
        have hz : (([V.agg [.int .i64 ((2 + n : Nat) : Int), strT s], V.agg [.int .i64 (((t + 1) % 2 : Nat) : Int), strT (txt (t + 1) (n + 1))]] : List Abs.V).length : Int) = 2 := rfl
        refine funG6 tb_ok Tryd.func6 rfl Tryd.ntmps6 Tryd.results6 rfl fun N => ?_
        repeat' (first
            | with_reducible first | refine awp_seq ?_ | refine awp_region ?_ | refine awp_draw mixed ?_ | refine then_n ?_ | refine awp_skip ?_ | refine awp_block ?_ | refine awp_exit ?_ | refine awp_ret ?_ | refine awp_label ?_ | refine then_exit ?_ | refine then_ret ?_ | refine blk_n ?_ | refine blk_ret ?_ | refine blk_exit ?_ | refine blk_other rfl ?_ | refine then_k ?_
            | refine awp_true rfl ?_
            | refine awp_false rfl ?_
            | refine awp_split rfl (fun hb => ?_) (fun hb => ?_)
            | (refine isR ?_; first | refine x_far [] tb_ok rfl ?_ | refine r_nil ?_ | refine r_nild (by kernel_rfl) ?_ | refine x_call (c0 _) ?_ | refine x_call (c0) ?_ | refine x_call (c1 _) ?_ | refine x_call (c1) ?_ | refine x_call (c2 _) ?_ | refine x_call (c2) ?_ | refine x_bs tb_ok ?_ | refine x_addE ?_ | refine x_add ?_ | refine x_subE ?_ | refine x_sub ?_ | refine x_cat ?_ | refine x_lenF tb_ok ?_ | refine x_lenO tb_ok ?_ | refine x_lenN tb_ok ?_ | refine x_lenS ?_ | refine x_lssT ?_ | refine x_lssF ?_ | refine x_lss (fun hc => ?_) (fun hc => ?_) | refine x_leqT ?_ | refine x_leqF ?_ | refine x_leq (fun hc => ?_) (fun hc => ?_) | refine x_geqT ?_ | refine x_geqF ?_ | refine x_geq (fun hc => ?_) (fun hc => ?_) | refine x_eqlT ?_ | refine x_eqlF ?_ | refine x_eql (fun hc => ?_) (fun hc => ?_) | refine x_neqT ?_ | refine x_neqF ?_ | refine x_neq (fun hc => ?_) (fun hc => ?_) | refine x_eqlB ?_ | refine x_eqlST ?_ | refine x_eqlSF ?_ | refine x_eqlS (fun hc => ?_) (fun hc => ?_) | refine x_eqlI ?_ | refine x_eqlN ?_ | refine x_neqB ?_ | refine x_neqST ?_ | refine x_neqSF ?_ | refine x_neqS (fun hc => ?_) (fun hc => ?_) | refine x_neqI ?_ | refine x_neqN ?_ | refine x_iaF tb_ok ?_ | refine x_iaO tb_ok ?_ | refine x_iaA tb_ok ?_ | refine x_iaAF tb_ok ?_ | refine x_eqlA tb_ok ?_ | refine x_eqlAS tb_ok (fun hc => ?_) (fun hc => ?_) | refine x_neqA tb_ok ?_ | refine x_neqAS tb_ok (fun hc => ?_) (fun hc => ?_))
            | refine x_ret ?_
            | refine x_nor ?_
            | exact x_le)
        all_goals first | rfl | skip
      · have L1 := hL.lay (p := 2 + n) h1 (by omega)
        have L2 := L1.next (j := (t + 1) % 2) h3 (by simpa using h2) (Nat.mod_lt _ (by decide))
        have hw : (txt (t + 1) (n + 1)).length ≤ 20000 := by
          obtain ⟨_, b2, b3, _⟩ := disk_bd hL
          exact Nat.le_trans (txt_len (by omega) (by omega)) (by decide)
        have hq : (t + 1) % 2 < (K.set (2 + n) s).length := by rw [List.length_set]; omega
        obtain ⟨c3, c4⟩ := put_v (p := 2 + n) hL (by show 2 + n < K.length; omega) h1
        obtain ⟨c5, c6⟩ := put_v (p := (t + 1) % 2) L1 hq hw
        have i1 : ((K.set (2 + n) s).drop 2).take n = (K.drop 2).take n := take_set K n (2 + n) s (by omega)
        have i2 : (((K.set (2 + n) s).set ((t + 1) % 2) (txt (t + 1) (n + 1))).drop 2).take (n + 1) = (K.drop 2).take n ++ [s] := by rw [take_head _ _ _ _ (Nat.mod_lt _ (by decide)), take_more _ _ _ h2]
        have x1 := crash_v (d := ⟨K.set (2 + n) s, []⟩) hm
        rw [crash_none L1.ck rfl] at x1
        have x2 := crash_v (d := ⟨(K.set (2 + n) s).set ((t + 1) % 2) (txt (t + 1) (n + 1)), []⟩) hm
        rw [crash_none L2.ck rfl] at x2
        have x3 := crash_v (d := ⟨K, [⟨((2 + n : Nat) : Int), s⟩]⟩) hm
        rw [crash_one (one_ok hL (by omega) (by show ((2 + n : Nat) : Int) < (K.length : Int); omega) h1)] at x3
        have x4 := crash_v (d := ⟨K.set (2 + n) s, [⟨(((t + 1) % 2 : Nat) : Int), txt (t + 1) (n + 1)⟩]⟩) hm
        rw [crash_one (one_ok L1 (by omega) (by show (((t + 1) % 2 : Nat) : Int) < (((K.set (2 + n) s).length : Nat) : Int); omega) hw)] at x4
        have n0 := next_v (nx := nx) hL rfl
        have n1 := next_v (nx := nx) L1 i1
        have n2 := next_v (nx := nx) L2 i2
        obtain rfl | rfl : k = 0 ∨ k = 1 := by omega
        · cases fl with
          | true => exact walk0t c1 c2 c3 c4 x1 n1.1 n1.2 hl
          | false =>
            cases hb : bitF m 0 with
            | true => rw [hb] at x3; exact walk0f c1 c2 c3 x3 n1.1 n1.2 hl
            | false => rw [hb] at x3; exact walk0f c1 c2 c3 x3 n0.1 n0.2 hl
        · cases fl with
          | true => exact walk1tm c1 c2 c3 c4 c5 c6 x2 n2.1 n2.2 hl
          | false =>
            cases hb : bitF m 0 with
            | true => rw [hb] at x4; exact walk1fm c1 c2 c3 c4 c5 x4 n2.1 n2.2 hl
            | false => rw [hb] at x4; exact walk1f c1 c2 c3 c4 c5 x4 n1.1 n1.2 hl
  · generalize (itemsF d) = r at *
    generalize (stepsF d s) = q at *
    obtain ⟨l, e⟩ := q
    obtain ⟨L, f⟩ := r
    dsimp only at h0 c1 c2
    obtain ⟨K, W⟩ := d
    dsimp only [Disk.v] at *
    refine funG6 tb_ok Tryd.func6 rfl Tryd.ntmps6 Tryd.results6 rfl fun N => ?_
    repeat' (first
        | with_reducible first | refine awp_seq ?_ | refine awp_region ?_ | refine awp_draw mixed ?_ | refine then_n ?_ | refine awp_skip ?_ | refine awp_block ?_ | refine awp_exit ?_ | refine awp_ret ?_ | refine awp_label ?_ | refine then_exit ?_ | refine then_ret ?_ | refine blk_n ?_ | refine blk_ret ?_ | refine blk_exit ?_ | refine blk_other rfl ?_ | refine then_k ?_
        | refine awp_true rfl ?_
        | refine awp_false rfl ?_
        | refine awp_split rfl (fun hb => ?_) (fun hb => ?_)
        | (refine isR ?_; first | refine x_far [] tb_ok rfl ?_ | refine r_nil ?_ | refine r_nild (by kernel_rfl) ?_ | refine x_call (c0 _) ?_ | refine x_call (c0) ?_ | refine x_call (c1 _) ?_ | refine x_call (c1) ?_ | refine x_call (c2 _) ?_ | refine x_call (c2) ?_ | refine x_bs tb_ok ?_ | refine x_addE ?_ | refine x_add ?_ | refine x_subE ?_ | refine x_sub ?_ | refine x_cat ?_ | refine x_lenF tb_ok ?_ | refine x_lenO tb_ok ?_ | refine x_lenN tb_ok ?_ | refine x_lenS ?_ | refine x_lssT ?_ | refine x_lssF ?_ | refine x_lss (fun hc => ?_) (fun hc => ?_) | refine x_leqT ?_ | refine x_leqF ?_ | refine x_leq (fun hc => ?_) (fun hc => ?_) | refine x_geqT ?_ | refine x_geqF ?_ | refine x_geq (fun hc => ?_) (fun hc => ?_) | refine x_eqlT ?_ | refine x_eqlF ?_ | refine x_eql (fun hc => ?_) (fun hc => ?_) | refine x_neqT ?_ | refine x_neqF ?_ | refine x_neq (fun hc => ?_) (fun hc => ?_) | refine x_eqlB ?_ | refine x_eqlST ?_ | refine x_eqlSF ?_ | refine x_eqlS (fun hc => ?_) (fun hc => ?_) | refine x_eqlI ?_ | refine x_eqlN ?_ | refine x_neqB ?_ | refine x_neqST ?_ | refine x_neqSF ?_ | refine x_neqS (fun hc => ?_) (fun hc => ?_) | refine x_neqI ?_ | refine x_neqN ?_ | refine x_iaF tb_ok ?_ | refine x_iaO tb_ok ?_ | refine x_iaA tb_ok ?_ | refine x_iaAF tb_ok ?_ | refine x_eqlA tb_ok ?_ | refine x_eqlAS tb_ok (fun hc => ?_) (fun hc => ?_) | refine x_neqA tb_ok ?_ | refine x_neqAS tb_ok (fun hc => ?_) (fun hc => ?_))
        | refine x_ret ?_
        | refine x_nor ?_
        | exact x_le)
    all_goals first | rfl | skip
theorem whole_all {d : Disk} {k m : Int} {fl : Bool} {s nx : List UInt8} : ACallsG Tryd.prog gBoth 6 [d.v, strT s, .int .i64 k, .bool fl, .int .u64 m, strT nx] (.bool true) := ACallsG.lim fun hl => whole_law hl.2.2.2.2.1
end Go.Proofs.YtdimidhacccdjaaDoor.DiskM
