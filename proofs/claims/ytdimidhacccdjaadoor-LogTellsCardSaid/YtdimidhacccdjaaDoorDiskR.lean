/- The document's log: a new disk; a text more; the law. -/
import Derived.Test.YtdimidhacccdjaaDoorDiskQ
import Derived.Test.YtdimidhacccdjaaDoorDiskL
namespace Go.Proofs.YtdimidhacccdjaaDoor.DiskR
open Go.RowKit Mem Abs TreeW NumP WordS DiskP DiskA DiskB DiskC DiskG DiskN DiskQ

set_option maxRecDepth 100000 in
set_option maxHeartbeats 4000000 in
theorem newDisk_v {n : Int} : ACalls Tryd.prog 20 [.int .i64 n] (.tup [(newF n).1.v, .int .i64 (newF n).2]) := by
  unfold newF
  by_cases h1 : n < 3
  · rw [if_pos (.inl h1)]
    refine ACalls.nfd (r := .tup [zD, .int .i64 3]) ?_ rfl
    refine fun1 tb_ok Tryd.func20 rfl Tryd.ntmps20 Tryd.results20 rfl fun N => ?_
    repeat' (first
        | with_reducible first | refine awp_seq ?_ | refine awp_region ?_ | refine awp_draw mixed ?_ | refine then_n ?_ | refine awp_skip ?_ | refine awp_block ?_ | refine awp_exit ?_ | refine awp_ret ?_ | refine awp_label ?_ | refine then_exit ?_ | refine then_ret ?_ | refine blk_n ?_ | refine blk_ret ?_ | refine blk_exit ?_ | refine blk_other rfl ?_ | refine then_k ?_
        | refine awp_true rfl ?_
        | refine awp_false rfl ?_
        | refine awp_split rfl (fun hb => ?_) (fun hb => ?_)
        | (refine isR ?_; first | refine x_far [] tb_ok rfl ?_ | refine r_nil ?_ | refine r_nild (by kernel_rfl) ?_ | refine x_bs tb_ok ?_ | refine x_lenF tb_ok ?_ | refine x_lenO tb_ok ?_ | refine x_lenN tb_ok ?_ | refine x_lenS ?_ | refine x_lssT ?_ | refine x_lssF ?_ | refine x_lss (fun hc => ?_) (fun hc => ?_) | refine x_gtrT ?_ | refine x_gtrF ?_ | refine x_gtr (fun hc => ?_) (fun hc => ?_))
        | refine x_ret ?_
        | refine x_nor ?_
        | exact x_le)
    rfl
  · by_cases h2 : 40 < n
    · rw [if_pos (.inr h2)]
      refine ACalls.nfd (r := .tup [zD, .int .i64 3]) ?_ rfl
      refine fun1 tb_ok Tryd.func20 rfl Tryd.ntmps20 Tryd.results20 rfl fun N => ?_
      repeat' (first
          | with_reducible first | refine awp_seq ?_ | refine awp_region ?_ | refine awp_draw mixed ?_ | refine then_n ?_ | refine awp_skip ?_ | refine awp_block ?_ | refine awp_exit ?_ | refine awp_ret ?_ | refine awp_label ?_ | refine then_exit ?_ | refine then_ret ?_ | refine blk_n ?_ | refine blk_ret ?_ | refine blk_exit ?_ | refine blk_other rfl ?_ | refine then_k ?_
          | refine awp_true rfl ?_
          | refine awp_false rfl ?_
          | refine awp_split rfl (fun hb => ?_) (fun hb => ?_)
          | (refine isR ?_; first | refine x_far [] tb_ok rfl ?_ | refine r_nil ?_ | refine r_nild (by kernel_rfl) ?_ | refine x_bs tb_ok ?_ | refine x_lenF tb_ok ?_ | refine x_lenO tb_ok ?_ | refine x_lenN tb_ok ?_ | refine x_lenS ?_ | refine x_lssT ?_ | refine x_lssF ?_ | refine x_lss (fun hc => ?_) (fun hc => ?_) | refine x_gtrT ?_ | refine x_gtrF ?_ | refine x_gtr (fun hc => ?_) (fun hc => ?_))
          | refine x_ret ?_
          | refine x_nor ?_
          | exact x_le)
      rfl
    · rw [if_neg (by omega), DiskF.t00]
      obtain ⟨m, rfl⟩ : ∃ m : Nat, n = ((m + 1 : Nat) : Int) := ⟨n.toNat - 1, by omega⟩
      rw [Int.toNat_natCast, Nat.add_sub_cancel]
      refine ACalls.nfd (r := .tup [.agg [.fro ((([48, 59, 48, 59] : List UInt8) :: List.replicate m ([] : List UInt8)).map strT), .nils], .int .i64 0]) ?_ rfl
      refine fun1 tb_ok Tryd.func20 rfl Tryd.ntmps20 Tryd.results20 rfl fun N => ?_
      repeat' (first
          | with_reducible first | refine awp_seq ?_ | refine awp_region ?_ | refine awp_draw mixed ?_ | refine then_n ?_ | refine awp_skip ?_ | refine awp_block ?_ | refine awp_exit ?_ | refine awp_ret ?_ | refine awp_label ?_ | refine then_exit ?_ | refine then_ret ?_ | refine blk_n ?_ | refine blk_ret ?_ | refine blk_exit ?_ | refine blk_other rfl ?_ | refine then_k ?_
          | refine awp_true rfl ?_
          | refine awp_false rfl ?_
          | refine awp_split rfl (fun hb => ?_) (fun hb => ?_)
          | (refine isR ?_; first | refine x_far [12] tb_ok rfl ?_ | refine r_nil ?_ | refine r_nild (by kernel_rfl) ?_ | refine x_bsO 12 tb_ok ?_ | refine x_bs tb_ok ?_ | refine x_lenF tb_ok ?_ | refine x_lenO tb_ok ?_ | refine x_lenN tb_ok ?_ | refine x_lenS ?_ | refine x_lssT ?_ | refine x_lssF ?_ | refine x_lss (fun hc => ?_) (fun hc => ?_) | refine x_gtrT ?_ | refine x_gtrF ?_ | refine x_gtr (fun hc => ?_) (fun hc => ?_))
          | refine x_ret ?_
          | refine x_nor ?_
          | exact x_le)
      refine awp_forN (fun k => ⟨[(0, .int .i64 ((m + 1 : Nat) : Int)), (2, .loc 0 0 0), (4, .loc 2 0 0)], [(0, some (.els TD 2 [zD])), (1, some (.els TS 1 ((([48, 59, 48, 59] : List UInt8) :: List.replicate k ([] : List UInt8)).map strT))), (2, some (.els TD 2 [.agg [.own 1 0 (([48, 59, 48, 59] : List UInt8) :: List.replicate k ([] : List UInt8)).length, .nils]]))], 3, 25⟩) (fun k => k ≤ m) m 0 (by exact x_le) (Nat.zero_le _) ?_
      intro k hk
      have hl : (([48, 59, 48, 59] : List UInt8) :: List.replicate k ([] : List UInt8)).length = k + 1 := by simp
      by_cases hk2 : k < m
      · have e : ([48, 59, 48, 59] : List UInt8) :: List.replicate (k + 1) ([] : List UInt8) = (([48, 59, 48, 59] : List UInt8) :: List.replicate k []) ++ [[]] := by rw [List.replicate_succ']; rfl
        simp only [e]
        generalize ([48, 59, 48, 59] : List UInt8) :: List.replicate k ([] : List UInt8) = L at *
        have hl2 : (L ++ [[]]).length = k + 2 := by simp [hl]
        repeat' (first
            | with_reducible first | refine awp_seq ?_ | refine awp_region ?_ | refine awp_draw mixed ?_ | refine then_n ?_ | refine awp_skip ?_ | refine awp_block ?_ | refine awp_exit ?_ | refine awp_ret ?_ | refine awp_label ?_ | refine then_exit ?_ | refine then_ret ?_ | refine blk_n ?_ | refine blk_ret ?_ | refine blk_exit ?_ | refine blk_other rfl ?_ | refine then_k ?_
            | refine awp_true rfl ?_
            | refine awp_false rfl ?_
            | refine awp_split rfl (fun hb => ?_) (fun hb => ?_)
            | (refine isR ?_; first | refine x_far [] tb_ok rfl ?_ | refine r_nil ?_ | refine r_nild (by kernel_rfl) ?_ | refine x_app strT (a1 := ([])) tb_ok ?_ | refine x_bs tb_ok ?_ | refine x_lenF tb_ok ?_ | refine x_lenO tb_ok ?_ | refine x_lenN tb_ok ?_ | refine x_lenS ?_ | refine x_lssT ?_ | refine x_lssF ?_ | refine x_lss (fun hc => ?_) (fun hc => ?_) | refine x_gtrT ?_ | refine x_gtrF ?_ | refine x_gtr (fun hc => ?_) (fun hc => ?_))
            | refine x_ret ?_
            | refine x_nor ?_
            | exact x_le)
        refine ⟨by omega, by omega, ?_⟩
        exact (by exact x_len [0,3,2])
      · obtain rfl : k = m := by omega
        generalize ([48, 59, 48, 59] : List UInt8) :: List.replicate k ([] : List UInt8) = L at *
        repeat' (first
            | with_reducible first | refine awp_seq ?_ | refine awp_region ?_ | refine awp_draw mixed ?_ | refine then_n ?_ | refine awp_skip ?_ | refine awp_block ?_ | refine awp_exit ?_ | refine awp_ret ?_ | refine awp_label ?_ | refine then_exit ?_ | refine then_ret ?_ | refine blk_n ?_ | refine blk_ret ?_ | refine blk_exit ?_ | refine blk_other rfl ?_ | refine then_k ?_
            | refine awp_true rfl ?_
            | refine awp_false rfl ?_
            | refine awp_split rfl (fun hb => ?_) (fun hb => ?_)
            | (refine isR ?_; first | refine x_far [] tb_ok rfl ?_ | refine r_nil ?_ | refine r_nild (by kernel_rfl) ?_ | refine x_bs tb_ok ?_ | refine x_lenF tb_ok ?_ | refine x_lenO tb_ok ?_ | refine x_lenN tb_ok ?_ | refine x_lenS ?_ | refine x_lssT ?_ | refine x_lssF ?_ | refine x_lss (fun hc => ?_) (fun hc => ?_) | refine x_gtrT ?_ | refine x_gtrF ?_ | refine x_gtr (fun hc => ?_) (fun hc => ?_))
            | refine x_ret ?_
            | refine x_nor ?_
            | exact x_le)
        show V.tup [V.agg [V.fro (List.take L.length (List.drop 0 (L.map strT))), _], _] = _
        rw [full]
set_option maxRecDepth 100000 in
set_option maxHeartbeats 4000000 in
theorem logAppend_v {d : Disk} {s : List UInt8} : ACalls Tryd.prog 23 [d.v, strT s] (.tup [(appendF d s).1.v, .int .i64 (appendF d s).2]) := by
  have c1 := logSteps_v (d := d) (s := s)
  by_cases h0 : (stepsF d s).2 = 0
  · obtain ⟨t, m, hL, h1, h2, h3, h4⟩ := steps_ok h0
    have hA := (append_log hL h1 h2 h3).1
    rw [hA]
    rw [h4] at c1
    obtain ⟨l1, l2, l3, l4⟩ := DiskE.disk_bd hL
    obtain ⟨K, W⟩ := d
    have hW : W = [] := hL.wt
    subst hW
    dsimp only at h2 l1 l4 ⊢
    have hp : 2 + m < K.length := by omega
    have hq : (t + 1) % 2 < K.length := by omega
    clear hA h4 h0 hL l2 l3 l4 h1 h2 h3
    generalize txt (t + 1) (m + 1) = w at *
    generalize (t + 1) % 2 = q at *
    generalize 2 + m = p at *
    have c1 : ACalls Tryd.prog 22 [.agg [.fro (K.map strT), .fro []], strT s] (.tup [.fro [.agg [.int .i64 (p : Int), strT s], .agg [.int .i64 (q : Int), strT w]], .int .i64 0]) := c1
    refine ACalls.nfd (r := .tup [.agg [.fro (((K.set p s).set q w).map strT), .nils], .int .i64 0]) ?_ rfl
    show ACalls _ _ [.agg [.fro (K.map strT), .fro []], strT s] _
    have e0 : [V.agg [.int .i64 (p : Int), strT s], V.agg [.int .i64 (q : Int), strT w]][0]? = some (V.agg [.int .i64 (p : Int), strT s]) := rfl
    have e1 : [V.agg [.int .i64 (p : Int), strT s], V.agg [.int .i64 (q : Int), strT w]][1]? = some (V.agg [.int .i64 (q : Int), strT w]) := rfl
    have hz : (([V.agg [.int .i64 (p : Int), strT s], V.agg [.int .i64 (q : Int), strT w]] : List Abs.V).length : Int) = 2 := rfl
    have hx : (([] : List (List UInt8)) ++ K).length = K.length := rfl
    have hk1 : (K.set p s).length = K.length := List.length_set ..
    have hk2 : ((K.set p s).set q w).length = K.length := by rw [List.length_set, List.length_set]
    have z0 : K[p]? = some K[p] := List.getElem?_eq_getElem hp
    have z1 : (K.set p s)[q]? = some ((K.set p s)[q]'(by omega)) := List.getElem?_eq_getElem _
    generalize K[p] = y0 at *
    generalize (K.set p s)[q]'(by omega) = y1 at *
    refine fun2 tb_ok Tryd.func23 rfl Tryd.ntmps23 Tryd.results23 rfl fun N => ?_
    repeat' (first
        | with_reducible first | refine awp_seq ?_ | refine awp_region ?_ | refine awp_draw mixed ?_ | refine then_n ?_ | refine awp_skip ?_ | refine awp_block ?_ | refine awp_exit ?_ | refine awp_ret ?_ | refine awp_label ?_ | refine then_exit ?_ | refine then_ret ?_ | refine blk_n ?_ | refine blk_ret ?_ | refine blk_exit ?_ | refine blk_other rfl ?_ | refine then_k ?_
        | refine awp_true rfl ?_
        | refine awp_false rfl ?_
        | refine awp_split rfl (fun hb => ?_) (fun hb => ?_)
        | (refine isR ?_; first | refine x_far [20] tb_ok rfl ?_ | refine r_nil ?_ | refine r_nild (by kernel_rfl) ?_ | refine x_call (c1 _) ?_ | refine x_call (c1) ?_ | refine x_appK strT (L := []) (K' := K) tb_ok ?_ | refine x_bsO 20 tb_ok ?_ | refine x_bs tb_ok ?_ | refine x_addE ?_ | refine x_add ?_ | refine x_cat ?_ | refine x_lenF tb_ok ?_ | refine x_lenO tb_ok ?_ | refine x_lenN tb_ok ?_ | refine x_lenS ?_ | refine x_lssT ?_ | refine x_lssF ?_ | refine x_lss (fun hc => ?_) (fun hc => ?_) | refine x_neqT ?_ | refine x_neqF ?_ | refine x_neq (fun hc => ?_) (fun hc => ?_) | refine x_neqB ?_ | refine x_neqST ?_ | refine x_neqSF ?_ | refine x_neqS (fun hc => ?_) (fun hc => ?_) | refine x_neqI ?_ | refine x_neqN ?_ | refine x_iaF tb_ok ?_ | refine x_iaO tb_ok ?_ | refine x_iaA tb_ok ?_ | refine x_iaAF tb_ok ?_ | refine x_neqA tb_ok ?_ | refine x_neqAS tb_ok (fun hc => ?_) (fun hc => ?_))
        | refine x_ret ?_
        | refine x_nor ?_
        | exact x_le)
    refine awp_for (fun k => ⟨[(4, .loc 0 0 0), (6, .fro [.agg [.int .i64 (p : Int), strT s], .agg [.int .i64 (q : Int), strT w]]), (8, .own 2 0 K.length), (9, .int .i64 (k : Int))], [(0, some (.els TD 2 [zD])), (1, none), (2, some (.els TS 1 ((if k = 0 then K else if k = 1 then K.set p s else (K.set p s).set q w).map strT)))], 3, 44⟩) (fun k => k ≤ 2) 2 0 (by exact x_le) (by decide) ?_
    intro k hk
    obtain rfl | rfl | rfl : k = 0 ∨ k = 1 ∨ k = 2 := by omega
    · skip
      repeat' (first
          | with_reducible first | refine awp_seq ?_ | refine awp_region ?_ | refine awp_draw mixed ?_ | refine then_n ?_ | refine awp_skip ?_ | refine awp_block ?_ | refine awp_exit ?_ | refine awp_ret ?_ | refine awp_label ?_ | refine then_exit ?_ | refine then_ret ?_ | refine blk_n ?_ | refine blk_ret ?_ | refine blk_exit ?_ | refine blk_other rfl ?_ | refine then_k ?_
          | refine awp_true rfl ?_
          | refine awp_false rfl ?_
          | refine awp_split rfl (fun hb => ?_) (fun hb => ?_)
          | (refine isR ?_; first | refine x_far [] tb_ok rfl ?_ | refine r_nil ?_ | refine r_nild (by kernel_rfl) ?_ | refine x_stI strT (a1 := s) p tb_ok ?_ | refine x_bs tb_ok ?_ | refine x_addE ?_ | refine x_add ?_ | refine x_cat ?_ | refine x_lenF tb_ok ?_ | refine x_lenO tb_ok ?_ | refine x_lenN tb_ok ?_ | refine x_lenS ?_ | refine x_lssT ?_ | refine x_lssF ?_ | refine x_lss (fun hc => ?_) (fun hc => ?_) | refine x_neqT ?_ | refine x_neqF ?_ | refine x_neq (fun hc => ?_) (fun hc => ?_) | refine x_neqB ?_ | refine x_neqST ?_ | refine x_neqSF ?_ | refine x_neqS (fun hc => ?_) (fun hc => ?_) | refine x_neqI ?_ | refine x_neqN ?_ | refine x_iaF tb_ok ?_ | refine x_iaO tb_ok ?_ | refine x_iaA tb_ok ?_ | refine x_iaAF tb_ok ?_ | refine x_neqA tb_ok ?_ | refine x_neqAS tb_ok (fun hc => ?_) (fun hc => ?_))
          | refine x_ret ?_
          | refine x_nor ?_
          | exact x_le)
      refine ⟨by omega, by omega, ?_⟩
      exact (by exact x_le)
    · skip
      repeat' (first
          | with_reducible first | refine awp_seq ?_ | refine awp_region ?_ | refine awp_draw mixed ?_ | refine then_n ?_ | refine awp_skip ?_ | refine awp_block ?_ | refine awp_exit ?_ | refine awp_ret ?_ | refine awp_label ?_ | refine then_exit ?_ | refine then_ret ?_ | refine blk_n ?_ | refine blk_ret ?_ | refine blk_exit ?_ | refine blk_other rfl ?_ | refine then_k ?_
          | refine awp_true rfl ?_
          | refine awp_false rfl ?_
          | refine awp_split rfl (fun hb => ?_) (fun hb => ?_)
          | (refine isR ?_; first | refine x_far [] tb_ok rfl ?_ | refine r_nil ?_ | refine r_nild (by kernel_rfl) ?_ | refine x_stI strT (a1 := w) q tb_ok ?_ | refine x_bs tb_ok ?_ | refine x_addE ?_ | refine x_add ?_ | refine x_cat ?_ | refine x_lenF tb_ok ?_ | refine x_lenO tb_ok ?_ | refine x_lenN tb_ok ?_ | refine x_lenS ?_ | refine x_lssT ?_ | refine x_lssF ?_ | refine x_lss (fun hc => ?_) (fun hc => ?_) | refine x_neqT ?_ | refine x_neqF ?_ | refine x_neq (fun hc => ?_) (fun hc => ?_) | refine x_neqB ?_ | refine x_neqST ?_ | refine x_neqSF ?_ | refine x_neqS (fun hc => ?_) (fun hc => ?_) | refine x_neqI ?_ | refine x_neqN ?_ | refine x_iaF tb_ok ?_ | refine x_iaO tb_ok ?_ | refine x_iaA tb_ok ?_ | refine x_iaAF tb_ok ?_ | refine x_neqA tb_ok ?_ | refine x_neqAS tb_ok (fun hc => ?_) (fun hc => ?_))
          | refine x_ret ?_
          | refine x_nor ?_
          | exact x_le)
      refine ⟨by omega, by omega, ?_⟩
      exact (by exact x_le)
    · skip
      repeat' (first
          | refine x_ret ?_ (h3 := by repeat' first | exact trivial | exact DiskE.names_str | exact DiskE.len_ok hk2 | constructor)
          | with_reducible first | refine awp_seq ?_ | refine awp_region ?_ | refine awp_draw mixed ?_ | refine then_n ?_ | refine awp_skip ?_ | refine awp_block ?_ | refine awp_exit ?_ | refine awp_ret ?_ | refine awp_label ?_ | refine then_exit ?_ | refine then_ret ?_ | refine blk_n ?_ | refine blk_ret ?_ | refine blk_exit ?_ | refine blk_other rfl ?_ | refine then_k ?_
          | refine awp_true rfl ?_
          | refine awp_false rfl ?_
          | refine awp_split rfl (fun hb => ?_) (fun hb => ?_)
          | (refine isR ?_; first | refine x_far [] tb_ok rfl ?_ | refine r_nil ?_ | refine r_nild (by kernel_rfl) ?_ | refine x_bs tb_ok ?_ | refine x_addE ?_ | refine x_add ?_ | refine x_cat ?_ | refine x_lenF tb_ok ?_ | refine x_lenO tb_ok ?_ | refine x_lenN tb_ok ?_ | refine x_lenS ?_ | refine x_lssT ?_ | refine x_lssF ?_ | refine x_lss (fun hc => ?_) (fun hc => ?_) | refine x_neqT ?_ | refine x_neqF ?_ | refine x_neq (fun hc => ?_) (fun hc => ?_) | refine x_neqB ?_ | refine x_neqST ?_ | refine x_neqSF ?_ | refine x_neqS (fun hc => ?_) (fun hc => ?_) | refine x_neqI ?_ | refine x_neqN ?_ | refine x_iaF tb_ok ?_ | refine x_iaO tb_ok ?_ | refine x_iaA tb_ok ?_ | refine x_iaAF tb_ok ?_ | refine x_neqA tb_ok ?_ | refine x_neqAS tb_ok (fun hc => ?_) (fun hc => ?_))
          | refine x_ret ?_
          | refine x_nor ?_
          | exact x_le)
      show V.tup [V.agg [V.fro (List.take K.length (List.drop 0 (((K.set p s).set q w).map strT))), _], _] = _
      rw [← hk2, full]
      rfl
  · have hA : appendF d s = (d0, (stepsF d s).2) := by unfold appendF; rw [if_pos h0]
    rw [hA]
    generalize (stepsF d s) = r at *
    obtain ⟨l, e⟩ := r
    dsimp only at h0 c1
    obtain ⟨K, W⟩ := d
    refine ACalls.nfd (r := .tup [zD, .int .i64 e]) ?_ rfl
    have c1 : ACalls Tryd.prog 22 [.agg [.fro (K.map strT), .fro (W.map Put.v)], strT s] (.tup [.fro (l.map Put.v), .int .i64 e]) := c1
    show ACalls _ _ [.agg [.fro (K.map strT), .fro (W.map Put.v)], _] _
    refine fun2 tb_ok Tryd.func23 rfl Tryd.ntmps23 Tryd.results23 rfl fun N => ?_
    repeat' (first
        | with_reducible first | refine awp_seq ?_ | refine awp_region ?_ | refine awp_draw mixed ?_ | refine then_n ?_ | refine awp_skip ?_ | refine awp_block ?_ | refine awp_exit ?_ | refine awp_ret ?_ | refine awp_label ?_ | refine then_exit ?_ | refine then_ret ?_ | refine blk_n ?_ | refine blk_ret ?_ | refine blk_exit ?_ | refine blk_other rfl ?_ | refine then_k ?_
        | refine awp_true rfl ?_
        | refine awp_false rfl ?_
        | refine awp_split rfl (fun hb => ?_) (fun hb => ?_)
        | (refine isR ?_; first | refine x_far [] tb_ok rfl ?_ | refine r_nil ?_ | refine r_nild (by kernel_rfl) ?_ | refine x_call (c1 _) ?_ | refine x_call (c1) ?_ | refine x_bs tb_ok ?_ | refine x_addE ?_ | refine x_add ?_ | refine x_cat ?_ | refine x_lenF tb_ok ?_ | refine x_lenO tb_ok ?_ | refine x_lenN tb_ok ?_ | refine x_lenS ?_ | refine x_lssT ?_ | refine x_lssF ?_ | refine x_lss (fun hc => ?_) (fun hc => ?_) | refine x_neqT ?_ | refine x_neqF ?_ | refine x_neq (fun hc => ?_) (fun hc => ?_) | refine x_neqB ?_ | refine x_neqST ?_ | refine x_neqSF ?_ | refine x_neqS (fun hc => ?_) (fun hc => ?_) | refine x_neqI ?_ | refine x_neqN ?_ | refine x_iaF tb_ok ?_ | refine x_iaO tb_ok ?_ | refine x_iaA tb_ok ?_ | refine x_iaAF tb_ok ?_ | refine x_neqA tb_ok ?_ | refine x_neqAS tb_ok (fun hc => ?_) (fun hc => ?_))
        | refine x_ret ?_
        | refine x_nor ?_
        | exact x_le)
    rfl
set_option maxRecDepth 100000 in
set_option maxHeartbeats 4000000 in
theorem tells_law {d : Disk} {s : List UInt8} {n : Int} : ACallsG Tryd.prog Both.gBoth 4 [d.v, strT s, .int .i64 n] (.bool true) := by
  have c0 := DiskF.begun_v
  have c1 := DiskE.new_v (n := n)
  have c2 := DiskE.items_v (d := d)
  have c3 := DiskE.steps_v (d := d) (s := s)
  have c4 := DiskF.append_v (d := d) (s := s)
  have c5 := newDisk_v (n := n)
  have c6 := logItems_v (d := d)
  have c7 := logSteps_v (d := d) (s := s)
  have c8 := logAppend_v (d := d) (s := s)
  have c9 := sameDisk_v (d := (newF n).1)
  have c10 := DiskF.same_v (L := (itemsF d).1)
  have c11 := samePuts_v (L := (stepsF d s).1)
  have c12 := sameDisk_v (d := (appendF d s).1)
  generalize newF n = A at *
  generalize itemsF d = B at *
  generalize stepsF d s = C at *
  generalize appendF d s = D at *
  obtain ⟨⟨K1, W1⟩, f1⟩ := A
  obtain ⟨L2, f2⟩ := B
  obtain ⟨L3, f3⟩ := C
  obtain ⟨⟨K4, W4⟩, f4⟩ := D
  obtain ⟨K, W⟩ := d
  dsimp only [Disk.v] at *
  refine funG3 tb_ok Tryd.func4 rfl Tryd.ntmps4 Tryd.results4 rfl fun N => ?_
  repeat' (first
      | with_reducible first | refine awp_seq ?_ | refine awp_region ?_ | refine awp_draw mixed ?_ | refine then_n ?_ | refine awp_skip ?_ | refine awp_block ?_ | refine awp_exit ?_ | refine awp_ret ?_ | refine awp_label ?_ | refine then_exit ?_ | refine then_ret ?_ | refine blk_n ?_ | refine blk_ret ?_ | refine blk_exit ?_ | refine blk_other rfl ?_ | refine then_k ?_
      | refine awp_true rfl ?_
      | refine awp_false rfl ?_
      | refine awp_split rfl (fun hb => ?_) (fun hb => ?_)
      | (refine isR ?_; first | refine x_far [] tb_ok rfl ?_ | refine r_nil ?_ | refine r_nild (by kernel_rfl) ?_ | refine x_call (c0 _) ?_ | refine x_call (c0) ?_ | refine x_call (c1 _) ?_ | refine x_call (c1) ?_ | refine x_call (c2 _) ?_ | refine x_call (c2) ?_ | refine x_call (c3 _) ?_ | refine x_call (c3) ?_ | refine x_call (c4 _) ?_ | refine x_call (c4) ?_ | refine x_call (c5 _) ?_ | refine x_call (c5) ?_ | refine x_call (c6 _) ?_ | refine x_call (c6) ?_ | refine x_call (c7 _) ?_ | refine x_call (c7) ?_ | refine x_call (c8 _) ?_ | refine x_call (c8) ?_ | refine x_call (c9 _) ?_ | refine x_call (c9) ?_ | refine x_call (c10 _) ?_ | refine x_call (c10) ?_ | refine x_call (c11 _) ?_ | refine x_call (c11) ?_ | refine x_call (c12 _) ?_ | refine x_call (c12) ?_ | refine x_eqlT ?_ | refine x_eqlF ?_ | refine x_eql (fun hc => ?_) (fun hc => ?_) | refine x_eqlB ?_ | refine x_eqlST ?_ | refine x_eqlSF ?_ | refine x_eqlS (fun hc => ?_) (fun hc => ?_) | refine x_eqlI ?_ | refine x_eqlN ?_ | refine x_eqlA tb_ok ?_ | refine x_eqlAS tb_ok (fun hc => ?_) (fun hc => ?_))
      | refine x_ret ?_
      | refine x_nor ?_
      | exact x_le)
  rfl
end Go.Proofs.YtdimidhacccdjaaDoor.DiskR
