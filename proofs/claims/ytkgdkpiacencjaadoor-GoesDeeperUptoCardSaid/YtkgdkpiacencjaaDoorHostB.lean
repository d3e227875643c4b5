/- Hosts as they are compared. -/
import Derived.Test.YtkgdkpiacencjaaDoorTreeW
import Derived.Test.YtkgdkpiacencjaaDoorHostA
namespace Go.Proofs.YtkgdkpiacencjaaDoor.HostB
open Go.RowKit Mem Abs HostP HostA TreeW WordP WordS

abbrev pairT (p : List UInt8 × Nat) : Abs.V := .tup [strT p.1, .int .i64 ((p.2 : Nat) : Int)]
theorem dot_byte : (46 : UInt8).toNat = 46 := rfl
set_option maxRecDepth 100000 in
set_option maxHeartbeats 4000000 in
theorem canon_v {l : List UInt8} : ACalls Tryd.prog 20 [strT l] (pairT (canonF l)) := ACalls.lim fun hl => by
  obtain ⟨hl, _⟩ := TreeW.str_lim hl
  have c1 := fold_v (l := l)
  refine fun1 tb_ok Tryd.func20 rfl Tryd.ntmps20 Tryd.results20 rfl fun N => ?_
  by_cases h0 : 253 < l.length
  · skip
    repeat' (first
        | with_reducible first | refine awp_seq ?_ | refine awp_region ?_ | refine awp_draw mixed ?_ | refine then_n ?_ | refine awp_skip ?_ | refine awp_block ?_ | refine awp_exit ?_ | refine awp_ret ?_ | refine awp_label ?_ | refine then_exit ?_ | refine then_ret ?_ | refine blk_n ?_ | refine blk_ret ?_ | refine blk_exit ?_ | refine blk_other rfl ?_ | refine then_k ?_
        | refine awp_true rfl ?_
        | refine awp_false rfl ?_
        | refine awp_split rfl (fun hb => ?_) (fun hb => ?_)
        | (refine isR ?_; first | refine x_far [] tb_ok rfl ?_ | refine r_nil ?_ | refine r_nild (by kernel_rfl) ?_ | refine x_addE ?_ | refine x_add ?_ | refine x_cat ?_ | refine x_lenF tb_ok ?_ | refine x_lenO tb_ok ?_ | refine x_lenN tb_ok ?_ | refine x_lenS ?_ | refine x_lssT ?_ | refine x_lssF ?_ | refine x_lss (fun hc => ?_) (fun hc => ?_) | refine x_gtrT ?_ | refine x_gtrF ?_ | refine x_gtr (fun hc => ?_) (fun hc => ?_) | refine x_iaF tb_ok ?_ | refine x_iaO tb_ok ?_ | refine x_iaA tb_ok ?_ | refine x_iaAF tb_ok ?_)
        | refine x_ret ?_
        | refine x_nor ?_
        | exact x_le)
    unfold canonF; rw [if_pos h0]; rfl
  · obtain ⟨m, hm⟩ : ∃ m, fold l = m := ⟨_, rfl⟩
    have hml : m.length = l.length := by rw [← hm, fold_len]
    have c2 : ACalls _ _ [strT m, .int .u8 46] _ := parts_v (l := m) (u := 46) (by omega)
    have hs := split_len 46 m
    have es : canonF l = if (split 46 m).all label then (m, 0) else ([], 1) := by unfold canonF; rw [if_neg h0, hm]
    rw [es]
    rw [hm] at c1
    clear es hm
    generalize split 46 m = xs at *
    have hx : ((xs.map strT).length : Int) = (xs.length : Int) := by simp
    repeat' (first
        | with_reducible first | refine awp_seq ?_ | refine awp_region ?_ | refine awp_draw mixed ?_ | refine then_n ?_ | refine awp_skip ?_ | refine awp_block ?_ | refine awp_exit ?_ | refine awp_ret ?_ | refine awp_label ?_ | refine then_exit ?_ | refine then_ret ?_ | refine blk_n ?_ | refine blk_ret ?_ | refine blk_exit ?_ | refine blk_other rfl ?_ | refine then_k ?_
        | refine awp_true rfl ?_
        | refine awp_false rfl ?_
        | refine awp_split rfl (fun hb => ?_) (fun hb => ?_)
        | (refine isR ?_; first | refine x_far [] tb_ok rfl ?_ | refine r_nil ?_ | refine r_nild (by kernel_rfl) ?_ | refine x_call (c1 _) ?_ | refine x_call (c1) ?_ | refine x_call (c2 _) ?_ | refine x_call (c2) ?_ | refine x_addE ?_ | refine x_add ?_ | refine x_cat ?_ | refine x_lenF tb_ok ?_ | refine x_lenO tb_ok ?_ | refine x_lenN tb_ok ?_ | refine x_lenS ?_ | refine x_lssT ?_ | refine x_lssF ?_ | refine x_lss (fun hc => ?_) (fun hc => ?_) | refine x_gtrT ?_ | refine x_gtrF ?_ | refine x_gtr (fun hc => ?_) (fun hc => ?_) | refine x_iaF tb_ok ?_ | refine x_iaO tb_ok ?_ | refine x_iaA tb_ok ?_ | refine x_iaAF tb_ok ?_)
        | refine x_ret ?_
        | refine x_nor ?_
        | exact x_le)
    refine awp_for (fun k => ⟨[(0, strT m), (12, strsT xs), (13, .int .i64 (xs.map strT).length), (14, .int .i64 (k : Int))], [], 0, 23⟩) (fun k => k ≤ xs.length ∧ Upto label xs k) xs.length 0 (by exact x_le) ⟨Nat.zero_le _, upto0⟩ ?_
    intro k ⟨hk, hq⟩
    by_cases hk2 : k < xs.length
    · have e1 : (xs.map strT)[k]? = some (strT xs[k]) := by simp [hk2]
      have e2 : xs[k]? = some xs[k] := by simp [hk2]
      generalize xs[k] = x at e1 e2
      have c3 := label_v (l := x)
      repeat' (first
          | with_reducible first | refine awp_seq ?_ | refine awp_region ?_ | refine awp_draw mixed ?_ | refine then_n ?_ | refine awp_skip ?_ | refine awp_block ?_ | refine awp_exit ?_ | refine awp_ret ?_ | refine awp_label ?_ | refine then_exit ?_ | refine then_ret ?_ | refine blk_n ?_ | refine blk_ret ?_ | refine blk_exit ?_ | refine blk_other rfl ?_ | refine then_k ?_
          | refine awp_true rfl ?_
          | refine awp_false rfl ?_
          | refine awp_split rfl (fun hb => ?_) (fun hb => ?_)
          | (refine isR ?_; first | refine x_far [] tb_ok rfl ?_ | refine r_nil ?_ | refine r_nild (by kernel_rfl) ?_ | refine x_callS (c3 _) (fun hb => ?_) (fun hb => ?_) | refine x_callS (c3) (fun hb => ?_) (fun hb => ?_) | refine x_addE ?_ | refine x_add ?_ | refine x_cat ?_ | refine x_lenF tb_ok ?_ | refine x_lenO tb_ok ?_ | refine x_lenN tb_ok ?_ | refine x_lenS ?_ | refine x_lssT ?_ | refine x_lssF ?_ | refine x_lss (fun hc => ?_) (fun hc => ?_) | refine x_gtrT ?_ | refine x_gtrF ?_ | refine x_gtr (fun hc => ?_) (fun hc => ?_) | refine x_iaF tb_ok ?_ | refine x_iaO tb_ok ?_ | refine x_iaA tb_ok ?_ | refine x_iaAF tb_ok ?_)
          | refine x_ret ?_
          | refine x_nor ?_
          | exact x_le)
      · exact ⟨⟨by omega, hq.on e2 (by assumption)⟩, by omega, (by exact x_le)⟩
      · rw [all_no e2 (by assumption)]; rfl
    · skip
      repeat' (first
          | with_reducible first | refine awp_seq ?_ | refine awp_region ?_ | refine awp_draw mixed ?_ | refine then_n ?_ | refine awp_skip ?_ | refine awp_block ?_ | refine awp_exit ?_ | refine awp_ret ?_ | refine awp_label ?_ | refine then_exit ?_ | refine then_ret ?_ | refine blk_n ?_ | refine blk_ret ?_ | refine blk_exit ?_ | refine blk_other rfl ?_ | refine then_k ?_
          | refine awp_true rfl ?_
          | refine awp_false rfl ?_
          | refine awp_split rfl (fun hb => ?_) (fun hb => ?_)
          | (refine isR ?_; first | refine x_far [] tb_ok rfl ?_ | refine r_nil ?_ | refine r_nild (by kernel_rfl) ?_ | refine x_addE ?_ | refine x_add ?_ | refine x_cat ?_ | refine x_lenF tb_ok ?_ | refine x_lenO tb_ok ?_ | refine x_lenN tb_ok ?_ | refine x_lenS ?_ | refine x_lssT ?_ | refine x_lssF ?_ | refine x_lss (fun hc => ?_) (fun hc => ?_) | refine x_gtrT ?_ | refine x_gtrF ?_ | refine x_gtr (fun hc => ?_) (fun hc => ?_) | refine x_iaF tb_ok ?_ | refine x_iaO tb_ok ?_ | refine x_iaA tb_ok ?_ | refine x_iaAF tb_ok ?_)
          | refine x_ret ?_
          | refine x_nor ?_
          | exact x_le)
      rw [hq.all hk2]; rfl
set_option maxRecDepth 100000 in
set_option maxHeartbeats 4000000 in
theorem hostOf_v {l : List UInt8} : ACalls Tryd.prog 21 [strT l] (pairT (canonF l)) := ACalls.lim fun hl => by
  obtain ⟨hl, _⟩ := TreeW.str_lim hl
  have c1 := foldOf_v (l := l)
  refine fun1 tb_ok Tryd.func21 rfl Tryd.ntmps21 Tryd.results21 rfl fun N => ?_
  by_cases h0 : 253 < l.length
  · skip
    repeat' (first
        | with_reducible first | refine awp_seq ?_ | refine awp_region ?_ | refine awp_draw mixed ?_ | refine then_n ?_ | refine awp_skip ?_ | refine awp_block ?_ | refine awp_exit ?_ | refine awp_ret ?_ | refine awp_label ?_ | refine then_exit ?_ | refine then_ret ?_ | refine blk_n ?_ | refine blk_ret ?_ | refine blk_exit ?_ | refine blk_other rfl ?_ | refine then_k ?_
        | refine awp_true rfl ?_
        | refine awp_false rfl ?_
        | refine awp_split rfl (fun hb => ?_) (fun hb => ?_)
        | (refine isR ?_; first | refine x_far [] tb_ok rfl ?_ | refine r_nil ?_ | refine r_nild (by kernel_rfl) ?_ | refine x_addE ?_ | refine x_add ?_ | refine x_cat ?_ | refine x_lenF tb_ok ?_ | refine x_lenO tb_ok ?_ | refine x_lenN tb_ok ?_ | refine x_lenS ?_ | refine x_lssT ?_ | refine x_lssF ?_ | refine x_lss (fun hc => ?_) (fun hc => ?_) | refine x_gtrT ?_ | refine x_gtrF ?_ | refine x_gtr (fun hc => ?_) (fun hc => ?_) | refine x_iaF tb_ok ?_ | refine x_iaO tb_ok ?_ | refine x_iaA tb_ok ?_ | refine x_iaAF tb_ok ?_)
        | refine x_ret ?_
        | refine x_nor ?_
        | exact x_le)
    unfold canonF; rw [if_pos h0]; rfl
  · obtain ⟨m, hm⟩ : ∃ m, fold l = m := ⟨_, rfl⟩
    have hml : m.length = l.length := by rw [← hm, fold_len]
    have c2 : ACalls _ _ [strT m, .int .u8 46] _ := partsOf_v (l := m) (u := 46) (by omega)
    have hs := split_len 46 m
    have es : canonF l = if (split 46 m).all label then (m, 0) else ([], 1) := by unfold canonF; rw [if_neg h0, hm]
    rw [es]
    rw [hm] at c1
    clear es hm
    generalize split 46 m = xs at *
    have hx : ((xs.map strT).length : Int) = (xs.length : Int) := by simp
    repeat' (first
        | with_reducible first | refine awp_seq ?_ | refine awp_region ?_ | refine awp_draw mixed ?_ | refine then_n ?_ | refine awp_skip ?_ | refine awp_block ?_ | refine awp_exit ?_ | refine awp_ret ?_ | refine awp_label ?_ | refine then_exit ?_ | refine then_ret ?_ | refine blk_n ?_ | refine blk_ret ?_ | refine blk_exit ?_ | refine blk_other rfl ?_ | refine then_k ?_
        | refine awp_true rfl ?_
        | refine awp_false rfl ?_
        | refine awp_split rfl (fun hb => ?_) (fun hb => ?_)
        | (refine isR ?_; first | refine x_far [] tb_ok rfl ?_ | refine r_nil ?_ | refine r_nild (by kernel_rfl) ?_ | refine x_call (c1 _) ?_ | refine x_call (c1) ?_ | refine x_call (c2 _) ?_ | refine x_call (c2) ?_ | refine x_addE ?_ | refine x_add ?_ | refine x_cat ?_ | refine x_lenF tb_ok ?_ | refine x_lenO tb_ok ?_ | refine x_lenN tb_ok ?_ | refine x_lenS ?_ | refine x_lssT ?_ | refine x_lssF ?_ | refine x_lss (fun hc => ?_) (fun hc => ?_) | refine x_gtrT ?_ | refine x_gtrF ?_ | refine x_gtr (fun hc => ?_) (fun hc => ?_) | refine x_iaF tb_ok ?_ | refine x_iaO tb_ok ?_ | refine x_iaA tb_ok ?_ | refine x_iaAF tb_ok ?_)
        | refine x_ret ?_
        | refine x_nor ?_
        | exact x_le)
    refine awp_for (fun k => ⟨[(0, strT m), (4, strsT xs), (5, .int .i64 (k : Int))], [], 0, 26⟩) (fun k => k ≤ xs.length ∧ Upto label xs k) xs.length 0 (by exact x_le) ⟨Nat.zero_le _, upto0⟩ ?_
    intro k ⟨hk, hq⟩
    by_cases hk2 : k < xs.length
    · have e1 : (xs.map strT)[k]? = some (strT xs[k]) := by simp [hk2]
      have e2 : xs[k]? = some xs[k] := by simp [hk2]
      generalize xs[k] = x at e1 e2
      have c3 := isLabel_v (l := x)
      repeat' (first
          | with_reducible first | refine awp_seq ?_ | refine awp_region ?_ | refine awp_draw mixed ?_ | refine then_n ?_ | refine awp_skip ?_ | refine awp_block ?_ | refine awp_exit ?_ | refine awp_ret ?_ | refine awp_label ?_ | refine then_exit ?_ | refine then_ret ?_ | refine blk_n ?_ | refine blk_ret ?_ | refine blk_exit ?_ | refine blk_other rfl ?_ | refine then_k ?_
          | refine awp_true rfl ?_
          | refine awp_false rfl ?_
          | refine awp_split rfl (fun hb => ?_) (fun hb => ?_)
          | (refine isR ?_; first | refine x_far [] tb_ok rfl ?_ | refine r_nil ?_ | refine r_nild (by kernel_rfl) ?_ | refine x_callS (c3 _) (fun hb => ?_) (fun hb => ?_) | refine x_callS (c3) (fun hb => ?_) (fun hb => ?_) | refine x_addE ?_ | refine x_add ?_ | refine x_cat ?_ | refine x_lenF tb_ok ?_ | refine x_lenO tb_ok ?_ | refine x_lenN tb_ok ?_ | refine x_lenS ?_ | refine x_lssT ?_ | refine x_lssF ?_ | refine x_lss (fun hc => ?_) (fun hc => ?_) | refine x_gtrT ?_ | refine x_gtrF ?_ | refine x_gtr (fun hc => ?_) (fun hc => ?_) | refine x_iaF tb_ok ?_ | refine x_iaO tb_ok ?_ | refine x_iaA tb_ok ?_ | refine x_iaAF tb_ok ?_)
          | refine x_ret ?_
          | refine x_nor ?_
          | exact x_le)
      · exact ⟨⟨by omega, hq.on e2 (by assumption)⟩, by omega, (by exact x_le)⟩
      · rw [all_no e2 (by assumption)]; rfl
    · skip
      repeat' (first
          | with_reducible first | refine awp_seq ?_ | refine awp_region ?_ | refine awp_draw mixed ?_ | refine then_n ?_ | refine awp_skip ?_ | refine awp_block ?_ | refine awp_exit ?_ | refine awp_ret ?_ | refine awp_label ?_ | refine then_exit ?_ | refine then_ret ?_ | refine blk_n ?_ | refine blk_ret ?_ | refine blk_exit ?_ | refine blk_other rfl ?_ | refine then_k ?_
          | refine awp_true rfl ?_
          | refine awp_false rfl ?_
          | refine awp_split rfl (fun hb => ?_) (fun hb => ?_)
          | (refine isR ?_; first | refine x_far [] tb_ok rfl ?_ | refine r_nil ?_ | refine r_nild (by kernel_rfl) ?_ | refine x_addE ?_ | refine x_add ?_ | refine x_cat ?_ | refine x_lenF tb_ok ?_ | refine x_lenO tb_ok ?_ | refine x_lenN tb_ok ?_ | refine x_lenS ?_ | refine x_lssT ?_ | refine x_lssF ?_ | refine x_lss (fun hc => ?_) (fun hc => ?_) | refine x_gtrT ?_ | refine x_gtrF ?_ | refine x_gtr (fun hc => ?_) (fun hc => ?_) | refine x_iaF tb_ok ?_ | refine x_iaO tb_ok ?_ | refine x_iaA tb_ok ?_ | refine x_iaAF tb_ok ?_)
          | refine x_ret ?_
          | refine x_nor ?_
          | exact x_le)
      rw [hq.all hk2]; rfl
end Go.Proofs.YtkgdkpiacencjaaDoor.HostB
