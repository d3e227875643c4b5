/- slices.IndexFunc and ContainsFunc over bytes, of any closure. -/
import Derived.Test.YtkgdkpiacencjaaDoorAbsV
import Derived.Test.YtkgdkpiacencjaaDoorTb
namespace Go.Proofs.YtkgdkpiacencjaaDoor.FnB
open Go.RowKit Mem Abs

set_option maxRecDepth 100000 in
set_option maxHeartbeats 4000000 in
theorem index_b {gl : Glob} {g : Nat} {caps : List V} {p : UInt8 → Bool} {l : List UInt8} (hg : hasBody Tryd.prog g = true) (hc : V.namesL caps = []) (hl : l.length ≤ LIM) (h : ∀ c ∈ l, ACallsG Tryd.prog gl g ([] ++ [byteT c] ++ caps) (.bool (p c))) : ACallsG Tryd.prog gl 81 [.fro (l.map byteT), .fn (.func g) [] caps] (.int .i64 (firstI p l)) := by
  refine funG2 tb_ok Tryd.func81 rfl Tryd.ntmps81 Tryd.results81 rfl fun N => ?_
  repeat' (first
      | with_reducible first | refine awp_seq ?_ | refine awp_region ?_ | refine awp_draw mixed ?_ | refine then_n ?_ | refine awp_skip ?_ | refine awp_block ?_ | refine awp_exit ?_ | refine awp_ret ?_ | refine awp_label ?_ | refine then_exit ?_ | refine then_ret ?_ | refine blk_n ?_ | refine blk_ret ?_ | refine blk_exit ?_ | refine blk_other rfl ?_ | refine then_k ?_
      | refine awp_true rfl ?_
      | refine awp_false rfl ?_
      | refine awp_split rfl (fun hb => ?_) (fun hb => ?_)
      | (refine isR ?_; first | refine x_far [] tb_ok rfl ?_ | refine r_nil ?_ | refine r_nild (by kernel_rfl) ?_ | refine x_addE ?_ | refine x_add ?_ | refine x_cat ?_ | refine x_lenF tb_ok ?_ | refine x_lenO tb_ok ?_ | refine x_lenN tb_ok ?_ | refine x_lenS ?_ | refine x_lssT ?_ | refine x_lssF ?_ | refine x_lss (fun hc => ?_) (fun hc => ?_) | refine x_iaF tb_ok ?_ | refine x_iaO tb_ok ?_ | refine x_iaA tb_ok ?_ | refine x_iaAF tb_ok ?_)
      | refine x_ret ?_
      | refine x_nor ?_
      | exact x_le)
  refine awp_for (fun k => ⟨[(0, .fro (l.map byteT)), (1, .fn (.func g) [] caps), (7, .int .i64 (l.map byteT).length), (8, .int .i64 (k : Int))], [], 0, 19⟩) (fun k => k ≤ l.length ∧ ∀ j y, j < k → l[j]? = some y → p y = false) l.length 0 ?_ ⟨Nat.zero_le _, fun j y h => absurd h (Nat.not_lt_zero _)⟩ ?_
  · exact (by exact x_le)
  · intro k ⟨hk, hp⟩
    simp only [LIM] at hl
    have e0 : ((l.map byteT).length : Int) = (l.length : Int) := by simp
    by_cases hk2 : k < l.length
    · have e1 : (l.map byteT)[k]? = some (byteT l[k]) := by simp [hk2]
      have h1 := h l[k] (List.getElem_mem hk2)
      repeat' (first
          | with_reducible first | refine awp_seq ?_ | refine awp_region ?_ | refine awp_draw mixed ?_ | refine then_n ?_ | refine awp_skip ?_ | refine awp_block ?_ | refine awp_exit ?_ | refine awp_ret ?_ | refine awp_label ?_ | refine then_exit ?_ | refine then_ret ?_ | refine blk_n ?_ | refine blk_ret ?_ | refine blk_exit ?_ | refine blk_other rfl ?_ | refine then_k ?_
          | refine awp_true rfl ?_
          | refine awp_false rfl ?_
          | refine awp_split rfl (fun hb => ?_) (fun hb => ?_)
          | (refine isR ?_; first | refine x_far [] tb_ok rfl ?_ | refine r_nil ?_ | refine r_nild (by kernel_rfl) ?_ | refine r_splitB rfl rfl rfl (law_callv (vs := [_]) rfl (enters hg) (by rfl) h1 (by simp [V.namesL, V.names, hc])) (hT rfl (hT rfl Abs.h0)) (fun hb => ?_) (fun hb => ?_) | refine x_addE ?_ | refine x_add ?_ | refine x_cat ?_ | refine x_lenF tb_ok ?_ | refine x_lenO tb_ok ?_ | refine x_lenN tb_ok ?_ | refine x_lenS ?_ | refine x_lssT ?_ | refine x_lssF ?_ | refine x_lss (fun hc => ?_) (fun hc => ?_) | refine x_iaF tb_ok ?_ | refine x_iaO tb_ok ?_ | refine x_iaA tb_ok ?_ | refine x_iaAF tb_ok ?_)
          | refine x_ret ?_
          | refine x_nor ?_
          | exact x_le)
      · show V.int .i64 _ = V.int .i64 _
        rw [firstI_at hp (List.getElem?_eq_getElem hk2) hb]
      · refine ⟨⟨by omega, fun j y hj hy => ?_⟩, by omega, ?_⟩
        · rcases Nat.lt_succ_iff_lt_or_eq.1 hj with h1 | rfl
          · exact hp j y h1 hy
          · rw [List.getElem?_eq_getElem hk2] at hy; cases hy; exact hb
        · exact (by exact x_le)
    · skip
      repeat' (first
          | with_reducible first | refine awp_seq ?_ | refine awp_region ?_ | refine awp_draw mixed ?_ | refine then_n ?_ | refine awp_skip ?_ | refine awp_block ?_ | refine awp_exit ?_ | refine awp_ret ?_ | refine awp_label ?_ | refine then_exit ?_ | refine then_ret ?_ | refine blk_n ?_ | refine blk_ret ?_ | refine blk_exit ?_ | refine blk_other rfl ?_ | refine then_k ?_
          | refine awp_true rfl ?_
          | refine awp_false rfl ?_
          | refine awp_split rfl (fun hb => ?_) (fun hb => ?_)
          | (refine isR ?_; first | refine x_far [] tb_ok rfl ?_ | refine r_nil ?_ | refine r_nild (by kernel_rfl) ?_ | refine x_addE ?_ | refine x_add ?_ | refine x_cat ?_ | refine x_lenF tb_ok ?_ | refine x_lenO tb_ok ?_ | refine x_lenN tb_ok ?_ | refine x_lenS ?_ | refine x_lssT ?_ | refine x_lssF ?_ | refine x_lss (fun hc => ?_) (fun hc => ?_) | refine x_iaF tb_ok ?_ | refine x_iaO tb_ok ?_ | refine x_iaA tb_ok ?_ | refine x_iaAF tb_ok ?_)
          | refine x_ret ?_
          | refine x_nor ?_
          | exact x_le)
      show V.int .i64 _ = V.int .i64 _
      rw [firstI_none fun x hx => ?_]
      obtain ⟨i, hi⟩ := List.mem_iff_getElem?.1 hx
      exact hp i x (by have := (List.getElem?_eq_some_iff.1 hi).1; omega) hi
set_option maxRecDepth 100000 in
set_option maxHeartbeats 4000000 in
theorem contains_b {gl : Glob} {g : Nat} {caps : List V} {p : UInt8 → Bool} {l : List UInt8} (hg : hasBody Tryd.prog g = true) (hc : V.namesL caps = []) (hl : l.length ≤ LIM) (h : ∀ c ∈ l, ACallsG Tryd.prog gl g ([] ++ [byteT c] ++ caps) (.bool (p c))) : ACallsG Tryd.prog gl 67 [.fro (l.map byteT), .fn (.func g) [] caps] (.bool (l.any p)) := by
  have hi := index_b hg hc hl h
  have hn : V.namesL [.fro (l.map byteT), .fn (.func g) [] caps] = [] := by simp [V.namesL, V.names, hc]
  refine funG2 tb_ok Tryd.func67 rfl Tryd.ntmps67 Tryd.results67 rfl fun N => ?_
  repeat' (first
      | with_reducible first | refine awp_seq ?_ | refine awp_region ?_ | refine awp_draw mixed ?_ | refine then_n ?_ | refine awp_skip ?_ | refine awp_block ?_ | refine awp_exit ?_ | refine awp_ret ?_ | refine awp_label ?_ | refine then_exit ?_ | refine then_ret ?_ | refine blk_n ?_ | refine blk_ret ?_ | refine blk_exit ?_ | refine blk_other rfl ?_ | refine then_k ?_
      | refine awp_true rfl ?_
      | refine awp_false rfl ?_
      | refine awp_split rfl (fun hb => ?_) (fun hb => ?_)
      | (refine isR ?_; first | refine x_far [] tb_ok rfl ?_ | refine r_nil ?_ | refine r_nild (by kernel_rfl) ?_ | refine x_geqT ?_ | refine x_geqF ?_ | refine x_geq (fun hc => ?_) (fun hc => ?_))
      | refine x_ret ?_
      | refine x_nor ?_
      | exact x_le)
  refine r_val rfl rfl rfl (law_call rfl (enters (by kernel_rfl)) (by rfl) hi hn) (hT rfl (hT rfl Abs.h0)) ?_
  repeat' (first
      | with_reducible first | refine awp_seq ?_ | refine awp_region ?_ | refine awp_draw mixed ?_ | refine then_n ?_ | refine awp_skip ?_ | refine awp_block ?_ | refine awp_exit ?_ | refine awp_ret ?_ | refine awp_label ?_ | refine then_exit ?_ | refine then_ret ?_ | refine blk_n ?_ | refine blk_ret ?_ | refine blk_exit ?_ | refine blk_other rfl ?_ | refine then_k ?_
      | refine awp_true rfl ?_
      | refine awp_false rfl ?_
      | refine awp_split rfl (fun hb => ?_) (fun hb => ?_)
      | (refine isR ?_; first | refine x_far [] tb_ok rfl ?_ | refine r_nil ?_ | refine r_nild (by kernel_rfl) ?_ | refine x_geqT ?_ | refine x_geqF ?_ | refine x_geq (fun hc => ?_) (fun hc => ?_))
      | refine x_ret ?_
      | refine x_nor ?_
      | exact x_le)
  · show V.bool _ = V.bool _
    rw [firstI_ge.1 (by assumption)]
  · show V.bool _ = V.bool _
    have : ¬ (l.any p = true) := fun h => by have := firstI_ge.2 h; contradiction
    simp only [Bool.not_eq_true] at this
    rw [this]
end Go.Proofs.YtkgdkpiacencjaaDoor.FnB
