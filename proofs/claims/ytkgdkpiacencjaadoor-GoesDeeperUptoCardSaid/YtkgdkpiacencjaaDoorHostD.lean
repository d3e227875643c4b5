/- What is above a host: the reference's walk. -/
import Derived.Test.YtkgdkpiacencjaaDoorHostC
namespace Go.Proofs.YtkgdkpiacencjaaDoor.HostD
open Go.RowKit Mem Abs HostP HostO HostA HostB HostC TreeW WordP WordS Globs

theorem after_take {l : List UInt8} {k : Nat} {c : UInt8} (_h : l[k]? = some c) : True := trivial
/-- The ends behind the dots among the first k. -/
def behind (l : List UInt8) (k : Nat) : List (List UInt8) := ((List.range k).filter fun i => l[i]? == some 46).map fun i => l.drop (i + 1)
theorem behind_on {l : List UInt8} {k : Nat} {c : UInt8} (h : l[k]? = some c) : behind l (k + 1) = if c = 46 then behind l k ++ [l.drop (k + 1)] else behind l k := by
  unfold behind
  rw [List.range_succ, List.filter_append, List.map_append]
  by_cases hc : c = 46
  · subst hc; simp [h]
  · have : (l[k]? == some 46) = false := by rw [h]; simpa using hc
    simp [this, hc]
theorem behind_all (l : List UInt8) : behind l l.length = after l := by
  induction l with
  | nil => rfl
  | cons c r ih =>
    unfold behind at *
    rw [List.length_cons, List.range_succ_eq_map, List.filter_cons, List.filter_map]
    have e : ((fun i => (c :: r)[i]? == some 46) ∘ Nat.succ) = fun i => r[i]? == some 46 := by funext i; rfl
    rw [e]
    unfold after
    by_cases hc : c = 46
    · subst hc
      simp only [List.getElem?_cons_zero, beq_self_eq_true, if_true, List.map_cons, List.map_map]
      rw [← ih]; rfl
    · have h : ((c :: r)[0]? == some 46) = false := by simpa using hc
      rw [h, if_neg hc]
      simp only [Bool.false_eq_true, if_false, List.map_map]
      rw [← ih]; rfl
set_option maxRecDepth 100000 in
set_option maxHeartbeats 4000000 in
theorem upsOf_v {l : List UInt8} (hl : l.length ≤ 4398046511104) : ACalls Tryd.prog 28 [strT l] (match upsF l with | [] => .nils | x => strsT x) := by
  have c1 := isAddress_v hl
  have hb : ∀ k, (behind l k).length ≤ k := fun k => by unfold behind; simp; exact Nat.le_trans (List.length_filter_le _ _) (by simp)
  refine fun1 tb_ok Tryd.func28 rfl Tryd.ntmps28 Tryd.results28 rfl fun N => ?_
  by_cases h0 : l = []
  · subst h0
    repeat' (first
        | with_reducible first | refine awp_seq ?_ | refine awp_region ?_ | refine awp_draw mixed ?_ | refine then_n ?_ | refine awp_skip ?_ | refine awp_block ?_ | refine awp_exit ?_ | refine awp_ret ?_ | refine awp_label ?_ | refine then_exit ?_ | refine then_ret ?_ | refine blk_n ?_ | refine blk_ret ?_ | refine blk_exit ?_ | refine blk_other rfl ?_ | refine then_k ?_
        | refine awp_true rfl ?_
        | refine awp_false rfl ?_
        | refine awp_split rfl (fun hb => ?_) (fun hb => ?_)
        | (refine isR ?_; first | refine x_far [] tb_ok rfl ?_ | refine r_nil ?_ | refine r_nild (by kernel_rfl) ?_ | refine x_bs tb_ok ?_ | refine x_addE ?_ | refine x_add ?_ | refine x_cat ?_ | refine x_lenF tb_ok ?_ | refine x_lenO tb_ok ?_ | refine x_lenN tb_ok ?_ | refine x_lenS ?_ | refine x_lssT ?_ | refine x_lssF ?_ | refine x_lss (fun hc => ?_) (fun hc => ?_) | refine x_eqlT ?_ | refine x_eqlF ?_ | refine x_eql (fun hc => ?_) (fun hc => ?_) | refine x_eqlB ?_ | refine x_eqlST ?_ | refine x_eqlSF ?_ | refine x_eqlS (fun hc => ?_) (fun hc => ?_) | refine x_eqlI ?_ | refine x_eqlN ?_ | refine x_ixS tb_ok ?_ | refine x_ixA tb_ok ?_ | refine x_slSf tb_ok ?_ | refine x_slSt tb_ok ?_ | refine x_slSm tb_ok ?_ | refine x_slFf tb_ok ?_ | refine x_slFt tb_ok ?_ | refine x_slFm tb_ok ?_ | refine x_eqlA tb_ok ?_ | refine x_eqlAS tb_ok (fun hc => ?_) (fun hc => ?_))
        | refine x_ret ?_
        | refine x_nor ?_
        | exact x_le)
    rfl
  · by_cases ha : address l = true
    · rw [ha] at c1
      have e : upsF l = [l] := by unfold upsF; rw [if_neg h0, if_pos ha]
      rw [e]
      repeat' (first
          | with_reducible first | refine awp_seq ?_ | refine awp_region ?_ | refine awp_draw mixed ?_ | refine then_n ?_ | refine awp_skip ?_ | refine awp_block ?_ | refine awp_exit ?_ | refine awp_ret ?_ | refine awp_label ?_ | refine then_exit ?_ | refine then_ret ?_ | refine blk_n ?_ | refine blk_ret ?_ | refine blk_exit ?_ | refine blk_other rfl ?_ | refine then_k ?_
          | refine awp_true rfl ?_
          | refine awp_false rfl ?_
          | refine awp_split rfl (fun hb => ?_) (fun hb => ?_)
          | (refine isR ?_; first | refine x_far [] tb_ok rfl ?_ | refine r_nil ?_ | refine r_nild (by kernel_rfl) ?_ | refine x_call (c1 _) ?_ | refine x_call (c1) ?_ | refine x_bs tb_ok ?_ | refine x_addE ?_ | refine x_add ?_ | refine x_cat ?_ | refine x_lenF tb_ok ?_ | refine x_lenO tb_ok ?_ | refine x_lenN tb_ok ?_ | refine x_lenS ?_ | refine x_lssT ?_ | refine x_lssF ?_ | refine x_lss (fun hc => ?_) (fun hc => ?_) | refine x_eqlT ?_ | refine x_eqlF ?_ | refine x_eql (fun hc => ?_) (fun hc => ?_) | refine x_eqlB ?_ | refine x_eqlST ?_ | refine x_eqlSF ?_ | refine x_eqlS (fun hc => ?_) (fun hc => ?_) | refine x_eqlI ?_ | refine x_eqlN ?_ | refine x_ixS tb_ok ?_ | refine x_ixA tb_ok ?_ | refine x_slSf tb_ok ?_ | refine x_slSt tb_ok ?_ | refine x_slSm tb_ok ?_ | refine x_slFf tb_ok ?_ | refine x_slFt tb_ok ?_ | refine x_slFm tb_ok ?_ | refine x_eqlA tb_ok ?_ | refine x_eqlAS tb_ok (fun hc => ?_) (fun hc => ?_))
          | refine x_ret ?_
          | refine x_nor ?_
          | exact x_le)
      rfl
    · simp only [Bool.not_eq_true] at ha
      rw [ha] at c1
      have e : upsF l = l :: after l := by unfold upsF; rw [if_neg h0, ha]; simp
      rw [e]
      repeat' (first
          | with_reducible first | refine awp_seq ?_ | refine awp_region ?_ | refine awp_draw mixed ?_ | refine then_n ?_ | refine awp_skip ?_ | refine awp_block ?_ | refine awp_exit ?_ | refine awp_ret ?_ | refine awp_label ?_ | refine then_exit ?_ | refine then_ret ?_ | refine blk_n ?_ | refine blk_ret ?_ | refine blk_exit ?_ | refine blk_other rfl ?_ | refine then_k ?_
          | refine awp_true rfl ?_
          | refine awp_false rfl ?_
          | refine awp_split rfl (fun hb => ?_) (fun hb => ?_)
          | (refine isR ?_; first | refine x_far [] tb_ok rfl ?_ | refine r_nil ?_ | refine r_nild (by kernel_rfl) ?_ | refine x_call (c1 _) ?_ | refine x_call (c1) ?_ | refine r_new rfl rfl rfl rfl (law_buildSlice_own (vs := [_]) tb_ok rfl rfl rfl rfl rfl rfl rfl rfl rfl rfl rfl rfl rfl) (hT rfl Abs.h0) ?_ | refine x_bs tb_ok ?_ | refine x_addE ?_ | refine x_add ?_ | refine x_cat ?_ | refine x_lenF tb_ok ?_ | refine x_lenO tb_ok ?_ | refine x_lenN tb_ok ?_ | refine x_lenS ?_ | refine x_lssT ?_ | refine x_lssF ?_ | refine x_lss (fun hc => ?_) (fun hc => ?_) | refine x_eqlT ?_ | refine x_eqlF ?_ | refine x_eql (fun hc => ?_) (fun hc => ?_) | refine x_eqlB ?_ | refine x_eqlST ?_ | refine x_eqlSF ?_ | refine x_eqlS (fun hc => ?_) (fun hc => ?_) | refine x_eqlI ?_ | refine x_eqlN ?_ | refine x_ixS tb_ok ?_ | refine x_ixA tb_ok ?_ | refine x_slSf tb_ok ?_ | refine x_slSt tb_ok ?_ | refine x_slSm tb_ok ?_ | refine x_slFf tb_ok ?_ | refine x_slFt tb_ok ?_ | refine x_slFm tb_ok ?_ | refine x_eqlA tb_ok ?_ | refine x_eqlAS tb_ok (fun hc => ?_) (fun hc => ?_))
          | refine x_ret ?_
          | refine x_nor ?_
          | exact x_le)
      refine awp_forN (fun k => ⟨[(0, strT l), (3, .own 0 0 (l :: behind l k).length), (4, .int .i64 (k : Int))], [(0, some (.els 9 1 ((l :: behind l k).map strT)))], 1, 31⟩) (fun k => k ≤ l.length) l.length 0 (by exact x_le) (Nat.zero_le _) ?_
      intro k hk
      by_cases hk2 : k < l.length
      · have e1 : l[k]? = some l[k] := by simp [hk2]
        generalize l[k] = c at e1
        have hbk := hb k
        have eb := behind_on e1
        have hlen : (l :: behind l k).length = (behind l k).length + 1 := List.length_cons
        have hc46 : c = 46 ↔ (c.toNat : Int) = 46 := byte_eq
        repeat' (first
            | with_reducible first | refine awp_seq ?_ | refine awp_region ?_ | refine awp_draw mixed ?_ | refine then_n ?_ | refine awp_skip ?_ | refine awp_block ?_ | refine awp_exit ?_ | refine awp_ret ?_ | refine awp_label ?_ | refine then_exit ?_ | refine then_ret ?_ | refine blk_n ?_ | refine blk_ret ?_ | refine blk_exit ?_ | refine blk_other rfl ?_ | refine then_k ?_
            | refine awp_true rfl ?_
            | refine awp_false rfl ?_
            | refine awp_split rfl (fun hb => ?_) (fun hb => ?_)
            | (refine isR ?_; first | refine x_far [] tb_ok rfl ?_ | refine r_nil ?_ | refine r_nild (by kernel_rfl) ?_ | refine x_app strT tb_ok ?_ | refine x_bs tb_ok ?_ | refine x_addE ?_ | refine x_add ?_ | refine x_cat ?_ | refine x_lenF tb_ok ?_ | refine x_lenO tb_ok ?_ | refine x_lenN tb_ok ?_ | refine x_lenS ?_ | refine x_lssT ?_ | refine x_lssF ?_ | refine x_lss (fun hc => ?_) (fun hc => ?_) | refine x_eqlT ?_ | refine x_eqlF ?_ | refine x_eql (fun hc => ?_) (fun hc => ?_) | refine x_eqlB ?_ | refine x_eqlST ?_ | refine x_eqlSF ?_ | refine x_eqlS (fun hc => ?_) (fun hc => ?_) | refine x_eqlI ?_ | refine x_eqlN ?_ | refine x_ixS tb_ok ?_ | refine x_ixA tb_ok ?_ | refine x_slSf tb_ok ?_ | refine x_slSt tb_ok ?_ | refine x_slSm tb_ok ?_ | refine x_slFf tb_ok ?_ | refine x_slFt tb_ok ?_ | refine x_slFm tb_ok ?_ | refine x_eqlA tb_ok ?_ | refine x_eqlAS tb_ok (fun hc => ?_) (fun hc => ?_))
            | refine x_ret ?_
            | refine x_nor ?_
            | exact x_le)
        · rw [eb, if_pos (hc46.2 (by assumption))]
          exact ⟨by omega, hk2, (by exact x_len [1])⟩
        · rw [eb, if_neg (fun h => absurd (hc46.1 h) (by assumption))]
          exact ⟨by omega, hk2, (by exact x_len [0])⟩
      · skip
        repeat' (first
            | with_reducible first | refine awp_seq ?_ | refine awp_region ?_ | refine awp_draw mixed ?_ | refine then_n ?_ | refine awp_skip ?_ | refine awp_block ?_ | refine awp_exit ?_ | refine awp_ret ?_ | refine awp_label ?_ | refine then_exit ?_ | refine then_ret ?_ | refine blk_n ?_ | refine blk_ret ?_ | refine blk_exit ?_ | refine blk_other rfl ?_ | refine then_k ?_
            | refine awp_true rfl ?_
            | refine awp_false rfl ?_
            | refine awp_split rfl (fun hb => ?_) (fun hb => ?_)
            | (refine isR ?_; first | refine x_far [] tb_ok rfl ?_ | refine r_nil ?_ | refine r_nild (by kernel_rfl) ?_ | refine x_bs tb_ok ?_ | refine x_addE ?_ | refine x_add ?_ | refine x_cat ?_ | refine x_lenF tb_ok ?_ | refine x_lenO tb_ok ?_ | refine x_lenN tb_ok ?_ | refine x_lenS ?_ | refine x_lssT ?_ | refine x_lssF ?_ | refine x_lss (fun hc => ?_) (fun hc => ?_) | refine x_eqlT ?_ | refine x_eqlF ?_ | refine x_eql (fun hc => ?_) (fun hc => ?_) | refine x_eqlB ?_ | refine x_eqlST ?_ | refine x_eqlSF ?_ | refine x_eqlS (fun hc => ?_) (fun hc => ?_) | refine x_eqlI ?_ | refine x_eqlN ?_ | refine x_ixS tb_ok ?_ | refine x_ixA tb_ok ?_ | refine x_slSf tb_ok ?_ | refine x_slSt tb_ok ?_ | refine x_slSm tb_ok ?_ | refine x_slFf tb_ok ?_ | refine x_slFt tb_ok ?_ | refine x_slFm tb_ok ?_ | refine x_eqlA tb_ok ?_ | refine x_eqlAS tb_ok (fun hc => ?_) (fun hc => ?_))
            | refine x_ret ?_
            | refine x_nor ?_
            | exact x_le)
        rw [show k = l.length by omega, behind_all]
        exact fro_whole
end Go.Proofs.YtkgdkpiacencjaaDoor.HostD
