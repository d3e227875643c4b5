/- The walk of GrantTells. -/
import Derived.Test.YtnjaepdlfnidfaaGrantV
namespace Go.Proofs.Ytnjaepdlfnidfaa.GrantR
open Go.RowKit Mem Abs GrantP GrantB GrantD GrantX GrantN GrantV

theorem same_t {g : Int} {P : Nat → Bool} {L : List Int} : ACalls Try.prog 18 [conT g P L, conT g P L] (.bool true) := by
  have h := same_v (g := g) (g' := g) (P := P) (Q := P) (L := L) (U := L)
  rwa [same_self] at h
set_option maxRecDepth 100000 in
set_option maxHeartbeats 4000000 in
theorem tells_law {g g' : Int} {P Q : Nat → Bool} {L U : List Int} {p v n : Int} : ACalls Try.prog 3 [conT g P L, conT g' Q U, .int .i64 p, .int .i64 v, .int .i64 n] (.bool true) := by
  obtain ⟨r, hr⟩ : ∃ r, bothF (· && ·) g g' P Q L U = r := ⟨_, rfl⟩
  obtain ⟨j, hj⟩ : ∃ r, bothF (· || ·) g g' P Q L U = r := ⟨_, rfl⟩
  obtain ⟨d, hd⟩ : ∃ r, dropF g P L p v n = r := ⟨_, rfl⟩
  obtain ⟨x, hx⟩ : ∃ x, may P L p v = x := ⟨_, rfl⟩
  obtain ⟨q, hq⟩ : ∃ q, less P Q L U = q := ⟨_, rfl⟩
  have c1 := meet_v (g := g) (g' := g') (P := P) (Q := Q) (L := L) (U := U)
  have c2 := meetOf_v (g := g) (g' := g') (P := P) (Q := Q) (L := L) (U := U)
  have c3 := join_v (g := g) (g' := g') (P := P) (Q := Q) (L := L) (U := U)
  have c4 := joinOf_v (g := g) (g' := g') (P := P) (Q := Q) (L := L) (U := U)
  have c5 := drop_v (g := g) (P := P) (L := L) (p := p) (v := v) (now := n)
  have c6 := dropOf_v (g := g) (P := P) (L := L) (p := p) (v := v) (now := n)
  have c7 := may_v (g := g) (P := P) (L := L) (p := p) (v := v)
  have c8 := mayOf_v (g := g) (P := P) (L := L) (p := p) (v := v)
  have c9 := less_v (g := g) (g' := g') (P := P) (Q := Q) (L := L) (U := U)
  have c10 := lessOf_v (g := g) (g' := g') (P := P) (Q := Q) (L := L) (U := U)
  rw [hr] at c1 c2; rw [hj] at c3 c4; rw [hd] at c5 c6; rw [hx] at c7 c8; rw [hq] at c9 c10
  clear hr hj hd hx hq
  refine fun5 tb_ok Try.func3 rfl Try.ntmps3 Try.results3 rfl fun N => ?_
  repeat (first
      | with_reducible refine awp_seq ?_
      | with_reducible refine awp_region ?_
      | with_reducible refine awp_draw mixed ?_
      | with_reducible refine then_n ?_
      | with_reducible refine awp_skip ?_
      | with_reducible refine awp_block ?_
      | with_reducible refine awp_exit ?_
      | with_reducible refine awp_ret ?_
      | with_reducible refine awp_label ?_
      | with_reducible refine then_exit ?_
      | with_reducible refine then_ret ?_
      | with_reducible refine blk_n ?_
      | with_reducible refine blk_ret ?_
      | with_reducible refine blk_exit ?_
      | refine r_nil ?_
      | refine r_nild (by kernel_rfl) ?_
      | refine awp_true rfl ?_
      | refine awp_false rfl ?_
      | with_reducible refine blk_other rfl ?_
      | exact end_ret rfl rfl (by repeat' first | exact trivial | constructor) rfl
      | refine r_val rfl rfl rfl (law_move rfl) (hT rfl h0) ?_
      | refine r_val rfl rfl rfl (law_assign rfl) (hT rfl h0) ?_
      | refine r_val rfl rfl rfl (law_extract rfl rfl) (hT rfl h0) ?_
      | refine r_val rfl rfl rfl (law_not rfl) (hT rfl h0) ?_
      | refine r_val rfl rfl rfl (law_nilCheck rfl rfl) (hT rfl h0) ?_
      | refine r_val rfl rfl rfl (law_pick_true rfl) (hT rfl (hT rfl h0)) ?_
      | refine r_val rfl rfl rfl (law_pick_false rfl) (hT rfl (hT rfl h0)) ?_
      | refine r_val rfl rfl rfl (law_load tb_ok rfl rfl rfl rfl) (hT rfl (hN rfl h0)) ?_
      | refine r_val rfl rfl rfl (law_load_fp tb_ok rfl rfl rfl) (hT rfl h0) ?_
      | refine r_val rfl rfl rfl (law_field tb_ok rfl rfl rfl rfl rfl) (hT rfl h0) ?_
      | refine r_val rfl rfl rfl (law_fieldAddr tb_ok rfl rfl rfl rfl rfl) (hT rfl h0) ?_
      | refine r_val rfl rfl rfl (law_fieldAddr_fp tb_ok rfl rfl rfl rfl rfl) (hT rfl h0) ?_
      | refine r_val rfl rfl rfl (law_len_str rfl rfl) (hT rfl h0) ?_
      | refine r_val rfl rfl rfl (law_len_fro tb_ok rfl rfl rfl) (hT rfl h0) ?_
      | refine r_val rfl rfl rfl (law_len_own tb_ok rfl rfl rfl) (hT rfl h0) ?_
      | refine r_val rfl rfl rfl (law_len_nils tb_ok rfl rfl rfl) (hT rfl h0) ?_
      | refine r_val rfl rfl rfl (law_add' rfl (wrap64 (by omega) (by omega))) (hT rfl (hT rfl h0)) ?_
      | refine r_val rfl rfl rfl (law_sub' rfl (wrap64 (by omega) (by omega))) (hT rfl (hT rfl h0)) ?_
      | refine r_val rfl rfl rfl (law_mul' rfl (wrap64 (by omega) (by omega))) (hT rfl (hT rfl h0)) ?_
      | refine r_val rfl rfl rfl (law_lss rfl (decide_eq_true (by omega))) (hT rfl (hT rfl h0)) ?_
      | refine r_val rfl rfl rfl (law_lss rfl (decide_eq_false (by omega))) (hT rfl (hT rfl h0)) ?_
      | refine r_val rfl rfl rfl (law_leq rfl (decide_eq_true (by omega))) (hT rfl (hT rfl h0)) ?_
      | refine r_val rfl rfl rfl (law_leq rfl (decide_eq_false (by omega))) (hT rfl (hT rfl h0)) ?_
      | refine r_val rfl rfl rfl (law_gtr rfl (decide_eq_true (by omega))) (hT rfl (hT rfl h0)) ?_
      | refine r_val rfl rfl rfl (law_gtr rfl (decide_eq_false (by omega))) (hT rfl (hT rfl h0)) ?_
      | refine r_val rfl rfl rfl (law_geq rfl (decide_eq_true (by omega))) (hT rfl (hT rfl h0)) ?_
      | refine r_val rfl rfl rfl (law_geq rfl (decide_eq_false (by omega))) (hT rfl (hT rfl h0)) ?_
      | refine r_val rfl rfl rfl (law_eql rfl (decide_eq_true (by omega))) (hT rfl (hT rfl h0)) ?_
      | refine r_val rfl rfl rfl (law_eql rfl (decide_eq_false (by omega))) (hT rfl (hT rfl h0)) ?_
      | refine r_val rfl rfl rfl (law_neq rfl (decide_eq_true (by omega))) (hT rfl (hT rfl h0)) ?_
      | refine r_val rfl rfl rfl (law_neq rfl (decide_eq_false (by omega))) (hT rfl (hT rfl h0)) ?_
      | refine r_val rfl rfl rfl (law_eql_bool rfl rfl (beq_self_eq_true _)) (hT rfl (hT rfl h0)) ?_
      | refine r_val rfl rfl rfl (law_neq_bool rfl rfl (bne_self_eq_false _)) (hT rfl (hT rfl h0)) ?_
      | refine r_val rfl rfl rfl (law_eql_bool rfl rfl rfl) (hT rfl (hT rfl h0)) ?_
      | refine r_val rfl rfl rfl (law_neq_bool rfl rfl rfl) (hT rfl (hT rfl h0)) ?_
      | refine r_val rfl rfl rfl (law_eql_str rfl (decide_eq_true (by assumption))) (hT rfl (hT rfl h0)) ?_
      | refine r_val rfl rfl rfl (law_eql_str rfl (decide_eq_false (by assumption))) (hT rfl (hT rfl h0)) ?_
      | refine r_val rfl rfl rfl (law_neq_str rfl (decide_eq_true (by assumption))) (hT rfl (hT rfl h0)) ?_
      | refine r_val rfl rfl rfl (law_neq_str rfl (decide_eq_false (by simpa using (by assumption)))) (hT rfl (hT rfl h0)) ?_
      | refine r_val rfl rfl rfl (law_box_fz rfl rfl rfl) (hT rfl h0) ?_
      | refine r_new rfl rfl rfl rfl (law_alloc tb_ok rfl rfl rfl) h0 ?_
      | refine r_set rfl rfl (law_store tb_ok rfl rfl rfl rfl rfl rfl rfl rfl) (hT rfl (hT rfl (hN rfl h0))) ?_
      | refine r_off rfl rfl rfl ?_
      | refine r_off0 rfl rfl ?_
      | refine r_val rfl rfl rfl (law_call rfl (enters (by kernel_rfl)) (by rfl) (c1) (by rfl)) (hT rfl (hT rfl h0)) ?_
      | refine r_val rfl rfl rfl (law_call rfl (enters (by kernel_rfl)) (by rfl) (c2) (by rfl)) (hT rfl (hT rfl h0)) ?_
      | refine r_val rfl rfl rfl (law_call rfl (enters (by kernel_rfl)) (by rfl) (c3) (by rfl)) (hT rfl (hT rfl h0)) ?_
      | refine r_val rfl rfl rfl (law_call rfl (enters (by kernel_rfl)) (by rfl) (c4) (by rfl)) (hT rfl (hT rfl h0)) ?_
      | refine r_val rfl rfl rfl (law_call rfl (enters (by kernel_rfl)) (by rfl) (c5) (by rfl)) (hT rfl (hT rfl (hT rfl (hT rfl h0)))) ?_
      | refine r_val rfl rfl rfl (law_call rfl (enters (by kernel_rfl)) (by rfl) (c6) (by rfl)) (hT rfl (hT rfl (hT rfl (hT rfl h0)))) ?_
      | refine r_val rfl rfl rfl (law_call rfl (enters (by kernel_rfl)) (by rfl) (c7) (by rfl)) (hT rfl (hT rfl (hT rfl h0))) ?_
      | refine r_val rfl rfl rfl (law_call rfl (enters (by kernel_rfl)) (by rfl) (c8) (by rfl)) (hT rfl (hT rfl (hT rfl h0))) ?_
      | refine r_val rfl rfl rfl (law_call rfl (enters (by kernel_rfl)) (by rfl) (c9) (by rfl)) (hT rfl (hT rfl h0)) ?_
      | refine r_val rfl rfl rfl (law_call rfl (enters (by kernel_rfl)) (by rfl) (c10) (by rfl)) (hT rfl (hT rfl h0)) ?_
      | refine r_val rfl rfl rfl (law_call rfl (enters (by kernel_rfl)) (by rfl) (same_t) (by rfl)) (hT rfl (hT rfl h0)) ?_
      | refine r_val rfl rfl rfl (law_call rfl (enters (by kernel_rfl)) (by rfl) (begun_v) (by rfl)) h0 ?_)
end Go.Proofs.Ytnjaepdlfnidfaa.GrantR
