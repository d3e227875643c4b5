/- The walk of GrantMay. -/
import Derived.Test.YtnjaepdlfnidfaaGrantV
namespace Go.Proofs.Ytnjaepdlfnidfaa.GrantQ
open Go.RowKit Mem Abs GrantP GrantB GrantD GrantX GrantN GrantV

set_option maxRecDepth 100000 in
set_option maxHeartbeats 4000000 in
theorem may_law {g g' : Int} {P Q : Nat → Bool} {L U : List Int} {p v : Int} : ACalls Try.prog 5 [conT g P L, conT g' Q U, .int .i64 p, .int .i64 v] (.bool true) := by
  obtain ⟨r, hr⟩ : ∃ r, bothF (· && ·) g g' P Q L U = r := ⟨_, rfl⟩
  have cm := meet_v (g := g) (g' := g') (P := P) (Q := Q) (L := L) (U := U)
  rw [hr] at cm
  obtain ⟨x, hx⟩ : ∃ x, may P L p v = x := ⟨_, rfl⟩
  obtain ⟨y, hy⟩ : ∃ y, may Q U p v = y := ⟨_, rfl⟩
  obtain ⟨z, hz⟩ : ∃ z, may r.2.1 r.2.2.1 p v = z := ⟨_, rfl⟩
  obtain ⟨q, hq⟩ : ∃ q, less P Q L U = q := ⟨_, rfl⟩
  have h1 : r.2.2.2 = 0 → z = (x && y) := fun h => by rw [← hx, ← hy, ← hz]; exact meet_may hr (by rw [h]; rfl) p v
  have h2 : q = true → x = true → y = true := fun h => by rw [← hx, ← hy]; exact less_may (hq.trans h) p v
  have cx := may_v (g := g) (P := P) (L := L) (p := p) (v := v)
  have cy := may_v (g := g') (P := Q) (L := U) (p := p) (v := v)
  have cz := may_v (g := r.1) (P := r.2.1) (L := r.2.2.1) (p := p) (v := v)
  have cq := less_v (g := g) (g' := g') (P := P) (Q := Q) (L := L) (U := U)
  rw [hx] at cx; rw [hy] at cy; rw [hz] at cz; rw [hq] at cq
  clear hx hy hz hq hr
  refine fun4 tb_ok Try.func5 rfl Try.ntmps5 Try.results5 rfl fun N => ?_
  repeat (first
      | with_reducible refine awp_seq ?_
      | with_reducible refine awp_region ?_
      | with_reducible refine awp_draw mixed ?_
      | with_reducible refine then_n ?_
      | with_reducible refine awp_skip ?_
      | with_reducible refine awp_block ?_
      | with_reducible refine awp_exit ?_
      | with_reducible refine awp_ret ?_
      | with_reducible refine awp_label ?_
      | with_reducible refine then_exit ?_
      | with_reducible refine then_ret ?_
      | with_reducible refine blk_n ?_
      | with_reducible refine blk_ret ?_
      | with_reducible refine blk_exit ?_
      | refine r_nil ?_
      | refine r_nild (by kernel_rfl) ?_
      | refine awp_true rfl ?_
      | refine awp_false rfl ?_
      | with_reducible refine blk_other rfl ?_
      | exact end_ret rfl rfl (by repeat' first | exact trivial | constructor) rfl
      | refine r_val rfl rfl rfl (law_move rfl) (hT rfl h0) ?_
      | refine r_val rfl rfl rfl (law_assign rfl) (hT rfl h0) ?_
      | refine r_val rfl rfl rfl (law_extract rfl rfl) (hT rfl h0) ?_
      | refine r_val rfl rfl rfl (law_not rfl) (hT rfl h0) ?_
      | refine r_val rfl rfl rfl (law_nilCheck rfl rfl) (hT rfl h0) ?_
      | refine r_val rfl rfl rfl (law_pick_true rfl) (hT rfl (hT rfl h0)) ?_
      | refine r_val rfl rfl rfl (law_pick_false rfl) (hT rfl (hT rfl h0)) ?_
      | refine r_val rfl rfl rfl (law_load tb_ok rfl rfl rfl rfl) (hT rfl (hN rfl h0)) ?_
      | refine r_val rfl rfl rfl (law_load_fp tb_ok rfl rfl rfl) (hT rfl h0) ?_
      | refine r_val rfl rfl rfl (law_field tb_ok rfl rfl rfl rfl rfl) (hT rfl h0) ?_
      | refine r_val rfl rfl rfl (law_fieldAddr tb_ok rfl rfl rfl rfl rfl) (hT rfl h0) ?_
      | refine r_val rfl rfl rfl (law_fieldAddr_fp tb_ok rfl rfl rfl rfl rfl) (hT rfl h0) ?_
      | refine r_val rfl rfl rfl (law_len_str rfl rfl) (hT rfl h0) ?_
      | refine r_val rfl rfl rfl (law_len_fro tb_ok rfl rfl rfl) (hT rfl h0) ?_
      | refine r_val rfl rfl rfl (law_len_own tb_ok rfl rfl rfl) (hT rfl h0) ?_
      | refine r_val rfl rfl rfl (law_len_nils tb_ok rfl rfl rfl) (hT rfl h0) ?_
      | refine r_val rfl rfl rfl (law_add' rfl (wrap64 (by omega) (by omega))) (hT rfl (hT rfl h0)) ?_
      | refine r_val rfl rfl rfl (law_sub' rfl (wrap64 (by omega) (by omega))) (hT rfl (hT rfl h0)) ?_
      | refine r_val rfl rfl rfl (law_mul' rfl (wrap64 (by omega) (by omega))) (hT rfl (hT rfl h0)) ?_
      | refine r_val rfl rfl rfl (law_lss rfl (decide_eq_true (by omega))) (hT rfl (hT rfl h0)) ?_
      | refine r_val rfl rfl rfl (law_lss rfl (decide_eq_false (by omega))) (hT rfl (hT rfl h0)) ?_
      | refine r_val rfl rfl rfl (law_leq rfl (decide_eq_true (by omega))) (hT rfl (hT rfl h0)) ?_
      | refine r_val rfl rfl rfl (law_leq rfl (decide_eq_false (by omega))) (hT rfl (hT rfl h0)) ?_
      | refine r_val rfl rfl rfl (law_gtr rfl (decide_eq_true (by omega))) (hT rfl (hT rfl h0)) ?_
      | refine r_val rfl rfl rfl (law_gtr rfl (decide_eq_false (by omega))) (hT rfl (hT rfl h0)) ?_
      | refine r_val rfl rfl rfl (law_geq rfl (decide_eq_true (by omega))) (hT rfl (hT rfl h0)) ?_
      | refine r_val rfl rfl rfl (law_geq rfl (decide_eq_false (by omega))) (hT rfl (hT rfl h0)) ?_
      | refine r_val rfl rfl rfl (law_eql rfl (decide_eq_true (by omega))) (hT rfl (hT rfl h0)) ?_
      | refine r_val rfl rfl rfl (law_eql rfl (decide_eq_false (by omega))) (hT rfl (hT rfl h0)) ?_
      | refine r_val rfl rfl rfl (law_neq rfl (decide_eq_true (by omega))) (hT rfl (hT rfl h0)) ?_
      | refine r_val rfl rfl rfl (law_neq rfl (decide_eq_false (by omega))) (hT rfl (hT rfl h0)) ?_
      | refine r_val rfl rfl rfl (law_eql_bool rfl rfl rfl) (hT rfl (hT rfl h0)) ?_
      | refine r_val rfl rfl rfl (law_neq_bool rfl rfl rfl) (hT rfl (hT rfl h0)) ?_
      | refine r_val rfl rfl rfl (law_eql_str rfl (decide_eq_true (by assumption))) (hT rfl (hT rfl h0)) ?_
      | refine r_val rfl rfl rfl (law_eql_str rfl (decide_eq_false (by assumption))) (hT rfl (hT rfl h0)) ?_
      | refine r_val rfl rfl rfl (law_neq_str rfl (decide_eq_true (by assumption))) (hT rfl (hT rfl h0)) ?_
      | refine r_val rfl rfl rfl (law_neq_str rfl (decide_eq_false (by simpa using (by assumption)))) (hT rfl (hT rfl h0)) ?_
      | refine r_val rfl rfl rfl (law_box_fz rfl rfl rfl) (hT rfl h0) ?_
      | refine r_new rfl rfl rfl rfl (law_alloc tb_ok rfl rfl rfl) h0 ?_
      | refine r_set rfl rfl (law_store tb_ok rfl rfl rfl rfl rfl rfl rfl rfl) (hT rfl (hT rfl (hN rfl h0))) ?_
      | refine r_off rfl rfl rfl ?_
      | refine r_off0 rfl rfl ?_
      | refine r_val rfl rfl rfl (law_call rfl (enters (by kernel_rfl)) (by rfl) (cm) (by rfl)) (hT rfl (hT rfl h0)) ?_
      | refine r_val rfl rfl rfl (law_call rfl (enters (by kernel_rfl)) (by rfl) (begun_v) (by rfl)) h0 ?_
      | refine r_val rfl rfl rfl (law_call rfl (enters (by kernel_rfl)) (by rfl) (cx) (by rfl)) (hT rfl (hT rfl (hT rfl h0))) ?_
      | refine r_val rfl rfl rfl (law_call rfl (enters (by kernel_rfl)) (by rfl) (cy) (by rfl)) (hT rfl (hT rfl (hT rfl h0))) ?_)
  by_cases e : r.2.2.2 = 0
  · obtain rfl := h1 e
    clear h1
    repeat (first
        | with_reducible refine awp_seq ?_
        | with_reducible refine awp_region ?_
        | with_reducible refine awp_draw mixed ?_
        | with_reducible refine then_n ?_
        | with_reducible refine awp_skip ?_
        | with_reducible refine awp_block ?_
        | with_reducible refine awp_exit ?_
        | with_reducible refine awp_ret ?_
        | with_reducible refine awp_label ?_
        | with_reducible refine then_exit ?_
        | with_reducible refine then_ret ?_
        | with_reducible refine blk_n ?_
        | with_reducible refine blk_ret ?_
        | with_reducible refine blk_exit ?_
        | refine r_nil ?_
        | refine r_nild (by kernel_rfl) ?_
        | refine awp_true rfl ?_
        | refine awp_false rfl ?_
        | with_reducible refine blk_other rfl ?_
        | exact end_ret rfl rfl (by repeat' first | exact trivial | constructor) rfl
        | refine r_val rfl rfl rfl (law_move rfl) (hT rfl h0) ?_
        | refine r_val rfl rfl rfl (law_assign rfl) (hT rfl h0) ?_
        | refine r_val rfl rfl rfl (law_extract rfl rfl) (hT rfl h0) ?_
        | refine r_val rfl rfl rfl (law_not rfl) (hT rfl h0) ?_
        | refine r_val rfl rfl rfl (law_nilCheck rfl rfl) (hT rfl h0) ?_
        | refine r_val rfl rfl rfl (law_pick_true rfl) (hT rfl (hT rfl h0)) ?_
        | refine r_val rfl rfl rfl (law_pick_false rfl) (hT rfl (hT rfl h0)) ?_
        | refine r_val rfl rfl rfl (law_load tb_ok rfl rfl rfl rfl) (hT rfl (hN rfl h0)) ?_
        | refine r_val rfl rfl rfl (law_load_fp tb_ok rfl rfl rfl) (hT rfl h0) ?_
        | refine r_val rfl rfl rfl (law_field tb_ok rfl rfl rfl rfl rfl) (hT rfl h0) ?_
        | refine r_val rfl rfl rfl (law_fieldAddr tb_ok rfl rfl rfl rfl rfl) (hT rfl h0) ?_
        | refine r_val rfl rfl rfl (law_fieldAddr_fp tb_ok rfl rfl rfl rfl rfl) (hT rfl h0) ?_
        | refine r_val rfl rfl rfl (law_len_str rfl rfl) (hT rfl h0) ?_
        | refine r_val rfl rfl rfl (law_len_fro tb_ok rfl rfl rfl) (hT rfl h0) ?_
        | refine r_val rfl rfl rfl (law_len_own tb_ok rfl rfl rfl) (hT rfl h0) ?_
        | refine r_val rfl rfl rfl (law_len_nils tb_ok rfl rfl rfl) (hT rfl h0) ?_
        | refine r_val rfl rfl rfl (law_add' rfl (wrap64 (by omega) (by omega))) (hT rfl (hT rfl h0)) ?_
        | refine r_val rfl rfl rfl (law_sub' rfl (wrap64 (by omega) (by omega))) (hT rfl (hT rfl h0)) ?_
        | refine r_val rfl rfl rfl (law_mul' rfl (wrap64 (by omega) (by omega))) (hT rfl (hT rfl h0)) ?_
        | refine r_val rfl rfl rfl (law_lss rfl (decide_eq_true (by omega))) (hT rfl (hT rfl h0)) ?_
        | refine r_val rfl rfl rfl (law_lss rfl (decide_eq_false (by omega))) (hT rfl (hT rfl h0)) ?_
        | refine r_val rfl rfl rfl (law_leq rfl (decide_eq_true (by omega))) (hT rfl (hT rfl h0)) ?_
        | refine r_val rfl rfl rfl (law_leq rfl (decide_eq_false (by omega))) (hT rfl (hT rfl h0)) ?_
        | refine r_val rfl rfl rfl (law_gtr rfl (decide_eq_true (by omega))) (hT rfl (hT rfl h0)) ?_
        | refine r_val rfl rfl rfl (law_gtr rfl (decide_eq_false (by omega))) (hT rfl (hT rfl h0)) ?_
        | refine r_val rfl rfl rfl (law_geq rfl (decide_eq_true (by omega))) (hT rfl (hT rfl h0)) ?_
        | refine r_val rfl rfl rfl (law_geq rfl (decide_eq_false (by omega))) (hT rfl (hT rfl h0)) ?_
        | refine r_val rfl rfl rfl (law_eql rfl (decide_eq_true (by omega))) (hT rfl (hT rfl h0)) ?_
        | refine r_val rfl rfl rfl (law_eql rfl (decide_eq_false (by omega))) (hT rfl (hT rfl h0)) ?_
        | refine r_val rfl rfl rfl (law_neq rfl (decide_eq_true (by omega))) (hT rfl (hT rfl h0)) ?_
        | refine r_val rfl rfl rfl (law_neq rfl (decide_eq_false (by omega))) (hT rfl (hT rfl h0)) ?_
        | refine r_val rfl rfl rfl (law_eql_bool rfl rfl rfl) (hT rfl (hT rfl h0)) ?_
        | refine r_val rfl rfl rfl (law_neq_bool rfl rfl rfl) (hT rfl (hT rfl h0)) ?_
        | refine r_val rfl rfl rfl (law_eql_str rfl (decide_eq_true (by assumption))) (hT rfl (hT rfl h0)) ?_
        | refine r_val rfl rfl rfl (law_eql_str rfl (decide_eq_false (by assumption))) (hT rfl (hT rfl h0)) ?_
        | refine r_val rfl rfl rfl (law_neq_str rfl (decide_eq_true (by assumption))) (hT rfl (hT rfl h0)) ?_
        | refine r_val rfl rfl rfl (law_neq_str rfl (decide_eq_false (by simpa using (by assumption)))) (hT rfl (hT rfl h0)) ?_
        | refine r_val rfl rfl rfl (law_box_fz rfl rfl rfl) (hT rfl h0) ?_
        | refine r_new rfl rfl rfl rfl (law_alloc tb_ok rfl rfl rfl) h0 ?_
        | refine r_set rfl rfl (law_store tb_ok rfl rfl rfl rfl rfl rfl rfl rfl) (hT rfl (hT rfl (hN rfl h0))) ?_
        | refine r_off rfl rfl rfl ?_
        | refine r_off0 rfl rfl ?_
        | refine r_val rfl rfl rfl (law_call rfl (enters (by kernel_rfl)) (by rfl) (cz) (by rfl)) (hT rfl (hT rfl (hT rfl h0))) ?_)
    cases x
    · skip
      repeat (first
          | with_reducible refine awp_seq ?_
          | with_reducible refine awp_region ?_
          | with_reducible refine awp_draw mixed ?_
          | with_reducible refine then_n ?_
          | with_reducible refine awp_skip ?_
          | with_reducible refine awp_block ?_
          | with_reducible refine awp_exit ?_
          | with_reducible refine awp_ret ?_
          | with_reducible refine awp_label ?_
          | with_reducible refine then_exit ?_
          | with_reducible refine then_ret ?_
          | with_reducible refine blk_n ?_
          | with_reducible refine blk_ret ?_
          | with_reducible refine blk_exit ?_
          | refine r_nil ?_
          | refine r_nild (by kernel_rfl) ?_
          | refine awp_true rfl ?_
          | refine awp_false rfl ?_
          | with_reducible refine blk_other rfl ?_
          | exact end_ret rfl rfl (by repeat' first | exact trivial | constructor) rfl
          | refine r_val rfl rfl rfl (law_move rfl) (hT rfl h0) ?_
          | refine r_val rfl rfl rfl (law_assign rfl) (hT rfl h0) ?_
          | refine r_val rfl rfl rfl (law_extract rfl rfl) (hT rfl h0) ?_
          | refine r_val rfl rfl rfl (law_not rfl) (hT rfl h0) ?_
          | refine r_val rfl rfl rfl (law_nilCheck rfl rfl) (hT rfl h0) ?_
          | refine r_val rfl rfl rfl (law_pick_true rfl) (hT rfl (hT rfl h0)) ?_
          | refine r_val rfl rfl rfl (law_pick_false rfl) (hT rfl (hT rfl h0)) ?_
          | refine r_val rfl rfl rfl (law_load tb_ok rfl rfl rfl rfl) (hT rfl (hN rfl h0)) ?_
          | refine r_val rfl rfl rfl (law_load_fp tb_ok rfl rfl rfl) (hT rfl h0) ?_
          | refine r_val rfl rfl rfl (law_field tb_ok rfl rfl rfl rfl rfl) (hT rfl h0) ?_
          | refine r_val rfl rfl rfl (law_fieldAddr tb_ok rfl rfl rfl rfl rfl) (hT rfl h0) ?_
          | refine r_val rfl rfl rfl (law_fieldAddr_fp tb_ok rfl rfl rfl rfl rfl) (hT rfl h0) ?_
          | refine r_val rfl rfl rfl (law_len_str rfl rfl) (hT rfl h0) ?_
          | refine r_val rfl rfl rfl (law_len_fro tb_ok rfl rfl rfl) (hT rfl h0) ?_
          | refine r_val rfl rfl rfl (law_len_own tb_ok rfl rfl rfl) (hT rfl h0) ?_
          | refine r_val rfl rfl rfl (law_len_nils tb_ok rfl rfl rfl) (hT rfl h0) ?_
          | refine r_val rfl rfl rfl (law_add' rfl (wrap64 (by omega) (by omega))) (hT rfl (hT rfl h0)) ?_
          | refine r_val rfl rfl rfl (law_sub' rfl (wrap64 (by omega) (by omega))) (hT rfl (hT rfl h0)) ?_
          | refine r_val rfl rfl rfl (law_mul' rfl (wrap64 (by omega) (by omega))) (hT rfl (hT rfl h0)) ?_
          | refine r_val rfl rfl rfl (law_lss rfl (decide_eq_true (by omega))) (hT rfl (hT rfl h0)) ?_
          | refine r_val rfl rfl rfl (law_lss rfl (decide_eq_false (by omega))) (hT rfl (hT rfl h0)) ?_
          | refine r_val rfl rfl rfl (law_leq rfl (decide_eq_true (by omega))) (hT rfl (hT rfl h0)) ?_
          | refine r_val rfl rfl rfl (law_leq rfl (decide_eq_false (by omega))) (hT rfl (hT rfl h0)) ?_
          | refine r_val rfl rfl rfl (law_gtr rfl (decide_eq_true (by omega))) (hT rfl (hT rfl h0)) ?_
          | refine r_val rfl rfl rfl (law_gtr rfl (decide_eq_false (by omega))) (hT rfl (hT rfl h0)) ?_
          | refine r_val rfl rfl rfl (law_geq rfl (decide_eq_true (by omega))) (hT rfl (hT rfl h0)) ?_
          | refine r_val rfl rfl rfl (law_geq rfl (decide_eq_false (by omega))) (hT rfl (hT rfl h0)) ?_
          | refine r_val rfl rfl rfl (law_eql rfl (decide_eq_true (by omega))) (hT rfl (hT rfl h0)) ?_
          | refine r_val rfl rfl rfl (law_eql rfl (decide_eq_false (by omega))) (hT rfl (hT rfl h0)) ?_
          | refine r_val rfl rfl rfl (law_neq rfl (decide_eq_true (by omega))) (hT rfl (hT rfl h0)) ?_
          | refine r_val rfl rfl rfl (law_neq rfl (decide_eq_false (by omega))) (hT rfl (hT rfl h0)) ?_
          | refine r_val rfl rfl rfl (law_eql_bool rfl rfl rfl) (hT rfl (hT rfl h0)) ?_
          | refine r_val rfl rfl rfl (law_neq_bool rfl rfl rfl) (hT rfl (hT rfl h0)) ?_
          | refine r_val rfl rfl rfl (law_eql_str rfl (decide_eq_true (by assumption))) (hT rfl (hT rfl h0)) ?_
          | refine r_val rfl rfl rfl (law_eql_str rfl (decide_eq_false (by assumption))) (hT rfl (hT rfl h0)) ?_
          | refine r_val rfl rfl rfl (law_neq_str rfl (decide_eq_true (by assumption))) (hT rfl (hT rfl h0)) ?_
          | refine r_val rfl rfl rfl (law_neq_str rfl (decide_eq_false (by simpa using (by assumption)))) (hT rfl (hT rfl h0)) ?_
          | refine r_val rfl rfl rfl (law_box_fz rfl rfl rfl) (hT rfl h0) ?_
          | refine r_new rfl rfl rfl rfl (law_alloc tb_ok rfl rfl rfl) h0 ?_
          | refine r_set rfl rfl (law_store tb_ok rfl rfl rfl rfl rfl rfl rfl rfl) (hT rfl (hT rfl (hN rfl h0))) ?_
          | refine r_off rfl rfl rfl ?_
          | refine r_off0 rfl rfl ?_
          | refine r_val rfl rfl rfl (law_call rfl (enters (by kernel_rfl)) (by rfl) (cq) (by rfl)) (hT rfl (hT rfl h0)) ?_)
      cases q
      · skip
        repeat (first
            | with_reducible refine awp_seq ?_
            | with_reducible refine awp_region ?_
            | with_reducible refine awp_draw mixed ?_
            | with_reducible refine then_n ?_
            | with_reducible refine awp_skip ?_
            | with_reducible refine awp_block ?_
            | with_reducible refine awp_exit ?_
            | with_reducible refine awp_ret ?_
            | with_reducible refine awp_label ?_
            | with_reducible refine then_exit ?_
            | with_reducible refine then_ret ?_
            | with_reducible refine blk_n ?_
            | with_reducible refine blk_ret ?_
            | with_reducible refine blk_exit ?_
            | refine r_nil ?_
            | refine r_nild (by kernel_rfl) ?_
            | refine awp_true rfl ?_
            | refine awp_false rfl ?_
            | with_reducible refine blk_other rfl ?_
            | exact end_ret rfl rfl (by repeat' first | exact trivial | constructor) rfl
            | refine r_val rfl rfl rfl (law_move rfl) (hT rfl h0) ?_
            | refine r_val rfl rfl rfl (law_assign rfl) (hT rfl h0) ?_
            | refine r_val rfl rfl rfl (law_extract rfl rfl) (hT rfl h0) ?_
            | refine r_val rfl rfl rfl (law_not rfl) (hT rfl h0) ?_
            | refine r_val rfl rfl rfl (law_nilCheck rfl rfl) (hT rfl h0) ?_
            | refine r_val rfl rfl rfl (law_pick_true rfl) (hT rfl (hT rfl h0)) ?_
            | refine r_val rfl rfl rfl (law_pick_false rfl) (hT rfl (hT rfl h0)) ?_
            | refine r_val rfl rfl rfl (law_load tb_ok rfl rfl rfl rfl) (hT rfl (hN rfl h0)) ?_
            | refine r_val rfl rfl rfl (law_load_fp tb_ok rfl rfl rfl) (hT rfl h0) ?_
            | refine r_val rfl rfl rfl (law_field tb_ok rfl rfl rfl rfl rfl) (hT rfl h0) ?_
            | refine r_val rfl rfl rfl (law_fieldAddr tb_ok rfl rfl rfl rfl rfl) (hT rfl h0) ?_
            | refine r_val rfl rfl rfl (law_fieldAddr_fp tb_ok rfl rfl rfl rfl rfl) (hT rfl h0) ?_
            | refine r_val rfl rfl rfl (law_len_str rfl rfl) (hT rfl h0) ?_
            | refine r_val rfl rfl rfl (law_len_fro tb_ok rfl rfl rfl) (hT rfl h0) ?_
            | refine r_val rfl rfl rfl (law_len_own tb_ok rfl rfl rfl) (hT rfl h0) ?_
            | refine r_val rfl rfl rfl (law_len_nils tb_ok rfl rfl rfl) (hT rfl h0) ?_
            | refine r_val rfl rfl rfl (law_add' rfl (wrap64 (by omega) (by omega))) (hT rfl (hT rfl h0)) ?_
            | refine r_val rfl rfl rfl (law_sub' rfl (wrap64 (by omega) (by omega))) (hT rfl (hT rfl h0)) ?_
            | refine r_val rfl rfl rfl (law_mul' rfl (wrap64 (by omega) (by omega))) (hT rfl (hT rfl h0)) ?_
            | refine r_val rfl rfl rfl (law_lss rfl (decide_eq_true (by omega))) (hT rfl (hT rfl h0)) ?_
            | refine r_val rfl rfl rfl (law_lss rfl (decide_eq_false (by omega))) (hT rfl (hT rfl h0)) ?_
            | refine r_val rfl rfl rfl (law_leq rfl (decide_eq_true (by omega))) (hT rfl (hT rfl h0)) ?_
            | refine r_val rfl rfl rfl (law_leq rfl (decide_eq_false (by omega))) (hT rfl (hT rfl h0)) ?_
            | refine r_val rfl rfl rfl (law_gtr rfl (decide_eq_true (by omega))) (hT rfl (hT rfl h0)) ?_
            | refine r_val rfl rfl rfl (law_gtr rfl (decide_eq_false (by omega))) (hT rfl (hT rfl h0)) ?_
            | refine r_val rfl rfl rfl (law_geq rfl (decide_eq_true (by omega))) (hT rfl (hT rfl h0)) ?_
            | refine r_val rfl rfl rfl (law_geq rfl (decide_eq_false (by omega))) (hT rfl (hT rfl h0)) ?_
            | refine r_val rfl rfl rfl (law_eql rfl (decide_eq_true (by omega))) (hT rfl (hT rfl h0)) ?_
            | refine r_val rfl rfl rfl (law_eql rfl (decide_eq_false (by omega))) (hT rfl (hT rfl h0)) ?_
            | refine r_val rfl rfl rfl (law_neq rfl (decide_eq_true (by omega))) (hT rfl (hT rfl h0)) ?_
            | refine r_val rfl rfl rfl (law_neq rfl (decide_eq_false (by omega))) (hT rfl (hT rfl h0)) ?_
            | refine r_val rfl rfl rfl (law_eql_bool rfl rfl rfl) (hT rfl (hT rfl h0)) ?_
            | refine r_val rfl rfl rfl (law_neq_bool rfl rfl rfl) (hT rfl (hT rfl h0)) ?_
            | refine r_val rfl rfl rfl (law_eql_str rfl (decide_eq_true (by assumption))) (hT rfl (hT rfl h0)) ?_
            | refine r_val rfl rfl rfl (law_eql_str rfl (decide_eq_false (by assumption))) (hT rfl (hT rfl h0)) ?_
            | refine r_val rfl rfl rfl (law_neq_str rfl (decide_eq_true (by assumption))) (hT rfl (hT rfl h0)) ?_
            | refine r_val rfl rfl rfl (law_neq_str rfl (decide_eq_false (by simpa using (by assumption)))) (hT rfl (hT rfl h0)) ?_
            | refine r_val rfl rfl rfl (law_box_fz rfl rfl rfl) (hT rfl h0) ?_
            | refine r_new rfl rfl rfl rfl (law_alloc tb_ok rfl rfl rfl) h0 ?_
            | refine r_set rfl rfl (law_store tb_ok rfl rfl rfl rfl rfl rfl rfl rfl) (hT rfl (hT rfl (hN rfl h0))) ?_
            | refine r_off rfl rfl rfl ?_
            | refine r_off0 rfl rfl ?_)
      · skip
        repeat (first
            | with_reducible refine awp_seq ?_
            | with_reducible refine awp_region ?_
            | with_reducible refine awp_draw mixed ?_
            | with_reducible refine then_n ?_
            | with_reducible refine awp_skip ?_
            | with_reducible refine awp_block ?_
            | with_reducible refine awp_exit ?_
            | with_reducible refine awp_ret ?_
            | with_reducible refine awp_label ?_
            | with_reducible refine then_exit ?_
            | with_reducible refine then_ret ?_
            | with_reducible refine blk_n ?_
            | with_reducible refine blk_ret ?_
            | with_reducible refine blk_exit ?_
            | refine r_nil ?_
            | refine r_nild (by kernel_rfl) ?_
            | refine awp_true rfl ?_
            | refine awp_false rfl ?_
            | with_reducible refine blk_other rfl ?_
            | exact end_ret rfl rfl (by repeat' first | exact trivial | constructor) rfl
            | refine r_val rfl rfl rfl (law_move rfl) (hT rfl h0) ?_
            | refine r_val rfl rfl rfl (law_assign rfl) (hT rfl h0) ?_
            | refine r_val rfl rfl rfl (law_extract rfl rfl) (hT rfl h0) ?_
            | refine r_val rfl rfl rfl (law_not rfl) (hT rfl h0) ?_
            | refine r_val rfl rfl rfl (law_nilCheck rfl rfl) (hT rfl h0) ?_
            | refine r_val rfl rfl rfl (law_pick_true rfl) (hT rfl (hT rfl h0)) ?_
            | refine r_val rfl rfl rfl (law_pick_false rfl) (hT rfl (hT rfl h0)) ?_
            | refine r_val rfl rfl rfl (law_load tb_ok rfl rfl rfl rfl) (hT rfl (hN rfl h0)) ?_
            | refine r_val rfl rfl rfl (law_load_fp tb_ok rfl rfl rfl) (hT rfl h0) ?_
            | refine r_val rfl rfl rfl (law_field tb_ok rfl rfl rfl rfl rfl) (hT rfl h0) ?_
            | refine r_val rfl rfl rfl (law_fieldAddr tb_ok rfl rfl rfl rfl rfl) (hT rfl h0) ?_
            | refine r_val rfl rfl rfl (law_fieldAddr_fp tb_ok rfl rfl rfl rfl rfl) (hT rfl h0) ?_
            | refine r_val rfl rfl rfl (law_len_str rfl rfl) (hT rfl h0) ?_
            | refine r_val rfl rfl rfl (law_len_fro tb_ok rfl rfl rfl) (hT rfl h0) ?_
            | refine r_val rfl rfl rfl (law_len_own tb_ok rfl rfl rfl) (hT rfl h0) ?_
            | refine r_val rfl rfl rfl (law_len_nils tb_ok rfl rfl rfl) (hT rfl h0) ?_
            | refine r_val rfl rfl rfl (law_add' rfl (wrap64 (by omega) (by omega))) (hT rfl (hT rfl h0)) ?_
            | refine r_val rfl rfl rfl (law_sub' rfl (wrap64 (by omega) (by omega))) (hT rfl (hT rfl h0)) ?_
            | refine r_val rfl rfl rfl (law_mul' rfl (wrap64 (by omega) (by omega))) (hT rfl (hT rfl h0)) ?_
            | refine r_val rfl rfl rfl (law_lss rfl (decide_eq_true (by omega))) (hT rfl (hT rfl h0)) ?_
            | refine r_val rfl rfl rfl (law_lss rfl (decide_eq_false (by omega))) (hT rfl (hT rfl h0)) ?_
            | refine r_val rfl rfl rfl (law_leq rfl (decide_eq_true (by omega))) (hT rfl (hT rfl h0)) ?_
            | refine r_val rfl rfl rfl (law_leq rfl (decide_eq_false (by omega))) (hT rfl (hT rfl h0)) ?_
            | refine r_val rfl rfl rfl (law_gtr rfl (decide_eq_true (by omega))) (hT rfl (hT rfl h0)) ?_
            | refine r_val rfl rfl rfl (law_gtr rfl (decide_eq_false (by omega))) (hT rfl (hT rfl h0)) ?_
            | refine r_val rfl rfl rfl (law_geq rfl (decide_eq_true (by omega))) (hT rfl (hT rfl h0)) ?_
            | refine r_val rfl rfl rfl (law_geq rfl (decide_eq_false (by omega))) (hT rfl (hT rfl h0)) ?_
            | refine r_val rfl rfl rfl (law_eql rfl (decide_eq_true (by omega))) (hT rfl (hT rfl h0)) ?_
            | refine r_val rfl rfl rfl (law_eql rfl (decide_eq_false (by omega))) (hT rfl (hT rfl h0)) ?_
            | refine r_val rfl rfl rfl (law_neq rfl (decide_eq_true (by omega))) (hT rfl (hT rfl h0)) ?_
            | refine r_val rfl rfl rfl (law_neq rfl (decide_eq_false (by omega))) (hT rfl (hT rfl h0)) ?_
            | refine r_val rfl rfl rfl (law_eql_bool rfl rfl rfl) (hT rfl (hT rfl h0)) ?_
            | refine r_val rfl rfl rfl (law_neq_bool rfl rfl rfl) (hT rfl (hT rfl h0)) ?_
            | refine r_val rfl rfl rfl (law_eql_str rfl (decide_eq_true (by assumption))) (hT rfl (hT rfl h0)) ?_
            | refine r_val rfl rfl rfl (law_eql_str rfl (decide_eq_false (by assumption))) (hT rfl (hT rfl h0)) ?_
            | refine r_val rfl rfl rfl (law_neq_str rfl (decide_eq_true (by assumption))) (hT rfl (hT rfl h0)) ?_
            | refine r_val rfl rfl rfl (law_neq_str rfl (decide_eq_false (by simpa using (by assumption)))) (hT rfl (hT rfl h0)) ?_
            | refine r_val rfl rfl rfl (law_box_fz rfl rfl rfl) (hT rfl h0) ?_
            | refine r_new rfl rfl rfl rfl (law_alloc tb_ok rfl rfl rfl) h0 ?_
            | refine r_set rfl rfl (law_store tb_ok rfl rfl rfl rfl rfl rfl rfl rfl) (hT rfl (hT rfl (hN rfl h0))) ?_
            | refine r_off rfl rfl rfl ?_
            | refine r_off0 rfl rfl ?_)
    · cases y
      · have hq : q = false := by cases q with
          | false => rfl
          | true => exact absurd (h2 rfl rfl) (by decide)
        subst hq
        repeat (first
            | with_reducible refine awp_seq ?_
            | with_reducible refine awp_region ?_
            | with_reducible refine awp_draw mixed ?_
            | with_reducible refine then_n ?_
            | with_reducible refine awp_skip ?_
            | with_reducible refine awp_block ?_
            | with_reducible refine awp_exit ?_
            | with_reducible refine awp_ret ?_
            | with_reducible refine awp_label ?_
            | with_reducible refine then_exit ?_
            | with_reducible refine then_ret ?_
            | with_reducible refine blk_n ?_
            | with_reducible refine blk_ret ?_
            | with_reducible refine blk_exit ?_
            | refine r_nil ?_
            | refine r_nild (by kernel_rfl) ?_
            | refine awp_true rfl ?_
            | refine awp_false rfl ?_
            | with_reducible refine blk_other rfl ?_
            | exact end_ret rfl rfl (by repeat' first | exact trivial | constructor) rfl
            | refine r_val rfl rfl rfl (law_move rfl) (hT rfl h0) ?_
            | refine r_val rfl rfl rfl (law_assign rfl) (hT rfl h0) ?_
            | refine r_val rfl rfl rfl (law_extract rfl rfl) (hT rfl h0) ?_
            | refine r_val rfl rfl rfl (law_not rfl) (hT rfl h0) ?_
            | refine r_val rfl rfl rfl (law_nilCheck rfl rfl) (hT rfl h0) ?_
            | refine r_val rfl rfl rfl (law_pick_true rfl) (hT rfl (hT rfl h0)) ?_
            | refine r_val rfl rfl rfl (law_pick_false rfl) (hT rfl (hT rfl h0)) ?_
            | refine r_val rfl rfl rfl (law_load tb_ok rfl rfl rfl rfl) (hT rfl (hN rfl h0)) ?_
            | refine r_val rfl rfl rfl (law_load_fp tb_ok rfl rfl rfl) (hT rfl h0) ?_
            | refine r_val rfl rfl rfl (law_field tb_ok rfl rfl rfl rfl rfl) (hT rfl h0) ?_
            | refine r_val rfl rfl rfl (law_fieldAddr tb_ok rfl rfl rfl rfl rfl) (hT rfl h0) ?_
            | refine r_val rfl rfl rfl (law_fieldAddr_fp tb_ok rfl rfl rfl rfl rfl) (hT rfl h0) ?_
            | refine r_val rfl rfl rfl (law_len_str rfl rfl) (hT rfl h0) ?_
            | refine r_val rfl rfl rfl (law_len_fro tb_ok rfl rfl rfl) (hT rfl h0) ?_
            | refine r_val rfl rfl rfl (law_len_own tb_ok rfl rfl rfl) (hT rfl h0) ?_
            | refine r_val rfl rfl rfl (law_len_nils tb_ok rfl rfl rfl) (hT rfl h0) ?_
            | refine r_val rfl rfl rfl (law_add' rfl (wrap64 (by omega) (by omega))) (hT rfl (hT rfl h0)) ?_
            | refine r_val rfl rfl rfl (law_sub' rfl (wrap64 (by omega) (by omega))) (hT rfl (hT rfl h0)) ?_
            | refine r_val rfl rfl rfl (law_mul' rfl (wrap64 (by omega) (by omega))) (hT rfl (hT rfl h0)) ?_
            | refine r_val rfl rfl rfl (law_lss rfl (decide_eq_true (by omega))) (hT rfl (hT rfl h0)) ?_
            | refine r_val rfl rfl rfl (law_lss rfl (decide_eq_false (by omega))) (hT rfl (hT rfl h0)) ?_
            | refine r_val rfl rfl rfl (law_leq rfl (decide_eq_true (by omega))) (hT rfl (hT rfl h0)) ?_
            | refine r_val rfl rfl rfl (law_leq rfl (decide_eq_false (by omega))) (hT rfl (hT rfl h0)) ?_
            | refine r_val rfl rfl rfl (law_gtr rfl (decide_eq_true (by omega))) (hT rfl (hT rfl h0)) ?_
            | refine r_val rfl rfl rfl (law_gtr rfl (decide_eq_false (by omega))) (hT rfl (hT rfl h0)) ?_
            | refine r_val rfl rfl rfl (law_geq rfl (decide_eq_true (by omega))) (hT rfl (hT rfl h0)) ?_
            | refine r_val rfl rfl rfl (law_geq rfl (decide_eq_false (by omega))) (hT rfl (hT rfl h0)) ?_
            | refine r_val rfl rfl rfl (law_eql rfl (decide_eq_true (by omega))) (hT rfl (hT rfl h0)) ?_
            | refine r_val rfl rfl rfl (law_eql rfl (decide_eq_false (by omega))) (hT rfl (hT rfl h0)) ?_
            | refine r_val rfl rfl rfl (law_neq rfl (decide_eq_true (by omega))) (hT rfl (hT rfl h0)) ?_
            | refine r_val rfl rfl rfl (law_neq rfl (decide_eq_false (by omega))) (hT rfl (hT rfl h0)) ?_
            | refine r_val rfl rfl rfl (law_eql_bool rfl rfl rfl) (hT rfl (hT rfl h0)) ?_
            | refine r_val rfl rfl rfl (law_neq_bool rfl rfl rfl) (hT rfl (hT rfl h0)) ?_
            | refine r_val rfl rfl rfl (law_eql_str rfl (decide_eq_true (by assumption))) (hT rfl (hT rfl h0)) ?_
            | refine r_val rfl rfl rfl (law_eql_str rfl (decide_eq_false (by assumption))) (hT rfl (hT rfl h0)) ?_
            | refine r_val rfl rfl rfl (law_neq_str rfl (decide_eq_true (by assumption))) (hT rfl (hT rfl h0)) ?_
            | refine r_val rfl rfl rfl (law_neq_str rfl (decide_eq_false (by simpa using (by assumption)))) (hT rfl (hT rfl h0)) ?_
            | refine r_val rfl rfl rfl (law_box_fz rfl rfl rfl) (hT rfl h0) ?_
            | refine r_new rfl rfl rfl rfl (law_alloc tb_ok rfl rfl rfl) h0 ?_
            | refine r_set rfl rfl (law_store tb_ok rfl rfl rfl rfl rfl rfl rfl rfl) (hT rfl (hT rfl (hN rfl h0))) ?_
            | refine r_off rfl rfl rfl ?_
            | refine r_off0 rfl rfl ?_
            | refine r_val rfl rfl rfl (law_call rfl (enters (by kernel_rfl)) (by rfl) (cq) (by rfl)) (hT rfl (hT rfl h0)) ?_)
      · skip
        repeat (first
            | with_reducible refine awp_seq ?_
            | with_reducible refine awp_region ?_
            | with_reducible refine awp_draw mixed ?_
            | with_reducible refine then_n ?_
            | with_reducible refine awp_skip ?_
            | with_reducible refine awp_block ?_
            | with_reducible refine awp_exit ?_
            | with_reducible refine awp_ret ?_
            | with_reducible refine awp_label ?_
            | with_reducible refine then_exit ?_
            | with_reducible refine then_ret ?_
            | with_reducible refine blk_n ?_
            | with_reducible refine blk_ret ?_
            | with_reducible refine blk_exit ?_
            | refine r_nil ?_
            | refine r_nild (by kernel_rfl) ?_
            | refine awp_true rfl ?_
            | refine awp_false rfl ?_
            | with_reducible refine blk_other rfl ?_
            | exact end_ret rfl rfl (by repeat' first | exact trivial | constructor) rfl
            | refine r_val rfl rfl rfl (law_move rfl) (hT rfl h0) ?_
            | refine r_val rfl rfl rfl (law_assign rfl) (hT rfl h0) ?_
            | refine r_val rfl rfl rfl (law_extract rfl rfl) (hT rfl h0) ?_
            | refine r_val rfl rfl rfl (law_not rfl) (hT rfl h0) ?_
            | refine r_val rfl rfl rfl (law_nilCheck rfl rfl) (hT rfl h0) ?_
            | refine r_val rfl rfl rfl (law_pick_true rfl) (hT rfl (hT rfl h0)) ?_
            | refine r_val rfl rfl rfl (law_pick_false rfl) (hT rfl (hT rfl h0)) ?_
            | refine r_val rfl rfl rfl (law_load tb_ok rfl rfl rfl rfl) (hT rfl (hN rfl h0)) ?_
            | refine r_val rfl rfl rfl (law_load_fp tb_ok rfl rfl rfl) (hT rfl h0) ?_
            | refine r_val rfl rfl rfl (law_field tb_ok rfl rfl rfl rfl rfl) (hT rfl h0) ?_
            | refine r_val rfl rfl rfl (law_fieldAddr tb_ok rfl rfl rfl rfl rfl) (hT rfl h0) ?_
            | refine r_val rfl rfl rfl (law_fieldAddr_fp tb_ok rfl rfl rfl rfl rfl) (hT rfl h0) ?_
            | refine r_val rfl rfl rfl (law_len_str rfl rfl) (hT rfl h0) ?_
            | refine r_val rfl rfl rfl (law_len_fro tb_ok rfl rfl rfl) (hT rfl h0) ?_
            | refine r_val rfl rfl rfl (law_len_own tb_ok rfl rfl rfl) (hT rfl h0) ?_
            | refine r_val rfl rfl rfl (law_len_nils tb_ok rfl rfl rfl) (hT rfl h0) ?_
            | refine r_val rfl rfl rfl (law_add' rfl (wrap64 (by omega) (by omega))) (hT rfl (hT rfl h0)) ?_
            | refine r_val rfl rfl rfl (law_sub' rfl (wrap64 (by omega) (by omega))) (hT rfl (hT rfl h0)) ?_
            | refine r_val rfl rfl rfl (law_mul' rfl (wrap64 (by omega) (by omega))) (hT rfl (hT rfl h0)) ?_
            | refine r_val rfl rfl rfl (law_lss rfl (decide_eq_true (by omega))) (hT rfl (hT rfl h0)) ?_
            | refine r_val rfl rfl rfl (law_lss rfl (decide_eq_false (by omega))) (hT rfl (hT rfl h0)) ?_
            | refine r_val rfl rfl rfl (law_leq rfl (decide_eq_true (by omega))) (hT rfl (hT rfl h0)) ?_
            | refine r_val rfl rfl rfl (law_leq rfl (decide_eq_false (by omega))) (hT rfl (hT rfl h0)) ?_
            | refine r_val rfl rfl rfl (law_gtr rfl (decide_eq_true (by omega))) (hT rfl (hT rfl h0)) ?_
            | refine r_val rfl rfl rfl (law_gtr rfl (decide_eq_false (by omega))) (hT rfl (hT rfl h0)) ?_
            | refine r_val rfl rfl rfl (law_geq rfl (decide_eq_true (by omega))) (hT rfl (hT rfl h0)) ?_
            | refine r_val rfl rfl rfl (law_geq rfl (decide_eq_false (by omega))) (hT rfl (hT rfl h0)) ?_
            | refine r_val rfl rfl rfl (law_eql rfl (decide_eq_true (by omega))) (hT rfl (hT rfl h0)) ?_
            | refine r_val rfl rfl rfl (law_eql rfl (decide_eq_false (by omega))) (hT rfl (hT rfl h0)) ?_
            | refine r_val rfl rfl rfl (law_neq rfl (decide_eq_true (by omega))) (hT rfl (hT rfl h0)) ?_
            | refine r_val rfl rfl rfl (law_neq rfl (decide_eq_false (by omega))) (hT rfl (hT rfl h0)) ?_
            | refine r_val rfl rfl rfl (law_eql_bool rfl rfl rfl) (hT rfl (hT rfl h0)) ?_
            | refine r_val rfl rfl rfl (law_neq_bool rfl rfl rfl) (hT rfl (hT rfl h0)) ?_
            | refine r_val rfl rfl rfl (law_eql_str rfl (decide_eq_true (by assumption))) (hT rfl (hT rfl h0)) ?_
            | refine r_val rfl rfl rfl (law_eql_str rfl (decide_eq_false (by assumption))) (hT rfl (hT rfl h0)) ?_
            | refine r_val rfl rfl rfl (law_neq_str rfl (decide_eq_true (by assumption))) (hT rfl (hT rfl h0)) ?_
            | refine r_val rfl rfl rfl (law_neq_str rfl (decide_eq_false (by simpa using (by assumption)))) (hT rfl (hT rfl h0)) ?_
            | refine r_val rfl rfl rfl (law_box_fz rfl rfl rfl) (hT rfl h0) ?_
            | refine r_new rfl rfl rfl rfl (law_alloc tb_ok rfl rfl rfl) h0 ?_
            | refine r_set rfl rfl (law_store tb_ok rfl rfl rfl rfl rfl rfl rfl rfl) (hT rfl (hT rfl (hN rfl h0))) ?_
            | refine r_off rfl rfl rfl ?_
            | refine r_off0 rfl rfl ?_
            | refine r_val rfl rfl rfl (law_call rfl (enters (by kernel_rfl)) (by rfl) (cq) (by rfl)) (hT rfl (hT rfl h0)) ?_)
        cases q
        · skip
          repeat (first
              | with_reducible refine awp_seq ?_
              | with_reducible refine awp_region ?_
              | with_reducible refine awp_draw mixed ?_
              | with_reducible refine then_n ?_
              | with_reducible refine awp_skip ?_
              | with_reducible refine awp_block ?_
              | with_reducible refine awp_exit ?_
              | with_reducible refine awp_ret ?_
              | with_reducible refine awp_label ?_
              | with_reducible refine then_exit ?_
              | with_reducible refine then_ret ?_
              | with_reducible refine blk_n ?_
              | with_reducible refine blk_ret ?_
              | with_reducible refine blk_exit ?_
              | refine r_nil ?_
              | refine r_nild (by kernel_rfl) ?_
              | refine awp_true rfl ?_
              | refine awp_false rfl ?_
              | with_reducible refine blk_other rfl ?_
              | exact end_ret rfl rfl (by repeat' first | exact trivial | constructor) rfl
              | refine r_val rfl rfl rfl (law_move rfl) (hT rfl h0) ?_
              | refine r_val rfl rfl rfl (law_assign rfl) (hT rfl h0) ?_
              | refine r_val rfl rfl rfl (law_extract rfl rfl) (hT rfl h0) ?_
              | refine r_val rfl rfl rfl (law_not rfl) (hT rfl h0) ?_
              | refine r_val rfl rfl rfl (law_nilCheck rfl rfl) (hT rfl h0) ?_
              | refine r_val rfl rfl rfl (law_pick_true rfl) (hT rfl (hT rfl h0)) ?_
              | refine r_val rfl rfl rfl (law_pick_false rfl) (hT rfl (hT rfl h0)) ?_
              | refine r_val rfl rfl rfl (law_load tb_ok rfl rfl rfl rfl) (hT rfl (hN rfl h0)) ?_
              | refine r_val rfl rfl rfl (law_load_fp tb_ok rfl rfl rfl) (hT rfl h0) ?_
              | refine r_val rfl rfl rfl (law_field tb_ok rfl rfl rfl rfl rfl) (hT rfl h0) ?_
              | refine r_val rfl rfl rfl (law_fieldAddr tb_ok rfl rfl rfl rfl rfl) (hT rfl h0) ?_
              | refine r_val rfl rfl rfl (law_fieldAddr_fp tb_ok rfl rfl rfl rfl rfl) (hT rfl h0) ?_
              | refine r_val rfl rfl rfl (law_len_str rfl rfl) (hT rfl h0) ?_
              | refine r_val rfl rfl rfl (law_len_fro tb_ok rfl rfl rfl) (hT rfl h0) ?_
              | refine r_val rfl rfl rfl (law_len_own tb_ok rfl rfl rfl) (hT rfl h0) ?_
              | refine r_val rfl rfl rfl (law_len_nils tb_ok rfl rfl rfl) (hT rfl h0) ?_
              | refine r_val rfl rfl rfl (law_add' rfl (wrap64 (by omega) (by omega))) (hT rfl (hT rfl h0)) ?_
              | refine r_val rfl rfl rfl (law_sub' rfl (wrap64 (by omega) (by omega))) (hT rfl (hT rfl h0)) ?_
              | refine r_val rfl rfl rfl (law_mul' rfl (wrap64 (by omega) (by omega))) (hT rfl (hT rfl h0)) ?_
              | refine r_val rfl rfl rfl (law_lss rfl (decide_eq_true (by omega))) (hT rfl (hT rfl h0)) ?_
              | refine r_val rfl rfl rfl (law_lss rfl (decide_eq_false (by omega))) (hT rfl (hT rfl h0)) ?_
              | refine r_val rfl rfl rfl (law_leq rfl (decide_eq_true (by omega))) (hT rfl (hT rfl h0)) ?_
              | refine r_val rfl rfl rfl (law_leq rfl (decide_eq_false (by omega))) (hT rfl (hT rfl h0)) ?_
              | refine r_val rfl rfl rfl (law_gtr rfl (decide_eq_true (by omega))) (hT rfl (hT rfl h0)) ?_
              | refine r_val rfl rfl rfl (law_gtr rfl (decide_eq_false (by omega))) (hT rfl (hT rfl h0)) ?_
              | refine r_val rfl rfl rfl (law_geq rfl (decide_eq_true (by omega))) (hT rfl (hT rfl h0)) ?_
              | refine r_val rfl rfl rfl (law_geq rfl (decide_eq_false (by omega))) (hT rfl (hT rfl h0)) ?_
              | refine r_val rfl rfl rfl (law_eql rfl (decide_eq_true (by omega))) (hT rfl (hT rfl h0)) ?_
              | refine r_val rfl rfl rfl (law_eql rfl (decide_eq_false (by omega))) (hT rfl (hT rfl h0)) ?_
              | refine r_val rfl rfl rfl (law_neq rfl (decide_eq_true (by omega))) (hT rfl (hT rfl h0)) ?_
              | refine r_val rfl rfl rfl (law_neq rfl (decide_eq_false (by omega))) (hT rfl (hT rfl h0)) ?_
              | refine r_val rfl rfl rfl (law_eql_bool rfl rfl rfl) (hT rfl (hT rfl h0)) ?_
              | refine r_val rfl rfl rfl (law_neq_bool rfl rfl rfl) (hT rfl (hT rfl h0)) ?_
              | refine r_val rfl rfl rfl (law_eql_str rfl (decide_eq_true (by assumption))) (hT rfl (hT rfl h0)) ?_
              | refine r_val rfl rfl rfl (law_eql_str rfl (decide_eq_false (by assumption))) (hT rfl (hT rfl h0)) ?_
              | refine r_val rfl rfl rfl (law_neq_str rfl (decide_eq_true (by assumption))) (hT rfl (hT rfl h0)) ?_
              | refine r_val rfl rfl rfl (law_neq_str rfl (decide_eq_false (by simpa using (by assumption)))) (hT rfl (hT rfl h0)) ?_
              | refine r_val rfl rfl rfl (law_box_fz rfl rfl rfl) (hT rfl h0) ?_
              | refine r_new rfl rfl rfl rfl (law_alloc tb_ok rfl rfl rfl) h0 ?_
              | refine r_set rfl rfl (law_store tb_ok rfl rfl rfl rfl rfl rfl rfl rfl) (hT rfl (hT rfl (hN rfl h0))) ?_
              | refine r_off rfl rfl rfl ?_
              | refine r_off0 rfl rfl ?_)
        · skip
          repeat (first
              | with_reducible refine awp_seq ?_
              | with_reducible refine awp_region ?_
              | with_reducible refine awp_draw mixed ?_
              | with_reducible refine then_n ?_
              | with_reducible refine awp_skip ?_
              | with_reducible refine awp_block ?_
              | with_reducible refine awp_exit ?_
              | with_reducible refine awp_ret ?_
              | with_reducible refine awp_label ?_
              | with_reducible refine then_exit ?_
              | with_reducible refine then_ret ?_
              | with_reducible refine blk_n ?_
              | with_reducible refine blk_ret ?_
              | with_reducible refine blk_exit ?_
              | refine r_nil ?_
              | refine r_nild (by kernel_rfl) ?_
              | refine awp_true rfl ?_
              | refine awp_false rfl ?_
              | with_reducible refine blk_other rfl ?_
              | exact end_ret rfl rfl (by repeat' first | exact trivial | constructor) rfl
              | refine r_val rfl rfl rfl (law_move rfl) (hT rfl h0) ?_
              | refine r_val rfl rfl rfl (law_assign rfl) (hT rfl h0) ?_
              | refine r_val rfl rfl rfl (law_extract rfl rfl) (hT rfl h0) ?_
              | refine r_val rfl rfl rfl (law_not rfl) (hT rfl h0) ?_
              | refine r_val rfl rfl rfl (law_nilCheck rfl rfl) (hT rfl h0) ?_
              | refine r_val rfl rfl rfl (law_pick_true rfl) (hT rfl (hT rfl h0)) ?_
              | refine r_val rfl rfl rfl (law_pick_false rfl) (hT rfl (hT rfl h0)) ?_
              | refine r_val rfl rfl rfl (law_load tb_ok rfl rfl rfl rfl) (hT rfl (hN rfl h0)) ?_
              | refine r_val rfl rfl rfl (law_load_fp tb_ok rfl rfl rfl) (hT rfl h0) ?_
              | refine r_val rfl rfl rfl (law_field tb_ok rfl rfl rfl rfl rfl) (hT rfl h0) ?_
              | refine r_val rfl rfl rfl (law_fieldAddr tb_ok rfl rfl rfl rfl rfl) (hT rfl h0) ?_
              | refine r_val rfl rfl rfl (law_fieldAddr_fp tb_ok rfl rfl rfl rfl rfl) (hT rfl h0) ?_
              | refine r_val rfl rfl rfl (law_len_str rfl rfl) (hT rfl h0) ?_
              | refine r_val rfl rfl rfl (law_len_fro tb_ok rfl rfl rfl) (hT rfl h0) ?_
              | refine r_val rfl rfl rfl (law_len_own tb_ok rfl rfl rfl) (hT rfl h0) ?_
              | refine r_val rfl rfl rfl (law_len_nils tb_ok rfl rfl rfl) (hT rfl h0) ?_
              | refine r_val rfl rfl rfl (law_add' rfl (wrap64 (by omega) (by omega))) (hT rfl (hT rfl h0)) ?_
              | refine r_val rfl rfl rfl (law_sub' rfl (wrap64 (by omega) (by omega))) (hT rfl (hT rfl h0)) ?_
              | refine r_val rfl rfl rfl (law_mul' rfl (wrap64 (by omega) (by omega))) (hT rfl (hT rfl h0)) ?_
              | refine r_val rfl rfl rfl (law_lss rfl (decide_eq_true (by omega))) (hT rfl (hT rfl h0)) ?_
              | refine r_val rfl rfl rfl (law_lss rfl (decide_eq_false (by omega))) (hT rfl (hT rfl h0)) ?_
              | refine r_val rfl rfl rfl (law_leq rfl (decide_eq_true (by omega))) (hT rfl (hT rfl h0)) ?_
              | refine r_val rfl rfl rfl (law_leq rfl (decide_eq_false (by omega))) (hT rfl (hT rfl h0)) ?_
              | refine r_val rfl rfl rfl (law_gtr rfl (decide_eq_true (by omega))) (hT rfl (hT rfl h0)) ?_
              | refine r_val rfl rfl rfl (law_gtr rfl (decide_eq_false (by omega))) (hT rfl (hT rfl h0)) ?_
              | refine r_val rfl rfl rfl (law_geq rfl (decide_eq_true (by omega))) (hT rfl (hT rfl h0)) ?_
              | refine r_val rfl rfl rfl (law_geq rfl (decide_eq_false (by omega))) (hT rfl (hT rfl h0)) ?_
              | refine r_val rfl rfl rfl (law_eql rfl (decide_eq_true (by omega))) (hT rfl (hT rfl h0)) ?_
              | refine r_val rfl rfl rfl (law_eql rfl (decide_eq_false (by omega))) (hT rfl (hT rfl h0)) ?_
              | refine r_val rfl rfl rfl (law_neq rfl (decide_eq_true (by omega))) (hT rfl (hT rfl h0)) ?_
              | refine r_val rfl rfl rfl (law_neq rfl (decide_eq_false (by omega))) (hT rfl (hT rfl h0)) ?_
              | refine r_val rfl rfl rfl (law_eql_bool rfl rfl rfl) (hT rfl (hT rfl h0)) ?_
              | refine r_val rfl rfl rfl (law_neq_bool rfl rfl rfl) (hT rfl (hT rfl h0)) ?_
              | refine r_val rfl rfl rfl (law_eql_str rfl (decide_eq_true (by assumption))) (hT rfl (hT rfl h0)) ?_
              | refine r_val rfl rfl rfl (law_eql_str rfl (decide_eq_false (by assumption))) (hT rfl (hT rfl h0)) ?_
              | refine r_val rfl rfl rfl (law_neq_str rfl (decide_eq_true (by assumption))) (hT rfl (hT rfl h0)) ?_
              | refine r_val rfl rfl rfl (law_neq_str rfl (decide_eq_false (by simpa using (by assumption)))) (hT rfl (hT rfl h0)) ?_
              | refine r_val rfl rfl rfl (law_box_fz rfl rfl rfl) (hT rfl h0) ?_
              | refine r_new rfl rfl rfl rfl (law_alloc tb_ok rfl rfl rfl) h0 ?_
              | refine r_set rfl rfl (law_store tb_ok rfl rfl rfl rfl rfl rfl rfl rfl) (hT rfl (hT rfl (hN rfl h0))) ?_
              | refine r_off rfl rfl rfl ?_
              | refine r_off0 rfl rfl ?_)
  · clear h1
    repeat (first
        | with_reducible refine awp_seq ?_
        | with_reducible refine awp_region ?_
        | with_reducible refine awp_draw mixed ?_
        | with_reducible refine then_n ?_
        | with_reducible refine awp_skip ?_
        | with_reducible refine awp_block ?_
        | with_reducible refine awp_exit ?_
        | with_reducible refine awp_ret ?_
        | with_reducible refine awp_label ?_
        | with_reducible refine then_exit ?_
        | with_reducible refine then_ret ?_
        | with_reducible refine blk_n ?_
        | with_reducible refine blk_ret ?_
        | with_reducible refine blk_exit ?_
        | refine r_nil ?_
        | refine r_nild (by kernel_rfl) ?_
        | refine awp_true rfl ?_
        | refine awp_false rfl ?_
        | with_reducible refine blk_other rfl ?_
        | exact end_ret rfl rfl (by repeat' first | exact trivial | constructor) rfl
        | refine r_val rfl rfl rfl (law_move rfl) (hT rfl h0) ?_
        | refine r_val rfl rfl rfl (law_assign rfl) (hT rfl h0) ?_
        | refine r_val rfl rfl rfl (law_extract rfl rfl) (hT rfl h0) ?_
        | refine r_val rfl rfl rfl (law_not rfl) (hT rfl h0) ?_
        | refine r_val rfl rfl rfl (law_nilCheck rfl rfl) (hT rfl h0) ?_
        | refine r_val rfl rfl rfl (law_pick_true rfl) (hT rfl (hT rfl h0)) ?_
        | refine r_val rfl rfl rfl (law_pick_false rfl) (hT rfl (hT rfl h0)) ?_
        | refine r_val rfl rfl rfl (law_load tb_ok rfl rfl rfl rfl) (hT rfl (hN rfl h0)) ?_
        | refine r_val rfl rfl rfl (law_load_fp tb_ok rfl rfl rfl) (hT rfl h0) ?_
        | refine r_val rfl rfl rfl (law_field tb_ok rfl rfl rfl rfl rfl) (hT rfl h0) ?_
        | refine r_val rfl rfl rfl (law_fieldAddr tb_ok rfl rfl rfl rfl rfl) (hT rfl h0) ?_
        | refine r_val rfl rfl rfl (law_fieldAddr_fp tb_ok rfl rfl rfl rfl rfl) (hT rfl h0) ?_
        | refine r_val rfl rfl rfl (law_len_str rfl rfl) (hT rfl h0) ?_
        | refine r_val rfl rfl rfl (law_len_fro tb_ok rfl rfl rfl) (hT rfl h0) ?_
        | refine r_val rfl rfl rfl (law_len_own tb_ok rfl rfl rfl) (hT rfl h0) ?_
        | refine r_val rfl rfl rfl (law_len_nils tb_ok rfl rfl rfl) (hT rfl h0) ?_
        | refine r_val rfl rfl rfl (law_add' rfl (wrap64 (by omega) (by omega))) (hT rfl (hT rfl h0)) ?_
        | refine r_val rfl rfl rfl (law_sub' rfl (wrap64 (by omega) (by omega))) (hT rfl (hT rfl h0)) ?_
        | refine r_val rfl rfl rfl (law_mul' rfl (wrap64 (by omega) (by omega))) (hT rfl (hT rfl h0)) ?_
        | refine r_val rfl rfl rfl (law_lss rfl (decide_eq_true (by omega))) (hT rfl (hT rfl h0)) ?_
        | refine r_val rfl rfl rfl (law_lss rfl (decide_eq_false (by omega))) (hT rfl (hT rfl h0)) ?_
        | refine r_val rfl rfl rfl (law_leq rfl (decide_eq_true (by omega))) (hT rfl (hT rfl h0)) ?_
        | refine r_val rfl rfl rfl (law_leq rfl (decide_eq_false (by omega))) (hT rfl (hT rfl h0)) ?_
        | refine r_val rfl rfl rfl (law_gtr rfl (decide_eq_true (by omega))) (hT rfl (hT rfl h0)) ?_
        | refine r_val rfl rfl rfl (law_gtr rfl (decide_eq_false (by omega))) (hT rfl (hT rfl h0)) ?_
        | refine r_val rfl rfl rfl (law_geq rfl (decide_eq_true (by omega))) (hT rfl (hT rfl h0)) ?_
        | refine r_val rfl rfl rfl (law_geq rfl (decide_eq_false (by omega))) (hT rfl (hT rfl h0)) ?_
        | refine r_val rfl rfl rfl (law_eql rfl (decide_eq_true (by omega))) (hT rfl (hT rfl h0)) ?_
        | refine r_val rfl rfl rfl (law_eql rfl (decide_eq_false (by omega))) (hT rfl (hT rfl h0)) ?_
        | refine r_val rfl rfl rfl (law_neq rfl (decide_eq_true (by omega))) (hT rfl (hT rfl h0)) ?_
        | refine r_val rfl rfl rfl (law_neq rfl (decide_eq_false (by omega))) (hT rfl (hT rfl h0)) ?_
        | refine r_val rfl rfl rfl (law_eql_bool rfl rfl rfl) (hT rfl (hT rfl h0)) ?_
        | refine r_val rfl rfl rfl (law_neq_bool rfl rfl rfl) (hT rfl (hT rfl h0)) ?_
        | refine r_val rfl rfl rfl (law_eql_str rfl (decide_eq_true (by assumption))) (hT rfl (hT rfl h0)) ?_
        | refine r_val rfl rfl rfl (law_eql_str rfl (decide_eq_false (by assumption))) (hT rfl (hT rfl h0)) ?_
        | refine r_val rfl rfl rfl (law_neq_str rfl (decide_eq_true (by assumption))) (hT rfl (hT rfl h0)) ?_
        | refine r_val rfl rfl rfl (law_neq_str rfl (decide_eq_false (by simpa using (by assumption)))) (hT rfl (hT rfl h0)) ?_
        | refine r_val rfl rfl rfl (law_box_fz rfl rfl rfl) (hT rfl h0) ?_
        | refine r_new rfl rfl rfl rfl (law_alloc tb_ok rfl rfl rfl) h0 ?_
        | refine r_set rfl rfl (law_store tb_ok rfl rfl rfl rfl rfl rfl rfl rfl) (hT rfl (hT rfl (hN rfl h0))) ?_
        | refine r_off rfl rfl rfl ?_
        | refine r_off0 rfl rfl ?_
        | refine r_val rfl rfl rfl (law_call rfl (enters (by kernel_rfl)) (by rfl) (cq) (by rfl)) (hT rfl (hT rfl h0)) ?_)
    cases q
    · skip
      repeat (first
          | with_reducible refine awp_seq ?_
          | with_reducible refine awp_region ?_
          | with_reducible refine awp_draw mixed ?_
          | with_reducible refine then_n ?_
          | with_reducible refine awp_skip ?_
          | with_reducible refine awp_block ?_
          | with_reducible refine awp_exit ?_
          | with_reducible refine awp_ret ?_
          | with_reducible refine awp_label ?_
          | with_reducible refine then_exit ?_
          | with_reducible refine then_ret ?_
          | with_reducible refine blk_n ?_
          | with_reducible refine blk_ret ?_
          | with_reducible refine blk_exit ?_
          | refine r_nil ?_
          | refine r_nild (by kernel_rfl) ?_
          | refine awp_true rfl ?_
          | refine awp_false rfl ?_
          | with_reducible refine blk_other rfl ?_
          | exact end_ret rfl rfl (by repeat' first | exact trivial | constructor) rfl
          | refine r_val rfl rfl rfl (law_move rfl) (hT rfl h0) ?_
          | refine r_val rfl rfl rfl (law_assign rfl) (hT rfl h0) ?_
          | refine r_val rfl rfl rfl (law_extract rfl rfl) (hT rfl h0) ?_
          | refine r_val rfl rfl rfl (law_not rfl) (hT rfl h0) ?_
          | refine r_val rfl rfl rfl (law_nilCheck rfl rfl) (hT rfl h0) ?_
          | refine r_val rfl rfl rfl (law_pick_true rfl) (hT rfl (hT rfl h0)) ?_
          | refine r_val rfl rfl rfl (law_pick_false rfl) (hT rfl (hT rfl h0)) ?_
          | refine r_val rfl rfl rfl (law_load tb_ok rfl rfl rfl rfl) (hT rfl (hN rfl h0)) ?_
          | refine r_val rfl rfl rfl (law_load_fp tb_ok rfl rfl rfl) (hT rfl h0) ?_
          | refine r_val rfl rfl rfl (law_field tb_ok rfl rfl rfl rfl rfl) (hT rfl h0) ?_
          | refine r_val rfl rfl rfl (law_fieldAddr tb_ok rfl rfl rfl rfl rfl) (hT rfl h0) ?_
          | refine r_val rfl rfl rfl (law_fieldAddr_fp tb_ok rfl rfl rfl rfl rfl) (hT rfl h0) ?_
          | refine r_val rfl rfl rfl (law_len_str rfl rfl) (hT rfl h0) ?_
          | refine r_val rfl rfl rfl (law_len_fro tb_ok rfl rfl rfl) (hT rfl h0) ?_
          | refine r_val rfl rfl rfl (law_len_own tb_ok rfl rfl rfl) (hT rfl h0) ?_
          | refine r_val rfl rfl rfl (law_len_nils tb_ok rfl rfl rfl) (hT rfl h0) ?_
          | refine r_val rfl rfl rfl (law_add' rfl (wrap64 (by omega) (by omega))) (hT rfl (hT rfl h0)) ?_
          | refine r_val rfl rfl rfl (law_sub' rfl (wrap64 (by omega) (by omega))) (hT rfl (hT rfl h0)) ?_
          | refine r_val rfl rfl rfl (law_mul' rfl (wrap64 (by omega) (by omega))) (hT rfl (hT rfl h0)) ?_
          | refine r_val rfl rfl rfl (law_lss rfl (decide_eq_true (by omega))) (hT rfl (hT rfl h0)) ?_
          | refine r_val rfl rfl rfl (law_lss rfl (decide_eq_false (by omega))) (hT rfl (hT rfl h0)) ?_
          | refine r_val rfl rfl rfl (law_leq rfl (decide_eq_true (by omega))) (hT rfl (hT rfl h0)) ?_
          | refine r_val rfl rfl rfl (law_leq rfl (decide_eq_false (by omega))) (hT rfl (hT rfl h0)) ?_
          | refine r_val rfl rfl rfl (law_gtr rfl (decide_eq_true (by omega))) (hT rfl (hT rfl h0)) ?_
          | refine r_val rfl rfl rfl (law_gtr rfl (decide_eq_false (by omega))) (hT rfl (hT rfl h0)) ?_
          | refine r_val rfl rfl rfl (law_geq rfl (decide_eq_true (by omega))) (hT rfl (hT rfl h0)) ?_
          | refine r_val rfl rfl rfl (law_geq rfl (decide_eq_false (by omega))) (hT rfl (hT rfl h0)) ?_
          | refine r_val rfl rfl rfl (law_eql rfl (decide_eq_true (by omega))) (hT rfl (hT rfl h0)) ?_
          | refine r_val rfl rfl rfl (law_eql rfl (decide_eq_false (by omega))) (hT rfl (hT rfl h0)) ?_
          | refine r_val rfl rfl rfl (law_neq rfl (decide_eq_true (by omega))) (hT rfl (hT rfl h0)) ?_
          | refine r_val rfl rfl rfl (law_neq rfl (decide_eq_false (by omega))) (hT rfl (hT rfl h0)) ?_
          | refine r_val rfl rfl rfl (law_eql_bool rfl rfl rfl) (hT rfl (hT rfl h0)) ?_
          | refine r_val rfl rfl rfl (law_neq_bool rfl rfl rfl) (hT rfl (hT rfl h0)) ?_
          | refine r_val rfl rfl rfl (law_eql_str rfl (decide_eq_true (by assumption))) (hT rfl (hT rfl h0)) ?_
          | refine r_val rfl rfl rfl (law_eql_str rfl (decide_eq_false (by assumption))) (hT rfl (hT rfl h0)) ?_
          | refine r_val rfl rfl rfl (law_neq_str rfl (decide_eq_true (by assumption))) (hT rfl (hT rfl h0)) ?_
          | refine r_val rfl rfl rfl (law_neq_str rfl (decide_eq_false (by simpa using (by assumption)))) (hT rfl (hT rfl h0)) ?_
          | refine r_val rfl rfl rfl (law_box_fz rfl rfl rfl) (hT rfl h0) ?_
          | refine r_new rfl rfl rfl rfl (law_alloc tb_ok rfl rfl rfl) h0 ?_
          | refine r_set rfl rfl (law_store tb_ok rfl rfl rfl rfl rfl rfl rfl rfl) (hT rfl (hT rfl (hN rfl h0))) ?_
          | refine r_off rfl rfl rfl ?_
          | refine r_off0 rfl rfl ?_)
    · cases x
      · skip
        repeat (first
            | with_reducible refine awp_seq ?_
            | with_reducible refine awp_region ?_
            | with_reducible refine awp_draw mixed ?_
            | with_reducible refine then_n ?_
            | with_reducible refine awp_skip ?_
            | with_reducible refine awp_block ?_
            | with_reducible refine awp_exit ?_
            | with_reducible refine awp_ret ?_
            | with_reducible refine awp_label ?_
            | with_reducible refine then_exit ?_
            | with_reducible refine then_ret ?_
            | with_reducible refine blk_n ?_
            | with_reducible refine blk_ret ?_
            | with_reducible refine blk_exit ?_
            | refine r_nil ?_
            | refine r_nild (by kernel_rfl) ?_
            | refine awp_true rfl ?_
            | refine awp_false rfl ?_
            | with_reducible refine blk_other rfl ?_
            | exact end_ret rfl rfl (by repeat' first | exact trivial | constructor) rfl
            | refine r_val rfl rfl rfl (law_move rfl) (hT rfl h0) ?_
            | refine r_val rfl rfl rfl (law_assign rfl) (hT rfl h0) ?_
            | refine r_val rfl rfl rfl (law_extract rfl rfl) (hT rfl h0) ?_
            | refine r_val rfl rfl rfl (law_not rfl) (hT rfl h0) ?_
            | refine r_val rfl rfl rfl (law_nilCheck rfl rfl) (hT rfl h0) ?_
            | refine r_val rfl rfl rfl (law_pick_true rfl) (hT rfl (hT rfl h0)) ?_
            | refine r_val rfl rfl rfl (law_pick_false rfl) (hT rfl (hT rfl h0)) ?_
            | refine r_val rfl rfl rfl (law_load tb_ok rfl rfl rfl rfl) (hT rfl (hN rfl h0)) ?_
            | refine r_val rfl rfl rfl (law_load_fp tb_ok rfl rfl rfl) (hT rfl h0) ?_
            | refine r_val rfl rfl rfl (law_field tb_ok rfl rfl rfl rfl rfl) (hT rfl h0) ?_
            | refine r_val rfl rfl rfl (law_fieldAddr tb_ok rfl rfl rfl rfl rfl) (hT rfl h0) ?_
            | refine r_val rfl rfl rfl (law_fieldAddr_fp tb_ok rfl rfl rfl rfl rfl) (hT rfl h0) ?_
            | refine r_val rfl rfl rfl (law_len_str rfl rfl) (hT rfl h0) ?_
            | refine r_val rfl rfl rfl (law_len_fro tb_ok rfl rfl rfl) (hT rfl h0) ?_
            | refine r_val rfl rfl rfl (law_len_own tb_ok rfl rfl rfl) (hT rfl h0) ?_
            | refine r_val rfl rfl rfl (law_len_nils tb_ok rfl rfl rfl) (hT rfl h0) ?_
            | refine r_val rfl rfl rfl (law_add' rfl (wrap64 (by omega) (by omega))) (hT rfl (hT rfl h0)) ?_
            | refine r_val rfl rfl rfl (law_sub' rfl (wrap64 (by omega) (by omega))) (hT rfl (hT rfl h0)) ?_
            | refine r_val rfl rfl rfl (law_mul' rfl (wrap64 (by omega) (by omega))) (hT rfl (hT rfl h0)) ?_
            | refine r_val rfl rfl rfl (law_lss rfl (decide_eq_true (by omega))) (hT rfl (hT rfl h0)) ?_
            | refine r_val rfl rfl rfl (law_lss rfl (decide_eq_false (by omega))) (hT rfl (hT rfl h0)) ?_
            | refine r_val rfl rfl rfl (law_leq rfl (decide_eq_true (by omega))) (hT rfl (hT rfl h0)) ?_
            | refine r_val rfl rfl rfl (law_leq rfl (decide_eq_false (by omega))) (hT rfl (hT rfl h0)) ?_
            | refine r_val rfl rfl rfl (law_gtr rfl (decide_eq_true (by omega))) (hT rfl (hT rfl h0)) ?_
            | refine r_val rfl rfl rfl (law_gtr rfl (decide_eq_false (by omega))) (hT rfl (hT rfl h0)) ?_
            | refine r_val rfl rfl rfl (law_geq rfl (decide_eq_true (by omega))) (hT rfl (hT rfl h0)) ?_
            | refine r_val rfl rfl rfl (law_geq rfl (decide_eq_false (by omega))) (hT rfl (hT rfl h0)) ?_
            | refine r_val rfl rfl rfl (law_eql rfl (decide_eq_true (by omega))) (hT rfl (hT rfl h0)) ?_
            | refine r_val rfl rfl rfl (law_eql rfl (decide_eq_false (by omega))) (hT rfl (hT rfl h0)) ?_
            | refine r_val rfl rfl rfl (law_neq rfl (decide_eq_true (by omega))) (hT rfl (hT rfl h0)) ?_
            | refine r_val rfl rfl rfl (law_neq rfl (decide_eq_false (by omega))) (hT rfl (hT rfl h0)) ?_
            | refine r_val rfl rfl rfl (law_eql_bool rfl rfl rfl) (hT rfl (hT rfl h0)) ?_
            | refine r_val rfl rfl rfl (law_neq_bool rfl rfl rfl) (hT rfl (hT rfl h0)) ?_
            | refine r_val rfl rfl rfl (law_eql_str rfl (decide_eq_true (by assumption))) (hT rfl (hT rfl h0)) ?_
            | refine r_val rfl rfl rfl (law_eql_str rfl (decide_eq_false (by assumption))) (hT rfl (hT rfl h0)) ?_
            | refine r_val rfl rfl rfl (law_neq_str rfl (decide_eq_true (by assumption))) (hT rfl (hT rfl h0)) ?_
            | refine r_val rfl rfl rfl (law_neq_str rfl (decide_eq_false (by simpa using (by assumption)))) (hT rfl (hT rfl h0)) ?_
            | refine r_val rfl rfl rfl (law_box_fz rfl rfl rfl) (hT rfl h0) ?_
            | refine r_new rfl rfl rfl rfl (law_alloc tb_ok rfl rfl rfl) h0 ?_
            | refine r_set rfl rfl (law_store tb_ok rfl rfl rfl rfl rfl rfl rfl rfl) (hT rfl (hT rfl (hN rfl h0))) ?_
            | refine r_off rfl rfl rfl ?_
            | refine r_off0 rfl rfl ?_)
      · obtain rfl := h2 rfl rfl
        repeat (first
            | with_reducible refine awp_seq ?_
            | with_reducible refine awp_region ?_
            | with_reducible refine awp_draw mixed ?_
            | with_reducible refine then_n ?_
            | with_reducible refine awp_skip ?_
            | with_reducible refine awp_block ?_
            | with_reducible refine awp_exit ?_
            | with_reducible refine awp_ret ?_
            | with_reducible refine awp_label ?_
            | with_reducible refine then_exit ?_
            | with_reducible refine then_ret ?_
            | with_reducible refine blk_n ?_
            | with_reducible refine blk_ret ?_
            | with_reducible refine blk_exit ?_
            | refine r_nil ?_
            | refine r_nild (by kernel_rfl) ?_
            | refine awp_true rfl ?_
            | refine awp_false rfl ?_
            | with_reducible refine blk_other rfl ?_
            | exact end_ret rfl rfl (by repeat' first | exact trivial | constructor) rfl
            | refine r_val rfl rfl rfl (law_move rfl) (hT rfl h0) ?_
            | refine r_val rfl rfl rfl (law_assign rfl) (hT rfl h0) ?_
            | refine r_val rfl rfl rfl (law_extract rfl rfl) (hT rfl h0) ?_
            | refine r_val rfl rfl rfl (law_not rfl) (hT rfl h0) ?_
            | refine r_val rfl rfl rfl (law_nilCheck rfl rfl) (hT rfl h0) ?_
            | refine r_val rfl rfl rfl (law_pick_true rfl) (hT rfl (hT rfl h0)) ?_
            | refine r_val rfl rfl rfl (law_pick_false rfl) (hT rfl (hT rfl h0)) ?_
            | refine r_val rfl rfl rfl (law_load tb_ok rfl rfl rfl rfl) (hT rfl (hN rfl h0)) ?_
            | refine r_val rfl rfl rfl (law_load_fp tb_ok rfl rfl rfl) (hT rfl h0) ?_
            | refine r_val rfl rfl rfl (law_field tb_ok rfl rfl rfl rfl rfl) (hT rfl h0) ?_
            | refine r_val rfl rfl rfl (law_fieldAddr tb_ok rfl rfl rfl rfl rfl) (hT rfl h0) ?_
            | refine r_val rfl rfl rfl (law_fieldAddr_fp tb_ok rfl rfl rfl rfl rfl) (hT rfl h0) ?_
            | refine r_val rfl rfl rfl (law_len_str rfl rfl) (hT rfl h0) ?_
            | refine r_val rfl rfl rfl (law_len_fro tb_ok rfl rfl rfl) (hT rfl h0) ?_
            | refine r_val rfl rfl rfl (law_len_own tb_ok rfl rfl rfl) (hT rfl h0) ?_
            | refine r_val rfl rfl rfl (law_len_nils tb_ok rfl rfl rfl) (hT rfl h0) ?_
            | refine r_val rfl rfl rfl (law_add' rfl (wrap64 (by omega) (by omega))) (hT rfl (hT rfl h0)) ?_
            | refine r_val rfl rfl rfl (law_sub' rfl (wrap64 (by omega) (by omega))) (hT rfl (hT rfl h0)) ?_
            | refine r_val rfl rfl rfl (law_mul' rfl (wrap64 (by omega) (by omega))) (hT rfl (hT rfl h0)) ?_
            | refine r_val rfl rfl rfl (law_lss rfl (decide_eq_true (by omega))) (hT rfl (hT rfl h0)) ?_
            | refine r_val rfl rfl rfl (law_lss rfl (decide_eq_false (by omega))) (hT rfl (hT rfl h0)) ?_
            | refine r_val rfl rfl rfl (law_leq rfl (decide_eq_true (by omega))) (hT rfl (hT rfl h0)) ?_
            | refine r_val rfl rfl rfl (law_leq rfl (decide_eq_false (by omega))) (hT rfl (hT rfl h0)) ?_
            | refine r_val rfl rfl rfl (law_gtr rfl (decide_eq_true (by omega))) (hT rfl (hT rfl h0)) ?_
            | refine r_val rfl rfl rfl (law_gtr rfl (decide_eq_false (by omega))) (hT rfl (hT rfl h0)) ?_
            | refine r_val rfl rfl rfl (law_geq rfl (decide_eq_true (by omega))) (hT rfl (hT rfl h0)) ?_
            | refine r_val rfl rfl rfl (law_geq rfl (decide_eq_false (by omega))) (hT rfl (hT rfl h0)) ?_
            | refine r_val rfl rfl rfl (law_eql rfl (decide_eq_true (by omega))) (hT rfl (hT rfl h0)) ?_
            | refine r_val rfl rfl rfl (law_eql rfl (decide_eq_false (by omega))) (hT rfl (hT rfl h0)) ?_
            | refine r_val rfl rfl rfl (law_neq rfl (decide_eq_true (by omega))) (hT rfl (hT rfl h0)) ?_
            | refine r_val rfl rfl rfl (law_neq rfl (decide_eq_false (by omega))) (hT rfl (hT rfl h0)) ?_
            | refine r_val rfl rfl rfl (law_eql_bool rfl rfl rfl) (hT rfl (hT rfl h0)) ?_
            | refine r_val rfl rfl rfl (law_neq_bool rfl rfl rfl) (hT rfl (hT rfl h0)) ?_
            | refine r_val rfl rfl rfl (law_eql_str rfl (decide_eq_true (by assumption))) (hT rfl (hT rfl h0)) ?_
            | refine r_val rfl rfl rfl (law_eql_str rfl (decide_eq_false (by assumption))) (hT rfl (hT rfl h0)) ?_
            | refine r_val rfl rfl rfl (law_neq_str rfl (decide_eq_true (by assumption))) (hT rfl (hT rfl h0)) ?_
            | refine r_val rfl rfl rfl (law_neq_str rfl (decide_eq_false (by simpa using (by assumption)))) (hT rfl (hT rfl h0)) ?_
            | refine r_val rfl rfl rfl (law_box_fz rfl rfl rfl) (hT rfl h0) ?_
            | refine r_new rfl rfl rfl rfl (law_alloc tb_ok rfl rfl rfl) h0 ?_
            | refine r_set rfl rfl (law_store tb_ok rfl rfl rfl rfl rfl rfl rfl rfl) (hT rfl (hT rfl (hN rfl h0))) ?_
            | refine r_off rfl rfl rfl ?_
            | refine r_off0 rfl rfl ?_)
end Go.Proofs.Ytnjaepdlfnidfaa.GrantQ
