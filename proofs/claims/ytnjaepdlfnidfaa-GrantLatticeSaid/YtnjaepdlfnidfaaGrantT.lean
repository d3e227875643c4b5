/- The walk of GrantLattice. -/
import Derived.Test.YtnjaepdlfnidfaaGrantS
namespace Go.Proofs.Ytnjaepdlfnidfaa.GrantT
open Go.RowKit Mem Abs Scan GrantP GrantB GrantD GrantX GrantN GrantV GrantS

abbrev Con := Int × (Nat → Bool) × List Int
abbrev cT (a : Con) : Abs.V := conT a.1 a.2.1 a.2.2
def ok (a : Con) : Prop := GrantP.check a.1 a.2.2 = 0
def meetC (a b : Con) : Con := (max a.1 b.1, fun i => a.2.1 i && b.2.1 i, upto fun v => a.2.2.contains v && b.2.2.contains v)
def joinC (a b : Con) : Con := (max a.1 b.1, fun i => a.2.1 i || b.2.1 i, upto fun v => a.2.2.contains v || b.2.2.contains v)
def sameP (a b : Con) : Prop := sameC a.1 b.1 a.2.1 b.2.1 a.2.2 b.2.2 = true
def below (a b : Con) : Prop := less a.2.1 b.2.1 a.2.2 b.2.2 = true
section
variable {a b c : Con}
theorem meet_right (a b : Con) : Right (meetC a b).2.2 := upto_right (fun v => a.2.2.contains v && b.2.2.contains v)
theorem join_right (a b : Con) : Right (joinC a b).2.2 := upto_right (fun v => a.2.2.contains v || b.2.2.contains v)
theorem meet_ok (ha : ok a) (hb : ok b) : ok (meetC a b) := by
  obtain ⟨h1, h2, h3⟩ := check_g ha
  obtain ⟨k1, k2, k3⟩ := check_g hb
  exact check_of (by simp only [meetC]; omega) (by simp only [meetC]; omega) (meet_right a b)
theorem join_ok (ha : ok a) (hb : ok b) : ok (joinC a b) := by
  obtain ⟨h1, h2, h3⟩ := check_g ha
  obtain ⟨k1, k2, k3⟩ := check_g hb
  exact check_of (by simp only [joinC]; omega) (by simp only [joinC]; omega) (join_right a b)
theorem meet_c (ha : ok a) (hb : ok b) : ACalls Try.prog 7 [cT a, cT b] (.tup [cT (meetC a b), .int .i64 0]) := by
  have h := meet_v (g := a.1) (P := a.2.1) (L := a.2.2) (g' := b.1) (Q := b.2.1) (U := b.2.2)
  rw [both_of ha hb] at h
  exact h
theorem join_c (ha : ok a) (hb : ok b) : ACalls Try.prog 8 [cT a, cT b] (.tup [cT (joinC a b), .int .i64 0]) := by
  have h := join_v (g := a.1) (P := a.2.1) (L := a.2.2) (g' := b.1) (Q := b.2.1) (U := b.2.2)
  rw [both_of ha hb] at h
  exact h
theorem same_c (h : sameP a b) : ACalls Try.prog 18 [cT a, cT b] (.bool true) := by
  have := same_v (g := a.1) (P := a.2.1) (L := a.2.2) (g' := b.1) (Q := b.2.1) (U := b.2.2)
  rwa [show sameC a.1 b.1 a.2.1 b.2.1 a.2.2 b.2.2 = true from h] at this
theorem less_c (h : below a b) : ACalls Try.prog 16 [cT a, cT b] (.bool true) := by
  have := less_v (g := a.1) (P := a.2.1) (L := a.2.2) (g' := b.1) (Q := b.2.1) (U := b.2.2)
  rwa [show less a.2.1 b.2.1 a.2.2 b.2.2 = true from h] at this
theorem below_of (h1 : ∀ i, a.2.1 i = true → b.2.1 i = true) (h2 : ∀ v ∈ a.2.2, v ∈ b.2.2) : below a b := by
  unfold below less
  rw [Bool.and_eq_true]
  exact ⟨lessP_true fun i _ => h1 i, List.all_eq_true.2 fun x hx => by simpa using h2 x hx⟩
theorem has (h : ok a) {v : Int} (hv : v ∈ a.2.2) : 1 ≤ v ∧ v ≤ 40 := (check_g h).2.2.2 v hv
theorem sameP_of (h0 : a.1 = b.1) (h1 : ∀ i, a.2.1 i = b.2.1 i) (h2 : a.2.2 = b.2.2) : sameP a b := same_of h0 (fun i _ => h1 i) h2
end
set_option maxRecDepth 100000 in
set_option maxHeartbeats 4000000 in
theorem lattice_walk {a b c ab ba j k x y bc p ac q : Con} (c0 : ACalls Try.prog 19 [cT a] (.int .i64 0)) (c1 : ACalls Try.prog 19 [cT b] (.int .i64 0)) (c2 : ACalls Try.prog 19 [cT c] (.int .i64 0))
    (m1 : ACalls Try.prog 7 [cT a, cT b] (.tup [cT ab, .int .i64 0])) (m2 : ACalls Try.prog 7 [cT b, cT a] (.tup [cT ba, .int .i64 0])) (j1 : ACalls Try.prog 8 [cT a, cT b] (.tup [cT j, .int .i64 0])) (j2 : ACalls Try.prog 8 [cT b, cT a] (.tup [cT k, .int .i64 0]))
    (s1 : ACalls Try.prog 18 [cT ab, cT ba] (.bool true)) (s2 : ACalls Try.prog 18 [cT j, cT k] (.bool true))
    (l1 : ACalls Try.prog 16 [cT ab, cT a] (.bool true)) (l2 : ACalls Try.prog 16 [cT ab, cT b] (.bool true)) (l3 : ACalls Try.prog 16 [cT a, cT j] (.bool true)) (l4 : ACalls Try.prog 16 [cT b, cT j] (.bool true))
    (j3 : ACalls Try.prog 8 [cT a, cT ab] (.tup [cT x, .int .i64 0])) (m3 : ACalls Try.prog 7 [cT a, cT j] (.tup [cT y, .int .i64 0])) (j4 : ACalls Try.prog 8 [cT b, cT c] (.tup [cT bc, .int .i64 0])) (m4 : ACalls Try.prog 7 [cT a, cT bc] (.tup [cT p, .int .i64 0])) (m5 : ACalls Try.prog 7 [cT a, cT c] (.tup [cT ac, .int .i64 0])) (j5 : ACalls Try.prog 8 [cT ab, cT ac] (.tup [cT q, .int .i64 0]))
    (l5 : ACalls Try.prog 16 [cT x, cT a] (.bool true)) (l6 : ACalls Try.prog 16 [cT a, cT x] (.bool true)) (l7 : ACalls Try.prog 16 [cT y, cT a] (.bool true)) (l8 : ACalls Try.prog 16 [cT a, cT y] (.bool true)) (s3 : ACalls Try.prog 18 [cT p, cT q] (.bool true)) :
    ACalls Try.prog 4 [cT a, cT b, cT c] (.bool true) := by
  refine fun3 tb_ok Try.func4 rfl Try.ntmps4 Try.results4 rfl fun N => ?_
  repeat (first
      | with_reducible refine awp_seq ?_
      | with_reducible refine awp_region ?_
      | with_reducible refine awp_draw mixed ?_
      | with_reducible refine then_n ?_
      | with_reducible refine awp_skip ?_
      | with_reducible refine awp_block ?_
      | with_reducible refine awp_exit ?_
      | with_reducible refine awp_ret ?_
      | with_reducible refine awp_label ?_
      | with_reducible refine then_exit ?_
      | with_reducible refine then_ret ?_
      | with_reducible refine blk_n ?_
      | with_reducible refine blk_ret ?_
      | with_reducible refine blk_exit ?_
      | refine r_nil ?_
      | refine r_nild (by kernel_rfl) ?_
      | refine awp_true rfl ?_
      | refine awp_false rfl ?_
      | with_reducible refine blk_other rfl ?_
      | exact end_ret rfl rfl (by repeat' first | exact trivial | constructor) rfl
      | refine r_val rfl rfl rfl (law_move rfl) (hT rfl Abs.h0) ?_
      | refine r_val rfl rfl rfl (law_assign rfl) (hT rfl Abs.h0) ?_
      | refine r_val rfl rfl rfl (law_extract rfl rfl) (hT rfl Abs.h0) ?_
      | refine r_val rfl rfl rfl (law_not rfl) (hT rfl Abs.h0) ?_
      | refine r_val rfl rfl rfl (law_nilCheck rfl rfl) (hT rfl Abs.h0) ?_
      | refine r_val rfl rfl rfl (law_pick_true rfl) (hT rfl (hT rfl Abs.h0)) ?_
      | refine r_val rfl rfl rfl (law_pick_false rfl) (hT rfl (hT rfl Abs.h0)) ?_
      | refine r_val rfl rfl rfl (law_load tb_ok rfl rfl rfl rfl) (hT rfl (hN rfl Abs.h0)) ?_
      | refine r_val rfl rfl rfl (law_load_fp tb_ok rfl rfl rfl) (hT rfl Abs.h0) ?_
      | refine r_val rfl rfl rfl (law_field tb_ok rfl rfl rfl rfl rfl) (hT rfl Abs.h0) ?_
      | refine r_val rfl rfl rfl (law_fieldAddr tb_ok rfl rfl rfl rfl rfl) (hT rfl Abs.h0) ?_
      | refine r_val rfl rfl rfl (law_fieldAddr_fp tb_ok rfl rfl rfl rfl rfl) (hT rfl Abs.h0) ?_
      | refine r_val rfl rfl rfl (law_len_str rfl rfl) (hT rfl Abs.h0) ?_
      | refine r_val rfl rfl rfl (law_len_fro tb_ok rfl rfl rfl) (hT rfl Abs.h0) ?_
      | refine r_val rfl rfl rfl (law_len_own tb_ok rfl rfl rfl) (hT rfl Abs.h0) ?_
      | refine r_val rfl rfl rfl (law_len_nils tb_ok rfl rfl rfl) (hT rfl Abs.h0) ?_
      | refine r_val rfl rfl rfl (law_add' rfl (wrap64 (by omega) (by omega))) (hT rfl (hT rfl Abs.h0)) ?_
      | refine r_val rfl rfl rfl (law_sub' rfl (wrap64 (by omega) (by omega))) (hT rfl (hT rfl Abs.h0)) ?_
      | refine r_val rfl rfl rfl (law_mul' rfl (wrap64 (by omega) (by omega))) (hT rfl (hT rfl Abs.h0)) ?_
      | refine r_val rfl rfl rfl (law_lss rfl (decide_eq_true (by omega))) (hT rfl (hT rfl Abs.h0)) ?_
      | refine r_val rfl rfl rfl (law_lss rfl (decide_eq_false (by omega))) (hT rfl (hT rfl Abs.h0)) ?_
      | refine r_val rfl rfl rfl (law_leq rfl (decide_eq_true (by omega))) (hT rfl (hT rfl Abs.h0)) ?_
      | refine r_val rfl rfl rfl (law_leq rfl (decide_eq_false (by omega))) (hT rfl (hT rfl Abs.h0)) ?_
      | refine r_val rfl rfl rfl (law_gtr rfl (decide_eq_true (by omega))) (hT rfl (hT rfl Abs.h0)) ?_
      | refine r_val rfl rfl rfl (law_gtr rfl (decide_eq_false (by omega))) (hT rfl (hT rfl Abs.h0)) ?_
      | refine r_val rfl rfl rfl (law_geq rfl (decide_eq_true (by omega))) (hT rfl (hT rfl Abs.h0)) ?_
      | refine r_val rfl rfl rfl (law_geq rfl (decide_eq_false (by omega))) (hT rfl (hT rfl Abs.h0)) ?_
      | refine r_val rfl rfl rfl (law_eql rfl (decide_eq_true (by omega))) (hT rfl (hT rfl Abs.h0)) ?_
      | refine r_val rfl rfl rfl (law_eql rfl (decide_eq_false (by omega))) (hT rfl (hT rfl Abs.h0)) ?_
      | refine r_val rfl rfl rfl (law_neq rfl (decide_eq_true (by omega))) (hT rfl (hT rfl Abs.h0)) ?_
      | refine r_val rfl rfl rfl (law_neq rfl (decide_eq_false (by omega))) (hT rfl (hT rfl Abs.h0)) ?_
      | refine r_val rfl rfl rfl (law_eql_bool rfl rfl (beq_self_eq_true _)) (hT rfl (hT rfl Abs.h0)) ?_
      | refine r_val rfl rfl rfl (law_neq_bool rfl rfl (bne_self_eq_false _)) (hT rfl (hT rfl Abs.h0)) ?_
      | refine r_val rfl rfl rfl (law_eql_bool rfl rfl rfl) (hT rfl (hT rfl Abs.h0)) ?_
      | refine r_val rfl rfl rfl (law_neq_bool rfl rfl rfl) (hT rfl (hT rfl Abs.h0)) ?_
      | refine r_val rfl rfl rfl (law_eql_str rfl (decide_eq_true (by assumption))) (hT rfl (hT rfl Abs.h0)) ?_
      | refine r_val rfl rfl rfl (law_eql_str rfl (decide_eq_false (by assumption))) (hT rfl (hT rfl Abs.h0)) ?_
      | refine r_val rfl rfl rfl (law_neq_str rfl (decide_eq_true (by assumption))) (hT rfl (hT rfl Abs.h0)) ?_
      | refine r_val rfl rfl rfl (law_neq_str rfl (decide_eq_false (by simpa using (by assumption)))) (hT rfl (hT rfl Abs.h0)) ?_
      | refine r_val rfl rfl rfl (law_box_fz rfl (by rfl) (by rfl)) (hT rfl Abs.h0) ?_
      | refine r_new rfl rfl rfl rfl (law_alloc tb_ok rfl rfl rfl) Abs.h0 ?_
      | refine r_set rfl rfl (law_store tb_ok rfl rfl rfl rfl rfl rfl rfl rfl) (hT rfl (hT rfl (hN rfl Abs.h0))) ?_
      | refine r_off rfl rfl rfl ?_
      | refine r_off0 rfl rfl ?_
      | refine r_val rfl rfl rfl (law_call rfl (enters (by kernel_rfl)) (by rfl) (begun_v) (by rfl)) Abs.h0 ?_
      | refine r_val rfl rfl rfl (law_call rfl (enters (by kernel_rfl)) (by rfl) (c0) (by rfl)) (hT rfl Abs.h0) ?_
      | refine r_val rfl rfl rfl (law_call rfl (enters (by kernel_rfl)) (by rfl) (c1) (by rfl)) (hT rfl Abs.h0) ?_
      | refine r_val rfl rfl rfl (law_call rfl (enters (by kernel_rfl)) (by rfl) (c2) (by rfl)) (hT rfl Abs.h0) ?_
      | refine r_val rfl rfl rfl (law_call rfl (enters (by kernel_rfl)) (by rfl) (m1) (by rfl)) (hT rfl (hT rfl Abs.h0)) ?_
      | refine r_val rfl rfl rfl (law_call rfl (enters (by kernel_rfl)) (by rfl) (m2) (by rfl)) (hT rfl (hT rfl Abs.h0)) ?_
      | refine r_val rfl rfl rfl (law_call rfl (enters (by kernel_rfl)) (by rfl) (j1) (by rfl)) (hT rfl (hT rfl Abs.h0)) ?_
      | refine r_val rfl rfl rfl (law_call rfl (enters (by kernel_rfl)) (by rfl) (j2) (by rfl)) (hT rfl (hT rfl Abs.h0)) ?_
      | refine r_val rfl rfl rfl (law_call rfl (enters (by kernel_rfl)) (by rfl) (s1) (by rfl)) (hT rfl (hT rfl Abs.h0)) ?_
      | refine r_val rfl rfl rfl (law_call rfl (enters (by kernel_rfl)) (by rfl) (s2) (by rfl)) (hT rfl (hT rfl Abs.h0)) ?_
      | refine r_val rfl rfl rfl (law_call rfl (enters (by kernel_rfl)) (by rfl) (l1) (by rfl)) (hT rfl (hT rfl Abs.h0)) ?_
      | refine r_val rfl rfl rfl (law_call rfl (enters (by kernel_rfl)) (by rfl) (l2) (by rfl)) (hT rfl (hT rfl Abs.h0)) ?_
      | refine r_val rfl rfl rfl (law_call rfl (enters (by kernel_rfl)) (by rfl) (l3) (by rfl)) (hT rfl (hT rfl Abs.h0)) ?_
      | refine r_val rfl rfl rfl (law_call rfl (enters (by kernel_rfl)) (by rfl) (l4) (by rfl)) (hT rfl (hT rfl Abs.h0)) ?_
      | refine r_val rfl rfl rfl (law_call rfl (enters (by kernel_rfl)) (by rfl) (j3) (by rfl)) (hT rfl (hT rfl Abs.h0)) ?_
      | refine r_val rfl rfl rfl (law_call rfl (enters (by kernel_rfl)) (by rfl) (m3) (by rfl)) (hT rfl (hT rfl Abs.h0)) ?_
      | refine r_val rfl rfl rfl (law_call rfl (enters (by kernel_rfl)) (by rfl) (j4) (by rfl)) (hT rfl (hT rfl Abs.h0)) ?_
      | refine r_val rfl rfl rfl (law_call rfl (enters (by kernel_rfl)) (by rfl) (m4) (by rfl)) (hT rfl (hT rfl Abs.h0)) ?_
      | refine r_val rfl rfl rfl (law_call rfl (enters (by kernel_rfl)) (by rfl) (m5) (by rfl)) (hT rfl (hT rfl Abs.h0)) ?_
      | refine r_val rfl rfl rfl (law_call rfl (enters (by kernel_rfl)) (by rfl) (j5) (by rfl)) (hT rfl (hT rfl Abs.h0)) ?_
      | refine r_val rfl rfl rfl (law_call rfl (enters (by kernel_rfl)) (by rfl) (l5) (by rfl)) (hT rfl (hT rfl Abs.h0)) ?_
      | refine r_val rfl rfl rfl (law_call rfl (enters (by kernel_rfl)) (by rfl) (l6) (by rfl)) (hT rfl (hT rfl Abs.h0)) ?_
      | refine r_val rfl rfl rfl (law_call rfl (enters (by kernel_rfl)) (by rfl) (l7) (by rfl)) (hT rfl (hT rfl Abs.h0)) ?_
      | refine r_val rfl rfl rfl (law_call rfl (enters (by kernel_rfl)) (by rfl) (l8) (by rfl)) (hT rfl (hT rfl Abs.h0)) ?_
      | refine r_val rfl rfl rfl (law_call rfl (enters (by kernel_rfl)) (by rfl) (s3) (by rfl)) (hT rfl (hT rfl Abs.h0)) ?_)
set_option maxRecDepth 100000 in
set_option maxHeartbeats 4000000 in
theorem lattice_law {a b c : Con} : ACalls Try.prog 4 [cT a, cT b, cT c] (.bool true) := by
  have c0 := check_v (g := a.1) (P := a.2.1) (L := a.2.2)
  have c1 := check_v (g := b.1) (P := b.2.1) (L := b.2.2)
  have c2 := check_v (g := c.1) (P := c.2.1) (L := c.2.2)
  by_cases ha : GrantP.check a.1 a.2.2 = 0
  · rw [ha] at c0
    by_cases hb : GrantP.check b.1 b.2.2 = 0
    · rw [hb] at c1
      by_cases hc : GrantP.check c.1 c.2.2 = 0
      · rw [hc] at c2
        have hab := meet_ok ha hb
        have hj := join_ok ha hb
        have hbc := join_ok hb hc
        have hac := meet_ok ha hc
        refine lattice_walk c0 c1 c2 (meet_c ha hb) (meet_c hb ha) (join_c ha hb) (join_c hb ha) (same_c ?_) (same_c ?_) (less_c ?_) (less_c ?_) (less_c ?_) (less_c ?_) (join_c ha hab) (meet_c ha hj) (join_c hb hc) (meet_c ha hbc) (meet_c ha hc) (join_c hab hac) (less_c ?_) (less_c ?_) (less_c ?_) (less_c ?_) (same_c ?_)
        · exact sameP_of (by simp only [meetC]; omega) (fun i => by simp only [meetC]; exact Bool.and_comm _ _) (by simp only [meetC]; congr 1; funext v; exact Bool.and_comm _ _)
        · exact sameP_of (by simp only [joinC]; omega) (fun i => by simp only [joinC]; exact Bool.or_comm _ _) (by simp only [joinC]; congr 1; funext v; exact Bool.or_comm _ _)
        · exact below_of (fun i h => by simp [meetC] at h; exact h.1) (fun v hv => by simp [meetC, mem_upto] at hv; exact hv.2.1)
        · exact below_of (fun i h => by simp [meetC] at h; exact h.2) (fun v hv => by simp [meetC, mem_upto] at hv; exact hv.2.2)
        · exact below_of (fun i h => by simp [joinC, h]) (fun v hv => by simp only [joinC, mem_upto]; exact ⟨has ha hv, by simp [hv]⟩)
        · exact below_of (fun i h => by simp [joinC, h]) (fun v hv => by simp only [joinC, mem_upto]; exact ⟨has hb hv, by simp [hv]⟩)
        · exact below_of (fun i h => by simp [joinC, meetC] at h; rcases h with h | h <;> first | exact h | exact h.1) (fun v hv => by
            simp only [joinC, meetC, mem_upto, upto_contains] at hv
            have h := hv.2
            simp at h
            rcases h with h | h
            · exact h
            · exact h.2.1)
        · exact below_of (fun i h => by simp [joinC, h]) (fun v hv => by simp only [joinC, mem_upto]; exact ⟨has ha hv, by simp [hv]⟩)
        · exact below_of (fun i h => by simp [meetC] at h; exact h.1) (fun v hv => by simp [meetC, mem_upto] at hv; exact hv.2.1)
        · exact below_of (fun i h => by simp [joinC, meetC, h]) (fun v hv => by simp only [joinC, meetC, mem_upto, upto_contains]; have := has ha hv; exact ⟨this, by simp [hv, this]⟩)
        · refine sameP_of (by simp only [meetC, joinC]; omega) (fun i => by simp only [meetC, joinC]; cases a.2.1 i <;> rfl) ?_
          refine sorted_ext (meet_right _ _).1 (join_right _ _).1 fun v => ?_
          simp only [joinC, meetC, mem_upto, upto_contains]
          constructor
          · rintro ⟨h1, h2⟩
            refine ⟨h1, ?_⟩
            simp only [decide_eq_true h1, Bool.true_and] at h2 ⊢
            rw [← h2]; cases a.2.2.contains v <;> rfl
          · rintro ⟨h1, h2⟩
            refine ⟨h1, ?_⟩
            simp only [decide_eq_true h1, Bool.true_and] at h2 ⊢
            rw [← h2]; cases a.2.2.contains v <;> rfl
      · refine fun3 tb_ok Try.func4 rfl Try.ntmps4 Try.results4 rfl fun N => ?_
        repeat (first
            | with_reducible refine awp_seq ?_
            | with_reducible refine awp_region ?_
            | with_reducible refine awp_draw mixed ?_
            | with_reducible refine then_n ?_
            | with_reducible refine awp_skip ?_
            | with_reducible refine awp_block ?_
            | with_reducible refine awp_exit ?_
            | with_reducible refine awp_ret ?_
            | with_reducible refine awp_label ?_
            | with_reducible refine then_exit ?_
            | with_reducible refine then_ret ?_
            | with_reducible refine blk_n ?_
            | with_reducible refine blk_ret ?_
            | with_reducible refine blk_exit ?_
            | refine r_nil ?_
            | refine r_nild (by kernel_rfl) ?_
            | refine awp_true rfl ?_
            | refine awp_false rfl ?_
            | with_reducible refine blk_other rfl ?_
            | exact end_ret rfl rfl (by repeat' first | exact trivial | constructor) rfl
            | refine r_val rfl rfl rfl (law_move rfl) (hT rfl Abs.h0) ?_
            | refine r_val rfl rfl rfl (law_assign rfl) (hT rfl Abs.h0) ?_
            | refine r_val rfl rfl rfl (law_extract rfl rfl) (hT rfl Abs.h0) ?_
            | refine r_val rfl rfl rfl (law_not rfl) (hT rfl Abs.h0) ?_
            | refine r_val rfl rfl rfl (law_nilCheck rfl rfl) (hT rfl Abs.h0) ?_
            | refine r_val rfl rfl rfl (law_pick_true rfl) (hT rfl (hT rfl Abs.h0)) ?_
            | refine r_val rfl rfl rfl (law_pick_false rfl) (hT rfl (hT rfl Abs.h0)) ?_
            | refine r_val rfl rfl rfl (law_load tb_ok rfl rfl rfl rfl) (hT rfl (hN rfl Abs.h0)) ?_
            | refine r_val rfl rfl rfl (law_load_fp tb_ok rfl rfl rfl) (hT rfl Abs.h0) ?_
            | refine r_val rfl rfl rfl (law_field tb_ok rfl rfl rfl rfl rfl) (hT rfl Abs.h0) ?_
            | refine r_val rfl rfl rfl (law_fieldAddr tb_ok rfl rfl rfl rfl rfl) (hT rfl Abs.h0) ?_
            | refine r_val rfl rfl rfl (law_fieldAddr_fp tb_ok rfl rfl rfl rfl rfl) (hT rfl Abs.h0) ?_
            | refine r_val rfl rfl rfl (law_len_str rfl rfl) (hT rfl Abs.h0) ?_
            | refine r_val rfl rfl rfl (law_len_fro tb_ok rfl rfl rfl) (hT rfl Abs.h0) ?_
            | refine r_val rfl rfl rfl (law_len_own tb_ok rfl rfl rfl) (hT rfl Abs.h0) ?_
            | refine r_val rfl rfl rfl (law_len_nils tb_ok rfl rfl rfl) (hT rfl Abs.h0) ?_
            | refine r_val rfl rfl rfl (law_add' rfl (wrap64 (by omega) (by omega))) (hT rfl (hT rfl Abs.h0)) ?_
            | refine r_val rfl rfl rfl (law_sub' rfl (wrap64 (by omega) (by omega))) (hT rfl (hT rfl Abs.h0)) ?_
            | refine r_val rfl rfl rfl (law_mul' rfl (wrap64 (by omega) (by omega))) (hT rfl (hT rfl Abs.h0)) ?_
            | refine r_val rfl rfl rfl (law_lss rfl (decide_eq_true (by omega))) (hT rfl (hT rfl Abs.h0)) ?_
            | refine r_val rfl rfl rfl (law_lss rfl (decide_eq_false (by omega))) (hT rfl (hT rfl Abs.h0)) ?_
            | refine r_val rfl rfl rfl (law_leq rfl (decide_eq_true (by omega))) (hT rfl (hT rfl Abs.h0)) ?_
            | refine r_val rfl rfl rfl (law_leq rfl (decide_eq_false (by omega))) (hT rfl (hT rfl Abs.h0)) ?_
            | refine r_val rfl rfl rfl (law_gtr rfl (decide_eq_true (by omega))) (hT rfl (hT rfl Abs.h0)) ?_
            | refine r_val rfl rfl rfl (law_gtr rfl (decide_eq_false (by omega))) (hT rfl (hT rfl Abs.h0)) ?_
            | refine r_val rfl rfl rfl (law_geq rfl (decide_eq_true (by omega))) (hT rfl (hT rfl Abs.h0)) ?_
            | refine r_val rfl rfl rfl (law_geq rfl (decide_eq_false (by omega))) (hT rfl (hT rfl Abs.h0)) ?_
            | refine r_val rfl rfl rfl (law_eql rfl (decide_eq_true (by omega))) (hT rfl (hT rfl Abs.h0)) ?_
            | refine r_val rfl rfl rfl (law_eql rfl (decide_eq_false (by omega))) (hT rfl (hT rfl Abs.h0)) ?_
            | refine r_val rfl rfl rfl (law_neq rfl (decide_eq_true (by omega))) (hT rfl (hT rfl Abs.h0)) ?_
            | refine r_val rfl rfl rfl (law_neq rfl (decide_eq_false (by omega))) (hT rfl (hT rfl Abs.h0)) ?_
            | refine r_val rfl rfl rfl (law_eql_bool rfl rfl (beq_self_eq_true _)) (hT rfl (hT rfl Abs.h0)) ?_
            | refine r_val rfl rfl rfl (law_neq_bool rfl rfl (bne_self_eq_false _)) (hT rfl (hT rfl Abs.h0)) ?_
            | refine r_val rfl rfl rfl (law_eql_bool rfl rfl rfl) (hT rfl (hT rfl Abs.h0)) ?_
            | refine r_val rfl rfl rfl (law_neq_bool rfl rfl rfl) (hT rfl (hT rfl Abs.h0)) ?_
            | refine r_val rfl rfl rfl (law_eql_str rfl (decide_eq_true (by assumption))) (hT rfl (hT rfl Abs.h0)) ?_
            | refine r_val rfl rfl rfl (law_eql_str rfl (decide_eq_false (by assumption))) (hT rfl (hT rfl Abs.h0)) ?_
            | refine r_val rfl rfl rfl (law_neq_str rfl (decide_eq_true (by assumption))) (hT rfl (hT rfl Abs.h0)) ?_
            | refine r_val rfl rfl rfl (law_neq_str rfl (decide_eq_false (by simpa using (by assumption)))) (hT rfl (hT rfl Abs.h0)) ?_
            | refine r_val rfl rfl rfl (law_box_fz rfl (by rfl) (by rfl)) (hT rfl Abs.h0) ?_
            | refine r_new rfl rfl rfl rfl (law_alloc tb_ok rfl rfl rfl) Abs.h0 ?_
            | refine r_set rfl rfl (law_store tb_ok rfl rfl rfl rfl rfl rfl rfl rfl) (hT rfl (hT rfl (hN rfl Abs.h0))) ?_
            | refine r_off rfl rfl rfl ?_
            | refine r_off0 rfl rfl ?_
            | refine r_val rfl rfl rfl (law_call rfl (enters (by kernel_rfl)) (by rfl) (begun_v) (by rfl)) Abs.h0 ?_
            | refine r_val rfl rfl rfl (law_call rfl (enters (by kernel_rfl)) (by rfl) (c0) (by rfl)) (hT rfl Abs.h0) ?_
            | refine r_val rfl rfl rfl (law_call rfl (enters (by kernel_rfl)) (by rfl) (c1) (by rfl)) (hT rfl Abs.h0) ?_
            | refine r_val rfl rfl rfl (law_call rfl (enters (by kernel_rfl)) (by rfl) (c2) (by rfl)) (hT rfl Abs.h0) ?_)
    · refine fun3 tb_ok Try.func4 rfl Try.ntmps4 Try.results4 rfl fun N => ?_
      repeat (first
          | with_reducible refine awp_seq ?_
          | with_reducible refine awp_region ?_
          | with_reducible refine awp_draw mixed ?_
          | with_reducible refine then_n ?_
          | with_reducible refine awp_skip ?_
          | with_reducible refine awp_block ?_
          | with_reducible refine awp_exit ?_
          | with_reducible refine awp_ret ?_
          | with_reducible refine awp_label ?_
          | with_reducible refine then_exit ?_
          | with_reducible refine then_ret ?_
          | with_reducible refine blk_n ?_
          | with_reducible refine blk_ret ?_
          | with_reducible refine blk_exit ?_
          | refine r_nil ?_
          | refine r_nild (by kernel_rfl) ?_
          | refine awp_true rfl ?_
          | refine awp_false rfl ?_
          | with_reducible refine blk_other rfl ?_
          | exact end_ret rfl rfl (by repeat' first | exact trivial | constructor) rfl
          | refine r_val rfl rfl rfl (law_move rfl) (hT rfl Abs.h0) ?_
          | refine r_val rfl rfl rfl (law_assign rfl) (hT rfl Abs.h0) ?_
          | refine r_val rfl rfl rfl (law_extract rfl rfl) (hT rfl Abs.h0) ?_
          | refine r_val rfl rfl rfl (law_not rfl) (hT rfl Abs.h0) ?_
          | refine r_val rfl rfl rfl (law_nilCheck rfl rfl) (hT rfl Abs.h0) ?_
          | refine r_val rfl rfl rfl (law_pick_true rfl) (hT rfl (hT rfl Abs.h0)) ?_
          | refine r_val rfl rfl rfl (law_pick_false rfl) (hT rfl (hT rfl Abs.h0)) ?_
          | refine r_val rfl rfl rfl (law_load tb_ok rfl rfl rfl rfl) (hT rfl (hN rfl Abs.h0)) ?_
          | refine r_val rfl rfl rfl (law_load_fp tb_ok rfl rfl rfl) (hT rfl Abs.h0) ?_
          | refine r_val rfl rfl rfl (law_field tb_ok rfl rfl rfl rfl rfl) (hT rfl Abs.h0) ?_
          | refine r_val rfl rfl rfl (law_fieldAddr tb_ok rfl rfl rfl rfl rfl) (hT rfl Abs.h0) ?_
          | refine r_val rfl rfl rfl (law_fieldAddr_fp tb_ok rfl rfl rfl rfl rfl) (hT rfl Abs.h0) ?_
          | refine r_val rfl rfl rfl (law_len_str rfl rfl) (hT rfl Abs.h0) ?_
          | refine r_val rfl rfl rfl (law_len_fro tb_ok rfl rfl rfl) (hT rfl Abs.h0) ?_
          | refine r_val rfl rfl rfl (law_len_own tb_ok rfl rfl rfl) (hT rfl Abs.h0) ?_
          | refine r_val rfl rfl rfl (law_len_nils tb_ok rfl rfl rfl) (hT rfl Abs.h0) ?_
          | refine r_val rfl rfl rfl (law_add' rfl (wrap64 (by omega) (by omega))) (hT rfl (hT rfl Abs.h0)) ?_
          | refine r_val rfl rfl rfl (law_sub' rfl (wrap64 (by omega) (by omega))) (hT rfl (hT rfl Abs.h0)) ?_
          | refine r_val rfl rfl rfl (law_mul' rfl (wrap64 (by omega) (by omega))) (hT rfl (hT rfl Abs.h0)) ?_
          | refine r_val rfl rfl rfl (law_lss rfl (decide_eq_true (by omega))) (hT rfl (hT rfl Abs.h0)) ?_
          | refine r_val rfl rfl rfl (law_lss rfl (decide_eq_false (by omega))) (hT rfl (hT rfl Abs.h0)) ?_
          | refine r_val rfl rfl rfl (law_leq rfl (decide_eq_true (by omega))) (hT rfl (hT rfl Abs.h0)) ?_
          | refine r_val rfl rfl rfl (law_leq rfl (decide_eq_false (by omega))) (hT rfl (hT rfl Abs.h0)) ?_
          | refine r_val rfl rfl rfl (law_gtr rfl (decide_eq_true (by omega))) (hT rfl (hT rfl Abs.h0)) ?_
          | refine r_val rfl rfl rfl (law_gtr rfl (decide_eq_false (by omega))) (hT rfl (hT rfl Abs.h0)) ?_
          | refine r_val rfl rfl rfl (law_geq rfl (decide_eq_true (by omega))) (hT rfl (hT rfl Abs.h0)) ?_
          | refine r_val rfl rfl rfl (law_geq rfl (decide_eq_false (by omega))) (hT rfl (hT rfl Abs.h0)) ?_
          | refine r_val rfl rfl rfl (law_eql rfl (decide_eq_true (by omega))) (hT rfl (hT rfl Abs.h0)) ?_
          | refine r_val rfl rfl rfl (law_eql rfl (decide_eq_false (by omega))) (hT rfl (hT rfl Abs.h0)) ?_
          | refine r_val rfl rfl rfl (law_neq rfl (decide_eq_true (by omega))) (hT rfl (hT rfl Abs.h0)) ?_
          | refine r_val rfl rfl rfl (law_neq rfl (decide_eq_false (by omega))) (hT rfl (hT rfl Abs.h0)) ?_
          | refine r_val rfl rfl rfl (law_eql_bool rfl rfl (beq_self_eq_true _)) (hT rfl (hT rfl Abs.h0)) ?_
          | refine r_val rfl rfl rfl (law_neq_bool rfl rfl (bne_self_eq_false _)) (hT rfl (hT rfl Abs.h0)) ?_
          | refine r_val rfl rfl rfl (law_eql_bool rfl rfl rfl) (hT rfl (hT rfl Abs.h0)) ?_
          | refine r_val rfl rfl rfl (law_neq_bool rfl rfl rfl) (hT rfl (hT rfl Abs.h0)) ?_
          | refine r_val rfl rfl rfl (law_eql_str rfl (decide_eq_true (by assumption))) (hT rfl (hT rfl Abs.h0)) ?_
          | refine r_val rfl rfl rfl (law_eql_str rfl (decide_eq_false (by assumption))) (hT rfl (hT rfl Abs.h0)) ?_
          | refine r_val rfl rfl rfl (law_neq_str rfl (decide_eq_true (by assumption))) (hT rfl (hT rfl Abs.h0)) ?_
          | refine r_val rfl rfl rfl (law_neq_str rfl (decide_eq_false (by simpa using (by assumption)))) (hT rfl (hT rfl Abs.h0)) ?_
          | refine r_val rfl rfl rfl (law_box_fz rfl (by rfl) (by rfl)) (hT rfl Abs.h0) ?_
          | refine r_new rfl rfl rfl rfl (law_alloc tb_ok rfl rfl rfl) Abs.h0 ?_
          | refine r_set rfl rfl (law_store tb_ok rfl rfl rfl rfl rfl rfl rfl rfl) (hT rfl (hT rfl (hN rfl Abs.h0))) ?_
          | refine r_off rfl rfl rfl ?_
          | refine r_off0 rfl rfl ?_
          | refine r_val rfl rfl rfl (law_call rfl (enters (by kernel_rfl)) (by rfl) (begun_v) (by rfl)) Abs.h0 ?_
          | refine r_val rfl rfl rfl (law_call rfl (enters (by kernel_rfl)) (by rfl) (c0) (by rfl)) (hT rfl Abs.h0) ?_
          | refine r_val rfl rfl rfl (law_call rfl (enters (by kernel_rfl)) (by rfl) (c1) (by rfl)) (hT rfl Abs.h0) ?_)
  · refine fun3 tb_ok Try.func4 rfl Try.ntmps4 Try.results4 rfl fun N => ?_
    repeat (first
        | with_reducible refine awp_seq ?_
        | with_reducible refine awp_region ?_
        | with_reducible refine awp_draw mixed ?_
        | with_reducible refine then_n ?_
        | with_reducible refine awp_skip ?_
        | with_reducible refine awp_block ?_
        | with_reducible refine awp_exit ?_
        | with_reducible refine awp_ret ?_
        | with_reducible refine awp_label ?_
        | with_reducible refine then_exit ?_
        | with_reducible refine then_ret ?_
        | with_reducible refine blk_n ?_
        | with_reducible refine blk_ret ?_
        | with_reducible refine blk_exit ?_
        | refine r_nil ?_
        | refine r_nild (by kernel_rfl) ?_
        | refine awp_true rfl ?_
        | refine awp_false rfl ?_
        | with_reducible refine blk_other rfl ?_
        | exact end_ret rfl rfl (by repeat' first | exact trivial | constructor) rfl
        | refine r_val rfl rfl rfl (law_move rfl) (hT rfl Abs.h0) ?_
        | refine r_val rfl rfl rfl (law_assign rfl) (hT rfl Abs.h0) ?_
        | refine r_val rfl rfl rfl (law_extract rfl rfl) (hT rfl Abs.h0) ?_
        | refine r_val rfl rfl rfl (law_not rfl) (hT rfl Abs.h0) ?_
        | refine r_val rfl rfl rfl (law_nilCheck rfl rfl) (hT rfl Abs.h0) ?_
        | refine r_val rfl rfl rfl (law_pick_true rfl) (hT rfl (hT rfl Abs.h0)) ?_
        | refine r_val rfl rfl rfl (law_pick_false rfl) (hT rfl (hT rfl Abs.h0)) ?_
        | refine r_val rfl rfl rfl (law_load tb_ok rfl rfl rfl rfl) (hT rfl (hN rfl Abs.h0)) ?_
        | refine r_val rfl rfl rfl (law_load_fp tb_ok rfl rfl rfl) (hT rfl Abs.h0) ?_
        | refine r_val rfl rfl rfl (law_field tb_ok rfl rfl rfl rfl rfl) (hT rfl Abs.h0) ?_
        | refine r_val rfl rfl rfl (law_fieldAddr tb_ok rfl rfl rfl rfl rfl) (hT rfl Abs.h0) ?_
        | refine r_val rfl rfl rfl (law_fieldAddr_fp tb_ok rfl rfl rfl rfl rfl) (hT rfl Abs.h0) ?_
        | refine r_val rfl rfl rfl (law_len_str rfl rfl) (hT rfl Abs.h0) ?_
        | refine r_val rfl rfl rfl (law_len_fro tb_ok rfl rfl rfl) (hT rfl Abs.h0) ?_
        | refine r_val rfl rfl rfl (law_len_own tb_ok rfl rfl rfl) (hT rfl Abs.h0) ?_
        | refine r_val rfl rfl rfl (law_len_nils tb_ok rfl rfl rfl) (hT rfl Abs.h0) ?_
        | refine r_val rfl rfl rfl (law_add' rfl (wrap64 (by omega) (by omega))) (hT rfl (hT rfl Abs.h0)) ?_
        | refine r_val rfl rfl rfl (law_sub' rfl (wrap64 (by omega) (by omega))) (hT rfl (hT rfl Abs.h0)) ?_
        | refine r_val rfl rfl rfl (law_mul' rfl (wrap64 (by omega) (by omega))) (hT rfl (hT rfl Abs.h0)) ?_
        | refine r_val rfl rfl rfl (law_lss rfl (decide_eq_true (by omega))) (hT rfl (hT rfl Abs.h0)) ?_
        | refine r_val rfl rfl rfl (law_lss rfl (decide_eq_false (by omega))) (hT rfl (hT rfl Abs.h0)) ?_
        | refine r_val rfl rfl rfl (law_leq rfl (decide_eq_true (by omega))) (hT rfl (hT rfl Abs.h0)) ?_
        | refine r_val rfl rfl rfl (law_leq rfl (decide_eq_false (by omega))) (hT rfl (hT rfl Abs.h0)) ?_
        | refine r_val rfl rfl rfl (law_gtr rfl (decide_eq_true (by omega))) (hT rfl (hT rfl Abs.h0)) ?_
        | refine r_val rfl rfl rfl (law_gtr rfl (decide_eq_false (by omega))) (hT rfl (hT rfl Abs.h0)) ?_
        | refine r_val rfl rfl rfl (law_geq rfl (decide_eq_true (by omega))) (hT rfl (hT rfl Abs.h0)) ?_
        | refine r_val rfl rfl rfl (law_geq rfl (decide_eq_false (by omega))) (hT rfl (hT rfl Abs.h0)) ?_
        | refine r_val rfl rfl rfl (law_eql rfl (decide_eq_true (by omega))) (hT rfl (hT rfl Abs.h0)) ?_
        | refine r_val rfl rfl rfl (law_eql rfl (decide_eq_false (by omega))) (hT rfl (hT rfl Abs.h0)) ?_
        | refine r_val rfl rfl rfl (law_neq rfl (decide_eq_true (by omega))) (hT rfl (hT rfl Abs.h0)) ?_
        | refine r_val rfl rfl rfl (law_neq rfl (decide_eq_false (by omega))) (hT rfl (hT rfl Abs.h0)) ?_
        | refine r_val rfl rfl rfl (law_eql_bool rfl rfl (beq_self_eq_true _)) (hT rfl (hT rfl Abs.h0)) ?_
        | refine r_val rfl rfl rfl (law_neq_bool rfl rfl (bne_self_eq_false _)) (hT rfl (hT rfl Abs.h0)) ?_
        | refine r_val rfl rfl rfl (law_eql_bool rfl rfl rfl) (hT rfl (hT rfl Abs.h0)) ?_
        | refine r_val rfl rfl rfl (law_neq_bool rfl rfl rfl) (hT rfl (hT rfl Abs.h0)) ?_
        | refine r_val rfl rfl rfl (law_eql_str rfl (decide_eq_true (by assumption))) (hT rfl (hT rfl Abs.h0)) ?_
        | refine r_val rfl rfl rfl (law_eql_str rfl (decide_eq_false (by assumption))) (hT rfl (hT rfl Abs.h0)) ?_
        | refine r_val rfl rfl rfl (law_neq_str rfl (decide_eq_true (by assumption))) (hT rfl (hT rfl Abs.h0)) ?_
        | refine r_val rfl rfl rfl (law_neq_str rfl (decide_eq_false (by simpa using (by assumption)))) (hT rfl (hT rfl Abs.h0)) ?_
        | refine r_val rfl rfl rfl (law_box_fz rfl (by rfl) (by rfl)) (hT rfl Abs.h0) ?_
        | refine r_new rfl rfl rfl rfl (law_alloc tb_ok rfl rfl rfl) Abs.h0 ?_
        | refine r_set rfl rfl (law_store tb_ok rfl rfl rfl rfl rfl rfl rfl rfl) (hT rfl (hT rfl (hN rfl Abs.h0))) ?_
        | refine r_off rfl rfl rfl ?_
        | refine r_off0 rfl rfl ?_
        | refine r_val rfl rfl rfl (law_call rfl (enters (by kernel_rfl)) (by rfl) (begun_v) (by rfl)) Abs.h0 ?_
        | refine r_val rfl rfl rfl (law_call rfl (enters (by kernel_rfl)) (by rfl) (c0) (by rfl)) (hT rfl Abs.h0) ?_)
end Go.Proofs.Ytnjaepdlfnidfaa.GrantT
