/- The walk of GrantDrop. -/
import Derived.Test.YtnjaepdlfnidfaaGrantV
import Derived.Test.YtnjaepdlfnidfaaAbsA
namespace Go.Proofs.Ytnjaepdlfnidfaa.GrantS
open Go.RowKit Mem Abs Scan GrantP GrantB GrantD GrantX GrantN GrantV

/-- Where a call that drops says 0, what it made is right. -/
theorem drop_ok {g p v now : Int} {P : Nat → Bool} {V : List Int} {r : Int × (Nat → Bool) × List Int × Nat} (h : dropF g P V p v now = r) (h0 : r.2.2.2 = 0) :
    check g V = 0 ∧ (0 ≤ p ∧ p ≤ 10 ∧ 0 ≤ v ∧ v ≤ 40) ∧ (g ≤ now ∧ now ≤ 68719476735) ∧ r = (now, fun i => P i && !((i : Int) + 1 == p), V.filter (· != v), 0) := by
  subst h
  unfold dropF at h0 ⊢
  by_cases h1 : check g V = 0
  · rw [if_neg (by simp [h1])] at h0 ⊢
    by_cases h2 : p < 0 ∨ 10 < p ∨ v < 0 ∨ 40 < v
    · rw [if_pos h2] at h0; exact absurd h0 (by decide)
    · rw [if_neg h2] at h0 ⊢
      by_cases h3 : now < g ∨ 68719476735 < now
      · rw [if_pos h3] at h0; exact absurd h0 (by decide)
      · rw [if_neg h3]; exact ⟨h1, by omega, by omega, rfl⟩
  · rw [if_pos h1] at h0; exact absurd h0 h1
theorem drop_no {g p v now : Int} {P : Nat → Bool} {V : List Int} {r : Int × (Nat → Bool) × List Int × Nat} (h : dropF g P V p v now = r) (h0 : r.2.2.2 ≠ 0) :
    sameC r.1 0 r.2.1 (fun _ => false) r.2.2.1 [] = true := by
  subst h
  unfold dropF at h0 ⊢
  by_cases h1 : check g V = 0
  · rw [if_neg (by simp [h1])] at h0 ⊢
    by_cases h2 : p < 0 ∨ 10 < p ∨ v < 0 ∨ 40 < v
    · rw [if_pos h2]; exact same_self ..
    · rw [if_neg h2] at h0 ⊢
      by_cases h3 : now < g ∨ 68719476735 < now
      · rw [if_pos h3]; exact same_self ..
      · rw [if_neg h3] at h0; exact absurd rfl h0
  · rw [if_pos h1]; exact same_self ..
theorem check_of {g : Int} {V : List Int} (h0 : 0 ≤ g) (h1 : g ≤ 68719476735) (h : Right V) : GrantP.check g V = 0 := by
  unfold GrantP.check
  have : codeG g = 0 := by unfold codeG; rw [if_neg (by omega)]
  rw [if_pos this]
  exact of_right h
theorem check_g {g : Int} {V : List Int} (h : GrantP.check g V = 0) : 0 ≤ g ∧ g ≤ 68719476735 ∧ Right V := by
  unfold GrantP.check at h
  by_cases e : codeG g = 0
  · rw [if_pos e] at h
    refine ⟨?_, ?_, right_of h⟩ <;> (unfold codeG at e; split at e <;> omega)
  · rw [if_neg e] at h; omega
theorem may_drop {P : Nat → Bool} {V : List Int} {p v a b : Int} : may (fun i => P i && !((i : Int) + 1 == p)) (V.filter (· != v)) a b = (may P V a b && !((decide (a ≠ 0) && decide (a = p)) || (decide (b ≠ 0) && decide (b = v)))) := by
  have e1 : mayP (fun i => P i && !((i : Int) + 1 == p)) a = (mayP P a && !(decide (a ≠ 0) && decide (a = p))) := by
    unfold mayP
    by_cases h0 : a = 0
    · simp [h0]
    · by_cases h1 : 1 ≤ a
      · have : (((a - 1).toNat : Nat) : Int) + 1 = a := by omega
        simp only [this]
        by_cases h2 : a = p
        · subst h2; simp [h0]
        · have e : (a == p) = false := by simpa using h2
          simp [h0, h2, e]
      · simp [h0, h1]
  have e2 : mayV (V.filter (· != v)) b = (mayV V b && !(decide (b ≠ 0) && decide (b = v))) := by
    unfold mayV
    by_cases h0 : b = 0
    · simp [h0]
    · have e : (b == 0) = false := by simpa using h0
      rw [e, Bool.eq_iff_iff]
      simp [h0, List.mem_filter]
  unfold may
  rw [e1, e2]
  cases mayP P a <;> cases mayV V b <;> simp [Bool.and_comm]
theorem less_drop {P : Nat → Bool} {V : List Int} {p v : Int} : less (fun i => P i && !((i : Int) + 1 == p)) P (V.filter (· != v)) V = true := by
  unfold less
  rw [Bool.and_eq_true]
  refine ⟨lessP_true fun i _ h => ?_, List.all_eq_true.2 fun x hx => ?_⟩
  · simp at h; exact h.1
  · simpa using (List.mem_filter.1 hx).1

set_option maxRecDepth 100000 in
set_option maxHeartbeats 4000000 in
theorem drop_law {g : Int} {P : Nat → Bool} {L : List Int} {p v n a b : Int} : ACalls Try.prog 6 [conT g P L, .int .i64 p, .int .i64 v, .int .i64 n, .int .i64 a, .int .i64 b] (.bool true) := by
  obtain ⟨r, hr⟩ : ∃ r, dropF g P L p v n = r := ⟨_, rfl⟩
  have c1 := drop_v (g := g) (P := P) (L := L) (p := p) (v := v) (now := n)
  rw [hr] at c1
  refine fun6 tb_ok Try.func6 rfl Try.ntmps6 Try.results6 rfl fun N => ?_
  by_cases h0 : r.2.2.2 = 0
  · obtain ⟨h1, h2, h3, h4⟩ := drop_ok hr h0
    obtain ⟨k1, k2, k3⟩ := check_g h1
    have k4 : check n (L.filter (· != v)) = 0 := check_of (by omega) h3.2 (filter_right k3 _)
    obtain ⟨g', P', L', e⟩ := r
    injection h4 with e1 h4; injection h4 with e2 h4; injection h4 with e3 e4
    subst e1 e4
    have hd : dropF g' P' L' p v g' = (g', P', L', 0) := by
      unfold dropF
      rw [if_neg (by rw [e3, k4]; simp), if_neg (by omega), if_neg (by omega)]
      have : L'.filter (· != v) = L' := by rw [e3, List.filter_filter]; simp
      rw [this]
      congr 2
      rw [e2]
      funext i
      simp [Bool.and_assoc]
    have c2 := drop_v (g := g') (P := P') (L := L') (p := p) (v := v) (now := g')
    rw [hd] at c2
    obtain ⟨x, hx⟩ : ∃ x, may P L a b = x := ⟨_, rfl⟩
    have c3 := may_v (g := g) (P := P) (L := L) (p := a) (v := b)
    have c4 := may_v (g := g') (P := P') (L := L') (p := a) (v := b)
    rw [e2, e3, may_drop, ← e2, ← e3] at c4
    rw [hx] at c3 c4
    have c5 := same_v (g := g') (g' := g') (P := P') (Q := P') (L := L') (U := L')
    rw [same_self] at c5
    have c6 := less_v (g := g') (g' := g) (P := P') (Q := P) (L := L') (U := L)
    rw [show less P' P L' L = true from by rw [e2, e3]; exact less_drop] at c6
    have c7 := check_v (g := g') (P := P') (L := L')
    rw [show GrantP.check g' L' = 0 from by rw [e3]; exact k4] at c7
    obtain ⟨y, hy⟩ : ∃ y, (x && !((decide (a ≠ 0) && decide (a = p)) || (decide (b ≠ 0) && decide (b = v)))) = y := ⟨_, rfl⟩
    rw [hy] at c4
    clear hd e2 e3 k3 k4 hr hx
    repeat (first
        | with_reducible refine awp_seq ?_
        | with_reducible refine awp_region ?_
        | with_reducible refine awp_draw mixed ?_
        | with_reducible refine then_n ?_
        | with_reducible refine awp_skip ?_
        | with_reducible refine awp_block ?_
        | with_reducible refine awp_exit ?_
        | with_reducible refine awp_ret ?_
        | with_reducible refine awp_label ?_
        | with_reducible refine then_exit ?_
        | with_reducible refine then_ret ?_
        | with_reducible refine blk_n ?_
        | with_reducible refine blk_ret ?_
        | with_reducible refine blk_exit ?_
        | refine r_nil ?_
        | refine r_nild (by kernel_rfl) ?_
        | refine awp_true rfl ?_
        | refine awp_false rfl ?_
        | with_reducible refine blk_other rfl ?_
        | exact end_ret rfl rfl (by repeat' first | exact trivial | constructor) rfl
        | refine r_val rfl rfl rfl (law_move rfl) (hT rfl Abs.h0) ?_
        | refine r_val rfl rfl rfl (law_assign rfl) (hT rfl Abs.h0) ?_
        | refine r_val rfl rfl rfl (law_extract rfl rfl) (hT rfl Abs.h0) ?_
        | refine r_val rfl rfl rfl (law_not rfl) (hT rfl Abs.h0) ?_
        | refine r_val rfl rfl rfl (law_nilCheck rfl rfl) (hT rfl Abs.h0) ?_
        | refine r_val rfl rfl rfl (law_pick_true rfl) (hT rfl (hT rfl Abs.h0)) ?_
        | refine r_val rfl rfl rfl (law_pick_false rfl) (hT rfl (hT rfl Abs.h0)) ?_
        | refine r_val rfl rfl rfl (law_load tb_ok rfl rfl rfl rfl) (hT rfl (hN rfl Abs.h0)) ?_
        | refine r_val rfl rfl rfl (law_load_fp tb_ok rfl rfl rfl) (hT rfl Abs.h0) ?_
        | refine r_val rfl rfl rfl (law_field tb_ok rfl rfl rfl rfl rfl) (hT rfl Abs.h0) ?_
        | refine r_val rfl rfl rfl (law_fieldAddr tb_ok rfl rfl rfl rfl rfl) (hT rfl Abs.h0) ?_
        | refine r_val rfl rfl rfl (law_fieldAddr_fp tb_ok rfl rfl rfl rfl rfl) (hT rfl Abs.h0) ?_
        | refine r_val rfl rfl rfl (law_len_str rfl rfl) (hT rfl Abs.h0) ?_
        | refine r_val rfl rfl rfl (law_len_fro tb_ok rfl rfl rfl) (hT rfl Abs.h0) ?_
        | refine r_val rfl rfl rfl (law_len_own tb_ok rfl rfl rfl) (hT rfl Abs.h0) ?_
        | refine r_val rfl rfl rfl (law_len_nils tb_ok rfl rfl rfl) (hT rfl Abs.h0) ?_
        | refine r_val rfl rfl rfl (law_add' rfl (wrap64 (by omega) (by omega))) (hT rfl (hT rfl Abs.h0)) ?_
        | refine r_val rfl rfl rfl (law_sub' rfl (wrap64 (by omega) (by omega))) (hT rfl (hT rfl Abs.h0)) ?_
        | refine r_val rfl rfl rfl (law_mul' rfl (wrap64 (by omega) (by omega))) (hT rfl (hT rfl Abs.h0)) ?_
        | refine r_val rfl rfl rfl (law_lss rfl (decide_eq_true (by omega))) (hT rfl (hT rfl Abs.h0)) ?_
        | refine r_val rfl rfl rfl (law_lss rfl (decide_eq_false (by omega))) (hT rfl (hT rfl Abs.h0)) ?_
        | refine r_val rfl rfl rfl (law_leq rfl (decide_eq_true (by omega))) (hT rfl (hT rfl Abs.h0)) ?_
        | refine r_val rfl rfl rfl (law_leq rfl (decide_eq_false (by omega))) (hT rfl (hT rfl Abs.h0)) ?_
        | refine r_val rfl rfl rfl (law_gtr rfl (decide_eq_true (by omega))) (hT rfl (hT rfl Abs.h0)) ?_
        | refine r_val rfl rfl rfl (law_gtr rfl (decide_eq_false (by omega))) (hT rfl (hT rfl Abs.h0)) ?_
        | refine r_val rfl rfl rfl (law_geq rfl (decide_eq_true (by omega))) (hT rfl (hT rfl Abs.h0)) ?_
        | refine r_val rfl rfl rfl (law_geq rfl (decide_eq_false (by omega))) (hT rfl (hT rfl Abs.h0)) ?_
        | refine r_val rfl rfl rfl (law_eql rfl (decide_eq_true (by omega))) (hT rfl (hT rfl Abs.h0)) ?_
        | refine r_val rfl rfl rfl (law_eql rfl (decide_eq_false (by omega))) (hT rfl (hT rfl Abs.h0)) ?_
        | refine r_val rfl rfl rfl (law_neq rfl (decide_eq_true (by omega))) (hT rfl (hT rfl Abs.h0)) ?_
        | refine r_val rfl rfl rfl (law_neq rfl (decide_eq_false (by omega))) (hT rfl (hT rfl Abs.h0)) ?_
        | refine r_val rfl rfl rfl (law_eql_bool rfl rfl (beq_self_eq_true _)) (hT rfl (hT rfl Abs.h0)) ?_
        | refine r_val rfl rfl rfl (law_neq_bool rfl rfl (bne_self_eq_false _)) (hT rfl (hT rfl Abs.h0)) ?_
        | refine r_val rfl rfl rfl (law_eql_bool rfl rfl rfl) (hT rfl (hT rfl Abs.h0)) ?_
        | refine r_val rfl rfl rfl (law_neq_bool rfl rfl rfl) (hT rfl (hT rfl Abs.h0)) ?_
        | refine r_val rfl rfl rfl (law_eql_str rfl (decide_eq_true (by assumption))) (hT rfl (hT rfl Abs.h0)) ?_
        | refine r_val rfl rfl rfl (law_eql_str rfl (decide_eq_false (by assumption))) (hT rfl (hT rfl Abs.h0)) ?_
        | refine r_val rfl rfl rfl (law_neq_str rfl (decide_eq_true (by assumption))) (hT rfl (hT rfl Abs.h0)) ?_
        | refine r_val rfl rfl rfl (law_neq_str rfl (decide_eq_false (by simpa using (by assumption)))) (hT rfl (hT rfl Abs.h0)) ?_
        | refine r_val rfl rfl rfl (law_box_fz rfl (by rfl) (by rfl)) (hT rfl Abs.h0) ?_
        | refine r_new rfl rfl rfl rfl (law_alloc tb_ok rfl rfl rfl) Abs.h0 ?_
        | refine r_set rfl rfl (law_store tb_ok rfl rfl rfl rfl rfl rfl rfl rfl) (hT rfl (hT rfl (hN rfl Abs.h0))) ?_
        | refine r_off rfl rfl rfl ?_
        | refine r_off0 rfl rfl ?_
        | refine r_val rfl rfl rfl (law_call rfl (enters (by kernel_rfl)) (by rfl) (c1) (by rfl)) (hT rfl (hT rfl (hT rfl (hT rfl Abs.h0)))) ?_
        | refine r_val rfl rfl rfl (law_call rfl (enters (by kernel_rfl)) (by rfl) (c2) (by rfl)) (hT rfl (hT rfl (hT rfl (hT rfl Abs.h0)))) ?_
        | refine r_val rfl rfl rfl (law_call rfl (enters (by kernel_rfl)) (by rfl) (c3) (by rfl)) (hT rfl (hT rfl (hT rfl Abs.h0))) ?_
        | refine r_val rfl rfl rfl (law_call rfl (enters (by kernel_rfl)) (by rfl) (c4) (by rfl)) (hT rfl (hT rfl (hT rfl Abs.h0))) ?_
        | refine r_val rfl rfl rfl (law_call rfl (enters (by kernel_rfl)) (by rfl) (c5) (by rfl)) (hT rfl (hT rfl Abs.h0)) ?_
        | refine r_val rfl rfl rfl (law_call rfl (enters (by kernel_rfl)) (by rfl) (c6) (by rfl)) (hT rfl (hT rfl Abs.h0)) ?_
        | refine r_val rfl rfl rfl (law_call rfl (enters (by kernel_rfl)) (by rfl) (c7) (by rfl)) (hT rfl Abs.h0) ?_
        | refine r_val rfl rfl rfl (law_call rfl (enters (by kernel_rfl)) (by rfl) (begun_v) (by rfl)) Abs.h0 ?_)
    by_cases a0 : a = 0
    · subst a0
      repeat (first
          | with_reducible refine awp_seq ?_
          | with_reducible refine awp_region ?_
          | with_reducible refine awp_draw mixed ?_
          | with_reducible refine then_n ?_
          | with_reducible refine awp_skip ?_
          | with_reducible refine awp_block ?_
          | with_reducible refine awp_exit ?_
          | with_reducible refine awp_ret ?_
          | with_reducible refine awp_label ?_
          | with_reducible refine then_exit ?_
          | with_reducible refine then_ret ?_
          | with_reducible refine blk_n ?_
          | with_reducible refine blk_ret ?_
          | with_reducible refine blk_exit ?_
          | refine r_nil ?_
          | refine r_nild (by kernel_rfl) ?_
          | refine awp_true rfl ?_
          | refine awp_false rfl ?_
          | with_reducible refine blk_other rfl ?_
          | exact end_ret rfl rfl (by repeat' first | exact trivial | constructor) rfl
          | refine r_val rfl rfl rfl (law_move rfl) (hT rfl Abs.h0) ?_
          | refine r_val rfl rfl rfl (law_assign rfl) (hT rfl Abs.h0) ?_
          | refine r_val rfl rfl rfl (law_extract rfl rfl) (hT rfl Abs.h0) ?_
          | refine r_val rfl rfl rfl (law_not rfl) (hT rfl Abs.h0) ?_
          | refine r_val rfl rfl rfl (law_nilCheck rfl rfl) (hT rfl Abs.h0) ?_
          | refine r_val rfl rfl rfl (law_pick_true rfl) (hT rfl (hT rfl Abs.h0)) ?_
          | refine r_val rfl rfl rfl (law_pick_false rfl) (hT rfl (hT rfl Abs.h0)) ?_
          | refine r_val rfl rfl rfl (law_load tb_ok rfl rfl rfl rfl) (hT rfl (hN rfl Abs.h0)) ?_
          | refine r_val rfl rfl rfl (law_load_fp tb_ok rfl rfl rfl) (hT rfl Abs.h0) ?_
          | refine r_val rfl rfl rfl (law_field tb_ok rfl rfl rfl rfl rfl) (hT rfl Abs.h0) ?_
          | refine r_val rfl rfl rfl (law_fieldAddr tb_ok rfl rfl rfl rfl rfl) (hT rfl Abs.h0) ?_
          | refine r_val rfl rfl rfl (law_fieldAddr_fp tb_ok rfl rfl rfl rfl rfl) (hT rfl Abs.h0) ?_
          | refine r_val rfl rfl rfl (law_len_str rfl rfl) (hT rfl Abs.h0) ?_
          | refine r_val rfl rfl rfl (law_len_fro tb_ok rfl rfl rfl) (hT rfl Abs.h0) ?_
          | refine r_val rfl rfl rfl (law_len_own tb_ok rfl rfl rfl) (hT rfl Abs.h0) ?_
          | refine r_val rfl rfl rfl (law_len_nils tb_ok rfl rfl rfl) (hT rfl Abs.h0) ?_
          | refine r_val rfl rfl rfl (law_add' rfl (wrap64 (by omega) (by omega))) (hT rfl (hT rfl Abs.h0)) ?_
          | refine r_val rfl rfl rfl (law_sub' rfl (wrap64 (by omega) (by omega))) (hT rfl (hT rfl Abs.h0)) ?_
          | refine r_val rfl rfl rfl (law_mul' rfl (wrap64 (by omega) (by omega))) (hT rfl (hT rfl Abs.h0)) ?_
          | refine r_val rfl rfl rfl (law_lss rfl (decide_eq_true (by omega))) (hT rfl (hT rfl Abs.h0)) ?_
          | refine r_val rfl rfl rfl (law_lss rfl (decide_eq_false (by omega))) (hT rfl (hT rfl Abs.h0)) ?_
          | refine r_val rfl rfl rfl (law_leq rfl (decide_eq_true (by omega))) (hT rfl (hT rfl Abs.h0)) ?_
          | refine r_val rfl rfl rfl (law_leq rfl (decide_eq_false (by omega))) (hT rfl (hT rfl Abs.h0)) ?_
          | refine r_val rfl rfl rfl (law_gtr rfl (decide_eq_true (by omega))) (hT rfl (hT rfl Abs.h0)) ?_
          | refine r_val rfl rfl rfl (law_gtr rfl (decide_eq_false (by omega))) (hT rfl (hT rfl Abs.h0)) ?_
          | refine r_val rfl rfl rfl (law_geq rfl (decide_eq_true (by omega))) (hT rfl (hT rfl Abs.h0)) ?_
          | refine r_val rfl rfl rfl (law_geq rfl (decide_eq_false (by omega))) (hT rfl (hT rfl Abs.h0)) ?_
          | refine r_val rfl rfl rfl (law_eql rfl (decide_eq_true (by omega))) (hT rfl (hT rfl Abs.h0)) ?_
          | refine r_val rfl rfl rfl (law_eql rfl (decide_eq_false (by omega))) (hT rfl (hT rfl Abs.h0)) ?_
          | refine r_val rfl rfl rfl (law_neq rfl (decide_eq_true (by omega))) (hT rfl (hT rfl Abs.h0)) ?_
          | refine r_val rfl rfl rfl (law_neq rfl (decide_eq_false (by omega))) (hT rfl (hT rfl Abs.h0)) ?_
          | refine r_val rfl rfl rfl (law_eql_bool rfl rfl (beq_self_eq_true _)) (hT rfl (hT rfl Abs.h0)) ?_
          | refine r_val rfl rfl rfl (law_neq_bool rfl rfl (bne_self_eq_false _)) (hT rfl (hT rfl Abs.h0)) ?_
          | refine r_val rfl rfl rfl (law_eql_bool rfl rfl rfl) (hT rfl (hT rfl Abs.h0)) ?_
          | refine r_val rfl rfl rfl (law_neq_bool rfl rfl rfl) (hT rfl (hT rfl Abs.h0)) ?_
          | refine r_val rfl rfl rfl (law_eql_str rfl (decide_eq_true (by assumption))) (hT rfl (hT rfl Abs.h0)) ?_
          | refine r_val rfl rfl rfl (law_eql_str rfl (decide_eq_false (by assumption))) (hT rfl (hT rfl Abs.h0)) ?_
          | refine r_val rfl rfl rfl (law_neq_str rfl (decide_eq_true (by assumption))) (hT rfl (hT rfl Abs.h0)) ?_
          | refine r_val rfl rfl rfl (law_neq_str rfl (decide_eq_false (by simpa using (by assumption)))) (hT rfl (hT rfl Abs.h0)) ?_
          | refine r_val rfl rfl rfl (law_box_fz rfl (by rfl) (by rfl)) (hT rfl Abs.h0) ?_
          | refine r_new rfl rfl rfl rfl (law_alloc tb_ok rfl rfl rfl) Abs.h0 ?_
          | refine r_set rfl rfl (law_store tb_ok rfl rfl rfl rfl rfl rfl rfl rfl) (hT rfl (hT rfl (hN rfl Abs.h0))) ?_
          | refine r_off rfl rfl rfl ?_
          | refine r_off0 rfl rfl ?_
          | refine r_val rfl rfl rfl (law_call rfl (enters (by kernel_rfl)) (by rfl) (c5) (by rfl)) (hT rfl (hT rfl Abs.h0)) ?_
          | refine r_val rfl rfl rfl (law_call rfl (enters (by kernel_rfl)) (by rfl) (c6) (by rfl)) (hT rfl (hT rfl Abs.h0)) ?_
          | refine r_val rfl rfl rfl (law_call rfl (enters (by kernel_rfl)) (by rfl) (c7) (by rfl)) (hT rfl Abs.h0) ?_)
      by_cases b0 : b = 0
      · subst b0
        obtain rfl : x = y := by simpa using hy
        repeat (first
            | with_reducible refine awp_seq ?_
            | with_reducible refine awp_region ?_
            | with_reducible refine awp_draw mixed ?_
            | with_reducible refine then_n ?_
            | with_reducible refine awp_skip ?_
            | with_reducible refine awp_block ?_
            | with_reducible refine awp_exit ?_
            | with_reducible refine awp_ret ?_
            | with_reducible refine awp_label ?_
            | with_reducible refine then_exit ?_
            | with_reducible refine then_ret ?_
            | with_reducible refine blk_n ?_
            | with_reducible refine blk_ret ?_
            | with_reducible refine blk_exit ?_
            | refine r_nil ?_
            | refine r_nild (by kernel_rfl) ?_
            | refine awp_true rfl ?_
            | refine awp_false rfl ?_
            | with_reducible refine blk_other rfl ?_
            | exact end_ret rfl rfl (by repeat' first | exact trivial | constructor) rfl
            | refine r_val rfl rfl rfl (law_move rfl) (hT rfl Abs.h0) ?_
            | refine r_val rfl rfl rfl (law_assign rfl) (hT rfl Abs.h0) ?_
            | refine r_val rfl rfl rfl (law_extract rfl rfl) (hT rfl Abs.h0) ?_
            | refine r_val rfl rfl rfl (law_not rfl) (hT rfl Abs.h0) ?_
            | refine r_val rfl rfl rfl (law_nilCheck rfl rfl) (hT rfl Abs.h0) ?_
            | refine r_val rfl rfl rfl (law_pick_true rfl) (hT rfl (hT rfl Abs.h0)) ?_
            | refine r_val rfl rfl rfl (law_pick_false rfl) (hT rfl (hT rfl Abs.h0)) ?_
            | refine r_val rfl rfl rfl (law_load tb_ok rfl rfl rfl rfl) (hT rfl (hN rfl Abs.h0)) ?_
            | refine r_val rfl rfl rfl (law_load_fp tb_ok rfl rfl rfl) (hT rfl Abs.h0) ?_
            | refine r_val rfl rfl rfl (law_field tb_ok rfl rfl rfl rfl rfl) (hT rfl Abs.h0) ?_
            | refine r_val rfl rfl rfl (law_fieldAddr tb_ok rfl rfl rfl rfl rfl) (hT rfl Abs.h0) ?_
            | refine r_val rfl rfl rfl (law_fieldAddr_fp tb_ok rfl rfl rfl rfl rfl) (hT rfl Abs.h0) ?_
            | refine r_val rfl rfl rfl (law_len_str rfl rfl) (hT rfl Abs.h0) ?_
            | refine r_val rfl rfl rfl (law_len_fro tb_ok rfl rfl rfl) (hT rfl Abs.h0) ?_
            | refine r_val rfl rfl rfl (law_len_own tb_ok rfl rfl rfl) (hT rfl Abs.h0) ?_
            | refine r_val rfl rfl rfl (law_len_nils tb_ok rfl rfl rfl) (hT rfl Abs.h0) ?_
            | refine r_val rfl rfl rfl (law_add' rfl (wrap64 (by omega) (by omega))) (hT rfl (hT rfl Abs.h0)) ?_
            | refine r_val rfl rfl rfl (law_sub' rfl (wrap64 (by omega) (by omega))) (hT rfl (hT rfl Abs.h0)) ?_
            | refine r_val rfl rfl rfl (law_mul' rfl (wrap64 (by omega) (by omega))) (hT rfl (hT rfl Abs.h0)) ?_
            | refine r_val rfl rfl rfl (law_lss rfl (decide_eq_true (by omega))) (hT rfl (hT rfl Abs.h0)) ?_
            | refine r_val rfl rfl rfl (law_lss rfl (decide_eq_false (by omega))) (hT rfl (hT rfl Abs.h0)) ?_
            | refine r_val rfl rfl rfl (law_leq rfl (decide_eq_true (by omega))) (hT rfl (hT rfl Abs.h0)) ?_
            | refine r_val rfl rfl rfl (law_leq rfl (decide_eq_false (by omega))) (hT rfl (hT rfl Abs.h0)) ?_
            | refine r_val rfl rfl rfl (law_gtr rfl (decide_eq_true (by omega))) (hT rfl (hT rfl Abs.h0)) ?_
            | refine r_val rfl rfl rfl (law_gtr rfl (decide_eq_false (by omega))) (hT rfl (hT rfl Abs.h0)) ?_
            | refine r_val rfl rfl rfl (law_geq rfl (decide_eq_true (by omega))) (hT rfl (hT rfl Abs.h0)) ?_
            | refine r_val rfl rfl rfl (law_geq rfl (decide_eq_false (by omega))) (hT rfl (hT rfl Abs.h0)) ?_
            | refine r_val rfl rfl rfl (law_eql rfl (decide_eq_true (by omega))) (hT rfl (hT rfl Abs.h0)) ?_
            | refine r_val rfl rfl rfl (law_eql rfl (decide_eq_false (by omega))) (hT rfl (hT rfl Abs.h0)) ?_
            | refine r_val rfl rfl rfl (law_neq rfl (decide_eq_true (by omega))) (hT rfl (hT rfl Abs.h0)) ?_
            | refine r_val rfl rfl rfl (law_neq rfl (decide_eq_false (by omega))) (hT rfl (hT rfl Abs.h0)) ?_
            | refine r_val rfl rfl rfl (law_eql_bool rfl rfl (beq_self_eq_true _)) (hT rfl (hT rfl Abs.h0)) ?_
            | refine r_val rfl rfl rfl (law_neq_bool rfl rfl (bne_self_eq_false _)) (hT rfl (hT rfl Abs.h0)) ?_
            | refine r_val rfl rfl rfl (law_eql_bool rfl rfl rfl) (hT rfl (hT rfl Abs.h0)) ?_
            | refine r_val rfl rfl rfl (law_neq_bool rfl rfl rfl) (hT rfl (hT rfl Abs.h0)) ?_
            | refine r_val rfl rfl rfl (law_eql_str rfl (decide_eq_true (by assumption))) (hT rfl (hT rfl Abs.h0)) ?_
            | refine r_val rfl rfl rfl (law_eql_str rfl (decide_eq_false (by assumption))) (hT rfl (hT rfl Abs.h0)) ?_
            | refine r_val rfl rfl rfl (law_neq_str rfl (decide_eq_true (by assumption))) (hT rfl (hT rfl Abs.h0)) ?_
            | refine r_val rfl rfl rfl (law_neq_str rfl (decide_eq_false (by simpa using (by assumption)))) (hT rfl (hT rfl Abs.h0)) ?_
            | refine r_val rfl rfl rfl (law_box_fz rfl (by rfl) (by rfl)) (hT rfl Abs.h0) ?_
            | refine r_new rfl rfl rfl rfl (law_alloc tb_ok rfl rfl rfl) Abs.h0 ?_
            | refine r_set rfl rfl (law_store tb_ok rfl rfl rfl rfl rfl rfl rfl rfl) (hT rfl (hT rfl (hN rfl Abs.h0))) ?_
            | refine r_off rfl rfl rfl ?_
            | refine r_off0 rfl rfl ?_
            | refine r_val rfl rfl rfl (law_call rfl (enters (by kernel_rfl)) (by rfl) (c5) (by rfl)) (hT rfl (hT rfl Abs.h0)) ?_
            | refine r_val rfl rfl rfl (law_call rfl (enters (by kernel_rfl)) (by rfl) (c6) (by rfl)) (hT rfl (hT rfl Abs.h0)) ?_
            | refine r_val rfl rfl rfl (law_call rfl (enters (by kernel_rfl)) (by rfl) (c7) (by rfl)) (hT rfl Abs.h0) ?_)
        cases x
        · skip
          repeat (first
              | with_reducible refine awp_seq ?_
              | with_reducible refine awp_region ?_
              | with_reducible refine awp_draw mixed ?_
              | with_reducible refine then_n ?_
              | with_reducible refine awp_skip ?_
              | with_reducible refine awp_block ?_
              | with_reducible refine awp_exit ?_
              | with_reducible refine awp_ret ?_
              | with_reducible refine awp_label ?_
              | with_reducible refine then_exit ?_
              | with_reducible refine then_ret ?_
              | with_reducible refine blk_n ?_
              | with_reducible refine blk_ret ?_
              | with_reducible refine blk_exit ?_
              | refine r_nil ?_
              | refine r_nild (by kernel_rfl) ?_
              | refine awp_true rfl ?_
              | refine awp_false rfl ?_
              | with_reducible refine blk_other rfl ?_
              | exact end_ret rfl rfl (by repeat' first | exact trivial | constructor) rfl
              | refine r_val rfl rfl rfl (law_move rfl) (hT rfl Abs.h0) ?_
              | refine r_val rfl rfl rfl (law_assign rfl) (hT rfl Abs.h0) ?_
              | refine r_val rfl rfl rfl (law_extract rfl rfl) (hT rfl Abs.h0) ?_
              | refine r_val rfl rfl rfl (law_not rfl) (hT rfl Abs.h0) ?_
              | refine r_val rfl rfl rfl (law_nilCheck rfl rfl) (hT rfl Abs.h0) ?_
              | refine r_val rfl rfl rfl (law_pick_true rfl) (hT rfl (hT rfl Abs.h0)) ?_
              | refine r_val rfl rfl rfl (law_pick_false rfl) (hT rfl (hT rfl Abs.h0)) ?_
              | refine r_val rfl rfl rfl (law_load tb_ok rfl rfl rfl rfl) (hT rfl (hN rfl Abs.h0)) ?_
              | refine r_val rfl rfl rfl (law_load_fp tb_ok rfl rfl rfl) (hT rfl Abs.h0) ?_
              | refine r_val rfl rfl rfl (law_field tb_ok rfl rfl rfl rfl rfl) (hT rfl Abs.h0) ?_
              | refine r_val rfl rfl rfl (law_fieldAddr tb_ok rfl rfl rfl rfl rfl) (hT rfl Abs.h0) ?_
              | refine r_val rfl rfl rfl (law_fieldAddr_fp tb_ok rfl rfl rfl rfl rfl) (hT rfl Abs.h0) ?_
              | refine r_val rfl rfl rfl (law_len_str rfl rfl) (hT rfl Abs.h0) ?_
              | refine r_val rfl rfl rfl (law_len_fro tb_ok rfl rfl rfl) (hT rfl Abs.h0) ?_
              | refine r_val rfl rfl rfl (law_len_own tb_ok rfl rfl rfl) (hT rfl Abs.h0) ?_
              | refine r_val rfl rfl rfl (law_len_nils tb_ok rfl rfl rfl) (hT rfl Abs.h0) ?_
              | refine r_val rfl rfl rfl (law_add' rfl (wrap64 (by omega) (by omega))) (hT rfl (hT rfl Abs.h0)) ?_
              | refine r_val rfl rfl rfl (law_sub' rfl (wrap64 (by omega) (by omega))) (hT rfl (hT rfl Abs.h0)) ?_
              | refine r_val rfl rfl rfl (law_mul' rfl (wrap64 (by omega) (by omega))) (hT rfl (hT rfl Abs.h0)) ?_
              | refine r_val rfl rfl rfl (law_lss rfl (decide_eq_true (by omega))) (hT rfl (hT rfl Abs.h0)) ?_
              | refine r_val rfl rfl rfl (law_lss rfl (decide_eq_false (by omega))) (hT rfl (hT rfl Abs.h0)) ?_
              | refine r_val rfl rfl rfl (law_leq rfl (decide_eq_true (by omega))) (hT rfl (hT rfl Abs.h0)) ?_
              | refine r_val rfl rfl rfl (law_leq rfl (decide_eq_false (by omega))) (hT rfl (hT rfl Abs.h0)) ?_
              | refine r_val rfl rfl rfl (law_gtr rfl (decide_eq_true (by omega))) (hT rfl (hT rfl Abs.h0)) ?_
              | refine r_val rfl rfl rfl (law_gtr rfl (decide_eq_false (by omega))) (hT rfl (hT rfl Abs.h0)) ?_
              | refine r_val rfl rfl rfl (law_geq rfl (decide_eq_true (by omega))) (hT rfl (hT rfl Abs.h0)) ?_
              | refine r_val rfl rfl rfl (law_geq rfl (decide_eq_false (by omega))) (hT rfl (hT rfl Abs.h0)) ?_
              | refine r_val rfl rfl rfl (law_eql rfl (decide_eq_true (by omega))) (hT rfl (hT rfl Abs.h0)) ?_
              | refine r_val rfl rfl rfl (law_eql rfl (decide_eq_false (by omega))) (hT rfl (hT rfl Abs.h0)) ?_
              | refine r_val rfl rfl rfl (law_neq rfl (decide_eq_true (by omega))) (hT rfl (hT rfl Abs.h0)) ?_
              | refine r_val rfl rfl rfl (law_neq rfl (decide_eq_false (by omega))) (hT rfl (hT rfl Abs.h0)) ?_
              | refine r_val rfl rfl rfl (law_eql_bool rfl rfl (beq_self_eq_true _)) (hT rfl (hT rfl Abs.h0)) ?_
              | refine r_val rfl rfl rfl (law_neq_bool rfl rfl (bne_self_eq_false _)) (hT rfl (hT rfl Abs.h0)) ?_
              | refine r_val rfl rfl rfl (law_eql_bool rfl rfl rfl) (hT rfl (hT rfl Abs.h0)) ?_
              | refine r_val rfl rfl rfl (law_neq_bool rfl rfl rfl) (hT rfl (hT rfl Abs.h0)) ?_
              | refine r_val rfl rfl rfl (law_eql_str rfl (decide_eq_true (by assumption))) (hT rfl (hT rfl Abs.h0)) ?_
              | refine r_val rfl rfl rfl (law_eql_str rfl (decide_eq_false (by assumption))) (hT rfl (hT rfl Abs.h0)) ?_
              | refine r_val rfl rfl rfl (law_neq_str rfl (decide_eq_true (by assumption))) (hT rfl (hT rfl Abs.h0)) ?_
              | refine r_val rfl rfl rfl (law_neq_str rfl (decide_eq_false (by simpa using (by assumption)))) (hT rfl (hT rfl Abs.h0)) ?_
              | refine r_val rfl rfl rfl (law_box_fz rfl (by rfl) (by rfl)) (hT rfl Abs.h0) ?_
              | refine r_new rfl rfl rfl rfl (law_alloc tb_ok rfl rfl rfl) Abs.h0 ?_
              | refine r_set rfl rfl (law_store tb_ok rfl rfl rfl rfl rfl rfl rfl rfl) (hT rfl (hT rfl (hN rfl Abs.h0))) ?_
              | refine r_off rfl rfl rfl ?_
              | refine r_off0 rfl rfl ?_
              | refine r_val rfl rfl rfl (law_call rfl (enters (by kernel_rfl)) (by rfl) (c5) (by rfl)) (hT rfl (hT rfl Abs.h0)) ?_
              | refine r_val rfl rfl rfl (law_call rfl (enters (by kernel_rfl)) (by rfl) (c6) (by rfl)) (hT rfl (hT rfl Abs.h0)) ?_
              | refine r_val rfl rfl rfl (law_call rfl (enters (by kernel_rfl)) (by rfl) (c7) (by rfl)) (hT rfl Abs.h0) ?_)
        · skip
          repeat (first
              | with_reducible refine awp_seq ?_
              | with_reducible refine awp_region ?_
              | with_reducible refine awp_draw mixed ?_
              | with_reducible refine then_n ?_
              | with_reducible refine awp_skip ?_
              | with_reducible refine awp_block ?_
              | with_reducible refine awp_exit ?_
              | with_reducible refine awp_ret ?_
              | with_reducible refine awp_label ?_
              | with_reducible refine then_exit ?_
              | with_reducible refine then_ret ?_
              | with_reducible refine blk_n ?_
              | with_reducible refine blk_ret ?_
              | with_reducible refine blk_exit ?_
              | refine r_nil ?_
              | refine r_nild (by kernel_rfl) ?_
              | refine awp_true rfl ?_
              | refine awp_false rfl ?_
              | with_reducible refine blk_other rfl ?_
              | exact end_ret rfl rfl (by repeat' first | exact trivial | constructor) rfl
              | refine r_val rfl rfl rfl (law_move rfl) (hT rfl Abs.h0) ?_
              | refine r_val rfl rfl rfl (law_assign rfl) (hT rfl Abs.h0) ?_
              | refine r_val rfl rfl rfl (law_extract rfl rfl) (hT rfl Abs.h0) ?_
              | refine r_val rfl rfl rfl (law_not rfl) (hT rfl Abs.h0) ?_
              | refine r_val rfl rfl rfl (law_nilCheck rfl rfl) (hT rfl Abs.h0) ?_
              | refine r_val rfl rfl rfl (law_pick_true rfl) (hT rfl (hT rfl Abs.h0)) ?_
              | refine r_val rfl rfl rfl (law_pick_false rfl) (hT rfl (hT rfl Abs.h0)) ?_
              | refine r_val rfl rfl rfl (law_load tb_ok rfl rfl rfl rfl) (hT rfl (hN rfl Abs.h0)) ?_
              | refine r_val rfl rfl rfl (law_load_fp tb_ok rfl rfl rfl) (hT rfl Abs.h0) ?_
              | refine r_val rfl rfl rfl (law_field tb_ok rfl rfl rfl rfl rfl) (hT rfl Abs.h0) ?_
              | refine r_val rfl rfl rfl (law_fieldAddr tb_ok rfl rfl rfl rfl rfl) (hT rfl Abs.h0) ?_
              | refine r_val rfl rfl rfl (law_fieldAddr_fp tb_ok rfl rfl rfl rfl rfl) (hT rfl Abs.h0) ?_
              | refine r_val rfl rfl rfl (law_len_str rfl rfl) (hT rfl Abs.h0) ?_
              | refine r_val rfl rfl rfl (law_len_fro tb_ok rfl rfl rfl) (hT rfl Abs.h0) ?_
              | refine r_val rfl rfl rfl (law_len_own tb_ok rfl rfl rfl) (hT rfl Abs.h0) ?_
              | refine r_val rfl rfl rfl (law_len_nils tb_ok rfl rfl rfl) (hT rfl Abs.h0) ?_
              | refine r_val rfl rfl rfl (law_add' rfl (wrap64 (by omega) (by omega))) (hT rfl (hT rfl Abs.h0)) ?_
              | refine r_val rfl rfl rfl (law_sub' rfl (wrap64 (by omega) (by omega))) (hT rfl (hT rfl Abs.h0)) ?_
              | refine r_val rfl rfl rfl (law_mul' rfl (wrap64 (by omega) (by omega))) (hT rfl (hT rfl Abs.h0)) ?_
              | refine r_val rfl rfl rfl (law_lss rfl (decide_eq_true (by omega))) (hT rfl (hT rfl Abs.h0)) ?_
              | refine r_val rfl rfl rfl (law_lss rfl (decide_eq_false (by omega))) (hT rfl (hT rfl Abs.h0)) ?_
              | refine r_val rfl rfl rfl (law_leq rfl (decide_eq_true (by omega))) (hT rfl (hT rfl Abs.h0)) ?_
              | refine r_val rfl rfl rfl (law_leq rfl (decide_eq_false (by omega))) (hT rfl (hT rfl Abs.h0)) ?_
              | refine r_val rfl rfl rfl (law_gtr rfl (decide_eq_true (by omega))) (hT rfl (hT rfl Abs.h0)) ?_
              | refine r_val rfl rfl rfl (law_gtr rfl (decide_eq_false (by omega))) (hT rfl (hT rfl Abs.h0)) ?_
              | refine r_val rfl rfl rfl (law_geq rfl (decide_eq_true (by omega))) (hT rfl (hT rfl Abs.h0)) ?_
              | refine r_val rfl rfl rfl (law_geq rfl (decide_eq_false (by omega))) (hT rfl (hT rfl Abs.h0)) ?_
              | refine r_val rfl rfl rfl (law_eql rfl (decide_eq_true (by omega))) (hT rfl (hT rfl Abs.h0)) ?_
              | refine r_val rfl rfl rfl (law_eql rfl (decide_eq_false (by omega))) (hT rfl (hT rfl Abs.h0)) ?_
              | refine r_val rfl rfl rfl (law_neq rfl (decide_eq_true (by omega))) (hT rfl (hT rfl Abs.h0)) ?_
              | refine r_val rfl rfl rfl (law_neq rfl (decide_eq_false (by omega))) (hT rfl (hT rfl Abs.h0)) ?_
              | refine r_val rfl rfl rfl (law_eql_bool rfl rfl (beq_self_eq_true _)) (hT rfl (hT rfl Abs.h0)) ?_
              | refine r_val rfl rfl rfl (law_neq_bool rfl rfl (bne_self_eq_false _)) (hT rfl (hT rfl Abs.h0)) ?_
              | refine r_val rfl rfl rfl (law_eql_bool rfl rfl rfl) (hT rfl (hT rfl Abs.h0)) ?_
              | refine r_val rfl rfl rfl (law_neq_bool rfl rfl rfl) (hT rfl (hT rfl Abs.h0)) ?_
              | refine r_val rfl rfl rfl (law_eql_str rfl (decide_eq_true (by assumption))) (hT rfl (hT rfl Abs.h0)) ?_
              | refine r_val rfl rfl rfl (law_eql_str rfl (decide_eq_false (by assumption))) (hT rfl (hT rfl Abs.h0)) ?_
              | refine r_val rfl rfl rfl (law_neq_str rfl (decide_eq_true (by assumption))) (hT rfl (hT rfl Abs.h0)) ?_
              | refine r_val rfl rfl rfl (law_neq_str rfl (decide_eq_false (by simpa using (by assumption)))) (hT rfl (hT rfl Abs.h0)) ?_
              | refine r_val rfl rfl rfl (law_box_fz rfl (by rfl) (by rfl)) (hT rfl Abs.h0) ?_
              | refine r_new rfl rfl rfl rfl (law_alloc tb_ok rfl rfl rfl) Abs.h0 ?_
              | refine r_set rfl rfl (law_store tb_ok rfl rfl rfl rfl rfl rfl rfl rfl) (hT rfl (hT rfl (hN rfl Abs.h0))) ?_
              | refine r_off rfl rfl rfl ?_
              | refine r_off0 rfl rfl ?_
              | refine r_val rfl rfl rfl (law_call rfl (enters (by kernel_rfl)) (by rfl) (c5) (by rfl)) (hT rfl (hT rfl Abs.h0)) ?_
              | refine r_val rfl rfl rfl (law_call rfl (enters (by kernel_rfl)) (by rfl) (c6) (by rfl)) (hT rfl (hT rfl Abs.h0)) ?_
              | refine r_val rfl rfl rfl (law_call rfl (enters (by kernel_rfl)) (by rfl) (c7) (by rfl)) (hT rfl Abs.h0) ?_)
      · skip
        repeat (first
            | with_reducible refine awp_seq ?_
            | with_reducible refine awp_region ?_
            | with_reducible refine awp_draw mixed ?_
            | with_reducible refine then_n ?_
            | with_reducible refine awp_skip ?_
            | with_reducible refine awp_block ?_
            | with_reducible refine awp_exit ?_
            | with_reducible refine awp_ret ?_
            | with_reducible refine awp_label ?_
            | with_reducible refine then_exit ?_
            | with_reducible refine then_ret ?_
            | with_reducible refine blk_n ?_
            | with_reducible refine blk_ret ?_
            | with_reducible refine blk_exit ?_
            | refine r_nil ?_
            | refine r_nild (by kernel_rfl) ?_
            | refine awp_true rfl ?_
            | refine awp_false rfl ?_
            | with_reducible refine blk_other rfl ?_
            | exact end_ret rfl rfl (by repeat' first | exact trivial | constructor) rfl
            | refine r_val rfl rfl rfl (law_move rfl) (hT rfl Abs.h0) ?_
            | refine r_val rfl rfl rfl (law_assign rfl) (hT rfl Abs.h0) ?_
            | refine r_val rfl rfl rfl (law_extract rfl rfl) (hT rfl Abs.h0) ?_
            | refine r_val rfl rfl rfl (law_not rfl) (hT rfl Abs.h0) ?_
            | refine r_val rfl rfl rfl (law_nilCheck rfl rfl) (hT rfl Abs.h0) ?_
            | refine r_val rfl rfl rfl (law_pick_true rfl) (hT rfl (hT rfl Abs.h0)) ?_
            | refine r_val rfl rfl rfl (law_pick_false rfl) (hT rfl (hT rfl Abs.h0)) ?_
            | refine r_val rfl rfl rfl (law_load tb_ok rfl rfl rfl rfl) (hT rfl (hN rfl Abs.h0)) ?_
            | refine r_val rfl rfl rfl (law_load_fp tb_ok rfl rfl rfl) (hT rfl Abs.h0) ?_
            | refine r_val rfl rfl rfl (law_field tb_ok rfl rfl rfl rfl rfl) (hT rfl Abs.h0) ?_
            | refine r_val rfl rfl rfl (law_fieldAddr tb_ok rfl rfl rfl rfl rfl) (hT rfl Abs.h0) ?_
            | refine r_val rfl rfl rfl (law_fieldAddr_fp tb_ok rfl rfl rfl rfl rfl) (hT rfl Abs.h0) ?_
            | refine r_val rfl rfl rfl (law_len_str rfl rfl) (hT rfl Abs.h0) ?_
            | refine r_val rfl rfl rfl (law_len_fro tb_ok rfl rfl rfl) (hT rfl Abs.h0) ?_
            | refine r_val rfl rfl rfl (law_len_own tb_ok rfl rfl rfl) (hT rfl Abs.h0) ?_
            | refine r_val rfl rfl rfl (law_len_nils tb_ok rfl rfl rfl) (hT rfl Abs.h0) ?_
            | refine r_val rfl rfl rfl (law_add' rfl (wrap64 (by omega) (by omega))) (hT rfl (hT rfl Abs.h0)) ?_
            | refine r_val rfl rfl rfl (law_sub' rfl (wrap64 (by omega) (by omega))) (hT rfl (hT rfl Abs.h0)) ?_
            | refine r_val rfl rfl rfl (law_mul' rfl (wrap64 (by omega) (by omega))) (hT rfl (hT rfl Abs.h0)) ?_
            | refine r_val rfl rfl rfl (law_lss rfl (decide_eq_true (by omega))) (hT rfl (hT rfl Abs.h0)) ?_
            | refine r_val rfl rfl rfl (law_lss rfl (decide_eq_false (by omega))) (hT rfl (hT rfl Abs.h0)) ?_
            | refine r_val rfl rfl rfl (law_leq rfl (decide_eq_true (by omega))) (hT rfl (hT rfl Abs.h0)) ?_
            | refine r_val rfl rfl rfl (law_leq rfl (decide_eq_false (by omega))) (hT rfl (hT rfl Abs.h0)) ?_
            | refine r_val rfl rfl rfl (law_gtr rfl (decide_eq_true (by omega))) (hT rfl (hT rfl Abs.h0)) ?_
            | refine r_val rfl rfl rfl (law_gtr rfl (decide_eq_false (by omega))) (hT rfl (hT rfl Abs.h0)) ?_
            | refine r_val rfl rfl rfl (law_geq rfl (decide_eq_true (by omega))) (hT rfl (hT rfl Abs.h0)) ?_
            | refine r_val rfl rfl rfl (law_geq rfl (decide_eq_false (by omega))) (hT rfl (hT rfl Abs.h0)) ?_
            | refine r_val rfl rfl rfl (law_eql rfl (decide_eq_true (by omega))) (hT rfl (hT rfl Abs.h0)) ?_
            | refine r_val rfl rfl rfl (law_eql rfl (decide_eq_false (by omega))) (hT rfl (hT rfl Abs.h0)) ?_
            | refine r_val rfl rfl rfl (law_neq rfl (decide_eq_true (by omega))) (hT rfl (hT rfl Abs.h0)) ?_
            | refine r_val rfl rfl rfl (law_neq rfl (decide_eq_false (by omega))) (hT rfl (hT rfl Abs.h0)) ?_
            | refine r_val rfl rfl rfl (law_eql_bool rfl rfl (beq_self_eq_true _)) (hT rfl (hT rfl Abs.h0)) ?_
            | refine r_val rfl rfl rfl (law_neq_bool rfl rfl (bne_self_eq_false _)) (hT rfl (hT rfl Abs.h0)) ?_
            | refine r_val rfl rfl rfl (law_eql_bool rfl rfl rfl) (hT rfl (hT rfl Abs.h0)) ?_
            | refine r_val rfl rfl rfl (law_neq_bool rfl rfl rfl) (hT rfl (hT rfl Abs.h0)) ?_
            | refine r_val rfl rfl rfl (law_eql_str rfl (decide_eq_true (by assumption))) (hT rfl (hT rfl Abs.h0)) ?_
            | refine r_val rfl rfl rfl (law_eql_str rfl (decide_eq_false (by assumption))) (hT rfl (hT rfl Abs.h0)) ?_
            | refine r_val rfl rfl rfl (law_neq_str rfl (decide_eq_true (by assumption))) (hT rfl (hT rfl Abs.h0)) ?_
            | refine r_val rfl rfl rfl (law_neq_str rfl (decide_eq_false (by simpa using (by assumption)))) (hT rfl (hT rfl Abs.h0)) ?_
            | refine r_val rfl rfl rfl (law_box_fz rfl (by rfl) (by rfl)) (hT rfl Abs.h0) ?_
            | refine r_new rfl rfl rfl rfl (law_alloc tb_ok rfl rfl rfl) Abs.h0 ?_
            | refine r_set rfl rfl (law_store tb_ok rfl rfl rfl rfl rfl rfl rfl rfl) (hT rfl (hT rfl (hN rfl Abs.h0))) ?_
            | refine r_off rfl rfl rfl ?_
            | refine r_off0 rfl rfl ?_
            | refine r_val rfl rfl rfl (law_call rfl (enters (by kernel_rfl)) (by rfl) (c5) (by rfl)) (hT rfl (hT rfl Abs.h0)) ?_
            | refine r_val rfl rfl rfl (law_call rfl (enters (by kernel_rfl)) (by rfl) (c6) (by rfl)) (hT rfl (hT rfl Abs.h0)) ?_
            | refine r_val rfl rfl rfl (law_call rfl (enters (by kernel_rfl)) (by rfl) (c7) (by rfl)) (hT rfl Abs.h0) ?_)
        by_cases b1 : b = v
        · obtain rfl : y = false := by have b2 : v ≠ 0 := b1 ▸ b0; rw [← hy]; simp [b1, b2]
          repeat (first
              | with_reducible refine awp_seq ?_
              | with_reducible refine awp_region ?_
              | with_reducible refine awp_draw mixed ?_
              | with_reducible refine then_n ?_
              | with_reducible refine awp_skip ?_
              | with_reducible refine awp_block ?_
              | with_reducible refine awp_exit ?_
              | with_reducible refine awp_ret ?_
              | with_reducible refine awp_label ?_
              | with_reducible refine then_exit ?_
              | with_reducible refine then_ret ?_
              | with_reducible refine blk_n ?_
              | with_reducible refine blk_ret ?_
              | with_reducible refine blk_exit ?_
              | refine r_nil ?_
              | refine r_nild (by kernel_rfl) ?_
              | refine awp_true rfl ?_
              | refine awp_false rfl ?_
              | with_reducible refine blk_other rfl ?_
              | exact end_ret rfl rfl (by repeat' first | exact trivial | constructor) rfl
              | refine r_val rfl rfl rfl (law_move rfl) (hT rfl Abs.h0) ?_
              | refine r_val rfl rfl rfl (law_assign rfl) (hT rfl Abs.h0) ?_
              | refine r_val rfl rfl rfl (law_extract rfl rfl) (hT rfl Abs.h0) ?_
              | refine r_val rfl rfl rfl (law_not rfl) (hT rfl Abs.h0) ?_
              | refine r_val rfl rfl rfl (law_nilCheck rfl rfl) (hT rfl Abs.h0) ?_
              | refine r_val rfl rfl rfl (law_pick_true rfl) (hT rfl (hT rfl Abs.h0)) ?_
              | refine r_val rfl rfl rfl (law_pick_false rfl) (hT rfl (hT rfl Abs.h0)) ?_
              | refine r_val rfl rfl rfl (law_load tb_ok rfl rfl rfl rfl) (hT rfl (hN rfl Abs.h0)) ?_
              | refine r_val rfl rfl rfl (law_load_fp tb_ok rfl rfl rfl) (hT rfl Abs.h0) ?_
              | refine r_val rfl rfl rfl (law_field tb_ok rfl rfl rfl rfl rfl) (hT rfl Abs.h0) ?_
              | refine r_val rfl rfl rfl (law_fieldAddr tb_ok rfl rfl rfl rfl rfl) (hT rfl Abs.h0) ?_
              | refine r_val rfl rfl rfl (law_fieldAddr_fp tb_ok rfl rfl rfl rfl rfl) (hT rfl Abs.h0) ?_
              | refine r_val rfl rfl rfl (law_len_str rfl rfl) (hT rfl Abs.h0) ?_
              | refine r_val rfl rfl rfl (law_len_fro tb_ok rfl rfl rfl) (hT rfl Abs.h0) ?_
              | refine r_val rfl rfl rfl (law_len_own tb_ok rfl rfl rfl) (hT rfl Abs.h0) ?_
              | refine r_val rfl rfl rfl (law_len_nils tb_ok rfl rfl rfl) (hT rfl Abs.h0) ?_
              | refine r_val rfl rfl rfl (law_add' rfl (wrap64 (by omega) (by omega))) (hT rfl (hT rfl Abs.h0)) ?_
              | refine r_val rfl rfl rfl (law_sub' rfl (wrap64 (by omega) (by omega))) (hT rfl (hT rfl Abs.h0)) ?_
              | refine r_val rfl rfl rfl (law_mul' rfl (wrap64 (by omega) (by omega))) (hT rfl (hT rfl Abs.h0)) ?_
              | refine r_val rfl rfl rfl (law_lss rfl (decide_eq_true (by omega))) (hT rfl (hT rfl Abs.h0)) ?_
              | refine r_val rfl rfl rfl (law_lss rfl (decide_eq_false (by omega))) (hT rfl (hT rfl Abs.h0)) ?_
              | refine r_val rfl rfl rfl (law_leq rfl (decide_eq_true (by omega))) (hT rfl (hT rfl Abs.h0)) ?_
              | refine r_val rfl rfl rfl (law_leq rfl (decide_eq_false (by omega))) (hT rfl (hT rfl Abs.h0)) ?_
              | refine r_val rfl rfl rfl (law_gtr rfl (decide_eq_true (by omega))) (hT rfl (hT rfl Abs.h0)) ?_
              | refine r_val rfl rfl rfl (law_gtr rfl (decide_eq_false (by omega))) (hT rfl (hT rfl Abs.h0)) ?_
              | refine r_val rfl rfl rfl (law_geq rfl (decide_eq_true (by omega))) (hT rfl (hT rfl Abs.h0)) ?_
              | refine r_val rfl rfl rfl (law_geq rfl (decide_eq_false (by omega))) (hT rfl (hT rfl Abs.h0)) ?_
              | refine r_val rfl rfl rfl (law_eql rfl (decide_eq_true (by omega))) (hT rfl (hT rfl Abs.h0)) ?_
              | refine r_val rfl rfl rfl (law_eql rfl (decide_eq_false (by omega))) (hT rfl (hT rfl Abs.h0)) ?_
              | refine r_val rfl rfl rfl (law_neq rfl (decide_eq_true (by omega))) (hT rfl (hT rfl Abs.h0)) ?_
              | refine r_val rfl rfl rfl (law_neq rfl (decide_eq_false (by omega))) (hT rfl (hT rfl Abs.h0)) ?_
              | refine r_val rfl rfl rfl (law_eql_bool rfl rfl (beq_self_eq_true _)) (hT rfl (hT rfl Abs.h0)) ?_
              | refine r_val rfl rfl rfl (law_neq_bool rfl rfl (bne_self_eq_false _)) (hT rfl (hT rfl Abs.h0)) ?_
              | refine r_val rfl rfl rfl (law_eql_bool rfl rfl rfl) (hT rfl (hT rfl Abs.h0)) ?_
              | refine r_val rfl rfl rfl (law_neq_bool rfl rfl rfl) (hT rfl (hT rfl Abs.h0)) ?_
              | refine r_val rfl rfl rfl (law_eql_str rfl (decide_eq_true (by assumption))) (hT rfl (hT rfl Abs.h0)) ?_
              | refine r_val rfl rfl rfl (law_eql_str rfl (decide_eq_false (by assumption))) (hT rfl (hT rfl Abs.h0)) ?_
              | refine r_val rfl rfl rfl (law_neq_str rfl (decide_eq_true (by assumption))) (hT rfl (hT rfl Abs.h0)) ?_
              | refine r_val rfl rfl rfl (law_neq_str rfl (decide_eq_false (by simpa using (by assumption)))) (hT rfl (hT rfl Abs.h0)) ?_
              | refine r_val rfl rfl rfl (law_box_fz rfl (by rfl) (by rfl)) (hT rfl Abs.h0) ?_
              | refine r_new rfl rfl rfl rfl (law_alloc tb_ok rfl rfl rfl) Abs.h0 ?_
              | refine r_set rfl rfl (law_store tb_ok rfl rfl rfl rfl rfl rfl rfl rfl) (hT rfl (hT rfl (hN rfl Abs.h0))) ?_
              | refine r_off rfl rfl rfl ?_
              | refine r_off0 rfl rfl ?_
              | refine r_val rfl rfl rfl (law_call rfl (enters (by kernel_rfl)) (by rfl) (c5) (by rfl)) (hT rfl (hT rfl Abs.h0)) ?_
              | refine r_val rfl rfl rfl (law_call rfl (enters (by kernel_rfl)) (by rfl) (c6) (by rfl)) (hT rfl (hT rfl Abs.h0)) ?_
              | refine r_val rfl rfl rfl (law_call rfl (enters (by kernel_rfl)) (by rfl) (c7) (by rfl)) (hT rfl Abs.h0) ?_)
          cases x
          · skip
            repeat (first
                | with_reducible refine awp_seq ?_
                | with_reducible refine awp_region ?_
                | with_reducible refine awp_draw mixed ?_
                | with_reducible refine then_n ?_
                | with_reducible refine awp_skip ?_
                | with_reducible refine awp_block ?_
                | with_reducible refine awp_exit ?_
                | with_reducible refine awp_ret ?_
                | with_reducible refine awp_label ?_
                | with_reducible refine then_exit ?_
                | with_reducible refine then_ret ?_
                | with_reducible refine blk_n ?_
                | with_reducible refine blk_ret ?_
                | with_reducible refine blk_exit ?_
                | refine r_nil ?_
                | refine r_nild (by kernel_rfl) ?_
                | refine awp_true rfl ?_
                | refine awp_false rfl ?_
                | with_reducible refine blk_other rfl ?_
                | exact end_ret rfl rfl (by repeat' first | exact trivial | constructor) rfl
                | refine r_val rfl rfl rfl (law_move rfl) (hT rfl Abs.h0) ?_
                | refine r_val rfl rfl rfl (law_assign rfl) (hT rfl Abs.h0) ?_
                | refine r_val rfl rfl rfl (law_extract rfl rfl) (hT rfl Abs.h0) ?_
                | refine r_val rfl rfl rfl (law_not rfl) (hT rfl Abs.h0) ?_
                | refine r_val rfl rfl rfl (law_nilCheck rfl rfl) (hT rfl Abs.h0) ?_
                | refine r_val rfl rfl rfl (law_pick_true rfl) (hT rfl (hT rfl Abs.h0)) ?_
                | refine r_val rfl rfl rfl (law_pick_false rfl) (hT rfl (hT rfl Abs.h0)) ?_
                | refine r_val rfl rfl rfl (law_load tb_ok rfl rfl rfl rfl) (hT rfl (hN rfl Abs.h0)) ?_
                | refine r_val rfl rfl rfl (law_load_fp tb_ok rfl rfl rfl) (hT rfl Abs.h0) ?_
                | refine r_val rfl rfl rfl (law_field tb_ok rfl rfl rfl rfl rfl) (hT rfl Abs.h0) ?_
                | refine r_val rfl rfl rfl (law_fieldAddr tb_ok rfl rfl rfl rfl rfl) (hT rfl Abs.h0) ?_
                | refine r_val rfl rfl rfl (law_fieldAddr_fp tb_ok rfl rfl rfl rfl rfl) (hT rfl Abs.h0) ?_
                | refine r_val rfl rfl rfl (law_len_str rfl rfl) (hT rfl Abs.h0) ?_
                | refine r_val rfl rfl rfl (law_len_fro tb_ok rfl rfl rfl) (hT rfl Abs.h0) ?_
                | refine r_val rfl rfl rfl (law_len_own tb_ok rfl rfl rfl) (hT rfl Abs.h0) ?_
                | refine r_val rfl rfl rfl (law_len_nils tb_ok rfl rfl rfl) (hT rfl Abs.h0) ?_
                | refine r_val rfl rfl rfl (law_add' rfl (wrap64 (by omega) (by omega))) (hT rfl (hT rfl Abs.h0)) ?_
                | refine r_val rfl rfl rfl (law_sub' rfl (wrap64 (by omega) (by omega))) (hT rfl (hT rfl Abs.h0)) ?_
                | refine r_val rfl rfl rfl (law_mul' rfl (wrap64 (by omega) (by omega))) (hT rfl (hT rfl Abs.h0)) ?_
                | refine r_val rfl rfl rfl (law_lss rfl (decide_eq_true (by omega))) (hT rfl (hT rfl Abs.h0)) ?_
                | refine r_val rfl rfl rfl (law_lss rfl (decide_eq_false (by omega))) (hT rfl (hT rfl Abs.h0)) ?_
                | refine r_val rfl rfl rfl (law_leq rfl (decide_eq_true (by omega))) (hT rfl (hT rfl Abs.h0)) ?_
                | refine r_val rfl rfl rfl (law_leq rfl (decide_eq_false (by omega))) (hT rfl (hT rfl Abs.h0)) ?_
                | refine r_val rfl rfl rfl (law_gtr rfl (decide_eq_true (by omega))) (hT rfl (hT rfl Abs.h0)) ?_
                | refine r_val rfl rfl rfl (law_gtr rfl (decide_eq_false (by omega))) (hT rfl (hT rfl Abs.h0)) ?_
                | refine r_val rfl rfl rfl (law_geq rfl (decide_eq_true (by omega))) (hT rfl (hT rfl Abs.h0)) ?_
                | refine r_val rfl rfl rfl (law_geq rfl (decide_eq_false (by omega))) (hT rfl (hT rfl Abs.h0)) ?_
                | refine r_val rfl rfl rfl (law_eql rfl (decide_eq_true (by omega))) (hT rfl (hT rfl Abs.h0)) ?_
                | refine r_val rfl rfl rfl (law_eql rfl (decide_eq_false (by omega))) (hT rfl (hT rfl Abs.h0)) ?_
                | refine r_val rfl rfl rfl (law_neq rfl (decide_eq_true (by omega))) (hT rfl (hT rfl Abs.h0)) ?_
                | refine r_val rfl rfl rfl (law_neq rfl (decide_eq_false (by omega))) (hT rfl (hT rfl Abs.h0)) ?_
                | refine r_val rfl rfl rfl (law_eql_bool rfl rfl (beq_self_eq_true _)) (hT rfl (hT rfl Abs.h0)) ?_
                | refine r_val rfl rfl rfl (law_neq_bool rfl rfl (bne_self_eq_false _)) (hT rfl (hT rfl Abs.h0)) ?_
                | refine r_val rfl rfl rfl (law_eql_bool rfl rfl rfl) (hT rfl (hT rfl Abs.h0)) ?_
                | refine r_val rfl rfl rfl (law_neq_bool rfl rfl rfl) (hT rfl (hT rfl Abs.h0)) ?_
                | refine r_val rfl rfl rfl (law_eql_str rfl (decide_eq_true (by assumption))) (hT rfl (hT rfl Abs.h0)) ?_
                | refine r_val rfl rfl rfl (law_eql_str rfl (decide_eq_false (by assumption))) (hT rfl (hT rfl Abs.h0)) ?_
                | refine r_val rfl rfl rfl (law_neq_str rfl (decide_eq_true (by assumption))) (hT rfl (hT rfl Abs.h0)) ?_
                | refine r_val rfl rfl rfl (law_neq_str rfl (decide_eq_false (by simpa using (by assumption)))) (hT rfl (hT rfl Abs.h0)) ?_
                | refine r_val rfl rfl rfl (law_box_fz rfl (by rfl) (by rfl)) (hT rfl Abs.h0) ?_
                | refine r_new rfl rfl rfl rfl (law_alloc tb_ok rfl rfl rfl) Abs.h0 ?_
                | refine r_set rfl rfl (law_store tb_ok rfl rfl rfl rfl rfl rfl rfl rfl) (hT rfl (hT rfl (hN rfl Abs.h0))) ?_
                | refine r_off rfl rfl rfl ?_
                | refine r_off0 rfl rfl ?_
                | refine r_val rfl rfl rfl (law_call rfl (enters (by kernel_rfl)) (by rfl) (c5) (by rfl)) (hT rfl (hT rfl Abs.h0)) ?_
                | refine r_val rfl rfl rfl (law_call rfl (enters (by kernel_rfl)) (by rfl) (c6) (by rfl)) (hT rfl (hT rfl Abs.h0)) ?_
                | refine r_val rfl rfl rfl (law_call rfl (enters (by kernel_rfl)) (by rfl) (c7) (by rfl)) (hT rfl Abs.h0) ?_)
          · skip
            repeat (first
                | with_reducible refine awp_seq ?_
                | with_reducible refine awp_region ?_
                | with_reducible refine awp_draw mixed ?_
                | with_reducible refine then_n ?_
                | with_reducible refine awp_skip ?_
                | with_reducible refine awp_block ?_
                | with_reducible refine awp_exit ?_
                | with_reducible refine awp_ret ?_
                | with_reducible refine awp_label ?_
                | with_reducible refine then_exit ?_
                | with_reducible refine then_ret ?_
                | with_reducible refine blk_n ?_
                | with_reducible refine blk_ret ?_
                | with_reducible refine blk_exit ?_
                | refine r_nil ?_
                | refine r_nild (by kernel_rfl) ?_
                | refine awp_true rfl ?_
                | refine awp_false rfl ?_
                | with_reducible refine blk_other rfl ?_
                | exact end_ret rfl rfl (by repeat' first | exact trivial | constructor) rfl
                | refine r_val rfl rfl rfl (law_move rfl) (hT rfl Abs.h0) ?_
                | refine r_val rfl rfl rfl (law_assign rfl) (hT rfl Abs.h0) ?_
                | refine r_val rfl rfl rfl (law_extract rfl rfl) (hT rfl Abs.h0) ?_
                | refine r_val rfl rfl rfl (law_not rfl) (hT rfl Abs.h0) ?_
                | refine r_val rfl rfl rfl (law_nilCheck rfl rfl) (hT rfl Abs.h0) ?_
                | refine r_val rfl rfl rfl (law_pick_true rfl) (hT rfl (hT rfl Abs.h0)) ?_
                | refine r_val rfl rfl rfl (law_pick_false rfl) (hT rfl (hT rfl Abs.h0)) ?_
                | refine r_val rfl rfl rfl (law_load tb_ok rfl rfl rfl rfl) (hT rfl (hN rfl Abs.h0)) ?_
                | refine r_val rfl rfl rfl (law_load_fp tb_ok rfl rfl rfl) (hT rfl Abs.h0) ?_
                | refine r_val rfl rfl rfl (law_field tb_ok rfl rfl rfl rfl rfl) (hT rfl Abs.h0) ?_
                | refine r_val rfl rfl rfl (law_fieldAddr tb_ok rfl rfl rfl rfl rfl) (hT rfl Abs.h0) ?_
                | refine r_val rfl rfl rfl (law_fieldAddr_fp tb_ok rfl rfl rfl rfl rfl) (hT rfl Abs.h0) ?_
                | refine r_val rfl rfl rfl (law_len_str rfl rfl) (hT rfl Abs.h0) ?_
                | refine r_val rfl rfl rfl (law_len_fro tb_ok rfl rfl rfl) (hT rfl Abs.h0) ?_
                | refine r_val rfl rfl rfl (law_len_own tb_ok rfl rfl rfl) (hT rfl Abs.h0) ?_
                | refine r_val rfl rfl rfl (law_len_nils tb_ok rfl rfl rfl) (hT rfl Abs.h0) ?_
                | refine r_val rfl rfl rfl (law_add' rfl (wrap64 (by omega) (by omega))) (hT rfl (hT rfl Abs.h0)) ?_
                | refine r_val rfl rfl rfl (law_sub' rfl (wrap64 (by omega) (by omega))) (hT rfl (hT rfl Abs.h0)) ?_
                | refine r_val rfl rfl rfl (law_mul' rfl (wrap64 (by omega) (by omega))) (hT rfl (hT rfl Abs.h0)) ?_
                | refine r_val rfl rfl rfl (law_lss rfl (decide_eq_true (by omega))) (hT rfl (hT rfl Abs.h0)) ?_
                | refine r_val rfl rfl rfl (law_lss rfl (decide_eq_false (by omega))) (hT rfl (hT rfl Abs.h0)) ?_
                | refine r_val rfl rfl rfl (law_leq rfl (decide_eq_true (by omega))) (hT rfl (hT rfl Abs.h0)) ?_
                | refine r_val rfl rfl rfl (law_leq rfl (decide_eq_false (by omega))) (hT rfl (hT rfl Abs.h0)) ?_
                | refine r_val rfl rfl rfl (law_gtr rfl (decide_eq_true (by omega))) (hT rfl (hT rfl Abs.h0)) ?_
                | refine r_val rfl rfl rfl (law_gtr rfl (decide_eq_false (by omega))) (hT rfl (hT rfl Abs.h0)) ?_
                | refine r_val rfl rfl rfl (law_geq rfl (decide_eq_true (by omega))) (hT rfl (hT rfl Abs.h0)) ?_
                | refine r_val rfl rfl rfl (law_geq rfl (decide_eq_false (by omega))) (hT rfl (hT rfl Abs.h0)) ?_
                | refine r_val rfl rfl rfl (law_eql rfl (decide_eq_true (by omega))) (hT rfl (hT rfl Abs.h0)) ?_
                | refine r_val rfl rfl rfl (law_eql rfl (decide_eq_false (by omega))) (hT rfl (hT rfl Abs.h0)) ?_
                | refine r_val rfl rfl rfl (law_neq rfl (decide_eq_true (by omega))) (hT rfl (hT rfl Abs.h0)) ?_
                | refine r_val rfl rfl rfl (law_neq rfl (decide_eq_false (by omega))) (hT rfl (hT rfl Abs.h0)) ?_
                | refine r_val rfl rfl rfl (law_eql_bool rfl rfl (beq_self_eq_true _)) (hT rfl (hT rfl Abs.h0)) ?_
                | refine r_val rfl rfl rfl (law_neq_bool rfl rfl (bne_self_eq_false _)) (hT rfl (hT rfl Abs.h0)) ?_
                | refine r_val rfl rfl rfl (law_eql_bool rfl rfl rfl) (hT rfl (hT rfl Abs.h0)) ?_
                | refine r_val rfl rfl rfl (law_neq_bool rfl rfl rfl) (hT rfl (hT rfl Abs.h0)) ?_
                | refine r_val rfl rfl rfl (law_eql_str rfl (decide_eq_true (by assumption))) (hT rfl (hT rfl Abs.h0)) ?_
                | refine r_val rfl rfl rfl (law_eql_str rfl (decide_eq_false (by assumption))) (hT rfl (hT rfl Abs.h0)) ?_
                | refine r_val rfl rfl rfl (law_neq_str rfl (decide_eq_true (by assumption))) (hT rfl (hT rfl Abs.h0)) ?_
                | refine r_val rfl rfl rfl (law_neq_str rfl (decide_eq_false (by simpa using (by assumption)))) (hT rfl (hT rfl Abs.h0)) ?_
                | refine r_val rfl rfl rfl (law_box_fz rfl (by rfl) (by rfl)) (hT rfl Abs.h0) ?_
                | refine r_new rfl rfl rfl rfl (law_alloc tb_ok rfl rfl rfl) Abs.h0 ?_
                | refine r_set rfl rfl (law_store tb_ok rfl rfl rfl rfl rfl rfl rfl rfl) (hT rfl (hT rfl (hN rfl Abs.h0))) ?_
                | refine r_off rfl rfl rfl ?_
                | refine r_off0 rfl rfl ?_
                | refine r_val rfl rfl rfl (law_call rfl (enters (by kernel_rfl)) (by rfl) (c5) (by rfl)) (hT rfl (hT rfl Abs.h0)) ?_
                | refine r_val rfl rfl rfl (law_call rfl (enters (by kernel_rfl)) (by rfl) (c6) (by rfl)) (hT rfl (hT rfl Abs.h0)) ?_
                | refine r_val rfl rfl rfl (law_call rfl (enters (by kernel_rfl)) (by rfl) (c7) (by rfl)) (hT rfl Abs.h0) ?_)
        · obtain rfl : x = y := by simpa [b0, b1] using hy
          repeat (first
              | with_reducible refine awp_seq ?_
              | with_reducible refine awp_region ?_
              | with_reducible refine awp_draw mixed ?_
              | with_reducible refine then_n ?_
              | with_reducible refine awp_skip ?_
              | with_reducible refine awp_block ?_
              | with_reducible refine awp_exit ?_
              | with_reducible refine awp_ret ?_
              | with_reducible refine awp_label ?_
              | with_reducible refine then_exit ?_
              | with_reducible refine then_ret ?_
              | with_reducible refine blk_n ?_
              | with_reducible refine blk_ret ?_
              | with_reducible refine blk_exit ?_
              | refine r_nil ?_
              | refine r_nild (by kernel_rfl) ?_
              | refine awp_true rfl ?_
              | refine awp_false rfl ?_
              | with_reducible refine blk_other rfl ?_
              | exact end_ret rfl rfl (by repeat' first | exact trivial | constructor) rfl
              | refine r_val rfl rfl rfl (law_move rfl) (hT rfl Abs.h0) ?_
              | refine r_val rfl rfl rfl (law_assign rfl) (hT rfl Abs.h0) ?_
              | refine r_val rfl rfl rfl (law_extract rfl rfl) (hT rfl Abs.h0) ?_
              | refine r_val rfl rfl rfl (law_not rfl) (hT rfl Abs.h0) ?_
              | refine r_val rfl rfl rfl (law_nilCheck rfl rfl) (hT rfl Abs.h0) ?_
              | refine r_val rfl rfl rfl (law_pick_true rfl) (hT rfl (hT rfl Abs.h0)) ?_
              | refine r_val rfl rfl rfl (law_pick_false rfl) (hT rfl (hT rfl Abs.h0)) ?_
              | refine r_val rfl rfl rfl (law_load tb_ok rfl rfl rfl rfl) (hT rfl (hN rfl Abs.h0)) ?_
              | refine r_val rfl rfl rfl (law_load_fp tb_ok rfl rfl rfl) (hT rfl Abs.h0) ?_
              | refine r_val rfl rfl rfl (law_field tb_ok rfl rfl rfl rfl rfl) (hT rfl Abs.h0) ?_
              | refine r_val rfl rfl rfl (law_fieldAddr tb_ok rfl rfl rfl rfl rfl) (hT rfl Abs.h0) ?_
              | refine r_val rfl rfl rfl (law_fieldAddr_fp tb_ok rfl rfl rfl rfl rfl) (hT rfl Abs.h0) ?_
              | refine r_val rfl rfl rfl (law_len_str rfl rfl) (hT rfl Abs.h0) ?_
              | refine r_val rfl rfl rfl (law_len_fro tb_ok rfl rfl rfl) (hT rfl Abs.h0) ?_
              | refine r_val rfl rfl rfl (law_len_own tb_ok rfl rfl rfl) (hT rfl Abs.h0) ?_
              | refine r_val rfl rfl rfl (law_len_nils tb_ok rfl rfl rfl) (hT rfl Abs.h0) ?_
              | refine r_val rfl rfl rfl (law_add' rfl (wrap64 (by omega) (by omega))) (hT rfl (hT rfl Abs.h0)) ?_
              | refine r_val rfl rfl rfl (law_sub' rfl (wrap64 (by omega) (by omega))) (hT rfl (hT rfl Abs.h0)) ?_
              | refine r_val rfl rfl rfl (law_mul' rfl (wrap64 (by omega) (by omega))) (hT rfl (hT rfl Abs.h0)) ?_
              | refine r_val rfl rfl rfl (law_lss rfl (decide_eq_true (by omega))) (hT rfl (hT rfl Abs.h0)) ?_
              | refine r_val rfl rfl rfl (law_lss rfl (decide_eq_false (by omega))) (hT rfl (hT rfl Abs.h0)) ?_
              | refine r_val rfl rfl rfl (law_leq rfl (decide_eq_true (by omega))) (hT rfl (hT rfl Abs.h0)) ?_
              | refine r_val rfl rfl rfl (law_leq rfl (decide_eq_false (by omega))) (hT rfl (hT rfl Abs.h0)) ?_
              | refine r_val rfl rfl rfl (law_gtr rfl (decide_eq_true (by omega))) (hT rfl (hT rfl Abs.h0)) ?_
              | refine r_val rfl rfl rfl (law_gtr rfl (decide_eq_false (by omega))) (hT rfl (hT rfl Abs.h0)) ?_
              | refine r_val rfl rfl rfl (law_geq rfl (decide_eq_true (by omega))) (hT rfl (hT rfl Abs.h0)) ?_
              | refine r_val rfl rfl rfl (law_geq rfl (decide_eq_false (by omega))) (hT rfl (hT rfl Abs.h0)) ?_
              | refine r_val rfl rfl rfl (law_eql rfl (decide_eq_true (by omega))) (hT rfl (hT rfl Abs.h0)) ?_
              | refine r_val rfl rfl rfl (law_eql rfl (decide_eq_false (by omega))) (hT rfl (hT rfl Abs.h0)) ?_
              | refine r_val rfl rfl rfl (law_neq rfl (decide_eq_true (by omega))) (hT rfl (hT rfl Abs.h0)) ?_
              | refine r_val rfl rfl rfl (law_neq rfl (decide_eq_false (by omega))) (hT rfl (hT rfl Abs.h0)) ?_
              | refine r_val rfl rfl rfl (law_eql_bool rfl rfl (beq_self_eq_true _)) (hT rfl (hT rfl Abs.h0)) ?_
              | refine r_val rfl rfl rfl (law_neq_bool rfl rfl (bne_self_eq_false _)) (hT rfl (hT rfl Abs.h0)) ?_
              | refine r_val rfl rfl rfl (law_eql_bool rfl rfl rfl) (hT rfl (hT rfl Abs.h0)) ?_
              | refine r_val rfl rfl rfl (law_neq_bool rfl rfl rfl) (hT rfl (hT rfl Abs.h0)) ?_
              | refine r_val rfl rfl rfl (law_eql_str rfl (decide_eq_true (by assumption))) (hT rfl (hT rfl Abs.h0)) ?_
              | refine r_val rfl rfl rfl (law_eql_str rfl (decide_eq_false (by assumption))) (hT rfl (hT rfl Abs.h0)) ?_
              | refine r_val rfl rfl rfl (law_neq_str rfl (decide_eq_true (by assumption))) (hT rfl (hT rfl Abs.h0)) ?_
              | refine r_val rfl rfl rfl (law_neq_str rfl (decide_eq_false (by simpa using (by assumption)))) (hT rfl (hT rfl Abs.h0)) ?_
              | refine r_val rfl rfl rfl (law_box_fz rfl (by rfl) (by rfl)) (hT rfl Abs.h0) ?_
              | refine r_new rfl rfl rfl rfl (law_alloc tb_ok rfl rfl rfl) Abs.h0 ?_
              | refine r_set rfl rfl (law_store tb_ok rfl rfl rfl rfl rfl rfl rfl rfl) (hT rfl (hT rfl (hN rfl Abs.h0))) ?_
              | refine r_off rfl rfl rfl ?_
              | refine r_off0 rfl rfl ?_
              | refine r_val rfl rfl rfl (law_call rfl (enters (by kernel_rfl)) (by rfl) (c5) (by rfl)) (hT rfl (hT rfl Abs.h0)) ?_
              | refine r_val rfl rfl rfl (law_call rfl (enters (by kernel_rfl)) (by rfl) (c6) (by rfl)) (hT rfl (hT rfl Abs.h0)) ?_
              | refine r_val rfl rfl rfl (law_call rfl (enters (by kernel_rfl)) (by rfl) (c7) (by rfl)) (hT rfl Abs.h0) ?_)
          cases x
          · skip
            repeat (first
                | with_reducible refine awp_seq ?_
                | with_reducible refine awp_region ?_
                | with_reducible refine awp_draw mixed ?_
                | with_reducible refine then_n ?_
                | with_reducible refine awp_skip ?_
                | with_reducible refine awp_block ?_
                | with_reducible refine awp_exit ?_
                | with_reducible refine awp_ret ?_
                | with_reducible refine awp_label ?_
                | with_reducible refine then_exit ?_
                | with_reducible refine then_ret ?_
                | with_reducible refine blk_n ?_
                | with_reducible refine blk_ret ?_
                | with_reducible refine blk_exit ?_
                | refine r_nil ?_
                | refine r_nild (by kernel_rfl) ?_
                | refine awp_true rfl ?_
                | refine awp_false rfl ?_
                | with_reducible refine blk_other rfl ?_
                | exact end_ret rfl rfl (by repeat' first | exact trivial | constructor) rfl
                | refine r_val rfl rfl rfl (law_move rfl) (hT rfl Abs.h0) ?_
                | refine r_val rfl rfl rfl (law_assign rfl) (hT rfl Abs.h0) ?_
                | refine r_val rfl rfl rfl (law_extract rfl rfl) (hT rfl Abs.h0) ?_
                | refine r_val rfl rfl rfl (law_not rfl) (hT rfl Abs.h0) ?_
                | refine r_val rfl rfl rfl (law_nilCheck rfl rfl) (hT rfl Abs.h0) ?_
                | refine r_val rfl rfl rfl (law_pick_true rfl) (hT rfl (hT rfl Abs.h0)) ?_
                | refine r_val rfl rfl rfl (law_pick_false rfl) (hT rfl (hT rfl Abs.h0)) ?_
                | refine r_val rfl rfl rfl (law_load tb_ok rfl rfl rfl rfl) (hT rfl (hN rfl Abs.h0)) ?_
                | refine r_val rfl rfl rfl (law_load_fp tb_ok rfl rfl rfl) (hT rfl Abs.h0) ?_
                | refine r_val rfl rfl rfl (law_field tb_ok rfl rfl rfl rfl rfl) (hT rfl Abs.h0) ?_
                | refine r_val rfl rfl rfl (law_fieldAddr tb_ok rfl rfl rfl rfl rfl) (hT rfl Abs.h0) ?_
                | refine r_val rfl rfl rfl (law_fieldAddr_fp tb_ok rfl rfl rfl rfl rfl) (hT rfl Abs.h0) ?_
                | refine r_val rfl rfl rfl (law_len_str rfl rfl) (hT rfl Abs.h0) ?_
                | refine r_val rfl rfl rfl (law_len_fro tb_ok rfl rfl rfl) (hT rfl Abs.h0) ?_
                | refine r_val rfl rfl rfl (law_len_own tb_ok rfl rfl rfl) (hT rfl Abs.h0) ?_
                | refine r_val rfl rfl rfl (law_len_nils tb_ok rfl rfl rfl) (hT rfl Abs.h0) ?_
                | refine r_val rfl rfl rfl (law_add' rfl (wrap64 (by omega) (by omega))) (hT rfl (hT rfl Abs.h0)) ?_
                | refine r_val rfl rfl rfl (law_sub' rfl (wrap64 (by omega) (by omega))) (hT rfl (hT rfl Abs.h0)) ?_
                | refine r_val rfl rfl rfl (law_mul' rfl (wrap64 (by omega) (by omega))) (hT rfl (hT rfl Abs.h0)) ?_
                | refine r_val rfl rfl rfl (law_lss rfl (decide_eq_true (by omega))) (hT rfl (hT rfl Abs.h0)) ?_
                | refine r_val rfl rfl rfl (law_lss rfl (decide_eq_false (by omega))) (hT rfl (hT rfl Abs.h0)) ?_
                | refine r_val rfl rfl rfl (law_leq rfl (decide_eq_true (by omega))) (hT rfl (hT rfl Abs.h0)) ?_
                | refine r_val rfl rfl rfl (law_leq rfl (decide_eq_false (by omega))) (hT rfl (hT rfl Abs.h0)) ?_
                | refine r_val rfl rfl rfl (law_gtr rfl (decide_eq_true (by omega))) (hT rfl (hT rfl Abs.h0)) ?_
                | refine r_val rfl rfl rfl (law_gtr rfl (decide_eq_false (by omega))) (hT rfl (hT rfl Abs.h0)) ?_
                | refine r_val rfl rfl rfl (law_geq rfl (decide_eq_true (by omega))) (hT rfl (hT rfl Abs.h0)) ?_
                | refine r_val rfl rfl rfl (law_geq rfl (decide_eq_false (by omega))) (hT rfl (hT rfl Abs.h0)) ?_
                | refine r_val rfl rfl rfl (law_eql rfl (decide_eq_true (by omega))) (hT rfl (hT rfl Abs.h0)) ?_
                | refine r_val rfl rfl rfl (law_eql rfl (decide_eq_false (by omega))) (hT rfl (hT rfl Abs.h0)) ?_
                | refine r_val rfl rfl rfl (law_neq rfl (decide_eq_true (by omega))) (hT rfl (hT rfl Abs.h0)) ?_
                | refine r_val rfl rfl rfl (law_neq rfl (decide_eq_false (by omega))) (hT rfl (hT rfl Abs.h0)) ?_
                | refine r_val rfl rfl rfl (law_eql_bool rfl rfl (beq_self_eq_true _)) (hT rfl (hT rfl Abs.h0)) ?_
                | refine r_val rfl rfl rfl (law_neq_bool rfl rfl (bne_self_eq_false _)) (hT rfl (hT rfl Abs.h0)) ?_
                | refine r_val rfl rfl rfl (law_eql_bool rfl rfl rfl) (hT rfl (hT rfl Abs.h0)) ?_
                | refine r_val rfl rfl rfl (law_neq_bool rfl rfl rfl) (hT rfl (hT rfl Abs.h0)) ?_
                | refine r_val rfl rfl rfl (law_eql_str rfl (decide_eq_true (by assumption))) (hT rfl (hT rfl Abs.h0)) ?_
                | refine r_val rfl rfl rfl (law_eql_str rfl (decide_eq_false (by assumption))) (hT rfl (hT rfl Abs.h0)) ?_
                | refine r_val rfl rfl rfl (law_neq_str rfl (decide_eq_true (by assumption))) (hT rfl (hT rfl Abs.h0)) ?_
                | refine r_val rfl rfl rfl (law_neq_str rfl (decide_eq_false (by simpa using (by assumption)))) (hT rfl (hT rfl Abs.h0)) ?_
                | refine r_val rfl rfl rfl (law_box_fz rfl (by rfl) (by rfl)) (hT rfl Abs.h0) ?_
                | refine r_new rfl rfl rfl rfl (law_alloc tb_ok rfl rfl rfl) Abs.h0 ?_
                | refine r_set rfl rfl (law_store tb_ok rfl rfl rfl rfl rfl rfl rfl rfl) (hT rfl (hT rfl (hN rfl Abs.h0))) ?_
                | refine r_off rfl rfl rfl ?_
                | refine r_off0 rfl rfl ?_
                | refine r_val rfl rfl rfl (law_call rfl (enters (by kernel_rfl)) (by rfl) (c5) (by rfl)) (hT rfl (hT rfl Abs.h0)) ?_
                | refine r_val rfl rfl rfl (law_call rfl (enters (by kernel_rfl)) (by rfl) (c6) (by rfl)) (hT rfl (hT rfl Abs.h0)) ?_
                | refine r_val rfl rfl rfl (law_call rfl (enters (by kernel_rfl)) (by rfl) (c7) (by rfl)) (hT rfl Abs.h0) ?_)
          · skip
            repeat (first
                | with_reducible refine awp_seq ?_
                | with_reducible refine awp_region ?_
                | with_reducible refine awp_draw mixed ?_
                | with_reducible refine then_n ?_
                | with_reducible refine awp_skip ?_
                | with_reducible refine awp_block ?_
                | with_reducible refine awp_exit ?_
                | with_reducible refine awp_ret ?_
                | with_reducible refine awp_label ?_
                | with_reducible refine then_exit ?_
                | with_reducible refine then_ret ?_
                | with_reducible refine blk_n ?_
                | with_reducible refine blk_ret ?_
                | with_reducible refine blk_exit ?_
                | refine r_nil ?_
                | refine r_nild (by kernel_rfl) ?_
                | refine awp_true rfl ?_
                | refine awp_false rfl ?_
                | with_reducible refine blk_other rfl ?_
                | exact end_ret rfl rfl (by repeat' first | exact trivial | constructor) rfl
                | refine r_val rfl rfl rfl (law_move rfl) (hT rfl Abs.h0) ?_
                | refine r_val rfl rfl rfl (law_assign rfl) (hT rfl Abs.h0) ?_
                | refine r_val rfl rfl rfl (law_extract rfl rfl) (hT rfl Abs.h0) ?_
                | refine r_val rfl rfl rfl (law_not rfl) (hT rfl Abs.h0) ?_
                | refine r_val rfl rfl rfl (law_nilCheck rfl rfl) (hT rfl Abs.h0) ?_
                | refine r_val rfl rfl rfl (law_pick_true rfl) (hT rfl (hT rfl Abs.h0)) ?_
                | refine r_val rfl rfl rfl (law_pick_false rfl) (hT rfl (hT rfl Abs.h0)) ?_
                | refine r_val rfl rfl rfl (law_load tb_ok rfl rfl rfl rfl) (hT rfl (hN rfl Abs.h0)) ?_
                | refine r_val rfl rfl rfl (law_load_fp tb_ok rfl rfl rfl) (hT rfl Abs.h0) ?_
                | refine r_val rfl rfl rfl (law_field tb_ok rfl rfl rfl rfl rfl) (hT rfl Abs.h0) ?_
                | refine r_val rfl rfl rfl (law_fieldAddr tb_ok rfl rfl rfl rfl rfl) (hT rfl Abs.h0) ?_
                | refine r_val rfl rfl rfl (law_fieldAddr_fp tb_ok rfl rfl rfl rfl rfl) (hT rfl Abs.h0) ?_
                | refine r_val rfl rfl rfl (law_len_str rfl rfl) (hT rfl Abs.h0) ?_
                | refine r_val rfl rfl rfl (law_len_fro tb_ok rfl rfl rfl) (hT rfl Abs.h0) ?_
                | refine r_val rfl rfl rfl (law_len_own tb_ok rfl rfl rfl) (hT rfl Abs.h0) ?_
                | refine r_val rfl rfl rfl (law_len_nils tb_ok rfl rfl rfl) (hT rfl Abs.h0) ?_
                | refine r_val rfl rfl rfl (law_add' rfl (wrap64 (by omega) (by omega))) (hT rfl (hT rfl Abs.h0)) ?_
                | refine r_val rfl rfl rfl (law_sub' rfl (wrap64 (by omega) (by omega))) (hT rfl (hT rfl Abs.h0)) ?_
                | refine r_val rfl rfl rfl (law_mul' rfl (wrap64 (by omega) (by omega))) (hT rfl (hT rfl Abs.h0)) ?_
                | refine r_val rfl rfl rfl (law_lss rfl (decide_eq_true (by omega))) (hT rfl (hT rfl Abs.h0)) ?_
                | refine r_val rfl rfl rfl (law_lss rfl (decide_eq_false (by omega))) (hT rfl (hT rfl Abs.h0)) ?_
                | refine r_val rfl rfl rfl (law_leq rfl (decide_eq_true (by omega))) (hT rfl (hT rfl Abs.h0)) ?_
                | refine r_val rfl rfl rfl (law_leq rfl (decide_eq_false (by omega))) (hT rfl (hT rfl Abs.h0)) ?_
                | refine r_val rfl rfl rfl (law_gtr rfl (decide_eq_true (by omega))) (hT rfl (hT rfl Abs.h0)) ?_
                | refine r_val rfl rfl rfl (law_gtr rfl (decide_eq_false (by omega))) (hT rfl (hT rfl Abs.h0)) ?_
                | refine r_val rfl rfl rfl (law_geq rfl (decide_eq_true (by omega))) (hT rfl (hT rfl Abs.h0)) ?_
                | refine r_val rfl rfl rfl (law_geq rfl (decide_eq_false (by omega))) (hT rfl (hT rfl Abs.h0)) ?_
                | refine r_val rfl rfl rfl (law_eql rfl (decide_eq_true (by omega))) (hT rfl (hT rfl Abs.h0)) ?_
                | refine r_val rfl rfl rfl (law_eql rfl (decide_eq_false (by omega))) (hT rfl (hT rfl Abs.h0)) ?_
                | refine r_val rfl rfl rfl (law_neq rfl (decide_eq_true (by omega))) (hT rfl (hT rfl Abs.h0)) ?_
                | refine r_val rfl rfl rfl (law_neq rfl (decide_eq_false (by omega))) (hT rfl (hT rfl Abs.h0)) ?_
                | refine r_val rfl rfl rfl (law_eql_bool rfl rfl (beq_self_eq_true _)) (hT rfl (hT rfl Abs.h0)) ?_
                | refine r_val rfl rfl rfl (law_neq_bool rfl rfl (bne_self_eq_false _)) (hT rfl (hT rfl Abs.h0)) ?_
                | refine r_val rfl rfl rfl (law_eql_bool rfl rfl rfl) (hT rfl (hT rfl Abs.h0)) ?_
                | refine r_val rfl rfl rfl (law_neq_bool rfl rfl rfl) (hT rfl (hT rfl Abs.h0)) ?_
                | refine r_val rfl rfl rfl (law_eql_str rfl (decide_eq_true (by assumption))) (hT rfl (hT rfl Abs.h0)) ?_
                | refine r_val rfl rfl rfl (law_eql_str rfl (decide_eq_false (by assumption))) (hT rfl (hT rfl Abs.h0)) ?_
                | refine r_val rfl rfl rfl (law_neq_str rfl (decide_eq_true (by assumption))) (hT rfl (hT rfl Abs.h0)) ?_
                | refine r_val rfl rfl rfl (law_neq_str rfl (decide_eq_false (by simpa using (by assumption)))) (hT rfl (hT rfl Abs.h0)) ?_
                | refine r_val rfl rfl rfl (law_box_fz rfl (by rfl) (by rfl)) (hT rfl Abs.h0) ?_
                | refine r_new rfl rfl rfl rfl (law_alloc tb_ok rfl rfl rfl) Abs.h0 ?_
                | refine r_set rfl rfl (law_store tb_ok rfl rfl rfl rfl rfl rfl rfl rfl) (hT rfl (hT rfl (hN rfl Abs.h0))) ?_
                | refine r_off rfl rfl rfl ?_
                | refine r_off0 rfl rfl ?_
                | refine r_val rfl rfl rfl (law_call rfl (enters (by kernel_rfl)) (by rfl) (c5) (by rfl)) (hT rfl (hT rfl Abs.h0)) ?_
                | refine r_val rfl rfl rfl (law_call rfl (enters (by kernel_rfl)) (by rfl) (c6) (by rfl)) (hT rfl (hT rfl Abs.h0)) ?_
                | refine r_val rfl rfl rfl (law_call rfl (enters (by kernel_rfl)) (by rfl) (c7) (by rfl)) (hT rfl Abs.h0) ?_)
    · skip
      repeat (first
          | with_reducible refine awp_seq ?_
          | with_reducible refine awp_region ?_
          | with_reducible refine awp_draw mixed ?_
          | with_reducible refine then_n ?_
          | with_reducible refine awp_skip ?_
          | with_reducible refine awp_block ?_
          | with_reducible refine awp_exit ?_
          | with_reducible refine awp_ret ?_
          | with_reducible refine awp_label ?_
          | with_reducible refine then_exit ?_
          | with_reducible refine then_ret ?_
          | with_reducible refine blk_n ?_
          | with_reducible refine blk_ret ?_
          | with_reducible refine blk_exit ?_
          | refine r_nil ?_
          | refine r_nild (by kernel_rfl) ?_
          | refine awp_true rfl ?_
          | refine awp_false rfl ?_
          | with_reducible refine blk_other rfl ?_
          | exact end_ret rfl rfl (by repeat' first | exact trivial | constructor) rfl
          | refine r_val rfl rfl rfl (law_move rfl) (hT rfl Abs.h0) ?_
          | refine r_val rfl rfl rfl (law_assign rfl) (hT rfl Abs.h0) ?_
          | refine r_val rfl rfl rfl (law_extract rfl rfl) (hT rfl Abs.h0) ?_
          | refine r_val rfl rfl rfl (law_not rfl) (hT rfl Abs.h0) ?_
          | refine r_val rfl rfl rfl (law_nilCheck rfl rfl) (hT rfl Abs.h0) ?_
          | refine r_val rfl rfl rfl (law_pick_true rfl) (hT rfl (hT rfl Abs.h0)) ?_
          | refine r_val rfl rfl rfl (law_pick_false rfl) (hT rfl (hT rfl Abs.h0)) ?_
          | refine r_val rfl rfl rfl (law_load tb_ok rfl rfl rfl rfl) (hT rfl (hN rfl Abs.h0)) ?_
          | refine r_val rfl rfl rfl (law_load_fp tb_ok rfl rfl rfl) (hT rfl Abs.h0) ?_
          | refine r_val rfl rfl rfl (law_field tb_ok rfl rfl rfl rfl rfl) (hT rfl Abs.h0) ?_
          | refine r_val rfl rfl rfl (law_fieldAddr tb_ok rfl rfl rfl rfl rfl) (hT rfl Abs.h0) ?_
          | refine r_val rfl rfl rfl (law_fieldAddr_fp tb_ok rfl rfl rfl rfl rfl) (hT rfl Abs.h0) ?_
          | refine r_val rfl rfl rfl (law_len_str rfl rfl) (hT rfl Abs.h0) ?_
          | refine r_val rfl rfl rfl (law_len_fro tb_ok rfl rfl rfl) (hT rfl Abs.h0) ?_
          | refine r_val rfl rfl rfl (law_len_own tb_ok rfl rfl rfl) (hT rfl Abs.h0) ?_
          | refine r_val rfl rfl rfl (law_len_nils tb_ok rfl rfl rfl) (hT rfl Abs.h0) ?_
          | refine r_val rfl rfl rfl (law_add' rfl (wrap64 (by omega) (by omega))) (hT rfl (hT rfl Abs.h0)) ?_
          | refine r_val rfl rfl rfl (law_sub' rfl (wrap64 (by omega) (by omega))) (hT rfl (hT rfl Abs.h0)) ?_
          | refine r_val rfl rfl rfl (law_mul' rfl (wrap64 (by omega) (by omega))) (hT rfl (hT rfl Abs.h0)) ?_
          | refine r_val rfl rfl rfl (law_lss rfl (decide_eq_true (by omega))) (hT rfl (hT rfl Abs.h0)) ?_
          | refine r_val rfl rfl rfl (law_lss rfl (decide_eq_false (by omega))) (hT rfl (hT rfl Abs.h0)) ?_
          | refine r_val rfl rfl rfl (law_leq rfl (decide_eq_true (by omega))) (hT rfl (hT rfl Abs.h0)) ?_
          | refine r_val rfl rfl rfl (law_leq rfl (decide_eq_false (by omega))) (hT rfl (hT rfl Abs.h0)) ?_
          | refine r_val rfl rfl rfl (law_gtr rfl (decide_eq_true (by omega))) (hT rfl (hT rfl Abs.h0)) ?_
          | refine r_val rfl rfl rfl (law_gtr rfl (decide_eq_false (by omega))) (hT rfl (hT rfl Abs.h0)) ?_
          | refine r_val rfl rfl rfl (law_geq rfl (decide_eq_true (by omega))) (hT rfl (hT rfl Abs.h0)) ?_
          | refine r_val rfl rfl rfl (law_geq rfl (decide_eq_false (by omega))) (hT rfl (hT rfl Abs.h0)) ?_
          | refine r_val rfl rfl rfl (law_eql rfl (decide_eq_true (by omega))) (hT rfl (hT rfl Abs.h0)) ?_
          | refine r_val rfl rfl rfl (law_eql rfl (decide_eq_false (by omega))) (hT rfl (hT rfl Abs.h0)) ?_
          | refine r_val rfl rfl rfl (law_neq rfl (decide_eq_true (by omega))) (hT rfl (hT rfl Abs.h0)) ?_
          | refine r_val rfl rfl rfl (law_neq rfl (decide_eq_false (by omega))) (hT rfl (hT rfl Abs.h0)) ?_
          | refine r_val rfl rfl rfl (law_eql_bool rfl rfl (beq_self_eq_true _)) (hT rfl (hT rfl Abs.h0)) ?_
          | refine r_val rfl rfl rfl (law_neq_bool rfl rfl (bne_self_eq_false _)) (hT rfl (hT rfl Abs.h0)) ?_
          | refine r_val rfl rfl rfl (law_eql_bool rfl rfl rfl) (hT rfl (hT rfl Abs.h0)) ?_
          | refine r_val rfl rfl rfl (law_neq_bool rfl rfl rfl) (hT rfl (hT rfl Abs.h0)) ?_
          | refine r_val rfl rfl rfl (law_eql_str rfl (decide_eq_true (by assumption))) (hT rfl (hT rfl Abs.h0)) ?_
          | refine r_val rfl rfl rfl (law_eql_str rfl (decide_eq_false (by assumption))) (hT rfl (hT rfl Abs.h0)) ?_
          | refine r_val rfl rfl rfl (law_neq_str rfl (decide_eq_true (by assumption))) (hT rfl (hT rfl Abs.h0)) ?_
          | refine r_val rfl rfl rfl (law_neq_str rfl (decide_eq_false (by simpa using (by assumption)))) (hT rfl (hT rfl Abs.h0)) ?_
          | refine r_val rfl rfl rfl (law_box_fz rfl (by rfl) (by rfl)) (hT rfl Abs.h0) ?_
          | refine r_new rfl rfl rfl rfl (law_alloc tb_ok rfl rfl rfl) Abs.h0 ?_
          | refine r_set rfl rfl (law_store tb_ok rfl rfl rfl rfl rfl rfl rfl rfl) (hT rfl (hT rfl (hN rfl Abs.h0))) ?_
          | refine r_off rfl rfl rfl ?_
          | refine r_off0 rfl rfl ?_
          | refine r_val rfl rfl rfl (law_call rfl (enters (by kernel_rfl)) (by rfl) (c5) (by rfl)) (hT rfl (hT rfl Abs.h0)) ?_
          | refine r_val rfl rfl rfl (law_call rfl (enters (by kernel_rfl)) (by rfl) (c6) (by rfl)) (hT rfl (hT rfl Abs.h0)) ?_
          | refine r_val rfl rfl rfl (law_call rfl (enters (by kernel_rfl)) (by rfl) (c7) (by rfl)) (hT rfl Abs.h0) ?_)
      by_cases a1 : a = p
      · obtain rfl : y = false := by have a2 : p ≠ 0 := a1 ▸ a0; rw [← hy]; simp [a1, a2]
        repeat (first
            | with_reducible refine awp_seq ?_
            | with_reducible refine awp_region ?_
            | with_reducible refine awp_draw mixed ?_
            | with_reducible refine then_n ?_
            | with_reducible refine awp_skip ?_
            | with_reducible refine awp_block ?_
            | with_reducible refine awp_exit ?_
            | with_reducible refine awp_ret ?_
            | with_reducible refine awp_label ?_
            | with_reducible refine then_exit ?_
            | with_reducible refine then_ret ?_
            | with_reducible refine blk_n ?_
            | with_reducible refine blk_ret ?_
            | with_reducible refine blk_exit ?_
            | refine r_nil ?_
            | refine r_nild (by kernel_rfl) ?_
            | refine awp_true rfl ?_
            | refine awp_false rfl ?_
            | with_reducible refine blk_other rfl ?_
            | exact end_ret rfl rfl (by repeat' first | exact trivial | constructor) rfl
            | refine r_val rfl rfl rfl (law_move rfl) (hT rfl Abs.h0) ?_
            | refine r_val rfl rfl rfl (law_assign rfl) (hT rfl Abs.h0) ?_
            | refine r_val rfl rfl rfl (law_extract rfl rfl) (hT rfl Abs.h0) ?_
            | refine r_val rfl rfl rfl (law_not rfl) (hT rfl Abs.h0) ?_
            | refine r_val rfl rfl rfl (law_nilCheck rfl rfl) (hT rfl Abs.h0) ?_
            | refine r_val rfl rfl rfl (law_pick_true rfl) (hT rfl (hT rfl Abs.h0)) ?_
            | refine r_val rfl rfl rfl (law_pick_false rfl) (hT rfl (hT rfl Abs.h0)) ?_
            | refine r_val rfl rfl rfl (law_load tb_ok rfl rfl rfl rfl) (hT rfl (hN rfl Abs.h0)) ?_
            | refine r_val rfl rfl rfl (law_load_fp tb_ok rfl rfl rfl) (hT rfl Abs.h0) ?_
            | refine r_val rfl rfl rfl (law_field tb_ok rfl rfl rfl rfl rfl) (hT rfl Abs.h0) ?_
            | refine r_val rfl rfl rfl (law_fieldAddr tb_ok rfl rfl rfl rfl rfl) (hT rfl Abs.h0) ?_
            | refine r_val rfl rfl rfl (law_fieldAddr_fp tb_ok rfl rfl rfl rfl rfl) (hT rfl Abs.h0) ?_
            | refine r_val rfl rfl rfl (law_len_str rfl rfl) (hT rfl Abs.h0) ?_
            | refine r_val rfl rfl rfl (law_len_fro tb_ok rfl rfl rfl) (hT rfl Abs.h0) ?_
            | refine r_val rfl rfl rfl (law_len_own tb_ok rfl rfl rfl) (hT rfl Abs.h0) ?_
            | refine r_val rfl rfl rfl (law_len_nils tb_ok rfl rfl rfl) (hT rfl Abs.h0) ?_
            | refine r_val rfl rfl rfl (law_add' rfl (wrap64 (by omega) (by omega))) (hT rfl (hT rfl Abs.h0)) ?_
            | refine r_val rfl rfl rfl (law_sub' rfl (wrap64 (by omega) (by omega))) (hT rfl (hT rfl Abs.h0)) ?_
            | refine r_val rfl rfl rfl (law_mul' rfl (wrap64 (by omega) (by omega))) (hT rfl (hT rfl Abs.h0)) ?_
            | refine r_val rfl rfl rfl (law_lss rfl (decide_eq_true (by omega))) (hT rfl (hT rfl Abs.h0)) ?_
            | refine r_val rfl rfl rfl (law_lss rfl (decide_eq_false (by omega))) (hT rfl (hT rfl Abs.h0)) ?_
            | refine r_val rfl rfl rfl (law_leq rfl (decide_eq_true (by omega))) (hT rfl (hT rfl Abs.h0)) ?_
            | refine r_val rfl rfl rfl (law_leq rfl (decide_eq_false (by omega))) (hT rfl (hT rfl Abs.h0)) ?_
            | refine r_val rfl rfl rfl (law_gtr rfl (decide_eq_true (by omega))) (hT rfl (hT rfl Abs.h0)) ?_
            | refine r_val rfl rfl rfl (law_gtr rfl (decide_eq_false (by omega))) (hT rfl (hT rfl Abs.h0)) ?_
            | refine r_val rfl rfl rfl (law_geq rfl (decide_eq_true (by omega))) (hT rfl (hT rfl Abs.h0)) ?_
            | refine r_val rfl rfl rfl (law_geq rfl (decide_eq_false (by omega))) (hT rfl (hT rfl Abs.h0)) ?_
            | refine r_val rfl rfl rfl (law_eql rfl (decide_eq_true (by omega))) (hT rfl (hT rfl Abs.h0)) ?_
            | refine r_val rfl rfl rfl (law_eql rfl (decide_eq_false (by omega))) (hT rfl (hT rfl Abs.h0)) ?_
            | refine r_val rfl rfl rfl (law_neq rfl (decide_eq_true (by omega))) (hT rfl (hT rfl Abs.h0)) ?_
            | refine r_val rfl rfl rfl (law_neq rfl (decide_eq_false (by omega))) (hT rfl (hT rfl Abs.h0)) ?_
            | refine r_val rfl rfl rfl (law_eql_bool rfl rfl (beq_self_eq_true _)) (hT rfl (hT rfl Abs.h0)) ?_
            | refine r_val rfl rfl rfl (law_neq_bool rfl rfl (bne_self_eq_false _)) (hT rfl (hT rfl Abs.h0)) ?_
            | refine r_val rfl rfl rfl (law_eql_bool rfl rfl rfl) (hT rfl (hT rfl Abs.h0)) ?_
            | refine r_val rfl rfl rfl (law_neq_bool rfl rfl rfl) (hT rfl (hT rfl Abs.h0)) ?_
            | refine r_val rfl rfl rfl (law_eql_str rfl (decide_eq_true (by assumption))) (hT rfl (hT rfl Abs.h0)) ?_
            | refine r_val rfl rfl rfl (law_eql_str rfl (decide_eq_false (by assumption))) (hT rfl (hT rfl Abs.h0)) ?_
            | refine r_val rfl rfl rfl (law_neq_str rfl (decide_eq_true (by assumption))) (hT rfl (hT rfl Abs.h0)) ?_
            | refine r_val rfl rfl rfl (law_neq_str rfl (decide_eq_false (by simpa using (by assumption)))) (hT rfl (hT rfl Abs.h0)) ?_
            | refine r_val rfl rfl rfl (law_box_fz rfl (by rfl) (by rfl)) (hT rfl Abs.h0) ?_
            | refine r_new rfl rfl rfl rfl (law_alloc tb_ok rfl rfl rfl) Abs.h0 ?_
            | refine r_set rfl rfl (law_store tb_ok rfl rfl rfl rfl rfl rfl rfl rfl) (hT rfl (hT rfl (hN rfl Abs.h0))) ?_
            | refine r_off rfl rfl rfl ?_
            | refine r_off0 rfl rfl ?_
            | refine r_val rfl rfl rfl (law_call rfl (enters (by kernel_rfl)) (by rfl) (c5) (by rfl)) (hT rfl (hT rfl Abs.h0)) ?_
            | refine r_val rfl rfl rfl (law_call rfl (enters (by kernel_rfl)) (by rfl) (c6) (by rfl)) (hT rfl (hT rfl Abs.h0)) ?_
            | refine r_val rfl rfl rfl (law_call rfl (enters (by kernel_rfl)) (by rfl) (c7) (by rfl)) (hT rfl Abs.h0) ?_)
        cases x
        · skip
          repeat (first
              | with_reducible refine awp_seq ?_
              | with_reducible refine awp_region ?_
              | with_reducible refine awp_draw mixed ?_
              | with_reducible refine then_n ?_
              | with_reducible refine awp_skip ?_
              | with_reducible refine awp_block ?_
              | with_reducible refine awp_exit ?_
              | with_reducible refine awp_ret ?_
              | with_reducible refine awp_label ?_
              | with_reducible refine then_exit ?_
              | with_reducible refine then_ret ?_
              | with_reducible refine blk_n ?_
              | with_reducible refine blk_ret ?_
              | with_reducible refine blk_exit ?_
              | refine r_nil ?_
              | refine r_nild (by kernel_rfl) ?_
              | refine awp_true rfl ?_
              | refine awp_false rfl ?_
              | with_reducible refine blk_other rfl ?_
              | exact end_ret rfl rfl (by repeat' first | exact trivial | constructor) rfl
              | refine r_val rfl rfl rfl (law_move rfl) (hT rfl Abs.h0) ?_
              | refine r_val rfl rfl rfl (law_assign rfl) (hT rfl Abs.h0) ?_
              | refine r_val rfl rfl rfl (law_extract rfl rfl) (hT rfl Abs.h0) ?_
              | refine r_val rfl rfl rfl (law_not rfl) (hT rfl Abs.h0) ?_
              | refine r_val rfl rfl rfl (law_nilCheck rfl rfl) (hT rfl Abs.h0) ?_
              | refine r_val rfl rfl rfl (law_pick_true rfl) (hT rfl (hT rfl Abs.h0)) ?_
              | refine r_val rfl rfl rfl (law_pick_false rfl) (hT rfl (hT rfl Abs.h0)) ?_
              | refine r_val rfl rfl rfl (law_load tb_ok rfl rfl rfl rfl) (hT rfl (hN rfl Abs.h0)) ?_
              | refine r_val rfl rfl rfl (law_load_fp tb_ok rfl rfl rfl) (hT rfl Abs.h0) ?_
              | refine r_val rfl rfl rfl (law_field tb_ok rfl rfl rfl rfl rfl) (hT rfl Abs.h0) ?_
              | refine r_val rfl rfl rfl (law_fieldAddr tb_ok rfl rfl rfl rfl rfl) (hT rfl Abs.h0) ?_
              | refine r_val rfl rfl rfl (law_fieldAddr_fp tb_ok rfl rfl rfl rfl rfl) (hT rfl Abs.h0) ?_
              | refine r_val rfl rfl rfl (law_len_str rfl rfl) (hT rfl Abs.h0) ?_
              | refine r_val rfl rfl rfl (law_len_fro tb_ok rfl rfl rfl) (hT rfl Abs.h0) ?_
              | refine r_val rfl rfl rfl (law_len_own tb_ok rfl rfl rfl) (hT rfl Abs.h0) ?_
              | refine r_val rfl rfl rfl (law_len_nils tb_ok rfl rfl rfl) (hT rfl Abs.h0) ?_
              | refine r_val rfl rfl rfl (law_add' rfl (wrap64 (by omega) (by omega))) (hT rfl (hT rfl Abs.h0)) ?_
              | refine r_val rfl rfl rfl (law_sub' rfl (wrap64 (by omega) (by omega))) (hT rfl (hT rfl Abs.h0)) ?_
              | refine r_val rfl rfl rfl (law_mul' rfl (wrap64 (by omega) (by omega))) (hT rfl (hT rfl Abs.h0)) ?_
              | refine r_val rfl rfl rfl (law_lss rfl (decide_eq_true (by omega))) (hT rfl (hT rfl Abs.h0)) ?_
              | refine r_val rfl rfl rfl (law_lss rfl (decide_eq_false (by omega))) (hT rfl (hT rfl Abs.h0)) ?_
              | refine r_val rfl rfl rfl (law_leq rfl (decide_eq_true (by omega))) (hT rfl (hT rfl Abs.h0)) ?_
              | refine r_val rfl rfl rfl (law_leq rfl (decide_eq_false (by omega))) (hT rfl (hT rfl Abs.h0)) ?_
              | refine r_val rfl rfl rfl (law_gtr rfl (decide_eq_true (by omega))) (hT rfl (hT rfl Abs.h0)) ?_
              | refine r_val rfl rfl rfl (law_gtr rfl (decide_eq_false (by omega))) (hT rfl (hT rfl Abs.h0)) ?_
              | refine r_val rfl rfl rfl (law_geq rfl (decide_eq_true (by omega))) (hT rfl (hT rfl Abs.h0)) ?_
              | refine r_val rfl rfl rfl (law_geq rfl (decide_eq_false (by omega))) (hT rfl (hT rfl Abs.h0)) ?_
              | refine r_val rfl rfl rfl (law_eql rfl (decide_eq_true (by omega))) (hT rfl (hT rfl Abs.h0)) ?_
              | refine r_val rfl rfl rfl (law_eql rfl (decide_eq_false (by omega))) (hT rfl (hT rfl Abs.h0)) ?_
              | refine r_val rfl rfl rfl (law_neq rfl (decide_eq_true (by omega))) (hT rfl (hT rfl Abs.h0)) ?_
              | refine r_val rfl rfl rfl (law_neq rfl (decide_eq_false (by omega))) (hT rfl (hT rfl Abs.h0)) ?_
              | refine r_val rfl rfl rfl (law_eql_bool rfl rfl (beq_self_eq_true _)) (hT rfl (hT rfl Abs.h0)) ?_
              | refine r_val rfl rfl rfl (law_neq_bool rfl rfl (bne_self_eq_false _)) (hT rfl (hT rfl Abs.h0)) ?_
              | refine r_val rfl rfl rfl (law_eql_bool rfl rfl rfl) (hT rfl (hT rfl Abs.h0)) ?_
              | refine r_val rfl rfl rfl (law_neq_bool rfl rfl rfl) (hT rfl (hT rfl Abs.h0)) ?_
              | refine r_val rfl rfl rfl (law_eql_str rfl (decide_eq_true (by assumption))) (hT rfl (hT rfl Abs.h0)) ?_
              | refine r_val rfl rfl rfl (law_eql_str rfl (decide_eq_false (by assumption))) (hT rfl (hT rfl Abs.h0)) ?_
              | refine r_val rfl rfl rfl (law_neq_str rfl (decide_eq_true (by assumption))) (hT rfl (hT rfl Abs.h0)) ?_
              | refine r_val rfl rfl rfl (law_neq_str rfl (decide_eq_false (by simpa using (by assumption)))) (hT rfl (hT rfl Abs.h0)) ?_
              | refine r_val rfl rfl rfl (law_box_fz rfl (by rfl) (by rfl)) (hT rfl Abs.h0) ?_
              | refine r_new rfl rfl rfl rfl (law_alloc tb_ok rfl rfl rfl) Abs.h0 ?_
              | refine r_set rfl rfl (law_store tb_ok rfl rfl rfl rfl rfl rfl rfl rfl) (hT rfl (hT rfl (hN rfl Abs.h0))) ?_
              | refine r_off rfl rfl rfl ?_
              | refine r_off0 rfl rfl ?_
              | refine r_val rfl rfl rfl (law_call rfl (enters (by kernel_rfl)) (by rfl) (c5) (by rfl)) (hT rfl (hT rfl Abs.h0)) ?_
              | refine r_val rfl rfl rfl (law_call rfl (enters (by kernel_rfl)) (by rfl) (c6) (by rfl)) (hT rfl (hT rfl Abs.h0)) ?_
              | refine r_val rfl rfl rfl (law_call rfl (enters (by kernel_rfl)) (by rfl) (c7) (by rfl)) (hT rfl Abs.h0) ?_)
        · skip
          repeat (first
              | with_reducible refine awp_seq ?_
              | with_reducible refine awp_region ?_
              | with_reducible refine awp_draw mixed ?_
              | with_reducible refine then_n ?_
              | with_reducible refine awp_skip ?_
              | with_reducible refine awp_block ?_
              | with_reducible refine awp_exit ?_
              | with_reducible refine awp_ret ?_
              | with_reducible refine awp_label ?_
              | with_reducible refine then_exit ?_
              | with_reducible refine then_ret ?_
              | with_reducible refine blk_n ?_
              | with_reducible refine blk_ret ?_
              | with_reducible refine blk_exit ?_
              | refine r_nil ?_
              | refine r_nild (by kernel_rfl) ?_
              | refine awp_true rfl ?_
              | refine awp_false rfl ?_
              | with_reducible refine blk_other rfl ?_
              | exact end_ret rfl rfl (by repeat' first | exact trivial | constructor) rfl
              | refine r_val rfl rfl rfl (law_move rfl) (hT rfl Abs.h0) ?_
              | refine r_val rfl rfl rfl (law_assign rfl) (hT rfl Abs.h0) ?_
              | refine r_val rfl rfl rfl (law_extract rfl rfl) (hT rfl Abs.h0) ?_
              | refine r_val rfl rfl rfl (law_not rfl) (hT rfl Abs.h0) ?_
              | refine r_val rfl rfl rfl (law_nilCheck rfl rfl) (hT rfl Abs.h0) ?_
              | refine r_val rfl rfl rfl (law_pick_true rfl) (hT rfl (hT rfl Abs.h0)) ?_
              | refine r_val rfl rfl rfl (law_pick_false rfl) (hT rfl (hT rfl Abs.h0)) ?_
              | refine r_val rfl rfl rfl (law_load tb_ok rfl rfl rfl rfl) (hT rfl (hN rfl Abs.h0)) ?_
              | refine r_val rfl rfl rfl (law_load_fp tb_ok rfl rfl rfl) (hT rfl Abs.h0) ?_
              | refine r_val rfl rfl rfl (law_field tb_ok rfl rfl rfl rfl rfl) (hT rfl Abs.h0) ?_
              | refine r_val rfl rfl rfl (law_fieldAddr tb_ok rfl rfl rfl rfl rfl) (hT rfl Abs.h0) ?_
              | refine r_val rfl rfl rfl (law_fieldAddr_fp tb_ok rfl rfl rfl rfl rfl) (hT rfl Abs.h0) ?_
              | refine r_val rfl rfl rfl (law_len_str rfl rfl) (hT rfl Abs.h0) ?_
              | refine r_val rfl rfl rfl (law_len_fro tb_ok rfl rfl rfl) (hT rfl Abs.h0) ?_
              | refine r_val rfl rfl rfl (law_len_own tb_ok rfl rfl rfl) (hT rfl Abs.h0) ?_
              | refine r_val rfl rfl rfl (law_len_nils tb_ok rfl rfl rfl) (hT rfl Abs.h0) ?_
              | refine r_val rfl rfl rfl (law_add' rfl (wrap64 (by omega) (by omega))) (hT rfl (hT rfl Abs.h0)) ?_
              | refine r_val rfl rfl rfl (law_sub' rfl (wrap64 (by omega) (by omega))) (hT rfl (hT rfl Abs.h0)) ?_
              | refine r_val rfl rfl rfl (law_mul' rfl (wrap64 (by omega) (by omega))) (hT rfl (hT rfl Abs.h0)) ?_
              | refine r_val rfl rfl rfl (law_lss rfl (decide_eq_true (by omega))) (hT rfl (hT rfl Abs.h0)) ?_
              | refine r_val rfl rfl rfl (law_lss rfl (decide_eq_false (by omega))) (hT rfl (hT rfl Abs.h0)) ?_
              | refine r_val rfl rfl rfl (law_leq rfl (decide_eq_true (by omega))) (hT rfl (hT rfl Abs.h0)) ?_
              | refine r_val rfl rfl rfl (law_leq rfl (decide_eq_false (by omega))) (hT rfl (hT rfl Abs.h0)) ?_
              | refine r_val rfl rfl rfl (law_gtr rfl (decide_eq_true (by omega))) (hT rfl (hT rfl Abs.h0)) ?_
              | refine r_val rfl rfl rfl (law_gtr rfl (decide_eq_false (by omega))) (hT rfl (hT rfl Abs.h0)) ?_
              | refine r_val rfl rfl rfl (law_geq rfl (decide_eq_true (by omega))) (hT rfl (hT rfl Abs.h0)) ?_
              | refine r_val rfl rfl rfl (law_geq rfl (decide_eq_false (by omega))) (hT rfl (hT rfl Abs.h0)) ?_
              | refine r_val rfl rfl rfl (law_eql rfl (decide_eq_true (by omega))) (hT rfl (hT rfl Abs.h0)) ?_
              | refine r_val rfl rfl rfl (law_eql rfl (decide_eq_false (by omega))) (hT rfl (hT rfl Abs.h0)) ?_
              | refine r_val rfl rfl rfl (law_neq rfl (decide_eq_true (by omega))) (hT rfl (hT rfl Abs.h0)) ?_
              | refine r_val rfl rfl rfl (law_neq rfl (decide_eq_false (by omega))) (hT rfl (hT rfl Abs.h0)) ?_
              | refine r_val rfl rfl rfl (law_eql_bool rfl rfl (beq_self_eq_true _)) (hT rfl (hT rfl Abs.h0)) ?_
              | refine r_val rfl rfl rfl (law_neq_bool rfl rfl (bne_self_eq_false _)) (hT rfl (hT rfl Abs.h0)) ?_
              | refine r_val rfl rfl rfl (law_eql_bool rfl rfl rfl) (hT rfl (hT rfl Abs.h0)) ?_
              | refine r_val rfl rfl rfl (law_neq_bool rfl rfl rfl) (hT rfl (hT rfl Abs.h0)) ?_
              | refine r_val rfl rfl rfl (law_eql_str rfl (decide_eq_true (by assumption))) (hT rfl (hT rfl Abs.h0)) ?_
              | refine r_val rfl rfl rfl (law_eql_str rfl (decide_eq_false (by assumption))) (hT rfl (hT rfl Abs.h0)) ?_
              | refine r_val rfl rfl rfl (law_neq_str rfl (decide_eq_true (by assumption))) (hT rfl (hT rfl Abs.h0)) ?_
              | refine r_val rfl rfl rfl (law_neq_str rfl (decide_eq_false (by simpa using (by assumption)))) (hT rfl (hT rfl Abs.h0)) ?_
              | refine r_val rfl rfl rfl (law_box_fz rfl (by rfl) (by rfl)) (hT rfl Abs.h0) ?_
              | refine r_new rfl rfl rfl rfl (law_alloc tb_ok rfl rfl rfl) Abs.h0 ?_
              | refine r_set rfl rfl (law_store tb_ok rfl rfl rfl rfl rfl rfl rfl rfl) (hT rfl (hT rfl (hN rfl Abs.h0))) ?_
              | refine r_off rfl rfl rfl ?_
              | refine r_off0 rfl rfl ?_
              | refine r_val rfl rfl rfl (law_call rfl (enters (by kernel_rfl)) (by rfl) (c5) (by rfl)) (hT rfl (hT rfl Abs.h0)) ?_
              | refine r_val rfl rfl rfl (law_call rfl (enters (by kernel_rfl)) (by rfl) (c6) (by rfl)) (hT rfl (hT rfl Abs.h0)) ?_
              | refine r_val rfl rfl rfl (law_call rfl (enters (by kernel_rfl)) (by rfl) (c7) (by rfl)) (hT rfl Abs.h0) ?_)
      · skip
        repeat (first
            | with_reducible refine awp_seq ?_
            | with_reducible refine awp_region ?_
            | with_reducible refine awp_draw mixed ?_
            | with_reducible refine then_n ?_
            | with_reducible refine awp_skip ?_
            | with_reducible refine awp_block ?_
            | with_reducible refine awp_exit ?_
            | with_reducible refine awp_ret ?_
            | with_reducible refine awp_label ?_
            | with_reducible refine then_exit ?_
            | with_reducible refine then_ret ?_
            | with_reducible refine blk_n ?_
            | with_reducible refine blk_ret ?_
            | with_reducible refine blk_exit ?_
            | refine r_nil ?_
            | refine r_nild (by kernel_rfl) ?_
            | refine awp_true rfl ?_
            | refine awp_false rfl ?_
            | with_reducible refine blk_other rfl ?_
            | exact end_ret rfl rfl (by repeat' first | exact trivial | constructor) rfl
            | refine r_val rfl rfl rfl (law_move rfl) (hT rfl Abs.h0) ?_
            | refine r_val rfl rfl rfl (law_assign rfl) (hT rfl Abs.h0) ?_
            | refine r_val rfl rfl rfl (law_extract rfl rfl) (hT rfl Abs.h0) ?_
            | refine r_val rfl rfl rfl (law_not rfl) (hT rfl Abs.h0) ?_
            | refine r_val rfl rfl rfl (law_nilCheck rfl rfl) (hT rfl Abs.h0) ?_
            | refine r_val rfl rfl rfl (law_pick_true rfl) (hT rfl (hT rfl Abs.h0)) ?_
            | refine r_val rfl rfl rfl (law_pick_false rfl) (hT rfl (hT rfl Abs.h0)) ?_
            | refine r_val rfl rfl rfl (law_load tb_ok rfl rfl rfl rfl) (hT rfl (hN rfl Abs.h0)) ?_
            | refine r_val rfl rfl rfl (law_load_fp tb_ok rfl rfl rfl) (hT rfl Abs.h0) ?_
            | refine r_val rfl rfl rfl (law_field tb_ok rfl rfl rfl rfl rfl) (hT rfl Abs.h0) ?_
            | refine r_val rfl rfl rfl (law_fieldAddr tb_ok rfl rfl rfl rfl rfl) (hT rfl Abs.h0) ?_
            | refine r_val rfl rfl rfl (law_fieldAddr_fp tb_ok rfl rfl rfl rfl rfl) (hT rfl Abs.h0) ?_
            | refine r_val rfl rfl rfl (law_len_str rfl rfl) (hT rfl Abs.h0) ?_
            | refine r_val rfl rfl rfl (law_len_fro tb_ok rfl rfl rfl) (hT rfl Abs.h0) ?_
            | refine r_val rfl rfl rfl (law_len_own tb_ok rfl rfl rfl) (hT rfl Abs.h0) ?_
            | refine r_val rfl rfl rfl (law_len_nils tb_ok rfl rfl rfl) (hT rfl Abs.h0) ?_
            | refine r_val rfl rfl rfl (law_add' rfl (wrap64 (by omega) (by omega))) (hT rfl (hT rfl Abs.h0)) ?_
            | refine r_val rfl rfl rfl (law_sub' rfl (wrap64 (by omega) (by omega))) (hT rfl (hT rfl Abs.h0)) ?_
            | refine r_val rfl rfl rfl (law_mul' rfl (wrap64 (by omega) (by omega))) (hT rfl (hT rfl Abs.h0)) ?_
            | refine r_val rfl rfl rfl (law_lss rfl (decide_eq_true (by omega))) (hT rfl (hT rfl Abs.h0)) ?_
            | refine r_val rfl rfl rfl (law_lss rfl (decide_eq_false (by omega))) (hT rfl (hT rfl Abs.h0)) ?_
            | refine r_val rfl rfl rfl (law_leq rfl (decide_eq_true (by omega))) (hT rfl (hT rfl Abs.h0)) ?_
            | refine r_val rfl rfl rfl (law_leq rfl (decide_eq_false (by omega))) (hT rfl (hT rfl Abs.h0)) ?_
            | refine r_val rfl rfl rfl (law_gtr rfl (decide_eq_true (by omega))) (hT rfl (hT rfl Abs.h0)) ?_
            | refine r_val rfl rfl rfl (law_gtr rfl (decide_eq_false (by omega))) (hT rfl (hT rfl Abs.h0)) ?_
            | refine r_val rfl rfl rfl (law_geq rfl (decide_eq_true (by omega))) (hT rfl (hT rfl Abs.h0)) ?_
            | refine r_val rfl rfl rfl (law_geq rfl (decide_eq_false (by omega))) (hT rfl (hT rfl Abs.h0)) ?_
            | refine r_val rfl rfl rfl (law_eql rfl (decide_eq_true (by omega))) (hT rfl (hT rfl Abs.h0)) ?_
            | refine r_val rfl rfl rfl (law_eql rfl (decide_eq_false (by omega))) (hT rfl (hT rfl Abs.h0)) ?_
            | refine r_val rfl rfl rfl (law_neq rfl (decide_eq_true (by omega))) (hT rfl (hT rfl Abs.h0)) ?_
            | refine r_val rfl rfl rfl (law_neq rfl (decide_eq_false (by omega))) (hT rfl (hT rfl Abs.h0)) ?_
            | refine r_val rfl rfl rfl (law_eql_bool rfl rfl (beq_self_eq_true _)) (hT rfl (hT rfl Abs.h0)) ?_
            | refine r_val rfl rfl rfl (law_neq_bool rfl rfl (bne_self_eq_false _)) (hT rfl (hT rfl Abs.h0)) ?_
            | refine r_val rfl rfl rfl (law_eql_bool rfl rfl rfl) (hT rfl (hT rfl Abs.h0)) ?_
            | refine r_val rfl rfl rfl (law_neq_bool rfl rfl rfl) (hT rfl (hT rfl Abs.h0)) ?_
            | refine r_val rfl rfl rfl (law_eql_str rfl (decide_eq_true (by assumption))) (hT rfl (hT rfl Abs.h0)) ?_
            | refine r_val rfl rfl rfl (law_eql_str rfl (decide_eq_false (by assumption))) (hT rfl (hT rfl Abs.h0)) ?_
            | refine r_val rfl rfl rfl (law_neq_str rfl (decide_eq_true (by assumption))) (hT rfl (hT rfl Abs.h0)) ?_
            | refine r_val rfl rfl rfl (law_neq_str rfl (decide_eq_false (by simpa using (by assumption)))) (hT rfl (hT rfl Abs.h0)) ?_
            | refine r_val rfl rfl rfl (law_box_fz rfl (by rfl) (by rfl)) (hT rfl Abs.h0) ?_
            | refine r_new rfl rfl rfl rfl (law_alloc tb_ok rfl rfl rfl) Abs.h0 ?_
            | refine r_set rfl rfl (law_store tb_ok rfl rfl rfl rfl rfl rfl rfl rfl) (hT rfl (hT rfl (hN rfl Abs.h0))) ?_
            | refine r_off rfl rfl rfl ?_
            | refine r_off0 rfl rfl ?_
            | refine r_val rfl rfl rfl (law_call rfl (enters (by kernel_rfl)) (by rfl) (c5) (by rfl)) (hT rfl (hT rfl Abs.h0)) ?_
            | refine r_val rfl rfl rfl (law_call rfl (enters (by kernel_rfl)) (by rfl) (c6) (by rfl)) (hT rfl (hT rfl Abs.h0)) ?_
            | refine r_val rfl rfl rfl (law_call rfl (enters (by kernel_rfl)) (by rfl) (c7) (by rfl)) (hT rfl Abs.h0) ?_)
        by_cases b0 : b = 0
        · subst b0
          obtain rfl : x = y := by simpa [a0, a1] using hy
          repeat (first
              | with_reducible refine awp_seq ?_
              | with_reducible refine awp_region ?_
              | with_reducible refine awp_draw mixed ?_
              | with_reducible refine then_n ?_
              | with_reducible refine awp_skip ?_
              | with_reducible refine awp_block ?_
              | with_reducible refine awp_exit ?_
              | with_reducible refine awp_ret ?_
              | with_reducible refine awp_label ?_
              | with_reducible refine then_exit ?_
              | with_reducible refine then_ret ?_
              | with_reducible refine blk_n ?_
              | with_reducible refine blk_ret ?_
              | with_reducible refine blk_exit ?_
              | refine r_nil ?_
              | refine r_nild (by kernel_rfl) ?_
              | refine awp_true rfl ?_
              | refine awp_false rfl ?_
              | with_reducible refine blk_other rfl ?_
              | exact end_ret rfl rfl (by repeat' first | exact trivial | constructor) rfl
              | refine r_val rfl rfl rfl (law_move rfl) (hT rfl Abs.h0) ?_
              | refine r_val rfl rfl rfl (law_assign rfl) (hT rfl Abs.h0) ?_
              | refine r_val rfl rfl rfl (law_extract rfl rfl) (hT rfl Abs.h0) ?_
              | refine r_val rfl rfl rfl (law_not rfl) (hT rfl Abs.h0) ?_
              | refine r_val rfl rfl rfl (law_nilCheck rfl rfl) (hT rfl Abs.h0) ?_
              | refine r_val rfl rfl rfl (law_pick_true rfl) (hT rfl (hT rfl Abs.h0)) ?_
              | refine r_val rfl rfl rfl (law_pick_false rfl) (hT rfl (hT rfl Abs.h0)) ?_
              | refine r_val rfl rfl rfl (law_load tb_ok rfl rfl rfl rfl) (hT rfl (hN rfl Abs.h0)) ?_
              | refine r_val rfl rfl rfl (law_load_fp tb_ok rfl rfl rfl) (hT rfl Abs.h0) ?_
              | refine r_val rfl rfl rfl (law_field tb_ok rfl rfl rfl rfl rfl) (hT rfl Abs.h0) ?_
              | refine r_val rfl rfl rfl (law_fieldAddr tb_ok rfl rfl rfl rfl rfl) (hT rfl Abs.h0) ?_
              | refine r_val rfl rfl rfl (law_fieldAddr_fp tb_ok rfl rfl rfl rfl rfl) (hT rfl Abs.h0) ?_
              | refine r_val rfl rfl rfl (law_len_str rfl rfl) (hT rfl Abs.h0) ?_
              | refine r_val rfl rfl rfl (law_len_fro tb_ok rfl rfl rfl) (hT rfl Abs.h0) ?_
              | refine r_val rfl rfl rfl (law_len_own tb_ok rfl rfl rfl) (hT rfl Abs.h0) ?_
              | refine r_val rfl rfl rfl (law_len_nils tb_ok rfl rfl rfl) (hT rfl Abs.h0) ?_
              | refine r_val rfl rfl rfl (law_add' rfl (wrap64 (by omega) (by omega))) (hT rfl (hT rfl Abs.h0)) ?_
              | refine r_val rfl rfl rfl (law_sub' rfl (wrap64 (by omega) (by omega))) (hT rfl (hT rfl Abs.h0)) ?_
              | refine r_val rfl rfl rfl (law_mul' rfl (wrap64 (by omega) (by omega))) (hT rfl (hT rfl Abs.h0)) ?_
              | refine r_val rfl rfl rfl (law_lss rfl (decide_eq_true (by omega))) (hT rfl (hT rfl Abs.h0)) ?_
              | refine r_val rfl rfl rfl (law_lss rfl (decide_eq_false (by omega))) (hT rfl (hT rfl Abs.h0)) ?_
              | refine r_val rfl rfl rfl (law_leq rfl (decide_eq_true (by omega))) (hT rfl (hT rfl Abs.h0)) ?_
              | refine r_val rfl rfl rfl (law_leq rfl (decide_eq_false (by omega))) (hT rfl (hT rfl Abs.h0)) ?_
              | refine r_val rfl rfl rfl (law_gtr rfl (decide_eq_true (by omega))) (hT rfl (hT rfl Abs.h0)) ?_
              | refine r_val rfl rfl rfl (law_gtr rfl (decide_eq_false (by omega))) (hT rfl (hT rfl Abs.h0)) ?_
              | refine r_val rfl rfl rfl (law_geq rfl (decide_eq_true (by omega))) (hT rfl (hT rfl Abs.h0)) ?_
              | refine r_val rfl rfl rfl (law_geq rfl (decide_eq_false (by omega))) (hT rfl (hT rfl Abs.h0)) ?_
              | refine r_val rfl rfl rfl (law_eql rfl (decide_eq_true (by omega))) (hT rfl (hT rfl Abs.h0)) ?_
              | refine r_val rfl rfl rfl (law_eql rfl (decide_eq_false (by omega))) (hT rfl (hT rfl Abs.h0)) ?_
              | refine r_val rfl rfl rfl (law_neq rfl (decide_eq_true (by omega))) (hT rfl (hT rfl Abs.h0)) ?_
              | refine r_val rfl rfl rfl (law_neq rfl (decide_eq_false (by omega))) (hT rfl (hT rfl Abs.h0)) ?_
              | refine r_val rfl rfl rfl (law_eql_bool rfl rfl (beq_self_eq_true _)) (hT rfl (hT rfl Abs.h0)) ?_
              | refine r_val rfl rfl rfl (law_neq_bool rfl rfl (bne_self_eq_false _)) (hT rfl (hT rfl Abs.h0)) ?_
              | refine r_val rfl rfl rfl (law_eql_bool rfl rfl rfl) (hT rfl (hT rfl Abs.h0)) ?_
              | refine r_val rfl rfl rfl (law_neq_bool rfl rfl rfl) (hT rfl (hT rfl Abs.h0)) ?_
              | refine r_val rfl rfl rfl (law_eql_str rfl (decide_eq_true (by assumption))) (hT rfl (hT rfl Abs.h0)) ?_
              | refine r_val rfl rfl rfl (law_eql_str rfl (decide_eq_false (by assumption))) (hT rfl (hT rfl Abs.h0)) ?_
              | refine r_val rfl rfl rfl (law_neq_str rfl (decide_eq_true (by assumption))) (hT rfl (hT rfl Abs.h0)) ?_
              | refine r_val rfl rfl rfl (law_neq_str rfl (decide_eq_false (by simpa using (by assumption)))) (hT rfl (hT rfl Abs.h0)) ?_
              | refine r_val rfl rfl rfl (law_box_fz rfl (by rfl) (by rfl)) (hT rfl Abs.h0) ?_
              | refine r_new rfl rfl rfl rfl (law_alloc tb_ok rfl rfl rfl) Abs.h0 ?_
              | refine r_set rfl rfl (law_store tb_ok rfl rfl rfl rfl rfl rfl rfl rfl) (hT rfl (hT rfl (hN rfl Abs.h0))) ?_
              | refine r_off rfl rfl rfl ?_
              | refine r_off0 rfl rfl ?_
              | refine r_val rfl rfl rfl (law_call rfl (enters (by kernel_rfl)) (by rfl) (c5) (by rfl)) (hT rfl (hT rfl Abs.h0)) ?_
              | refine r_val rfl rfl rfl (law_call rfl (enters (by kernel_rfl)) (by rfl) (c6) (by rfl)) (hT rfl (hT rfl Abs.h0)) ?_
              | refine r_val rfl rfl rfl (law_call rfl (enters (by kernel_rfl)) (by rfl) (c7) (by rfl)) (hT rfl Abs.h0) ?_)
          cases x
          · skip
            repeat (first
                | with_reducible refine awp_seq ?_
                | with_reducible refine awp_region ?_
                | with_reducible refine awp_draw mixed ?_
                | with_reducible refine then_n ?_
                | with_reducible refine awp_skip ?_
                | with_reducible refine awp_block ?_
                | with_reducible refine awp_exit ?_
                | with_reducible refine awp_ret ?_
                | with_reducible refine awp_label ?_
                | with_reducible refine then_exit ?_
                | with_reducible refine then_ret ?_
                | with_reducible refine blk_n ?_
                | with_reducible refine blk_ret ?_
                | with_reducible refine blk_exit ?_
                | refine r_nil ?_
                | refine r_nild (by kernel_rfl) ?_
                | refine awp_true rfl ?_
                | refine awp_false rfl ?_
                | with_reducible refine blk_other rfl ?_
                | exact end_ret rfl rfl (by repeat' first | exact trivial | constructor) rfl
                | refine r_val rfl rfl rfl (law_move rfl) (hT rfl Abs.h0) ?_
                | refine r_val rfl rfl rfl (law_assign rfl) (hT rfl Abs.h0) ?_
                | refine r_val rfl rfl rfl (law_extract rfl rfl) (hT rfl Abs.h0) ?_
                | refine r_val rfl rfl rfl (law_not rfl) (hT rfl Abs.h0) ?_
                | refine r_val rfl rfl rfl (law_nilCheck rfl rfl) (hT rfl Abs.h0) ?_
                | refine r_val rfl rfl rfl (law_pick_true rfl) (hT rfl (hT rfl Abs.h0)) ?_
                | refine r_val rfl rfl rfl (law_pick_false rfl) (hT rfl (hT rfl Abs.h0)) ?_
                | refine r_val rfl rfl rfl (law_load tb_ok rfl rfl rfl rfl) (hT rfl (hN rfl Abs.h0)) ?_
                | refine r_val rfl rfl rfl (law_load_fp tb_ok rfl rfl rfl) (hT rfl Abs.h0) ?_
                | refine r_val rfl rfl rfl (law_field tb_ok rfl rfl rfl rfl rfl) (hT rfl Abs.h0) ?_
                | refine r_val rfl rfl rfl (law_fieldAddr tb_ok rfl rfl rfl rfl rfl) (hT rfl Abs.h0) ?_
                | refine r_val rfl rfl rfl (law_fieldAddr_fp tb_ok rfl rfl rfl rfl rfl) (hT rfl Abs.h0) ?_
                | refine r_val rfl rfl rfl (law_len_str rfl rfl) (hT rfl Abs.h0) ?_
                | refine r_val rfl rfl rfl (law_len_fro tb_ok rfl rfl rfl) (hT rfl Abs.h0) ?_
                | refine r_val rfl rfl rfl (law_len_own tb_ok rfl rfl rfl) (hT rfl Abs.h0) ?_
                | refine r_val rfl rfl rfl (law_len_nils tb_ok rfl rfl rfl) (hT rfl Abs.h0) ?_
                | refine r_val rfl rfl rfl (law_add' rfl (wrap64 (by omega) (by omega))) (hT rfl (hT rfl Abs.h0)) ?_
                | refine r_val rfl rfl rfl (law_sub' rfl (wrap64 (by omega) (by omega))) (hT rfl (hT rfl Abs.h0)) ?_
                | refine r_val rfl rfl rfl (law_mul' rfl (wrap64 (by omega) (by omega))) (hT rfl (hT rfl Abs.h0)) ?_
                | refine r_val rfl rfl rfl (law_lss rfl (decide_eq_true (by omega))) (hT rfl (hT rfl Abs.h0)) ?_
                | refine r_val rfl rfl rfl (law_lss rfl (decide_eq_false (by omega))) (hT rfl (hT rfl Abs.h0)) ?_
                | refine r_val rfl rfl rfl (law_leq rfl (decide_eq_true (by omega))) (hT rfl (hT rfl Abs.h0)) ?_
                | refine r_val rfl rfl rfl (law_leq rfl (decide_eq_false (by omega))) (hT rfl (hT rfl Abs.h0)) ?_
                | refine r_val rfl rfl rfl (law_gtr rfl (decide_eq_true (by omega))) (hT rfl (hT rfl Abs.h0)) ?_
                | refine r_val rfl rfl rfl (law_gtr rfl (decide_eq_false (by omega))) (hT rfl (hT rfl Abs.h0)) ?_
                | refine r_val rfl rfl rfl (law_geq rfl (decide_eq_true (by omega))) (hT rfl (hT rfl Abs.h0)) ?_
                | refine r_val rfl rfl rfl (law_geq rfl (decide_eq_false (by omega))) (hT rfl (hT rfl Abs.h0)) ?_
                | refine r_val rfl rfl rfl (law_eql rfl (decide_eq_true (by omega))) (hT rfl (hT rfl Abs.h0)) ?_
                | refine r_val rfl rfl rfl (law_eql rfl (decide_eq_false (by omega))) (hT rfl (hT rfl Abs.h0)) ?_
                | refine r_val rfl rfl rfl (law_neq rfl (decide_eq_true (by omega))) (hT rfl (hT rfl Abs.h0)) ?_
                | refine r_val rfl rfl rfl (law_neq rfl (decide_eq_false (by omega))) (hT rfl (hT rfl Abs.h0)) ?_
                | refine r_val rfl rfl rfl (law_eql_bool rfl rfl (beq_self_eq_true _)) (hT rfl (hT rfl Abs.h0)) ?_
                | refine r_val rfl rfl rfl (law_neq_bool rfl rfl (bne_self_eq_false _)) (hT rfl (hT rfl Abs.h0)) ?_
                | refine r_val rfl rfl rfl (law_eql_bool rfl rfl rfl) (hT rfl (hT rfl Abs.h0)) ?_
                | refine r_val rfl rfl rfl (law_neq_bool rfl rfl rfl) (hT rfl (hT rfl Abs.h0)) ?_
                | refine r_val rfl rfl rfl (law_eql_str rfl (decide_eq_true (by assumption))) (hT rfl (hT rfl Abs.h0)) ?_
                | refine r_val rfl rfl rfl (law_eql_str rfl (decide_eq_false (by assumption))) (hT rfl (hT rfl Abs.h0)) ?_
                | refine r_val rfl rfl rfl (law_neq_str rfl (decide_eq_true (by assumption))) (hT rfl (hT rfl Abs.h0)) ?_
                | refine r_val rfl rfl rfl (law_neq_str rfl (decide_eq_false (by simpa using (by assumption)))) (hT rfl (hT rfl Abs.h0)) ?_
                | refine r_val rfl rfl rfl (law_box_fz rfl (by rfl) (by rfl)) (hT rfl Abs.h0) ?_
                | refine r_new rfl rfl rfl rfl (law_alloc tb_ok rfl rfl rfl) Abs.h0 ?_
                | refine r_set rfl rfl (law_store tb_ok rfl rfl rfl rfl rfl rfl rfl rfl) (hT rfl (hT rfl (hN rfl Abs.h0))) ?_
                | refine r_off rfl rfl rfl ?_
                | refine r_off0 rfl rfl ?_
                | refine r_val rfl rfl rfl (law_call rfl (enters (by kernel_rfl)) (by rfl) (c5) (by rfl)) (hT rfl (hT rfl Abs.h0)) ?_
                | refine r_val rfl rfl rfl (law_call rfl (enters (by kernel_rfl)) (by rfl) (c6) (by rfl)) (hT rfl (hT rfl Abs.h0)) ?_
                | refine r_val rfl rfl rfl (law_call rfl (enters (by kernel_rfl)) (by rfl) (c7) (by rfl)) (hT rfl Abs.h0) ?_)
          · skip
            repeat (first
                | with_reducible refine awp_seq ?_
                | with_reducible refine awp_region ?_
                | with_reducible refine awp_draw mixed ?_
                | with_reducible refine then_n ?_
                | with_reducible refine awp_skip ?_
                | with_reducible refine awp_block ?_
                | with_reducible refine awp_exit ?_
                | with_reducible refine awp_ret ?_
                | with_reducible refine awp_label ?_
                | with_reducible refine then_exit ?_
                | with_reducible refine then_ret ?_
                | with_reducible refine blk_n ?_
                | with_reducible refine blk_ret ?_
                | with_reducible refine blk_exit ?_
                | refine r_nil ?_
                | refine r_nild (by kernel_rfl) ?_
                | refine awp_true rfl ?_
                | refine awp_false rfl ?_
                | with_reducible refine blk_other rfl ?_
                | exact end_ret rfl rfl (by repeat' first | exact trivial | constructor) rfl
                | refine r_val rfl rfl rfl (law_move rfl) (hT rfl Abs.h0) ?_
                | refine r_val rfl rfl rfl (law_assign rfl) (hT rfl Abs.h0) ?_
                | refine r_val rfl rfl rfl (law_extract rfl rfl) (hT rfl Abs.h0) ?_
                | refine r_val rfl rfl rfl (law_not rfl) (hT rfl Abs.h0) ?_
                | refine r_val rfl rfl rfl (law_nilCheck rfl rfl) (hT rfl Abs.h0) ?_
                | refine r_val rfl rfl rfl (law_pick_true rfl) (hT rfl (hT rfl Abs.h0)) ?_
                | refine r_val rfl rfl rfl (law_pick_false rfl) (hT rfl (hT rfl Abs.h0)) ?_
                | refine r_val rfl rfl rfl (law_load tb_ok rfl rfl rfl rfl) (hT rfl (hN rfl Abs.h0)) ?_
                | refine r_val rfl rfl rfl (law_load_fp tb_ok rfl rfl rfl) (hT rfl Abs.h0) ?_
                | refine r_val rfl rfl rfl (law_field tb_ok rfl rfl rfl rfl rfl) (hT rfl Abs.h0) ?_
                | refine r_val rfl rfl rfl (law_fieldAddr tb_ok rfl rfl rfl rfl rfl) (hT rfl Abs.h0) ?_
                | refine r_val rfl rfl rfl (law_fieldAddr_fp tb_ok rfl rfl rfl rfl rfl) (hT rfl Abs.h0) ?_
                | refine r_val rfl rfl rfl (law_len_str rfl rfl) (hT rfl Abs.h0) ?_
                | refine r_val rfl rfl rfl (law_len_fro tb_ok rfl rfl rfl) (hT rfl Abs.h0) ?_
                | refine r_val rfl rfl rfl (law_len_own tb_ok rfl rfl rfl) (hT rfl Abs.h0) ?_
                | refine r_val rfl rfl rfl (law_len_nils tb_ok rfl rfl rfl) (hT rfl Abs.h0) ?_
                | refine r_val rfl rfl rfl (law_add' rfl (wrap64 (by omega) (by omega))) (hT rfl (hT rfl Abs.h0)) ?_
                | refine r_val rfl rfl rfl (law_sub' rfl (wrap64 (by omega) (by omega))) (hT rfl (hT rfl Abs.h0)) ?_
                | refine r_val rfl rfl rfl (law_mul' rfl (wrap64 (by omega) (by omega))) (hT rfl (hT rfl Abs.h0)) ?_
                | refine r_val rfl rfl rfl (law_lss rfl (decide_eq_true (by omega))) (hT rfl (hT rfl Abs.h0)) ?_
                | refine r_val rfl rfl rfl (law_lss rfl (decide_eq_false (by omega))) (hT rfl (hT rfl Abs.h0)) ?_
                | refine r_val rfl rfl rfl (law_leq rfl (decide_eq_true (by omega))) (hT rfl (hT rfl Abs.h0)) ?_
                | refine r_val rfl rfl rfl (law_leq rfl (decide_eq_false (by omega))) (hT rfl (hT rfl Abs.h0)) ?_
                | refine r_val rfl rfl rfl (law_gtr rfl (decide_eq_true (by omega))) (hT rfl (hT rfl Abs.h0)) ?_
                | refine r_val rfl rfl rfl (law_gtr rfl (decide_eq_false (by omega))) (hT rfl (hT rfl Abs.h0)) ?_
                | refine r_val rfl rfl rfl (law_geq rfl (decide_eq_true (by omega))) (hT rfl (hT rfl Abs.h0)) ?_
                | refine r_val rfl rfl rfl (law_geq rfl (decide_eq_false (by omega))) (hT rfl (hT rfl Abs.h0)) ?_
                | refine r_val rfl rfl rfl (law_eql rfl (decide_eq_true (by omega))) (hT rfl (hT rfl Abs.h0)) ?_
                | refine r_val rfl rfl rfl (law_eql rfl (decide_eq_false (by omega))) (hT rfl (hT rfl Abs.h0)) ?_
                | refine r_val rfl rfl rfl (law_neq rfl (decide_eq_true (by omega))) (hT rfl (hT rfl Abs.h0)) ?_
                | refine r_val rfl rfl rfl (law_neq rfl (decide_eq_false (by omega))) (hT rfl (hT rfl Abs.h0)) ?_
                | refine r_val rfl rfl rfl (law_eql_bool rfl rfl (beq_self_eq_true _)) (hT rfl (hT rfl Abs.h0)) ?_
                | refine r_val rfl rfl rfl (law_neq_bool rfl rfl (bne_self_eq_false _)) (hT rfl (hT rfl Abs.h0)) ?_
                | refine r_val rfl rfl rfl (law_eql_bool rfl rfl rfl) (hT rfl (hT rfl Abs.h0)) ?_
                | refine r_val rfl rfl rfl (law_neq_bool rfl rfl rfl) (hT rfl (hT rfl Abs.h0)) ?_
                | refine r_val rfl rfl rfl (law_eql_str rfl (decide_eq_true (by assumption))) (hT rfl (hT rfl Abs.h0)) ?_
                | refine r_val rfl rfl rfl (law_eql_str rfl (decide_eq_false (by assumption))) (hT rfl (hT rfl Abs.h0)) ?_
                | refine r_val rfl rfl rfl (law_neq_str rfl (decide_eq_true (by assumption))) (hT rfl (hT rfl Abs.h0)) ?_
                | refine r_val rfl rfl rfl (law_neq_str rfl (decide_eq_false (by simpa using (by assumption)))) (hT rfl (hT rfl Abs.h0)) ?_
                | refine r_val rfl rfl rfl (law_box_fz rfl (by rfl) (by rfl)) (hT rfl Abs.h0) ?_
                | refine r_new rfl rfl rfl rfl (law_alloc tb_ok rfl rfl rfl) Abs.h0 ?_
                | refine r_set rfl rfl (law_store tb_ok rfl rfl rfl rfl rfl rfl rfl rfl) (hT rfl (hT rfl (hN rfl Abs.h0))) ?_
                | refine r_off rfl rfl rfl ?_
                | refine r_off0 rfl rfl ?_
                | refine r_val rfl rfl rfl (law_call rfl (enters (by kernel_rfl)) (by rfl) (c5) (by rfl)) (hT rfl (hT rfl Abs.h0)) ?_
                | refine r_val rfl rfl rfl (law_call rfl (enters (by kernel_rfl)) (by rfl) (c6) (by rfl)) (hT rfl (hT rfl Abs.h0)) ?_
                | refine r_val rfl rfl rfl (law_call rfl (enters (by kernel_rfl)) (by rfl) (c7) (by rfl)) (hT rfl Abs.h0) ?_)
        · skip
          repeat (first
              | with_reducible refine awp_seq ?_
              | with_reducible refine awp_region ?_
              | with_reducible refine awp_draw mixed ?_
              | with_reducible refine then_n ?_
              | with_reducible refine awp_skip ?_
              | with_reducible refine awp_block ?_
              | with_reducible refine awp_exit ?_
              | with_reducible refine awp_ret ?_
              | with_reducible refine awp_label ?_
              | with_reducible refine then_exit ?_
              | with_reducible refine then_ret ?_
              | with_reducible refine blk_n ?_
              | with_reducible refine blk_ret ?_
              | with_reducible refine blk_exit ?_
              | refine r_nil ?_
              | refine r_nild (by kernel_rfl) ?_
              | refine awp_true rfl ?_
              | refine awp_false rfl ?_
              | with_reducible refine blk_other rfl ?_
              | exact end_ret rfl rfl (by repeat' first | exact trivial | constructor) rfl
              | refine r_val rfl rfl rfl (law_move rfl) (hT rfl Abs.h0) ?_
              | refine r_val rfl rfl rfl (law_assign rfl) (hT rfl Abs.h0) ?_
              | refine r_val rfl rfl rfl (law_extract rfl rfl) (hT rfl Abs.h0) ?_
              | refine r_val rfl rfl rfl (law_not rfl) (hT rfl Abs.h0) ?_
              | refine r_val rfl rfl rfl (law_nilCheck rfl rfl) (hT rfl Abs.h0) ?_
              | refine r_val rfl rfl rfl (law_pick_true rfl) (hT rfl (hT rfl Abs.h0)) ?_
              | refine r_val rfl rfl rfl (law_pick_false rfl) (hT rfl (hT rfl Abs.h0)) ?_
              | refine r_val rfl rfl rfl (law_load tb_ok rfl rfl rfl rfl) (hT rfl (hN rfl Abs.h0)) ?_
              | refine r_val rfl rfl rfl (law_load_fp tb_ok rfl rfl rfl) (hT rfl Abs.h0) ?_
              | refine r_val rfl rfl rfl (law_field tb_ok rfl rfl rfl rfl rfl) (hT rfl Abs.h0) ?_
              | refine r_val rfl rfl rfl (law_fieldAddr tb_ok rfl rfl rfl rfl rfl) (hT rfl Abs.h0) ?_
              | refine r_val rfl rfl rfl (law_fieldAddr_fp tb_ok rfl rfl rfl rfl rfl) (hT rfl Abs.h0) ?_
              | refine r_val rfl rfl rfl (law_len_str rfl rfl) (hT rfl Abs.h0) ?_
              | refine r_val rfl rfl rfl (law_len_fro tb_ok rfl rfl rfl) (hT rfl Abs.h0) ?_
              | refine r_val rfl rfl rfl (law_len_own tb_ok rfl rfl rfl) (hT rfl Abs.h0) ?_
              | refine r_val rfl rfl rfl (law_len_nils tb_ok rfl rfl rfl) (hT rfl Abs.h0) ?_
              | refine r_val rfl rfl rfl (law_add' rfl (wrap64 (by omega) (by omega))) (hT rfl (hT rfl Abs.h0)) ?_
              | refine r_val rfl rfl rfl (law_sub' rfl (wrap64 (by omega) (by omega))) (hT rfl (hT rfl Abs.h0)) ?_
              | refine r_val rfl rfl rfl (law_mul' rfl (wrap64 (by omega) (by omega))) (hT rfl (hT rfl Abs.h0)) ?_
              | refine r_val rfl rfl rfl (law_lss rfl (decide_eq_true (by omega))) (hT rfl (hT rfl Abs.h0)) ?_
              | refine r_val rfl rfl rfl (law_lss rfl (decide_eq_false (by omega))) (hT rfl (hT rfl Abs.h0)) ?_
              | refine r_val rfl rfl rfl (law_leq rfl (decide_eq_true (by omega))) (hT rfl (hT rfl Abs.h0)) ?_
              | refine r_val rfl rfl rfl (law_leq rfl (decide_eq_false (by omega))) (hT rfl (hT rfl Abs.h0)) ?_
              | refine r_val rfl rfl rfl (law_gtr rfl (decide_eq_true (by omega))) (hT rfl (hT rfl Abs.h0)) ?_
              | refine r_val rfl rfl rfl (law_gtr rfl (decide_eq_false (by omega))) (hT rfl (hT rfl Abs.h0)) ?_
              | refine r_val rfl rfl rfl (law_geq rfl (decide_eq_true (by omega))) (hT rfl (hT rfl Abs.h0)) ?_
              | refine r_val rfl rfl rfl (law_geq rfl (decide_eq_false (by omega))) (hT rfl (hT rfl Abs.h0)) ?_
              | refine r_val rfl rfl rfl (law_eql rfl (decide_eq_true (by omega))) (hT rfl (hT rfl Abs.h0)) ?_
              | refine r_val rfl rfl rfl (law_eql rfl (decide_eq_false (by omega))) (hT rfl (hT rfl Abs.h0)) ?_
              | refine r_val rfl rfl rfl (law_neq rfl (decide_eq_true (by omega))) (hT rfl (hT rfl Abs.h0)) ?_
              | refine r_val rfl rfl rfl (law_neq rfl (decide_eq_false (by omega))) (hT rfl (hT rfl Abs.h0)) ?_
              | refine r_val rfl rfl rfl (law_eql_bool rfl rfl (beq_self_eq_true _)) (hT rfl (hT rfl Abs.h0)) ?_
              | refine r_val rfl rfl rfl (law_neq_bool rfl rfl (bne_self_eq_false _)) (hT rfl (hT rfl Abs.h0)) ?_
              | refine r_val rfl rfl rfl (law_eql_bool rfl rfl rfl) (hT rfl (hT rfl Abs.h0)) ?_
              | refine r_val rfl rfl rfl (law_neq_bool rfl rfl rfl) (hT rfl (hT rfl Abs.h0)) ?_
              | refine r_val rfl rfl rfl (law_eql_str rfl (decide_eq_true (by assumption))) (hT rfl (hT rfl Abs.h0)) ?_
              | refine r_val rfl rfl rfl (law_eql_str rfl (decide_eq_false (by assumption))) (hT rfl (hT rfl Abs.h0)) ?_
              | refine r_val rfl rfl rfl (law_neq_str rfl (decide_eq_true (by assumption))) (hT rfl (hT rfl Abs.h0)) ?_
              | refine r_val rfl rfl rfl (law_neq_str rfl (decide_eq_false (by simpa using (by assumption)))) (hT rfl (hT rfl Abs.h0)) ?_
              | refine r_val rfl rfl rfl (law_box_fz rfl (by rfl) (by rfl)) (hT rfl Abs.h0) ?_
              | refine r_new rfl rfl rfl rfl (law_alloc tb_ok rfl rfl rfl) Abs.h0 ?_
              | refine r_set rfl rfl (law_store tb_ok rfl rfl rfl rfl rfl rfl rfl rfl) (hT rfl (hT rfl (hN rfl Abs.h0))) ?_
              | refine r_off rfl rfl rfl ?_
              | refine r_off0 rfl rfl ?_
              | refine r_val rfl rfl rfl (law_call rfl (enters (by kernel_rfl)) (by rfl) (c5) (by rfl)) (hT rfl (hT rfl Abs.h0)) ?_
              | refine r_val rfl rfl rfl (law_call rfl (enters (by kernel_rfl)) (by rfl) (c6) (by rfl)) (hT rfl (hT rfl Abs.h0)) ?_
              | refine r_val rfl rfl rfl (law_call rfl (enters (by kernel_rfl)) (by rfl) (c7) (by rfl)) (hT rfl Abs.h0) ?_)
          by_cases b1 : b = v
          · obtain rfl : y = false := by have b2 : v ≠ 0 := b1 ▸ b0; rw [← hy]; simp [b1, b2]
            repeat (first
                | with_reducible refine awp_seq ?_
                | with_reducible refine awp_region ?_
                | with_reducible refine awp_draw mixed ?_
                | with_reducible refine then_n ?_
                | with_reducible refine awp_skip ?_
                | with_reducible refine awp_block ?_
                | with_reducible refine awp_exit ?_
                | with_reducible refine awp_ret ?_
                | with_reducible refine awp_label ?_
                | with_reducible refine then_exit ?_
                | with_reducible refine then_ret ?_
                | with_reducible refine blk_n ?_
                | with_reducible refine blk_ret ?_
                | with_reducible refine blk_exit ?_
                | refine r_nil ?_
                | refine r_nild (by kernel_rfl) ?_
                | refine awp_true rfl ?_
                | refine awp_false rfl ?_
                | with_reducible refine blk_other rfl ?_
                | exact end_ret rfl rfl (by repeat' first | exact trivial | constructor) rfl
                | refine r_val rfl rfl rfl (law_move rfl) (hT rfl Abs.h0) ?_
                | refine r_val rfl rfl rfl (law_assign rfl) (hT rfl Abs.h0) ?_
                | refine r_val rfl rfl rfl (law_extract rfl rfl) (hT rfl Abs.h0) ?_
                | refine r_val rfl rfl rfl (law_not rfl) (hT rfl Abs.h0) ?_
                | refine r_val rfl rfl rfl (law_nilCheck rfl rfl) (hT rfl Abs.h0) ?_
                | refine r_val rfl rfl rfl (law_pick_true rfl) (hT rfl (hT rfl Abs.h0)) ?_
                | refine r_val rfl rfl rfl (law_pick_false rfl) (hT rfl (hT rfl Abs.h0)) ?_
                | refine r_val rfl rfl rfl (law_load tb_ok rfl rfl rfl rfl) (hT rfl (hN rfl Abs.h0)) ?_
                | refine r_val rfl rfl rfl (law_load_fp tb_ok rfl rfl rfl) (hT rfl Abs.h0) ?_
                | refine r_val rfl rfl rfl (law_field tb_ok rfl rfl rfl rfl rfl) (hT rfl Abs.h0) ?_
                | refine r_val rfl rfl rfl (law_fieldAddr tb_ok rfl rfl rfl rfl rfl) (hT rfl Abs.h0) ?_
                | refine r_val rfl rfl rfl (law_fieldAddr_fp tb_ok rfl rfl rfl rfl rfl) (hT rfl Abs.h0) ?_
                | refine r_val rfl rfl rfl (law_len_str rfl rfl) (hT rfl Abs.h0) ?_
                | refine r_val rfl rfl rfl (law_len_fro tb_ok rfl rfl rfl) (hT rfl Abs.h0) ?_
                | refine r_val rfl rfl rfl (law_len_own tb_ok rfl rfl rfl) (hT rfl Abs.h0) ?_
                | refine r_val rfl rfl rfl (law_len_nils tb_ok rfl rfl rfl) (hT rfl Abs.h0) ?_
                | refine r_val rfl rfl rfl (law_add' rfl (wrap64 (by omega) (by omega))) (hT rfl (hT rfl Abs.h0)) ?_
                | refine r_val rfl rfl rfl (law_sub' rfl (wrap64 (by omega) (by omega))) (hT rfl (hT rfl Abs.h0)) ?_
                | refine r_val rfl rfl rfl (law_mul' rfl (wrap64 (by omega) (by omega))) (hT rfl (hT rfl Abs.h0)) ?_
                | refine r_val rfl rfl rfl (law_lss rfl (decide_eq_true (by omega))) (hT rfl (hT rfl Abs.h0)) ?_
                | refine r_val rfl rfl rfl (law_lss rfl (decide_eq_false (by omega))) (hT rfl (hT rfl Abs.h0)) ?_
                | refine r_val rfl rfl rfl (law_leq rfl (decide_eq_true (by omega))) (hT rfl (hT rfl Abs.h0)) ?_
                | refine r_val rfl rfl rfl (law_leq rfl (decide_eq_false (by omega))) (hT rfl (hT rfl Abs.h0)) ?_
                | refine r_val rfl rfl rfl (law_gtr rfl (decide_eq_true (by omega))) (hT rfl (hT rfl Abs.h0)) ?_
                | refine r_val rfl rfl rfl (law_gtr rfl (decide_eq_false (by omega))) (hT rfl (hT rfl Abs.h0)) ?_
                | refine r_val rfl rfl rfl (law_geq rfl (decide_eq_true (by omega))) (hT rfl (hT rfl Abs.h0)) ?_
                | refine r_val rfl rfl rfl (law_geq rfl (decide_eq_false (by omega))) (hT rfl (hT rfl Abs.h0)) ?_
                | refine r_val rfl rfl rfl (law_eql rfl (decide_eq_true (by omega))) (hT rfl (hT rfl Abs.h0)) ?_
                | refine r_val rfl rfl rfl (law_eql rfl (decide_eq_false (by omega))) (hT rfl (hT rfl Abs.h0)) ?_
                | refine r_val rfl rfl rfl (law_neq rfl (decide_eq_true (by omega))) (hT rfl (hT rfl Abs.h0)) ?_
                | refine r_val rfl rfl rfl (law_neq rfl (decide_eq_false (by omega))) (hT rfl (hT rfl Abs.h0)) ?_
                | refine r_val rfl rfl rfl (law_eql_bool rfl rfl (beq_self_eq_true _)) (hT rfl (hT rfl Abs.h0)) ?_
                | refine r_val rfl rfl rfl (law_neq_bool rfl rfl (bne_self_eq_false _)) (hT rfl (hT rfl Abs.h0)) ?_
                | refine r_val rfl rfl rfl (law_eql_bool rfl rfl rfl) (hT rfl (hT rfl Abs.h0)) ?_
                | refine r_val rfl rfl rfl (law_neq_bool rfl rfl rfl) (hT rfl (hT rfl Abs.h0)) ?_
                | refine r_val rfl rfl rfl (law_eql_str rfl (decide_eq_true (by assumption))) (hT rfl (hT rfl Abs.h0)) ?_
                | refine r_val rfl rfl rfl (law_eql_str rfl (decide_eq_false (by assumption))) (hT rfl (hT rfl Abs.h0)) ?_
                | refine r_val rfl rfl rfl (law_neq_str rfl (decide_eq_true (by assumption))) (hT rfl (hT rfl Abs.h0)) ?_
                | refine r_val rfl rfl rfl (law_neq_str rfl (decide_eq_false (by simpa using (by assumption)))) (hT rfl (hT rfl Abs.h0)) ?_
                | refine r_val rfl rfl rfl (law_box_fz rfl (by rfl) (by rfl)) (hT rfl Abs.h0) ?_
                | refine r_new rfl rfl rfl rfl (law_alloc tb_ok rfl rfl rfl) Abs.h0 ?_
                | refine r_set rfl rfl (law_store tb_ok rfl rfl rfl rfl rfl rfl rfl rfl) (hT rfl (hT rfl (hN rfl Abs.h0))) ?_
                | refine r_off rfl rfl rfl ?_
                | refine r_off0 rfl rfl ?_
                | refine r_val rfl rfl rfl (law_call rfl (enters (by kernel_rfl)) (by rfl) (c5) (by rfl)) (hT rfl (hT rfl Abs.h0)) ?_
                | refine r_val rfl rfl rfl (law_call rfl (enters (by kernel_rfl)) (by rfl) (c6) (by rfl)) (hT rfl (hT rfl Abs.h0)) ?_
                | refine r_val rfl rfl rfl (law_call rfl (enters (by kernel_rfl)) (by rfl) (c7) (by rfl)) (hT rfl Abs.h0) ?_)
            cases x
            · skip
              repeat (first
                  | with_reducible refine awp_seq ?_
                  | with_reducible refine awp_region ?_
                  | with_reducible refine awp_draw mixed ?_
                  | with_reducible refine then_n ?_
                  | with_reducible refine awp_skip ?_
                  | with_reducible refine awp_block ?_
                  | with_reducible refine awp_exit ?_
                  | with_reducible refine awp_ret ?_
                  | with_reducible refine awp_label ?_
                  | with_reducible refine then_exit ?_
                  | with_reducible refine then_ret ?_
                  | with_reducible refine blk_n ?_
                  | with_reducible refine blk_ret ?_
                  | with_reducible refine blk_exit ?_
                  | refine r_nil ?_
                  | refine r_nild (by kernel_rfl) ?_
                  | refine awp_true rfl ?_
                  | refine awp_false rfl ?_
                  | with_reducible refine blk_other rfl ?_
                  | exact end_ret rfl rfl (by repeat' first | exact trivial | constructor) rfl
                  | refine r_val rfl rfl rfl (law_move rfl) (hT rfl Abs.h0) ?_
                  | refine r_val rfl rfl rfl (law_assign rfl) (hT rfl Abs.h0) ?_
                  | refine r_val rfl rfl rfl (law_extract rfl rfl) (hT rfl Abs.h0) ?_
                  | refine r_val rfl rfl rfl (law_not rfl) (hT rfl Abs.h0) ?_
                  | refine r_val rfl rfl rfl (law_nilCheck rfl rfl) (hT rfl Abs.h0) ?_
                  | refine r_val rfl rfl rfl (law_pick_true rfl) (hT rfl (hT rfl Abs.h0)) ?_
                  | refine r_val rfl rfl rfl (law_pick_false rfl) (hT rfl (hT rfl Abs.h0)) ?_
                  | refine r_val rfl rfl rfl (law_load tb_ok rfl rfl rfl rfl) (hT rfl (hN rfl Abs.h0)) ?_
                  | refine r_val rfl rfl rfl (law_load_fp tb_ok rfl rfl rfl) (hT rfl Abs.h0) ?_
                  | refine r_val rfl rfl rfl (law_field tb_ok rfl rfl rfl rfl rfl) (hT rfl Abs.h0) ?_
                  | refine r_val rfl rfl rfl (law_fieldAddr tb_ok rfl rfl rfl rfl rfl) (hT rfl Abs.h0) ?_
                  | refine r_val rfl rfl rfl (law_fieldAddr_fp tb_ok rfl rfl rfl rfl rfl) (hT rfl Abs.h0) ?_
                  | refine r_val rfl rfl rfl (law_len_str rfl rfl) (hT rfl Abs.h0) ?_
                  | refine r_val rfl rfl rfl (law_len_fro tb_ok rfl rfl rfl) (hT rfl Abs.h0) ?_
                  | refine r_val rfl rfl rfl (law_len_own tb_ok rfl rfl rfl) (hT rfl Abs.h0) ?_
                  | refine r_val rfl rfl rfl (law_len_nils tb_ok rfl rfl rfl) (hT rfl Abs.h0) ?_
                  | refine r_val rfl rfl rfl (law_add' rfl (wrap64 (by omega) (by omega))) (hT rfl (hT rfl Abs.h0)) ?_
                  | refine r_val rfl rfl rfl (law_sub' rfl (wrap64 (by omega) (by omega))) (hT rfl (hT rfl Abs.h0)) ?_
                  | refine r_val rfl rfl rfl (law_mul' rfl (wrap64 (by omega) (by omega))) (hT rfl (hT rfl Abs.h0)) ?_
                  | refine r_val rfl rfl rfl (law_lss rfl (decide_eq_true (by omega))) (hT rfl (hT rfl Abs.h0)) ?_
                  | refine r_val rfl rfl rfl (law_lss rfl (decide_eq_false (by omega))) (hT rfl (hT rfl Abs.h0)) ?_
                  | refine r_val rfl rfl rfl (law_leq rfl (decide_eq_true (by omega))) (hT rfl (hT rfl Abs.h0)) ?_
                  | refine r_val rfl rfl rfl (law_leq rfl (decide_eq_false (by omega))) (hT rfl (hT rfl Abs.h0)) ?_
                  | refine r_val rfl rfl rfl (law_gtr rfl (decide_eq_true (by omega))) (hT rfl (hT rfl Abs.h0)) ?_
                  | refine r_val rfl rfl rfl (law_gtr rfl (decide_eq_false (by omega))) (hT rfl (hT rfl Abs.h0)) ?_
                  | refine r_val rfl rfl rfl (law_geq rfl (decide_eq_true (by omega))) (hT rfl (hT rfl Abs.h0)) ?_
                  | refine r_val rfl rfl rfl (law_geq rfl (decide_eq_false (by omega))) (hT rfl (hT rfl Abs.h0)) ?_
                  | refine r_val rfl rfl rfl (law_eql rfl (decide_eq_true (by omega))) (hT rfl (hT rfl Abs.h0)) ?_
                  | refine r_val rfl rfl rfl (law_eql rfl (decide_eq_false (by omega))) (hT rfl (hT rfl Abs.h0)) ?_
                  | refine r_val rfl rfl rfl (law_neq rfl (decide_eq_true (by omega))) (hT rfl (hT rfl Abs.h0)) ?_
                  | refine r_val rfl rfl rfl (law_neq rfl (decide_eq_false (by omega))) (hT rfl (hT rfl Abs.h0)) ?_
                  | refine r_val rfl rfl rfl (law_eql_bool rfl rfl (beq_self_eq_true _)) (hT rfl (hT rfl Abs.h0)) ?_
                  | refine r_val rfl rfl rfl (law_neq_bool rfl rfl (bne_self_eq_false _)) (hT rfl (hT rfl Abs.h0)) ?_
                  | refine r_val rfl rfl rfl (law_eql_bool rfl rfl rfl) (hT rfl (hT rfl Abs.h0)) ?_
                  | refine r_val rfl rfl rfl (law_neq_bool rfl rfl rfl) (hT rfl (hT rfl Abs.h0)) ?_
                  | refine r_val rfl rfl rfl (law_eql_str rfl (decide_eq_true (by assumption))) (hT rfl (hT rfl Abs.h0)) ?_
                  | refine r_val rfl rfl rfl (law_eql_str rfl (decide_eq_false (by assumption))) (hT rfl (hT rfl Abs.h0)) ?_
                  | refine r_val rfl rfl rfl (law_neq_str rfl (decide_eq_true (by assumption))) (hT rfl (hT rfl Abs.h0)) ?_
                  | refine r_val rfl rfl rfl (law_neq_str rfl (decide_eq_false (by simpa using (by assumption)))) (hT rfl (hT rfl Abs.h0)) ?_
                  | refine r_val rfl rfl rfl (law_box_fz rfl (by rfl) (by rfl)) (hT rfl Abs.h0) ?_
                  | refine r_new rfl rfl rfl rfl (law_alloc tb_ok rfl rfl rfl) Abs.h0 ?_
                  | refine r_set rfl rfl (law_store tb_ok rfl rfl rfl rfl rfl rfl rfl rfl) (hT rfl (hT rfl (hN rfl Abs.h0))) ?_
                  | refine r_off rfl rfl rfl ?_
                  | refine r_off0 rfl rfl ?_
                  | refine r_val rfl rfl rfl (law_call rfl (enters (by kernel_rfl)) (by rfl) (c5) (by rfl)) (hT rfl (hT rfl Abs.h0)) ?_
                  | refine r_val rfl rfl rfl (law_call rfl (enters (by kernel_rfl)) (by rfl) (c6) (by rfl)) (hT rfl (hT rfl Abs.h0)) ?_
                  | refine r_val rfl rfl rfl (law_call rfl (enters (by kernel_rfl)) (by rfl) (c7) (by rfl)) (hT rfl Abs.h0) ?_)
            · skip
              repeat (first
                  | with_reducible refine awp_seq ?_
                  | with_reducible refine awp_region ?_
                  | with_reducible refine awp_draw mixed ?_
                  | with_reducible refine then_n ?_
                  | with_reducible refine awp_skip ?_
                  | with_reducible refine awp_block ?_
                  | with_reducible refine awp_exit ?_
                  | with_reducible refine awp_ret ?_
                  | with_reducible refine awp_label ?_
                  | with_reducible refine then_exit ?_
                  | with_reducible refine then_ret ?_
                  | with_reducible refine blk_n ?_
                  | with_reducible refine blk_ret ?_
                  | with_reducible refine blk_exit ?_
                  | refine r_nil ?_
                  | refine r_nild (by kernel_rfl) ?_
                  | refine awp_true rfl ?_
                  | refine awp_false rfl ?_
                  | with_reducible refine blk_other rfl ?_
                  | exact end_ret rfl rfl (by repeat' first | exact trivial | constructor) rfl
                  | refine r_val rfl rfl rfl (law_move rfl) (hT rfl Abs.h0) ?_
                  | refine r_val rfl rfl rfl (law_assign rfl) (hT rfl Abs.h0) ?_
                  | refine r_val rfl rfl rfl (law_extract rfl rfl) (hT rfl Abs.h0) ?_
                  | refine r_val rfl rfl rfl (law_not rfl) (hT rfl Abs.h0) ?_
                  | refine r_val rfl rfl rfl (law_nilCheck rfl rfl) (hT rfl Abs.h0) ?_
                  | refine r_val rfl rfl rfl (law_pick_true rfl) (hT rfl (hT rfl Abs.h0)) ?_
                  | refine r_val rfl rfl rfl (law_pick_false rfl) (hT rfl (hT rfl Abs.h0)) ?_
                  | refine r_val rfl rfl rfl (law_load tb_ok rfl rfl rfl rfl) (hT rfl (hN rfl Abs.h0)) ?_
                  | refine r_val rfl rfl rfl (law_load_fp tb_ok rfl rfl rfl) (hT rfl Abs.h0) ?_
                  | refine r_val rfl rfl rfl (law_field tb_ok rfl rfl rfl rfl rfl) (hT rfl Abs.h0) ?_
                  | refine r_val rfl rfl rfl (law_fieldAddr tb_ok rfl rfl rfl rfl rfl) (hT rfl Abs.h0) ?_
                  | refine r_val rfl rfl rfl (law_fieldAddr_fp tb_ok rfl rfl rfl rfl rfl) (hT rfl Abs.h0) ?_
                  | refine r_val rfl rfl rfl (law_len_str rfl rfl) (hT rfl Abs.h0) ?_
                  | refine r_val rfl rfl rfl (law_len_fro tb_ok rfl rfl rfl) (hT rfl Abs.h0) ?_
                  | refine r_val rfl rfl rfl (law_len_own tb_ok rfl rfl rfl) (hT rfl Abs.h0) ?_
                  | refine r_val rfl rfl rfl (law_len_nils tb_ok rfl rfl rfl) (hT rfl Abs.h0) ?_
                  | refine r_val rfl rfl rfl (law_add' rfl (wrap64 (by omega) (by omega))) (hT rfl (hT rfl Abs.h0)) ?_
                  | refine r_val rfl rfl rfl (law_sub' rfl (wrap64 (by omega) (by omega))) (hT rfl (hT rfl Abs.h0)) ?_
                  | refine r_val rfl rfl rfl (law_mul' rfl (wrap64 (by omega) (by omega))) (hT rfl (hT rfl Abs.h0)) ?_
                  | refine r_val rfl rfl rfl (law_lss rfl (decide_eq_true (by omega))) (hT rfl (hT rfl Abs.h0)) ?_
                  | refine r_val rfl rfl rfl (law_lss rfl (decide_eq_false (by omega))) (hT rfl (hT rfl Abs.h0)) ?_
                  | refine r_val rfl rfl rfl (law_leq rfl (decide_eq_true (by omega))) (hT rfl (hT rfl Abs.h0)) ?_
                  | refine r_val rfl rfl rfl (law_leq rfl (decide_eq_false (by omega))) (hT rfl (hT rfl Abs.h0)) ?_
                  | refine r_val rfl rfl rfl (law_gtr rfl (decide_eq_true (by omega))) (hT rfl (hT rfl Abs.h0)) ?_
                  | refine r_val rfl rfl rfl (law_gtr rfl (decide_eq_false (by omega))) (hT rfl (hT rfl Abs.h0)) ?_
                  | refine r_val rfl rfl rfl (law_geq rfl (decide_eq_true (by omega))) (hT rfl (hT rfl Abs.h0)) ?_
                  | refine r_val rfl rfl rfl (law_geq rfl (decide_eq_false (by omega))) (hT rfl (hT rfl Abs.h0)) ?_
                  | refine r_val rfl rfl rfl (law_eql rfl (decide_eq_true (by omega))) (hT rfl (hT rfl Abs.h0)) ?_
                  | refine r_val rfl rfl rfl (law_eql rfl (decide_eq_false (by omega))) (hT rfl (hT rfl Abs.h0)) ?_
                  | refine r_val rfl rfl rfl (law_neq rfl (decide_eq_true (by omega))) (hT rfl (hT rfl Abs.h0)) ?_
                  | refine r_val rfl rfl rfl (law_neq rfl (decide_eq_false (by omega))) (hT rfl (hT rfl Abs.h0)) ?_
                  | refine r_val rfl rfl rfl (law_eql_bool rfl rfl (beq_self_eq_true _)) (hT rfl (hT rfl Abs.h0)) ?_
                  | refine r_val rfl rfl rfl (law_neq_bool rfl rfl (bne_self_eq_false _)) (hT rfl (hT rfl Abs.h0)) ?_
                  | refine r_val rfl rfl rfl (law_eql_bool rfl rfl rfl) (hT rfl (hT rfl Abs.h0)) ?_
                  | refine r_val rfl rfl rfl (law_neq_bool rfl rfl rfl) (hT rfl (hT rfl Abs.h0)) ?_
                  | refine r_val rfl rfl rfl (law_eql_str rfl (decide_eq_true (by assumption))) (hT rfl (hT rfl Abs.h0)) ?_
                  | refine r_val rfl rfl rfl (law_eql_str rfl (decide_eq_false (by assumption))) (hT rfl (hT rfl Abs.h0)) ?_
                  | refine r_val rfl rfl rfl (law_neq_str rfl (decide_eq_true (by assumption))) (hT rfl (hT rfl Abs.h0)) ?_
                  | refine r_val rfl rfl rfl (law_neq_str rfl (decide_eq_false (by simpa using (by assumption)))) (hT rfl (hT rfl Abs.h0)) ?_
                  | refine r_val rfl rfl rfl (law_box_fz rfl (by rfl) (by rfl)) (hT rfl Abs.h0) ?_
                  | refine r_new rfl rfl rfl rfl (law_alloc tb_ok rfl rfl rfl) Abs.h0 ?_
                  | refine r_set rfl rfl (law_store tb_ok rfl rfl rfl rfl rfl rfl rfl rfl) (hT rfl (hT rfl (hN rfl Abs.h0))) ?_
                  | refine r_off rfl rfl rfl ?_
                  | refine r_off0 rfl rfl ?_
                  | refine r_val rfl rfl rfl (law_call rfl (enters (by kernel_rfl)) (by rfl) (c5) (by rfl)) (hT rfl (hT rfl Abs.h0)) ?_
                  | refine r_val rfl rfl rfl (law_call rfl (enters (by kernel_rfl)) (by rfl) (c6) (by rfl)) (hT rfl (hT rfl Abs.h0)) ?_
                  | refine r_val rfl rfl rfl (law_call rfl (enters (by kernel_rfl)) (by rfl) (c7) (by rfl)) (hT rfl Abs.h0) ?_)
          · obtain rfl : x = y := by simpa [a0, a1, b0, b1] using hy
            repeat (first
                | with_reducible refine awp_seq ?_
                | with_reducible refine awp_region ?_
                | with_reducible refine awp_draw mixed ?_
                | with_reducible refine then_n ?_
                | with_reducible refine awp_skip ?_
                | with_reducible refine awp_block ?_
                | with_reducible refine awp_exit ?_
                | with_reducible refine awp_ret ?_
                | with_reducible refine awp_label ?_
                | with_reducible refine then_exit ?_
                | with_reducible refine then_ret ?_
                | with_reducible refine blk_n ?_
                | with_reducible refine blk_ret ?_
                | with_reducible refine blk_exit ?_
                | refine r_nil ?_
                | refine r_nild (by kernel_rfl) ?_
                | refine awp_true rfl ?_
                | refine awp_false rfl ?_
                | with_reducible refine blk_other rfl ?_
                | exact end_ret rfl rfl (by repeat' first | exact trivial | constructor) rfl
                | refine r_val rfl rfl rfl (law_move rfl) (hT rfl Abs.h0) ?_
                | refine r_val rfl rfl rfl (law_assign rfl) (hT rfl Abs.h0) ?_
                | refine r_val rfl rfl rfl (law_extract rfl rfl) (hT rfl Abs.h0) ?_
                | refine r_val rfl rfl rfl (law_not rfl) (hT rfl Abs.h0) ?_
                | refine r_val rfl rfl rfl (law_nilCheck rfl rfl) (hT rfl Abs.h0) ?_
                | refine r_val rfl rfl rfl (law_pick_true rfl) (hT rfl (hT rfl Abs.h0)) ?_
                | refine r_val rfl rfl rfl (law_pick_false rfl) (hT rfl (hT rfl Abs.h0)) ?_
                | refine r_val rfl rfl rfl (law_load tb_ok rfl rfl rfl rfl) (hT rfl (hN rfl Abs.h0)) ?_
                | refine r_val rfl rfl rfl (law_load_fp tb_ok rfl rfl rfl) (hT rfl Abs.h0) ?_
                | refine r_val rfl rfl rfl (law_field tb_ok rfl rfl rfl rfl rfl) (hT rfl Abs.h0) ?_
                | refine r_val rfl rfl rfl (law_fieldAddr tb_ok rfl rfl rfl rfl rfl) (hT rfl Abs.h0) ?_
                | refine r_val rfl rfl rfl (law_fieldAddr_fp tb_ok rfl rfl rfl rfl rfl) (hT rfl Abs.h0) ?_
                | refine r_val rfl rfl rfl (law_len_str rfl rfl) (hT rfl Abs.h0) ?_
                | refine r_val rfl rfl rfl (law_len_fro tb_ok rfl rfl rfl) (hT rfl Abs.h0) ?_
                | refine r_val rfl rfl rfl (law_len_own tb_ok rfl rfl rfl) (hT rfl Abs.h0) ?_
                | refine r_val rfl rfl rfl (law_len_nils tb_ok rfl rfl rfl) (hT rfl Abs.h0) ?_
                | refine r_val rfl rfl rfl (law_add' rfl (wrap64 (by omega) (by omega))) (hT rfl (hT rfl Abs.h0)) ?_
                | refine r_val rfl rfl rfl (law_sub' rfl (wrap64 (by omega) (by omega))) (hT rfl (hT rfl Abs.h0)) ?_
                | refine r_val rfl rfl rfl (law_mul' rfl (wrap64 (by omega) (by omega))) (hT rfl (hT rfl Abs.h0)) ?_
                | refine r_val rfl rfl rfl (law_lss rfl (decide_eq_true (by omega))) (hT rfl (hT rfl Abs.h0)) ?_
                | refine r_val rfl rfl rfl (law_lss rfl (decide_eq_false (by omega))) (hT rfl (hT rfl Abs.h0)) ?_
                | refine r_val rfl rfl rfl (law_leq rfl (decide_eq_true (by omega))) (hT rfl (hT rfl Abs.h0)) ?_
                | refine r_val rfl rfl rfl (law_leq rfl (decide_eq_false (by omega))) (hT rfl (hT rfl Abs.h0)) ?_
                | refine r_val rfl rfl rfl (law_gtr rfl (decide_eq_true (by omega))) (hT rfl (hT rfl Abs.h0)) ?_
                | refine r_val rfl rfl rfl (law_gtr rfl (decide_eq_false (by omega))) (hT rfl (hT rfl Abs.h0)) ?_
                | refine r_val rfl rfl rfl (law_geq rfl (decide_eq_true (by omega))) (hT rfl (hT rfl Abs.h0)) ?_
                | refine r_val rfl rfl rfl (law_geq rfl (decide_eq_false (by omega))) (hT rfl (hT rfl Abs.h0)) ?_
                | refine r_val rfl rfl rfl (law_eql rfl (decide_eq_true (by omega))) (hT rfl (hT rfl Abs.h0)) ?_
                | refine r_val rfl rfl rfl (law_eql rfl (decide_eq_false (by omega))) (hT rfl (hT rfl Abs.h0)) ?_
                | refine r_val rfl rfl rfl (law_neq rfl (decide_eq_true (by omega))) (hT rfl (hT rfl Abs.h0)) ?_
                | refine r_val rfl rfl rfl (law_neq rfl (decide_eq_false (by omega))) (hT rfl (hT rfl Abs.h0)) ?_
                | refine r_val rfl rfl rfl (law_eql_bool rfl rfl (beq_self_eq_true _)) (hT rfl (hT rfl Abs.h0)) ?_
                | refine r_val rfl rfl rfl (law_neq_bool rfl rfl (bne_self_eq_false _)) (hT rfl (hT rfl Abs.h0)) ?_
                | refine r_val rfl rfl rfl (law_eql_bool rfl rfl rfl) (hT rfl (hT rfl Abs.h0)) ?_
                | refine r_val rfl rfl rfl (law_neq_bool rfl rfl rfl) (hT rfl (hT rfl Abs.h0)) ?_
                | refine r_val rfl rfl rfl (law_eql_str rfl (decide_eq_true (by assumption))) (hT rfl (hT rfl Abs.h0)) ?_
                | refine r_val rfl rfl rfl (law_eql_str rfl (decide_eq_false (by assumption))) (hT rfl (hT rfl Abs.h0)) ?_
                | refine r_val rfl rfl rfl (law_neq_str rfl (decide_eq_true (by assumption))) (hT rfl (hT rfl Abs.h0)) ?_
                | refine r_val rfl rfl rfl (law_neq_str rfl (decide_eq_false (by simpa using (by assumption)))) (hT rfl (hT rfl Abs.h0)) ?_
                | refine r_val rfl rfl rfl (law_box_fz rfl (by rfl) (by rfl)) (hT rfl Abs.h0) ?_
                | refine r_new rfl rfl rfl rfl (law_alloc tb_ok rfl rfl rfl) Abs.h0 ?_
                | refine r_set rfl rfl (law_store tb_ok rfl rfl rfl rfl rfl rfl rfl rfl) (hT rfl (hT rfl (hN rfl Abs.h0))) ?_
                | refine r_off rfl rfl rfl ?_
                | refine r_off0 rfl rfl ?_
                | refine r_val rfl rfl rfl (law_call rfl (enters (by kernel_rfl)) (by rfl) (c5) (by rfl)) (hT rfl (hT rfl Abs.h0)) ?_
                | refine r_val rfl rfl rfl (law_call rfl (enters (by kernel_rfl)) (by rfl) (c6) (by rfl)) (hT rfl (hT rfl Abs.h0)) ?_
                | refine r_val rfl rfl rfl (law_call rfl (enters (by kernel_rfl)) (by rfl) (c7) (by rfl)) (hT rfl Abs.h0) ?_)
            cases x
            · skip
              repeat (first
                  | with_reducible refine awp_seq ?_
                  | with_reducible refine awp_region ?_
                  | with_reducible refine awp_draw mixed ?_
                  | with_reducible refine then_n ?_
                  | with_reducible refine awp_skip ?_
                  | with_reducible refine awp_block ?_
                  | with_reducible refine awp_exit ?_
                  | with_reducible refine awp_ret ?_
                  | with_reducible refine awp_label ?_
                  | with_reducible refine then_exit ?_
                  | with_reducible refine then_ret ?_
                  | with_reducible refine blk_n ?_
                  | with_reducible refine blk_ret ?_
                  | with_reducible refine blk_exit ?_
                  | refine r_nil ?_
                  | refine r_nild (by kernel_rfl) ?_
                  | refine awp_true rfl ?_
                  | refine awp_false rfl ?_
                  | with_reducible refine blk_other rfl ?_
                  | exact end_ret rfl rfl (by repeat' first | exact trivial | constructor) rfl
                  | refine r_val rfl rfl rfl (law_move rfl) (hT rfl Abs.h0) ?_
                  | refine r_val rfl rfl rfl (law_assign rfl) (hT rfl Abs.h0) ?_
                  | refine r_val rfl rfl rfl (law_extract rfl rfl) (hT rfl Abs.h0) ?_
                  | refine r_val rfl rfl rfl (law_not rfl) (hT rfl Abs.h0) ?_
                  | refine r_val rfl rfl rfl (law_nilCheck rfl rfl) (hT rfl Abs.h0) ?_
                  | refine r_val rfl rfl rfl (law_pick_true rfl) (hT rfl (hT rfl Abs.h0)) ?_
                  | refine r_val rfl rfl rfl (law_pick_false rfl) (hT rfl (hT rfl Abs.h0)) ?_
                  | refine r_val rfl rfl rfl (law_load tb_ok rfl rfl rfl rfl) (hT rfl (hN rfl Abs.h0)) ?_
                  | refine r_val rfl rfl rfl (law_load_fp tb_ok rfl rfl rfl) (hT rfl Abs.h0) ?_
                  | refine r_val rfl rfl rfl (law_field tb_ok rfl rfl rfl rfl rfl) (hT rfl Abs.h0) ?_
                  | refine r_val rfl rfl rfl (law_fieldAddr tb_ok rfl rfl rfl rfl rfl) (hT rfl Abs.h0) ?_
                  | refine r_val rfl rfl rfl (law_fieldAddr_fp tb_ok rfl rfl rfl rfl rfl) (hT rfl Abs.h0) ?_
                  | refine r_val rfl rfl rfl (law_len_str rfl rfl) (hT rfl Abs.h0) ?_
                  | refine r_val rfl rfl rfl (law_len_fro tb_ok rfl rfl rfl) (hT rfl Abs.h0) ?_
                  | refine r_val rfl rfl rfl (law_len_own tb_ok rfl rfl rfl) (hT rfl Abs.h0) ?_
                  | refine r_val rfl rfl rfl (law_len_nils tb_ok rfl rfl rfl) (hT rfl Abs.h0) ?_
                  | refine r_val rfl rfl rfl (law_add' rfl (wrap64 (by omega) (by omega))) (hT rfl (hT rfl Abs.h0)) ?_
                  | refine r_val rfl rfl rfl (law_sub' rfl (wrap64 (by omega) (by omega))) (hT rfl (hT rfl Abs.h0)) ?_
                  | refine r_val rfl rfl rfl (law_mul' rfl (wrap64 (by omega) (by omega))) (hT rfl (hT rfl Abs.h0)) ?_
                  | refine r_val rfl rfl rfl (law_lss rfl (decide_eq_true (by omega))) (hT rfl (hT rfl Abs.h0)) ?_
                  | refine r_val rfl rfl rfl (law_lss rfl (decide_eq_false (by omega))) (hT rfl (hT rfl Abs.h0)) ?_
                  | refine r_val rfl rfl rfl (law_leq rfl (decide_eq_true (by omega))) (hT rfl (hT rfl Abs.h0)) ?_
                  | refine r_val rfl rfl rfl (law_leq rfl (decide_eq_false (by omega))) (hT rfl (hT rfl Abs.h0)) ?_
                  | refine r_val rfl rfl rfl (law_gtr rfl (decide_eq_true (by omega))) (hT rfl (hT rfl Abs.h0)) ?_
                  | refine r_val rfl rfl rfl (law_gtr rfl (decide_eq_false (by omega))) (hT rfl (hT rfl Abs.h0)) ?_
                  | refine r_val rfl rfl rfl (law_geq rfl (decide_eq_true (by omega))) (hT rfl (hT rfl Abs.h0)) ?_
                  | refine r_val rfl rfl rfl (law_geq rfl (decide_eq_false (by omega))) (hT rfl (hT rfl Abs.h0)) ?_
                  | refine r_val rfl rfl rfl (law_eql rfl (decide_eq_true (by omega))) (hT rfl (hT rfl Abs.h0)) ?_
                  | refine r_val rfl rfl rfl (law_eql rfl (decide_eq_false (by omega))) (hT rfl (hT rfl Abs.h0)) ?_
                  | refine r_val rfl rfl rfl (law_neq rfl (decide_eq_true (by omega))) (hT rfl (hT rfl Abs.h0)) ?_
                  | refine r_val rfl rfl rfl (law_neq rfl (decide_eq_false (by omega))) (hT rfl (hT rfl Abs.h0)) ?_
                  | refine r_val rfl rfl rfl (law_eql_bool rfl rfl (beq_self_eq_true _)) (hT rfl (hT rfl Abs.h0)) ?_
                  | refine r_val rfl rfl rfl (law_neq_bool rfl rfl (bne_self_eq_false _)) (hT rfl (hT rfl Abs.h0)) ?_
                  | refine r_val rfl rfl rfl (law_eql_bool rfl rfl rfl) (hT rfl (hT rfl Abs.h0)) ?_
                  | refine r_val rfl rfl rfl (law_neq_bool rfl rfl rfl) (hT rfl (hT rfl Abs.h0)) ?_
                  | refine r_val rfl rfl rfl (law_eql_str rfl (decide_eq_true (by assumption))) (hT rfl (hT rfl Abs.h0)) ?_
                  | refine r_val rfl rfl rfl (law_eql_str rfl (decide_eq_false (by assumption))) (hT rfl (hT rfl Abs.h0)) ?_
                  | refine r_val rfl rfl rfl (law_neq_str rfl (decide_eq_true (by assumption))) (hT rfl (hT rfl Abs.h0)) ?_
                  | refine r_val rfl rfl rfl (law_neq_str rfl (decide_eq_false (by simpa using (by assumption)))) (hT rfl (hT rfl Abs.h0)) ?_
                  | refine r_val rfl rfl rfl (law_box_fz rfl (by rfl) (by rfl)) (hT rfl Abs.h0) ?_
                  | refine r_new rfl rfl rfl rfl (law_alloc tb_ok rfl rfl rfl) Abs.h0 ?_
                  | refine r_set rfl rfl (law_store tb_ok rfl rfl rfl rfl rfl rfl rfl rfl) (hT rfl (hT rfl (hN rfl Abs.h0))) ?_
                  | refine r_off rfl rfl rfl ?_
                  | refine r_off0 rfl rfl ?_
                  | refine r_val rfl rfl rfl (law_call rfl (enters (by kernel_rfl)) (by rfl) (c5) (by rfl)) (hT rfl (hT rfl Abs.h0)) ?_
                  | refine r_val rfl rfl rfl (law_call rfl (enters (by kernel_rfl)) (by rfl) (c6) (by rfl)) (hT rfl (hT rfl Abs.h0)) ?_
                  | refine r_val rfl rfl rfl (law_call rfl (enters (by kernel_rfl)) (by rfl) (c7) (by rfl)) (hT rfl Abs.h0) ?_)
            · skip
              repeat (first
                  | with_reducible refine awp_seq ?_
                  | with_reducible refine awp_region ?_
                  | with_reducible refine awp_draw mixed ?_
                  | with_reducible refine then_n ?_
                  | with_reducible refine awp_skip ?_
                  | with_reducible refine awp_block ?_
                  | with_reducible refine awp_exit ?_
                  | with_reducible refine awp_ret ?_
                  | with_reducible refine awp_label ?_
                  | with_reducible refine then_exit ?_
                  | with_reducible refine then_ret ?_
                  | with_reducible refine blk_n ?_
                  | with_reducible refine blk_ret ?_
                  | with_reducible refine blk_exit ?_
                  | refine r_nil ?_
                  | refine r_nild (by kernel_rfl) ?_
                  | refine awp_true rfl ?_
                  | refine awp_false rfl ?_
                  | with_reducible refine blk_other rfl ?_
                  | exact end_ret rfl rfl (by repeat' first | exact trivial | constructor) rfl
                  | refine r_val rfl rfl rfl (law_move rfl) (hT rfl Abs.h0) ?_
                  | refine r_val rfl rfl rfl (law_assign rfl) (hT rfl Abs.h0) ?_
                  | refine r_val rfl rfl rfl (law_extract rfl rfl) (hT rfl Abs.h0) ?_
                  | refine r_val rfl rfl rfl (law_not rfl) (hT rfl Abs.h0) ?_
                  | refine r_val rfl rfl rfl (law_nilCheck rfl rfl) (hT rfl Abs.h0) ?_
                  | refine r_val rfl rfl rfl (law_pick_true rfl) (hT rfl (hT rfl Abs.h0)) ?_
                  | refine r_val rfl rfl rfl (law_pick_false rfl) (hT rfl (hT rfl Abs.h0)) ?_
                  | refine r_val rfl rfl rfl (law_load tb_ok rfl rfl rfl rfl) (hT rfl (hN rfl Abs.h0)) ?_
                  | refine r_val rfl rfl rfl (law_load_fp tb_ok rfl rfl rfl) (hT rfl Abs.h0) ?_
                  | refine r_val rfl rfl rfl (law_field tb_ok rfl rfl rfl rfl rfl) (hT rfl Abs.h0) ?_
                  | refine r_val rfl rfl rfl (law_fieldAddr tb_ok rfl rfl rfl rfl rfl) (hT rfl Abs.h0) ?_
                  | refine r_val rfl rfl rfl (law_fieldAddr_fp tb_ok rfl rfl rfl rfl rfl) (hT rfl Abs.h0) ?_
                  | refine r_val rfl rfl rfl (law_len_str rfl rfl) (hT rfl Abs.h0) ?_
                  | refine r_val rfl rfl rfl (law_len_fro tb_ok rfl rfl rfl) (hT rfl Abs.h0) ?_
                  | refine r_val rfl rfl rfl (law_len_own tb_ok rfl rfl rfl) (hT rfl Abs.h0) ?_
                  | refine r_val rfl rfl rfl (law_len_nils tb_ok rfl rfl rfl) (hT rfl Abs.h0) ?_
                  | refine r_val rfl rfl rfl (law_add' rfl (wrap64 (by omega) (by omega))) (hT rfl (hT rfl Abs.h0)) ?_
                  | refine r_val rfl rfl rfl (law_sub' rfl (wrap64 (by omega) (by omega))) (hT rfl (hT rfl Abs.h0)) ?_
                  | refine r_val rfl rfl rfl (law_mul' rfl (wrap64 (by omega) (by omega))) (hT rfl (hT rfl Abs.h0)) ?_
                  | refine r_val rfl rfl rfl (law_lss rfl (decide_eq_true (by omega))) (hT rfl (hT rfl Abs.h0)) ?_
                  | refine r_val rfl rfl rfl (law_lss rfl (decide_eq_false (by omega))) (hT rfl (hT rfl Abs.h0)) ?_
                  | refine r_val rfl rfl rfl (law_leq rfl (decide_eq_true (by omega))) (hT rfl (hT rfl Abs.h0)) ?_
                  | refine r_val rfl rfl rfl (law_leq rfl (decide_eq_false (by omega))) (hT rfl (hT rfl Abs.h0)) ?_
                  | refine r_val rfl rfl rfl (law_gtr rfl (decide_eq_true (by omega))) (hT rfl (hT rfl Abs.h0)) ?_
                  | refine r_val rfl rfl rfl (law_gtr rfl (decide_eq_false (by omega))) (hT rfl (hT rfl Abs.h0)) ?_
                  | refine r_val rfl rfl rfl (law_geq rfl (decide_eq_true (by omega))) (hT rfl (hT rfl Abs.h0)) ?_
                  | refine r_val rfl rfl rfl (law_geq rfl (decide_eq_false (by omega))) (hT rfl (hT rfl Abs.h0)) ?_
                  | refine r_val rfl rfl rfl (law_eql rfl (decide_eq_true (by omega))) (hT rfl (hT rfl Abs.h0)) ?_
                  | refine r_val rfl rfl rfl (law_eql rfl (decide_eq_false (by omega))) (hT rfl (hT rfl Abs.h0)) ?_
                  | refine r_val rfl rfl rfl (law_neq rfl (decide_eq_true (by omega))) (hT rfl (hT rfl Abs.h0)) ?_
                  | refine r_val rfl rfl rfl (law_neq rfl (decide_eq_false (by omega))) (hT rfl (hT rfl Abs.h0)) ?_
                  | refine r_val rfl rfl rfl (law_eql_bool rfl rfl (beq_self_eq_true _)) (hT rfl (hT rfl Abs.h0)) ?_
                  | refine r_val rfl rfl rfl (law_neq_bool rfl rfl (bne_self_eq_false _)) (hT rfl (hT rfl Abs.h0)) ?_
                  | refine r_val rfl rfl rfl (law_eql_bool rfl rfl rfl) (hT rfl (hT rfl Abs.h0)) ?_
                  | refine r_val rfl rfl rfl (law_neq_bool rfl rfl rfl) (hT rfl (hT rfl Abs.h0)) ?_
                  | refine r_val rfl rfl rfl (law_eql_str rfl (decide_eq_true (by assumption))) (hT rfl (hT rfl Abs.h0)) ?_
                  | refine r_val rfl rfl rfl (law_eql_str rfl (decide_eq_false (by assumption))) (hT rfl (hT rfl Abs.h0)) ?_
                  | refine r_val rfl rfl rfl (law_neq_str rfl (decide_eq_true (by assumption))) (hT rfl (hT rfl Abs.h0)) ?_
                  | refine r_val rfl rfl rfl (law_neq_str rfl (decide_eq_false (by simpa using (by assumption)))) (hT rfl (hT rfl Abs.h0)) ?_
                  | refine r_val rfl rfl rfl (law_box_fz rfl (by rfl) (by rfl)) (hT rfl Abs.h0) ?_
                  | refine r_new rfl rfl rfl rfl (law_alloc tb_ok rfl rfl rfl) Abs.h0 ?_
                  | refine r_set rfl rfl (law_store tb_ok rfl rfl rfl rfl rfl rfl rfl rfl) (hT rfl (hT rfl (hN rfl Abs.h0))) ?_
                  | refine r_off rfl rfl rfl ?_
                  | refine r_off0 rfl rfl ?_
                  | refine r_val rfl rfl rfl (law_call rfl (enters (by kernel_rfl)) (by rfl) (c5) (by rfl)) (hT rfl (hT rfl Abs.h0)) ?_
                  | refine r_val rfl rfl rfl (law_call rfl (enters (by kernel_rfl)) (by rfl) (c6) (by rfl)) (hT rfl (hT rfl Abs.h0)) ?_
                  | refine r_val rfl rfl rfl (law_call rfl (enters (by kernel_rfl)) (by rfl) (c7) (by rfl)) (hT rfl Abs.h0) ?_)
  · have hd := drop_no hr h0
    clear hr
    obtain ⟨g', P', L', e⟩ := r
    have c2 := same_v (g := g') (g' := 0) (P := P') (Q := fun _ => false) (L := L') (U := [])
    have c3 : ACalls Try.prog 18 [conT g' P' L', .agg [.int .i64 0, .bool false, .bool false, .bool false, .bool false, .bool false, .bool false, .bool false, .bool false, .bool false, .bool false, .nils]] (.bool true) := by
      rw [hd] at c2
      exact c2.nf rfl
    repeat (first
        | with_reducible refine awp_seq ?_
        | with_reducible refine awp_region ?_
        | with_reducible refine awp_draw mixed ?_
        | with_reducible refine then_n ?_
        | with_reducible refine awp_skip ?_
        | with_reducible refine awp_block ?_
        | with_reducible refine awp_exit ?_
        | with_reducible refine awp_ret ?_
        | with_reducible refine awp_label ?_
        | with_reducible refine then_exit ?_
        | with_reducible refine then_ret ?_
        | with_reducible refine blk_n ?_
        | with_reducible refine blk_ret ?_
        | with_reducible refine blk_exit ?_
        | refine r_nil ?_
        | refine r_nild (by kernel_rfl) ?_
        | refine awp_true rfl ?_
        | refine awp_false rfl ?_
        | with_reducible refine blk_other rfl ?_
        | exact end_ret rfl rfl (by repeat' first | exact trivial | constructor) rfl
        | refine r_val rfl rfl rfl (law_move rfl) (hT rfl Abs.h0) ?_
        | refine r_val rfl rfl rfl (law_assign rfl) (hT rfl Abs.h0) ?_
        | refine r_val rfl rfl rfl (law_extract rfl rfl) (hT rfl Abs.h0) ?_
        | refine r_val rfl rfl rfl (law_not rfl) (hT rfl Abs.h0) ?_
        | refine r_val rfl rfl rfl (law_nilCheck rfl rfl) (hT rfl Abs.h0) ?_
        | refine r_val rfl rfl rfl (law_pick_true rfl) (hT rfl (hT rfl Abs.h0)) ?_
        | refine r_val rfl rfl rfl (law_pick_false rfl) (hT rfl (hT rfl Abs.h0)) ?_
        | refine r_val rfl rfl rfl (law_load tb_ok rfl rfl rfl rfl) (hT rfl (hN rfl Abs.h0)) ?_
        | refine r_val rfl rfl rfl (law_load_fp tb_ok rfl rfl rfl) (hT rfl Abs.h0) ?_
        | refine r_val rfl rfl rfl (law_field tb_ok rfl rfl rfl rfl rfl) (hT rfl Abs.h0) ?_
        | refine r_val rfl rfl rfl (law_fieldAddr tb_ok rfl rfl rfl rfl rfl) (hT rfl Abs.h0) ?_
        | refine r_val rfl rfl rfl (law_fieldAddr_fp tb_ok rfl rfl rfl rfl rfl) (hT rfl Abs.h0) ?_
        | refine r_val rfl rfl rfl (law_len_str rfl rfl) (hT rfl Abs.h0) ?_
        | refine r_val rfl rfl rfl (law_len_fro tb_ok rfl rfl rfl) (hT rfl Abs.h0) ?_
        | refine r_val rfl rfl rfl (law_len_own tb_ok rfl rfl rfl) (hT rfl Abs.h0) ?_
        | refine r_val rfl rfl rfl (law_len_nils tb_ok rfl rfl rfl) (hT rfl Abs.h0) ?_
        | refine r_val rfl rfl rfl (law_add' rfl (wrap64 (by omega) (by omega))) (hT rfl (hT rfl Abs.h0)) ?_
        | refine r_val rfl rfl rfl (law_sub' rfl (wrap64 (by omega) (by omega))) (hT rfl (hT rfl Abs.h0)) ?_
        | refine r_val rfl rfl rfl (law_mul' rfl (wrap64 (by omega) (by omega))) (hT rfl (hT rfl Abs.h0)) ?_
        | refine r_val rfl rfl rfl (law_lss rfl (decide_eq_true (by omega))) (hT rfl (hT rfl Abs.h0)) ?_
        | refine r_val rfl rfl rfl (law_lss rfl (decide_eq_false (by omega))) (hT rfl (hT rfl Abs.h0)) ?_
        | refine r_val rfl rfl rfl (law_leq rfl (decide_eq_true (by omega))) (hT rfl (hT rfl Abs.h0)) ?_
        | refine r_val rfl rfl rfl (law_leq rfl (decide_eq_false (by omega))) (hT rfl (hT rfl Abs.h0)) ?_
        | refine r_val rfl rfl rfl (law_gtr rfl (decide_eq_true (by omega))) (hT rfl (hT rfl Abs.h0)) ?_
        | refine r_val rfl rfl rfl (law_gtr rfl (decide_eq_false (by omega))) (hT rfl (hT rfl Abs.h0)) ?_
        | refine r_val rfl rfl rfl (law_geq rfl (decide_eq_true (by omega))) (hT rfl (hT rfl Abs.h0)) ?_
        | refine r_val rfl rfl rfl (law_geq rfl (decide_eq_false (by omega))) (hT rfl (hT rfl Abs.h0)) ?_
        | refine r_val rfl rfl rfl (law_eql rfl (decide_eq_true (by omega))) (hT rfl (hT rfl Abs.h0)) ?_
        | refine r_val rfl rfl rfl (law_eql rfl (decide_eq_false (by omega))) (hT rfl (hT rfl Abs.h0)) ?_
        | refine r_val rfl rfl rfl (law_neq rfl (decide_eq_true (by omega))) (hT rfl (hT rfl Abs.h0)) ?_
        | refine r_val rfl rfl rfl (law_neq rfl (decide_eq_false (by omega))) (hT rfl (hT rfl Abs.h0)) ?_
        | refine r_val rfl rfl rfl (law_eql_bool rfl rfl (beq_self_eq_true _)) (hT rfl (hT rfl Abs.h0)) ?_
        | refine r_val rfl rfl rfl (law_neq_bool rfl rfl (bne_self_eq_false _)) (hT rfl (hT rfl Abs.h0)) ?_
        | refine r_val rfl rfl rfl (law_eql_bool rfl rfl rfl) (hT rfl (hT rfl Abs.h0)) ?_
        | refine r_val rfl rfl rfl (law_neq_bool rfl rfl rfl) (hT rfl (hT rfl Abs.h0)) ?_
        | refine r_val rfl rfl rfl (law_eql_str rfl (decide_eq_true (by assumption))) (hT rfl (hT rfl Abs.h0)) ?_
        | refine r_val rfl rfl rfl (law_eql_str rfl (decide_eq_false (by assumption))) (hT rfl (hT rfl Abs.h0)) ?_
        | refine r_val rfl rfl rfl (law_neq_str rfl (decide_eq_true (by assumption))) (hT rfl (hT rfl Abs.h0)) ?_
        | refine r_val rfl rfl rfl (law_neq_str rfl (decide_eq_false (by simpa using (by assumption)))) (hT rfl (hT rfl Abs.h0)) ?_
        | refine r_val rfl rfl rfl (law_build (vs := []) tb_ok rfl rfl rfl rfl rfl rfl (by rfl) (by rfl)) Abs.h0 ?_
        | refine r_val rfl rfl rfl (law_box_fz rfl (by rfl) (by rfl)) (hT rfl Abs.h0) ?_
        | refine r_new rfl rfl rfl rfl (law_alloc tb_ok rfl rfl rfl) Abs.h0 ?_
        | refine r_set rfl rfl (law_store tb_ok rfl rfl rfl rfl rfl rfl rfl rfl) (hT rfl (hT rfl (hN rfl Abs.h0))) ?_
        | refine r_off rfl rfl rfl ?_
        | refine r_off0 rfl rfl ?_
        | refine r_val rfl rfl rfl (law_call rfl (enters (by kernel_rfl)) (by rfl) (c1) (by rfl)) (hT rfl (hT rfl (hT rfl (hT rfl Abs.h0)))) ?_
        | refine r_val rfl rfl rfl (law_call rfl (enters (by kernel_rfl)) (by rfl) (c3) (by rfl)) (hT rfl (hT rfl Abs.h0)) ?_
        | refine r_val rfl rfl rfl (law_call rfl (enters (by kernel_rfl)) (by rfl) (begun_v) (by rfl)) Abs.h0 ?_)
end Go.Proofs.Ytnjaepdlfnidfaa.GrantS
