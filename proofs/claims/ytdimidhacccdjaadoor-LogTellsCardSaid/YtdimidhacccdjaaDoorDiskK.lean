/- The document's head of a log. -/
import Derived.Test.YtdimidhacccdjaaDoorDiskJ
namespace Go.Proofs.YtdimidhacccdjaaDoor.DiskK
open Go.RowKit Mem Abs TreeW NumP WordS DiskP DiskG DiskH DiskI DiskJ

abbrev NUMS (s : List UInt8) (v r : Abs.V) (b : Bool) : Prop := ACalls Tryd.prog 47 [strT s, .int .i64 2] (.tup [v, r, .bool b])
abbrev HEAD (s : List UInt8) (n : Nat) (x y : Int) (b : Bool) : Prop := ACalls Tryd.prog 42 [strT s, .int .i64 (n : Int)] (.tup [.int .i64 x, .int .i64 y, .bool b])
set_option maxRecDepth 100000 in
set_option maxHeartbeats 4000000 in
theorem headNo_v {s : List UInt8} {n : Nat} (c1 : NUMS s .nils (strT []) false) : HEAD s n 0 0 false := by
  refine fun2 tb_ok Tryd.func42 rfl Tryd.ntmps42 Tryd.results42 rfl fun N => ?_
  repeat' (first
      | with_reducible first | refine awp_seq ?_ | refine awp_region ?_ | refine awp_draw mixed ?_ | refine then_n ?_ | refine awp_skip ?_ | refine awp_block ?_ | refine awp_exit ?_ | refine awp_ret ?_ | refine awp_label ?_ | refine then_exit ?_ | refine then_ret ?_ | refine blk_n ?_ | refine blk_ret ?_ | refine blk_exit ?_ | refine blk_other rfl ?_ | refine then_k ?_
      | refine awp_true rfl ?_
      | refine awp_false rfl ?_
      | refine awp_split rfl (fun hb => ?_) (fun hb => ?_)
      | (refine isR ?_; first | refine x_far [] tb_ok rfl ?_ | refine r_nil ?_ | refine r_nild (by kernel_rfl) ?_ | refine x_call (c1 _) ?_ | refine x_call (c1) ?_ | refine x_subE ?_ | refine x_sub ?_ | refine x_lssT ?_ | refine x_lssF ?_ | refine x_lss (fun hc => ?_) (fun hc => ?_) | refine x_gtrT ?_ | refine x_gtrF ?_ | refine x_gtr (fun hc => ?_) (fun hc => ?_) | refine x_neqT ?_ | refine x_neqF ?_ | refine x_neq (fun hc => ?_) (fun hc => ?_) | refine x_neqB ?_ | refine x_neqST ?_ | refine x_neqSF ?_ | refine x_neqS (fun hc => ?_) (fun hc => ?_) | refine x_neqI ?_ | refine x_neqN ?_ | refine x_iaF tb_ok ?_ | refine x_iaO tb_ok ?_ | refine x_iaA tb_ok ?_ | refine x_iaAF tb_ok ?_ | refine x_neqA tb_ok ?_ | refine x_neqAS tb_ok (fun hc => ?_) (fun hc => ?_))
      | refine x_ret ?_
      | refine x_nor ?_
      | exact x_le)
  rfl
set_option maxRecDepth 100000 in
set_option maxHeartbeats 4000000 in
theorem headYes_v {s : List UInt8} {n t m : Nat} (hn : n ≤ 40) (h1 : t ≤ 1000000) (h2 : m ≤ t) (h3 : m + 2 ≤ n) (c1 : NUMS s (.fro [.int .i64 (t : Int), .int .i64 (m : Int)]) (strT []) true) : HEAD s n t m true := by
  have e0 : [V.int .i64 (t : Int), V.int .i64 (m : Int)][0]? = some (V.int .i64 (t : Int)) := rfl
  have e1 : [V.int .i64 (t : Int), V.int .i64 (m : Int)][1]? = some (V.int .i64 (m : Int)) := rfl
  have hz : (([V.int .i64 (t : Int), V.int .i64 (m : Int)] : List Abs.V).length : Int) = 2 := rfl
  refine fun2 tb_ok Tryd.func42 rfl Tryd.ntmps42 Tryd.results42 rfl fun N => ?_
  repeat' (first
      | with_reducible first | refine awp_seq ?_ | refine awp_region ?_ | refine awp_draw mixed ?_ | refine then_n ?_ | refine awp_skip ?_ | refine awp_block ?_ | refine awp_exit ?_ | refine awp_ret ?_ | refine awp_label ?_ | refine then_exit ?_ | refine then_ret ?_ | refine blk_n ?_ | refine blk_ret ?_ | refine blk_exit ?_ | refine blk_other rfl ?_ | refine then_k ?_
      | refine awp_true rfl ?_
      | refine awp_false rfl ?_
      | refine awp_split rfl (fun hb => ?_) (fun hb => ?_)
      | (refine isR ?_; first | refine x_far [] tb_ok rfl ?_ | refine r_nil ?_ | refine r_nild (by kernel_rfl) ?_ | refine x_call (c1 _) ?_ | refine x_call (c1) ?_ | refine x_subE ?_ | refine x_sub ?_ | refine x_lssT ?_ | refine x_lssF ?_ | refine x_lss (fun hc => ?_) (fun hc => ?_) | refine x_gtrT ?_ | refine x_gtrF ?_ | refine x_gtr (fun hc => ?_) (fun hc => ?_) | refine x_neqT ?_ | refine x_neqF ?_ | refine x_neq (fun hc => ?_) (fun hc => ?_) | refine x_neqB ?_ | refine x_neqST ?_ | refine x_neqSF ?_ | refine x_neqS (fun hc => ?_) (fun hc => ?_) | refine x_neqI ?_ | refine x_neqN ?_ | refine x_iaF tb_ok ?_ | refine x_iaO tb_ok ?_ | refine x_iaA tb_ok ?_ | refine x_iaAF tb_ok ?_ | refine x_neqA tb_ok ?_ | refine x_neqAS tb_ok (fun hc => ?_) (fun hc => ?_))
      | refine x_ret ?_
      | refine x_nor ?_
      | exact x_le)
  rfl
set_option maxRecDepth 100000 in
set_option maxHeartbeats 4000000 in
theorem headRest_v {s r : List UInt8} {n : Nat} {x y : Int} (hr : r ≠ []) (c1 : NUMS s (.fro [.int .i64 x, .int .i64 y]) (strT r) true) : HEAD s n 0 0 false := by
  have hz : (([V.int .i64 x, V.int .i64 y] : List Abs.V).length : Int) = 2 := rfl
  refine fun2 tb_ok Tryd.func42 rfl Tryd.ntmps42 Tryd.results42 rfl fun N => ?_
  repeat' (first
      | with_reducible first | refine awp_seq ?_ | refine awp_region ?_ | refine awp_draw mixed ?_ | refine then_n ?_ | refine awp_skip ?_ | refine awp_block ?_ | refine awp_exit ?_ | refine awp_ret ?_ | refine awp_label ?_ | refine then_exit ?_ | refine then_ret ?_ | refine blk_n ?_ | refine blk_ret ?_ | refine blk_exit ?_ | refine blk_other rfl ?_ | refine then_k ?_
      | refine awp_true rfl ?_
      | refine awp_false rfl ?_
      | refine awp_split rfl (fun hb => ?_) (fun hb => ?_)
      | (refine isR ?_; first | refine x_far [] tb_ok rfl ?_ | refine r_nil ?_ | refine r_nild (by kernel_rfl) ?_ | refine x_call (c1 _) ?_ | refine x_call (c1) ?_ | refine x_subE ?_ | refine x_sub ?_ | refine x_lssT ?_ | refine x_lssF ?_ | refine x_lss (fun hc => ?_) (fun hc => ?_) | refine x_gtrT ?_ | refine x_gtrF ?_ | refine x_gtr (fun hc => ?_) (fun hc => ?_) | refine x_neqT ?_ | refine x_neqF ?_ | refine x_neq (fun hc => ?_) (fun hc => ?_) | refine x_neqB ?_ | refine x_neqST ?_ | refine x_neqSF ?_ | refine x_neqS (fun hc => ?_) (fun hc => ?_) | refine x_neqI ?_ | refine x_neqN ?_ | refine x_iaF tb_ok ?_ | refine x_iaO tb_ok ?_ | refine x_iaA tb_ok ?_ | refine x_iaAF tb_ok ?_ | refine x_neqA tb_ok ?_ | refine x_neqAS tb_ok (fun hc => ?_) (fun hc => ?_))
      | refine x_ret ?_
      | refine x_nor ?_
      | exact x_le)
  rfl
set_option maxRecDepth 100000 in
set_option maxHeartbeats 4000000 in
theorem headOut_v {s : List UInt8} {n : Nat} {x y : Int} (hn : n ≤ 40) (hc : ¬ (0 ≤ x ∧ x ≤ 1000000 ∧ 0 ≤ y ∧ y ≤ x ∧ y + 2 ≤ (n : Int))) (c1 : NUMS s (.fro [.int .i64 x, .int .i64 y]) (strT []) true) : HEAD s n 0 0 false := by
  have e0 : [V.int .i64 x, V.int .i64 y][0]? = some (V.int .i64 x) := rfl
  have e1 : [V.int .i64 x, V.int .i64 y][1]? = some (V.int .i64 y) := rfl
  have hz : (([V.int .i64 x, V.int .i64 y] : List Abs.V).length : Int) = 2 := rfl
  refine fun2 tb_ok Tryd.func42 rfl Tryd.ntmps42 Tryd.results42 rfl fun N => ?_
  repeat' (first
      | with_reducible first | refine awp_seq ?_ | refine awp_region ?_ | refine awp_draw mixed ?_ | refine then_n ?_ | refine awp_skip ?_ | refine awp_block ?_ | refine awp_exit ?_ | refine awp_ret ?_ | refine awp_label ?_ | refine then_exit ?_ | refine then_ret ?_ | refine blk_n ?_ | refine blk_ret ?_ | refine blk_exit ?_ | refine blk_other rfl ?_ | refine then_k ?_
      | refine awp_true rfl ?_
      | refine awp_false rfl ?_
      | refine awp_split rfl (fun hb => ?_) (fun hb => ?_)
      | (refine isR ?_; first | refine x_far [] tb_ok rfl ?_ | refine r_nil ?_ | refine r_nild (by kernel_rfl) ?_ | refine x_call (c1 _) ?_ | refine x_call (c1) ?_ | refine x_subE ?_ | refine x_sub ?_ | refine x_lssT ?_ | refine x_lssF ?_ | refine x_lss (fun hc => ?_) (fun hc => ?_) | refine x_gtrT ?_ | refine x_gtrF ?_ | refine x_gtr (fun hc => ?_) (fun hc => ?_) | refine x_neqT ?_ | refine x_neqF ?_ | refine x_neq (fun hc => ?_) (fun hc => ?_) | refine x_neqB ?_ | refine x_neqST ?_ | refine x_neqSF ?_ | refine x_neqS (fun hc => ?_) (fun hc => ?_) | refine x_neqI ?_ | refine x_neqN ?_ | refine x_iaF tb_ok ?_ | refine x_iaO tb_ok ?_ | refine x_iaA tb_ok ?_ | refine x_iaAF tb_ok ?_ | refine x_neqA tb_ok ?_ | refine x_neqAS tb_ok (fun hc => ?_) (fun hc => ?_))
      | refine x_ret ?_
      | refine x_nor ?_
      | exact x_le)
  all_goals first
    | rfl
    | (exfalso; omega)
theorem headIn_v {s : List UInt8} {n : Nat} (hs : s.length ≤ 20000) (hn : n ≤ 40) : ∃ h : Nat × Nat, HEAD s n (h.1 : Int) (h.2 : Int) (hdF s n).isSome ∧ (∀ p, hdF s n = some p → h = p) ∧ (hdF s n = none → h = (0, 0)) := by
  obtain ⟨x, r, b, c1, r1, r2, r3⟩ := numberIn_v hs
  cases hh : hdF s n with
  | some p =>
    obtain ⟨t, m⟩ := p
    obtain ⟨h1, h2, h3, h4⟩ := hd_iff.1 hh
    obtain ⟨rfl, rfl, rfl⟩ := r3 t (dd m ++ 59 :: []) h2 h1
    obtain ⟨y, q, b2, c2, q1, q2, q3⟩ := numberIn_v (s := dd m ++ 59 :: []) (by omega)
    obtain ⟨rfl, rfl, rfl⟩ := q3 m [] (by omega) rfl
    exact ⟨(t, m), headYes_v hn h2 h3 h4 (numbers2_v c1 c2), fun p hp => by (cases hp; rfl), fun hp => by cases hp⟩
  | none =>
    refine ⟨(0, 0), ?_, (fun p hp => by cases hp), fun _ => rfl⟩
    cases b with
    | false => exact headNo_v (numbers0_v c1)
    | true =>
      obtain ⟨y, q, b2, c2, q1, q2, q3⟩ := numberIn_v (s := r) (by omega)
      cases b2 with
      | false => exact headNo_v (numbers1_v c1 c2)
      | true =>
        by_cases hq : q = []
        · subst hq
          refine headOut_v hn (fun ⟨g1, g2, g3, g4, g5⟩ => ?_) (numbers2_v c1 c2)
          have e : hdF s n = some (x.toNat, y.toNat) := hd_iff.2 ⟨?_, by omega, by omega, by omega⟩
          · rw [hh] at e; cases e
          · rw [r2 rfl, q2 rfl]
            unfold txt
            rw [← itoa_dd x.toNat, ← itoa_dd y.toNat, Int.toNat_of_nonneg g1, Int.toNat_of_nonneg g3]
        · exact headRest_v hq (numbers2_v c1 c2)
end Go.Proofs.YtdimidhacccdjaaDoor.DiskK
