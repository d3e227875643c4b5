/- The document's consent text: its bits, its runs. -/
import Derived.Test.YtfhfpanemalbmaaDoorCoS
import Derived.Test.YtfhfpanemalbmaaDoorEld
namespace Go.Proofs.YtfhfpanemalbmaaDoor.ConY
open Go.RowKit Mem Abs BitsP BitsS BitsT SixtyP SixtyQ SixtyW ConP ConQ ConC ConA

abbrev TI : Nat := 3
set_option maxRecDepth 100000 in
set_option maxHeartbeats 4000000 in
theorem vendorBits_v {U : List Nat} {n : Nat} (hU : U.length ≤ 40) (hn : n ≤ 40) : ACalls Tryd.prog 23 [natsV U, natV n] (natsV (0 :: eachBit U n)) := by
  have c1 := fun v => has_v (U := U) (v := v) (by omega)
  have c2 := fun b => one_v (b := b)
  refine fun2 tb_ok Tryd.func23 rfl Tryd.ntmps23 Tryd.results23 rfl fun N => ?_
  repeat' (first
      | with_reducible first | refine awp_seq ?_ | refine awp_region ?_ | refine awp_draw mixed ?_ | refine then_n ?_ | refine awp_skip ?_ | refine awp_block ?_ | refine awp_exit ?_ | refine awp_ret ?_ | refine awp_label ?_ | refine then_exit ?_ | refine then_ret ?_ | refine blk_n ?_ | refine blk_ret ?_ | refine blk_exit ?_ | refine blk_other rfl ?_ | refine then_k ?_
      | refine awp_true rfl ?_
      | refine awp_false rfl ?_
      | refine awp_split rfl (fun hb => ?_) (fun hb => ?_)
      | (refine isR ?_; first | refine x_far [7] tb_ok rfl ?_ | refine r_nil ?_ | refine r_nild (by kernel_rfl) ?_ | refine x_bsO 7 tb_ok ?_ | refine x_bs tb_ok ?_ | refine x_addE ?_ | refine x_add ?_ | refine x_cat ?_ | refine x_leqT ?_ | refine x_leqF ?_ | refine x_leq (fun hc => ?_) (fun hc => ?_))
      | refine x_ret ?_
      | refine x_nor ?_
      | exact x_le)
  refine awp_forN (fun k => ⟨[(0, natsV U), (1, natV n), (5, .own 0 0 (0 :: eachBit U k).length), (6, .int .i64 ((k : Int) + 1))], [(0, some (.els TI 1 ((0 :: eachBit U k).map natV)))], 1, 21⟩) (fun k => k ≤ n) n 0 (by exact x_le) (Nat.zero_le _) ?_
  intro k hk
  have hlen := eachBit_len U k
  have hl : (0 :: eachBit U k).length = k + 1 := by rw [List.length_cons, hlen]
  by_cases hk2 : k < n
  · have cc := c1 (k + 1)
    have cb := c2 (U.contains (k + 1))
    have hs : (0 :: eachBit U k) ++ [(U.contains (k + 1)).toNat] = 0 :: eachBit U (k + 1) := by rw [eachBit_succ]; rfl
    have hk1 : ((k + 1 : Nat) : Int) = (k : Int) + 1 := by omega
    rw [natV, hk1] at cc
    generalize 0 :: eachBit U k = r at *
    repeat' (first
        | with_reducible first | refine awp_seq ?_ | refine awp_region ?_ | refine awp_draw mixed ?_ | refine then_n ?_ | refine awp_skip ?_ | refine awp_block ?_ | refine awp_exit ?_ | refine awp_ret ?_ | refine awp_label ?_ | refine then_exit ?_ | refine then_ret ?_ | refine blk_n ?_ | refine blk_ret ?_ | refine blk_exit ?_ | refine blk_other rfl ?_ | refine then_k ?_
        | refine awp_true rfl ?_
        | refine awp_false rfl ?_
        | refine awp_split rfl (fun hb => ?_) (fun hb => ?_)
        | (refine isR ?_; first | refine x_far [] tb_ok rfl ?_ | refine r_nil ?_ | refine r_nild (by kernel_rfl) ?_ | refine x_call (cc _) ?_ | refine x_call (cc) ?_ | refine x_call (cb _) ?_ | refine x_call (cb) ?_ | refine x_app natV tb_ok ?_ | refine x_bs tb_ok ?_ | refine x_addE ?_ | refine x_add ?_ | refine x_cat ?_ | refine x_leqT ?_ | refine x_leqF ?_ | refine x_leq (fun hc => ?_) (fun hc => ?_))
        | refine x_ret ?_
        | refine x_nor ?_
        | exact x_le)
    refine ⟨by omega, hk2, ?_⟩
    rw [← hs, hk1]
    exact (by exact x_len [1])
  · obtain rfl : k = n := by omega
    generalize 0 :: eachBit U k = r at *
    repeat' (first
        | with_reducible first | refine awp_seq ?_ | refine awp_region ?_ | refine awp_draw mixed ?_ | refine then_n ?_ | refine awp_skip ?_ | refine awp_block ?_ | refine awp_exit ?_ | refine awp_ret ?_ | refine awp_label ?_ | refine then_exit ?_ | refine then_ret ?_ | refine blk_n ?_ | refine blk_ret ?_ | refine blk_exit ?_ | refine blk_other rfl ?_ | refine then_k ?_
        | refine awp_true rfl ?_
        | refine awp_false rfl ?_
        | refine awp_split rfl (fun hb => ?_) (fun hb => ?_)
        | (refine isR ?_; first | refine x_far [] tb_ok rfl ?_ | refine r_nil ?_ | refine r_nild (by kernel_rfl) ?_ | refine x_bs tb_ok ?_ | refine x_addE ?_ | refine x_add ?_ | refine x_cat ?_ | refine x_leqT ?_ | refine x_leqF ?_ | refine x_leq (fun hc => ?_) (fun hc => ?_))
        | refine x_ret ?_
        | refine x_nor ?_
        | exact x_le)
    exact fro_all rfl
theorem u64_nat {n : Nat} (h : n < 9223372036854775808) : IntKind.u64.wrap (n : Int) = (n : Int) := by
  simp [IntKind.wrap, IntKind.bits, IntKind.signed]; omega
set_option maxRecDepth 100000 in
set_option maxHeartbeats 4000000 in
theorem vendorRuns_v {U : List Nat} {n : Nat} (hU : RightN U) (hn : n ≤ 40) : ACalls Tryd.prog 24 [natsV U, natV n] (natsV (1 :: (bitsOf (docRuns U n).length 6 ++ runsBits (docRuns U n)))) := by
  have hf := right_few hU
  have c1 := fun v => has_v (U := U) (v := v) (by omega)
  have c2 := fun b => one_v (b := b)
  have c3 : ∀ v, v ≤ 64 → _ := fun v hv => bitList_v (n := v) (W := 6) (by omega) (by omega)
  have hm40 : ∀ v ∈ U, v ≤ 40 := fun v hv => (hU.2 v hv).2
  have hno : ∀ v, 41 ≤ v → U.contains v = false := fun v hv => by
    rw [← Bool.not_eq_true, List.contains_iff_mem]; intro hm; have := hm40 v hm; omega
  refine fun2 tb_ok Tryd.func24 rfl Tryd.ntmps24 Tryd.results24 rfl fun N => ?_
  repeat' (first
      | with_reducible first | refine awp_seq ?_ | refine awp_region ?_ | refine awp_draw mixed ?_ | refine then_n ?_ | refine awp_skip ?_ | refine awp_block ?_ | refine awp_exit ?_ | refine awp_ret ?_ | refine awp_label ?_ | refine then_exit ?_ | refine then_ret ?_ | refine blk_n ?_ | refine blk_ret ?_ | refine blk_exit ?_ | refine blk_other rfl ?_ | refine then_k ?_
      | refine awp_true rfl ?_
      | refine awp_false rfl ?_
      | refine awp_split rfl (fun hb => ?_) (fun hb => ?_)
      | (refine isR ?_; first | refine x_far [] tb_ok rfl ?_ | refine r_nil ?_ | refine r_nild (by kernel_rfl) ?_ | refine x_bs tb_ok ?_ | refine x_addE ?_ | refine x_add ?_ | refine x_subE ?_ | refine x_sub ?_ | refine x_cat ?_ | refine x_leqT ?_ | refine x_leqF ?_ | refine x_leq (fun hc => ?_) (fun hc => ?_) | refine x_gtrT ?_ | refine x_gtrF ?_ | refine x_gtr (fun hc => ?_) (fun hc => ?_) | refine x_bytes tb_ok ?_ | refine x_cv64 tb_ok ?_)
      | refine x_ret ?_
      | refine x_nor ?_
      | exact x_le)
  refine awp_name (t := 5) TI 1 (by decide) rfl rfl ?_
  refine awp_forN (fun k => ⟨[(0, natsV U), (1, natV n), (5, .own 0 0 (runsBits (docRuns U k)).length), (6, natV (docRuns U k).length), (7, .int .i64 ((k : Int) + 1))], [(0, some (.els TI 1 ((runsBits (docRuns U k)).map natV)))], 1, 60⟩) (fun k => k ≤ n ∧ (docRuns U k).length ≤ k) n 0 (by exact x_le) ⟨Nat.zero_le _, Nat.le_refl _⟩ ?_
  rintro k ⟨hk, hmk⟩
  have hsz := sizes_le (docRuns U k)
  rw [← runsBits_len] at hsz
  by_cases hk2 : k < n
  · have hd := docRuns_succ U k
    have hk1 : ((k + 1 : Nat) : Int) = (k : Int) + 1 := by omega
    have hk0 : (k : Int) + 1 - 1 = (k : Int) := by omega
    have cv := c1 (k + 1)
    have cu := c1 k
    rw [natV, hk1] at cv
    by_cases hv : U.contains (k + 1) = true
    · by_cases hu : U.contains k = true
      · have hb : begR U (k + 1) = [] := by
          unfold begR
          rw [hv, show k + 1 - 1 = k from rfl, hu]; rfl
        rw [hb, List.append_nil] at hd
        rw [hv] at cv
        rw [hu] at cu
        generalize docRuns U k = r at *
        repeat' (first
            | with_reducible first | refine awp_seq ?_ | refine awp_region ?_ | refine awp_draw mixed ?_ | refine then_n ?_ | refine awp_skip ?_ | refine awp_block ?_ | refine awp_exit ?_ | refine awp_ret ?_ | refine awp_label ?_ | refine then_exit ?_ | refine then_ret ?_ | refine blk_n ?_ | refine blk_ret ?_ | refine blk_exit ?_ | refine blk_other rfl ?_ | refine then_k ?_
            | refine awp_true rfl ?_
            | refine awp_false rfl ?_
            | refine awp_split rfl (fun hb => ?_) (fun hb => ?_)
            | (refine isR ?_; first | refine x_far [] tb_ok rfl ?_ | refine r_nil ?_ | refine r_nild (by kernel_rfl) ?_ | refine x_call (cv _) ?_ | refine x_call (cv) ?_ | refine x_call (cu _) ?_ | refine x_call (cu) ?_ | refine x_bs tb_ok ?_ | refine x_addE ?_ | refine x_add ?_ | refine x_subE ?_ | refine x_sub ?_ | refine x_cat ?_ | refine x_leqT ?_ | refine x_leqF ?_ | refine x_leq (fun hc => ?_) (fun hc => ?_) | refine x_gtrT ?_ | refine x_gtrF ?_ | refine x_gtr (fun hc => ?_) (fun hc => ?_) | refine x_bytes tb_ok ?_ | refine x_cv64 tb_ok ?_)
            | refine x_ret ?_
            | refine x_nor ?_
            | exact x_le)
        refine ⟨⟨by omega, by rw [hd]; omega⟩, hk2, ?_⟩
        rw [hd, hk1]
        exact (by exact x_len [0])
      · have hu : U.contains k = false := by simpa using hu
        have hb : begR U (k + 1) = [(k + 1, endF U 41 (k + 1))] := by
          unfold begR
          rw [hv, show k + 1 - 1 = k from rfl, hu]; rfl
        have hge := endF_ge U 41 (k + 1)
        rw [hb] at hd
        rw [hv] at cv
        rw [hu] at cu
        generalize hE : endF U 41 (k + 1) = E at *
        generalize docRuns U k = r at *
        repeat' (first
            | with_reducible first | refine awp_seq ?_ | refine awp_region ?_ | refine awp_draw mixed ?_ | refine then_n ?_ | refine awp_skip ?_ | refine awp_block ?_ | refine awp_exit ?_ | refine awp_ret ?_ | refine awp_label ?_ | refine then_exit ?_ | refine then_ret ?_ | refine blk_n ?_ | refine blk_ret ?_ | refine blk_exit ?_ | refine blk_other rfl ?_ | refine then_k ?_
            | refine awp_true rfl ?_
            | refine awp_false rfl ?_
            | refine awp_split rfl (fun hb => ?_) (fun hb => ?_)
            | (refine isR ?_; first | refine x_far [] tb_ok rfl ?_ | refine r_nil ?_ | refine r_nild (by kernel_rfl) ?_ | refine x_call (cv _) ?_ | refine x_call (cv) ?_ | refine x_call (cu _) ?_ | refine x_call (cu) ?_ | refine x_bs tb_ok ?_ | refine x_addE ?_ | refine x_add ?_ | refine x_subE ?_ | refine x_sub ?_ | refine x_cat ?_ | refine x_leqT ?_ | refine x_leqF ?_ | refine x_leq (fun hc => ?_) (fun hc => ?_) | refine x_gtrT ?_ | refine x_gtrF ?_ | refine x_gtr (fun hc => ?_) (fun hc => ?_) | refine x_bytes tb_ok ?_ | refine x_cv64 tb_ok ?_)
            | refine x_ret ?_
            | refine x_nor ?_
            | exact x_le)
        refine awp_while (α := Nat × Nat) (fun x => ⟨[(0, natsV U), (1, natV n), (5, .own 0 0 (runsBits r).length), (6, natV r.length), (7, .int .i64 ((k : Int) + 1)), (8, natV x.2)], [(0, some (.els TI 1 ((runsBits r).map natV)))], 1, 60⟩) (fun x => endF U x.1 x.2 = E ∧ 41 ≤ x.1 + x.2 ∧ k + 1 ≤ x.2 ∧ x.2 ≤ 40) (fun x => x.1) (41, k + 1) (by exact x_le) ⟨hE, by dsimp only; omega, Nat.le_refl _, by dsimp only; omega⟩ ?_
        rintro ⟨m, e⟩ ⟨g1, g2, g3, g4⟩
        dsimp only at g1 g2 g3 g4
        have ce := c1 (e + 1)
        have he1 : natV (e + 1) = .int .i64 ((e : Int) + 1) := rfl
        by_cases he : U.contains (e + 1) = true
        · rw [he, he1] at ce
          have he40 : e + 1 ≤ 40 := by
            refine Nat.le_of_not_lt fun h => ?_
            rw [hno (e + 1) (by omega)] at he
            cases he
          rcases m with _ | m
          · omega
          rw [endF, if_pos he] at g1
          repeat' (first
              | with_reducible first | refine awp_seq ?_ | refine awp_region ?_ | refine awp_draw mixed ?_ | refine then_n ?_ | refine awp_skip ?_ | refine awp_block ?_ | refine awp_exit ?_ | refine awp_ret ?_ | refine awp_label ?_ | refine then_exit ?_ | refine then_ret ?_ | refine blk_n ?_ | refine blk_ret ?_ | refine blk_exit ?_ | refine blk_other rfl ?_ | refine then_k ?_
              | refine awp_true rfl ?_
              | refine awp_false rfl ?_
              | refine awp_split rfl (fun hb => ?_) (fun hb => ?_)
              | (refine isR ?_; first | refine x_far [] tb_ok rfl ?_ | refine r_nil ?_ | refine r_nild (by kernel_rfl) ?_ | refine x_call (ce _) ?_ | refine x_call (ce) ?_ | refine x_bs tb_ok ?_ | refine x_addE ?_ | refine x_add ?_ | refine x_subE ?_ | refine x_sub ?_ | refine x_cat ?_ | refine x_leqT ?_ | refine x_leqF ?_ | refine x_leq (fun hc => ?_) (fun hc => ?_) | refine x_gtrT ?_ | refine x_gtrF ?_ | refine x_gtr (fun hc => ?_) (fun hc => ?_) | refine x_bytes tb_ok ?_ | refine x_cv64 tb_ok ?_)
              | refine x_ret ?_
              | refine x_nor ?_
              | exact x_le)
          exact ⟨(m, e + 1), ⟨g1, by dsimp only; omega, by dsimp only; omega, he40⟩, Nat.lt_succ_self m, (by exact x_le)⟩
        · have he : U.contains (e + 1) = false := by simpa using he
          rw [endF_stop he] at g1
          subst g1
          rw [he, he1] at ce
          have hmany : natV (r.length + 1) = .int .i64 ((r.length : Int) + 1) := rfl
          have cb := c2 (!decide (k + 1 = e))
          have ck := c3 (k + 1) (by omega)
          have cE := c3 e (by omega)
          have w1 := u64_nat (n := k + 1) (by omega)
          have w2 := u64_nat (n := e) (by omega)
          rw [hk1] at ck w1
          have hl6 := bitsOf_len (k + 1) 6
          have hl7 := bitsOf_len e 6
          have hrl : (r ++ [(k + 1, e)]).length = r.length + 1 := by simp
          have hrb := runsBits_snoc r (k + 1, e)
          change runsBits (r ++ [(k + 1, e)]) = runsBits r ++ ((!decide (k + 1 = e)).toNat :: (bitsOf (k + 1) 6 ++ if k + 1 = e then [] else bitsOf e 6)) at hrb
          generalize hX : runsBits (r ++ [(k + 1, e)]) = X at *
          generalize runsBits r = R at *
          generalize hB1 : bitsOf (k + 1) 6 = B1 at *
          generalize hB2 : bitsOf e 6 = B2 at *
          by_cases hke : k + 1 = e
          · have hke' : ¬ ((k : Int) + 1 < (e : Int)) := by omega
            rw [decide_eq_true hke] at cb hrb
            rw [if_pos hke, List.append_nil] at hrb
            change ACalls _ _ [.bool false] _ at cb
            rw [show R ++ (!true).toNat :: B1 = (R ++ [(!true).toNat]) ++ B1 from by simp] at hrb
            repeat' (first
                | with_reducible first | refine awp_seq ?_ | refine awp_region ?_ | refine awp_draw mixed ?_ | refine then_n ?_ | refine awp_skip ?_ | refine awp_block ?_ | refine awp_exit ?_ | refine awp_ret ?_ | refine awp_label ?_ | refine then_exit ?_ | refine then_ret ?_ | refine blk_n ?_ | refine blk_ret ?_ | refine blk_exit ?_ | refine blk_other rfl ?_ | refine then_k ?_
                | refine awp_true rfl ?_
                | refine awp_false rfl ?_
                | refine awp_split rfl (fun hb => ?_) (fun hb => ?_)
                | (refine isR ?_; first | refine x_far [] tb_ok rfl ?_ | refine r_nil ?_ | refine r_nild (by kernel_rfl) ?_ | refine x_call (ce _) ?_ | refine x_call (ce) ?_ | refine x_call (cb _) ?_ | refine x_call (cb) ?_ | refine x_call (ck _) ?_ | refine x_call (ck) ?_ | refine x_cv .u64 tb_ok ?_ | refine x_app natV (a1 := ((!true).toNat)) tb_ok ?_ | refine x_appK natV (K' := B1) tb_ok ?_ (hlim := by simp [LIM]; omega) | refine x_bs tb_ok ?_ | refine x_addE ?_ | refine x_add ?_ | refine x_subE ?_ | refine x_sub ?_ | refine x_cat ?_ | refine x_leqT ?_ | refine x_leqF ?_ | refine x_leq (fun hc => ?_) (fun hc => ?_) | refine x_gtrT ?_ | refine x_gtrF ?_ | refine x_gtr (fun hc => ?_) (fun hc => ?_) | refine x_bytes tb_ok ?_ | refine x_cv64 tb_ok ?_)
                | refine x_ret ?_
                | refine x_nor ?_
                | exact x_le)
            refine ⟨⟨by omega, by rw [hd]; omega⟩, hk2, ?_⟩
            rw [hd, hX, hrb, hrl, hmany, hk1]
            exact (by exact x_len [2])
          · have hke' : (k : Int) + 1 < (e : Int) := by omega
            rw [decide_eq_false hke] at cb hrb
            rw [if_neg hke] at hrb
            change ACalls _ _ [.bool true] _ at cb
            rw [show R ++ (!false).toNat :: (B1 ++ B2) = ((R ++ [(!false).toNat]) ++ B1) ++ B2 from by simp] at hrb
            repeat' (first
                | with_reducible first | refine awp_seq ?_ | refine awp_region ?_ | refine awp_draw mixed ?_ | refine then_n ?_ | refine awp_skip ?_ | refine awp_block ?_ | refine awp_exit ?_ | refine awp_ret ?_ | refine awp_label ?_ | refine then_exit ?_ | refine then_ret ?_ | refine blk_n ?_ | refine blk_ret ?_ | refine blk_exit ?_ | refine blk_other rfl ?_ | refine then_k ?_
                | refine awp_true rfl ?_
                | refine awp_false rfl ?_
                | refine awp_split rfl (fun hb => ?_) (fun hb => ?_)
                | (refine isR ?_; first | refine x_far [] tb_ok rfl ?_ | refine r_nil ?_ | refine r_nild (by kernel_rfl) ?_ | refine x_call (ce _) ?_ | refine x_call (ce) ?_ | refine x_call (cb _) ?_ | refine x_call (cb) ?_ | refine x_call (ck _) ?_ | refine x_call (ck) ?_ | refine x_call (cE _) ?_ | refine x_call (cE) ?_ | refine x_cv .u64 tb_ok ?_ | refine x_app natV (a1 := ((!false).toNat)) tb_ok ?_ | refine x_appK natV (K' := B1) tb_ok ?_ (hlim := by simp [LIM]; omega) | refine x_appK natV (K' := B2) tb_ok ?_ (hlim := by simp [LIM]; omega) | refine x_bs tb_ok ?_ | refine x_addE ?_ | refine x_add ?_ | refine x_subE ?_ | refine x_sub ?_ | refine x_cat ?_ | refine x_leqT ?_ | refine x_leqF ?_ | refine x_leq (fun hc => ?_) (fun hc => ?_) | refine x_gtrT ?_ | refine x_gtrF ?_ | refine x_gtr (fun hc => ?_) (fun hc => ?_) | refine x_bytes tb_ok ?_ | refine x_cv64 tb_ok ?_)
                | refine x_ret ?_
                | refine x_nor ?_
                | exact x_le)
            refine ⟨⟨by omega, by rw [hd]; omega⟩, hk2, ?_⟩
            rw [hd, hX, hrb, hrl, hmany, hk1]
            exact (by exact x_len [3])
    · have hv : U.contains (k + 1) = false := by simpa using hv
      have hb : begR U (k + 1) = [] := by
        unfold begR
        rw [hv]; rfl
      rw [hb, List.append_nil] at hd
      rw [hv] at cv
      generalize docRuns U k = r at *
      repeat' (first
          | with_reducible first | refine awp_seq ?_ | refine awp_region ?_ | refine awp_draw mixed ?_ | refine then_n ?_ | refine awp_skip ?_ | refine awp_block ?_ | refine awp_exit ?_ | refine awp_ret ?_ | refine awp_label ?_ | refine then_exit ?_ | refine then_ret ?_ | refine blk_n ?_ | refine blk_ret ?_ | refine blk_exit ?_ | refine blk_other rfl ?_ | refine then_k ?_
          | refine awp_true rfl ?_
          | refine awp_false rfl ?_
          | refine awp_split rfl (fun hb => ?_) (fun hb => ?_)
          | (refine isR ?_; first | refine x_far [] tb_ok rfl ?_ | refine r_nil ?_ | refine r_nild (by kernel_rfl) ?_ | refine x_call (cv _) ?_ | refine x_call (cv) ?_ | refine x_bs tb_ok ?_ | refine x_addE ?_ | refine x_add ?_ | refine x_subE ?_ | refine x_sub ?_ | refine x_cat ?_ | refine x_leqT ?_ | refine x_leqF ?_ | refine x_leq (fun hc => ?_) (fun hc => ?_) | refine x_gtrT ?_ | refine x_gtrF ?_ | refine x_gtr (fun hc => ?_) (fun hc => ?_) | refine x_bytes tb_ok ?_ | refine x_cv64 tb_ok ?_)
          | refine x_ret ?_
          | refine x_nor ?_
          | exact x_le)
      refine ⟨⟨by omega, by rw [hd]; omega⟩, hk2, ?_⟩
      rw [hd, hk1]
      exact (by exact x_len [0])
  · obtain rfl : k = n := by omega
    have cm := c3 (docRuns U k).length (by omega)
    have hl6 := bitsOf_len (docRuns U k).length 6
    have w1 := u64_nat (n := (docRuns U k).length) (by omega)
    generalize hB1 : bitsOf (docRuns U k).length 6 = B1 at *
    generalize runsBits (docRuns U k) = R at *
    generalize (docRuns U k).length = m at *
    refine awp_freeze (f := natV) 0 5 rfl (fun _ => rfl) ?_
    repeat' (first
        | with_reducible first | refine awp_seq ?_ | refine awp_region ?_ | refine awp_draw mixed ?_ | refine then_n ?_ | refine awp_skip ?_ | refine awp_block ?_ | refine awp_exit ?_ | refine awp_ret ?_ | refine awp_label ?_ | refine then_exit ?_ | refine then_ret ?_ | refine blk_n ?_ | refine blk_ret ?_ | refine blk_exit ?_ | refine blk_other rfl ?_ | refine then_k ?_
        | refine awp_true rfl ?_
        | refine awp_false rfl ?_
        | refine awp_split rfl (fun hb => ?_) (fun hb => ?_)
        | (refine isR ?_; first | refine x_far [53] tb_ok rfl ?_ | refine r_nil ?_ | refine r_nild (by kernel_rfl) ?_ | refine x_call (cm _) ?_ | refine x_call (cm) ?_ | refine x_cv .u64 tb_ok ?_ | refine x_appK natV (L := [1]) (K' := B1) tb_ok ?_ (hlim := by simp [LIM]; omega) | refine x_appK natV (K' := R) tb_ok ?_ (hlim := by simp [LIM]; omega) | refine x_bsO 53 tb_ok ?_ | refine x_bs tb_ok ?_ | refine x_addE ?_ | refine x_add ?_ | refine x_subE ?_ | refine x_sub ?_ | refine x_cat ?_ | refine x_leqT ?_ | refine x_leqF ?_ | refine x_leq (fun hc => ?_) (fun hc => ?_) | refine x_gtrT ?_ | refine x_gtrF ?_ | refine x_gtr (fun hc => ?_) (fun hc => ?_) | refine x_bytes tb_ok ?_ | refine x_cv64 tb_ok ?_)
        | refine x_ret ?_
        | refine x_nor ?_
        | exact x_le)
    exact fro_all rfl
theorem pow2_v {n : Nat} (hn : n ≤ 63) : ACalls Tryd.prog 50 [.int .i64 (n : Int)] (.int .u64 ((2 ^ n : Nat) : Int)) := fun g N w vs hG hN hlen hv => by
  obtain ⟨vs⟩ := vs
  match vs, hlen with
  | [x0], _ =>
    obtain ⟨rfl, _⟩ := fz_int (hv 0 _ x0 rfl rfl)
    refine (BitsN.pow2_any n w hn).mono fun e w' ⟨h1, h2⟩ => ⟨_, h1, h2 ▸ Below.refl _ _, .int ?_⟩
    have : 2 ^ n ≤ 2 ^ 63 := Nat.pow_le_pow_right (by decide) hn
    have h3 : 2 ^ n ≤ 9223372036854775808 := this
    generalize 2 ^ n = z at h3
    exact ⟨by show (0 : Int) ≤ _; omega, by show _ ≤ (18446744073709551615 : Int); omega⟩
set_option maxRecDepth 100000 in
set_option maxHeartbeats 4000000 in
theorem bitList_m {n W : Nat} (hn : n < 18446744073709551616) (hW : W ≤ 64) : MCalls Tryd.prog 21 [.int .u64 (n : Int), .int .i64 (W : Int)] [] (.own 0 0 (bitsOf n W).length) [some (.els TI 1 ((bitsOf n W).map natV))] := by
  have hlW := bitsOf_len n W
  refine mfun tb_ok Tryd.func21 rfl Tryd.ntmps21 Tryd.results21 rfl rfl rfl rfl fun N pl => ?_
  repeat' (first
      | with_reducible first | refine awp_seq ?_ | refine awp_region ?_ | refine awp_draw mixed ?_ | refine then_n ?_ | refine awp_skip ?_ | refine awp_block ?_ | refine awp_exit ?_ | refine awp_ret ?_ | refine awp_label ?_ | refine then_exit ?_ | refine then_ret ?_ | refine blk_n ?_ | refine blk_ret ?_ | refine blk_exit ?_ | refine blk_other rfl ?_ | refine then_k ?_
      | refine awp_true rfl ?_
      | refine awp_false rfl ?_
      | refine awp_split rfl (fun hb => ?_) (fun hb => ?_)
      | (refine isR ?_; first | refine x_far [] tb_ok rfl ?_ | refine r_nil ?_ | refine r_nild (by kernel_rfl) ?_ | refine x_bs tb_ok ?_ | refine x_subE ?_ | refine x_sub ?_ | refine x_geqT ?_ | refine x_geqF ?_ | refine x_geq (fun hc => ?_) (fun hc => ?_) | refine x_bytes tb_ok ?_ | refine x_cv64 tb_ok ?_)
      | refine x_ret ?_
      | refine x_nor ?_
      | exact x_le)
  refine awp_name (t := 5) TI 1 (by decide) rfl rfl ?_
  refine ConS.awp_whileM (fun k : Nat => ⟨[(0, .int .u64 (n : Int)), (5, .own 0 0 ((bitsOf n W).take (W - k)).length), (6, .int .i64 ((k : Int) - 1))], [(0, some (.els TI 1 (((bitsOf n W).take (W - k)).map natV)))], 1, 23⟩) (fun k => k ≤ W) id W ?_ (Nat.le_refl _) ?_
  · rw [Nat.sub_self, List.take_zero]
    exact (by exact x_len [0])
  intro k hk
  rcases k with _ | k
  · rw [Nat.sub_zero, List.take_of_length_le (by rw [hlW]; exact Nat.le_refl _)]
    repeat' (first
        | with_reducible first | refine awp_seq ?_ | refine awp_region ?_ | refine awp_draw mixed ?_ | refine then_n ?_ | refine awp_skip ?_ | refine awp_block ?_ | refine awp_exit ?_ | refine awp_ret ?_ | refine awp_label ?_ | refine then_exit ?_ | refine then_ret ?_ | refine blk_n ?_ | refine blk_ret ?_ | refine blk_exit ?_ | refine blk_other rfl ?_ | refine then_k ?_
        | refine awp_true rfl ?_
        | refine awp_false rfl ?_
        | refine awp_split rfl (fun hb => ?_) (fun hb => ?_)
        | (refine isR ?_; first | refine x_far [] tb_ok rfl ?_ | refine r_nil ?_ | refine r_nild (by kernel_rfl) ?_ | refine x_bs tb_ok ?_ | refine x_subE ?_ | refine x_sub ?_ | refine x_geqT ?_ | refine x_geqF ?_ | refine x_geq (fun hc => ?_) (fun hc => ?_) | refine x_bytes tb_ok ?_ | refine x_cv64 tb_ok ?_)
        | refine x_mret [0] ?_ ?_
        | refine x_mnor [0] ?_ ?_
        | refine x_ret ?_
        | refine x_nor ?_
        | exact x_le)
    · rfl
    · exact .on (.same (nl_map fun _ => rfl)) .nil
  · have hk1 : (((k + 1 : Nat) : Int) - 1) = (k : Int) := by omega
    rw [hk1]
    have h1 := bitsOf_at n W (W - (k + 1)) (by omega)
    rw [show W - 1 - (W - (k + 1)) = k from by omega] at h1
    have hon : (bitsOf n W).take (W - k) = (bitsOf n W).take (W - (k + 1)) ++ [n / 2 ^ k % 2] := by
      rw [show W - k = (W - (k + 1)) + 1 from by omega, List.take_add_one, h1]
      rfl
    have hL : ((bitsOf n W).take (W - (k + 1))).length ≤ 64 := by rw [List.length_take]; omega
    have cp := pow2_v (n := k) (by omega)
    have h2 : 2 ^ k ≤ 2 ^ 63 := Nat.pow_le_pow_right (by decide) (by omega)
    have h2p : 0 < 2 ^ k := Nat.pow_pos (by decide)
    generalize (bitsOf n W).take (W - (k + 1)) = R at *
    have hqn : n / 2 ^ k ≤ n := Nat.div_le_self _ _
    have hq : IntKind.u64.wrap ((n : Int).tdiv ((2 ^ k : Nat) : Int)) = ((n / 2 ^ k : Nat) : Int) := by
      rw [Int.tdiv_eq_ediv_of_nonneg (by omega), ← Int.natCast_ediv]
      generalize n / 2 ^ k = y at *
      simp [IntKind.wrap, IntKind.bits, IntKind.signed]; omega
    have hb : ¬ ((2 ^ k : Nat) : Int) = 0 := by
      generalize 2 ^ k = y at *
      omega
    have hr : ((n / 2 ^ k : Nat) : Int).tmod 2 = ((n / 2 ^ k % 2 : Nat) : Int) := by
      generalize n / 2 ^ k = y at *
      rw [Int.tmod_eq_emod_of_nonneg (by omega)]; omega
    have hb2 : n / 2 ^ k % 2 < 2 := Nat.mod_lt _ (by decide)
    generalize n / 2 ^ k % 2 = b at *
    generalize n / 2 ^ k = y at *
    generalize 2 ^ k = z at *
    have hiy : InR .u64 ((y : Nat) : Int) := ⟨by show (0 : Int) ≤ _; omega, by show _ ≤ (18446744073709551615 : Int); omega⟩
    have hib : InR .u64 ((b : Nat) : Int) := ⟨by show (0 : Int) ≤ _; omega, by show _ ≤ (18446744073709551615 : Int); omega⟩
    have hw : IntKind.i64.wrap ((b : Nat) : Int) = (b : Int) := IntWalk.i64_in _ (by omega)
    repeat' (first
        | with_reducible first | refine awp_seq ?_ | refine awp_region ?_ | refine awp_draw mixed ?_ | refine then_n ?_ | refine awp_skip ?_ | refine awp_block ?_ | refine awp_exit ?_ | refine awp_ret ?_ | refine awp_label ?_ | refine then_exit ?_ | refine then_ret ?_ | refine blk_n ?_ | refine blk_ret ?_ | refine blk_exit ?_ | refine blk_other rfl ?_ | refine then_k ?_
        | refine awp_true rfl ?_
        | refine awp_false rfl ?_
        | refine awp_split rfl (fun hb => ?_) (fun hb => ?_)
        | (refine isR ?_; first | refine x_far [] tb_ok rfl ?_ | refine r_nil ?_ | refine r_nild (by kernel_rfl) ?_ | refine x_call (cp _) ?_ | refine x_call (cp) ?_ | refine x_quo ?_ (hb := hb) | refine x_rem ?_ | refine x_cv .i64 tb_ok ?_ | refine x_app natV (a1 := (b)) tb_ok ?_ | refine x_bs tb_ok ?_ | refine x_subE ?_ | refine x_sub ?_ | refine x_geqT ?_ | refine x_geqF ?_ | refine x_geq (fun hc => ?_) (fun hc => ?_) | refine x_bytes tb_ok ?_ | refine x_cv64 tb_ok ?_)
        | refine x_ret ?_
        | refine x_nor ?_
        | exact x_le)
    refine ⟨k, by omega, Nat.lt_succ_self k, ?_⟩
    rw [hon]
    exact (by exact x_len [1])
theorem last_at {U : List Nat} (h : 0 < U.length) : U[U.length - 1]? = some (lastOf U) := by
  unfold lastOf
  rw [List.getLast?_eq_getElem?]
  have : U.length - 1 < U.length := by omega
  rw [List.getElem?_eq_getElem this]
  rfl
theorem purf_at {g : Nat} {U : List Nat} (P : Nat → Bool) {k : Nat} (h : k < 10) : subV (V.cells (conN g P U)) (0 + 1 + ((k : Nat) : Int).toNat * 1) false 1 = some (.bool (P k)) := by
  have : k = 0 ∨ k = 1 ∨ k = 2 ∨ k = 3 ∨ k = 4 ∨ k = 5 ∨ k = 6 ∨ k = 7 ∨ k = 8 ∨ k = 9 := by omega
  rcases this with rfl | rfl | rfl | rfl | rfl | rfl | rfl | rfl | rfl | rfl <;> rfl
set_option maxRecDepth 100000 in
set_option maxHeartbeats 4000000 in
theorem textOf_v {g : Nat} {P : Nat → Bool} {U : List Nat} (hg : g ≤ 68719476735) (hU : RightN U) : ACalls Tryd.prog 10 [conN g P U] (strT (conText g P U)) := by
  have hf := right_few hU
  have hl40 := lastOf_le hU
  have hlc := conBits_len g P U
  have hml : (U.map natV).length = U.length := List.length_map _
  have c0 := bitList_m (n := 1) (W := 6) (by omega) (by omega)
  have c1 := bitList_v (n := g) (W := 36) (by omega) (by omega)
  have w1 := u64_nat (n := g) (by omega)
  have c2 := fun b => one_v (b := b)
  have c3 := bitList_v (n := lastOf U) (W := 6) (by omega) (by omega)
  have w3 := u64_nat (n := lastOf U) (by omega)
  have c4 := vendorBits_v (U := U) (n := lastOf U) hf hl40
  have c5 := vendorRuns_v (n := lastOf U) hU hl40
  rw [doc_runs U (lastOf U) hU (Nat.le_refl _)] at c5
  have hwr : writeF (packT (conBits g P U)) = (conText g P U, 0) := by
    unfold writeF
    rw [if_neg (by rw [packT_len]; omega)]
    rfl
  have c6 := bitBytes_v (conBits_bin g P U)
  have c7 := sixOf_v (l := packT (conBits g P U)) (by rw [packT_len]; omega)
  rw [hwr] at c7
  change ACalls _ _ [natsV (conBits g P U)] (strT (packT (conBits g P U))) at c6
  have h36 := bitsOf_len g 36
  have h6 := bitsOf_len (lastOf U) 6
  have h1 := bitsOf_len 1 6
  have hR := byRuns_len U
  have hE := byEach_len U
  have hsz := sizes_le (runsF U)
  have hn := runs_len U
  change ACalls _ _ _ (natsV (byRuns U)) at c5
  change ACalls _ _ _ (natsV (byEach U)) at c4
  have hcon : conBits g P U = ((((bitsOf 1 6 ++ bitsOf g 36) ++ purpBits P 10) ++ bitsOf (lastOf U) 6) ++ vendBits U) := rfl
  have hsh := short_iff U
  have hvb : vendBits U = bif short U then byRuns U else byEach U := rfl
  generalize packT (conBits g P U) = PT at *
  rw [hcon, hvb, hsh] at c6
  generalize hTX : conText g P U = TX at *
  generalize byRuns U = bR at *
  generalize byEach U = bE at *
  clear hcon hvb hsh hwr hTX hlc
  generalize bitsOf 1 6 = B1 at *
  generalize bitsOf g 36 = B2 at *
  generalize hla : bitsOf (lastOf U) 6 = B4 at *
  refine fun1 tb_ok Tryd.func10 rfl Tryd.ntmps10 Tryd.results10 rfl fun N => ?_
  repeat' (first
      | with_reducible first | refine awp_seq ?_ | refine awp_region ?_ | refine awp_draw mixed ?_ | refine then_n ?_ | refine awp_skip ?_ | refine awp_block ?_ | refine awp_exit ?_ | refine awp_ret ?_ | refine awp_label ?_ | refine then_exit ?_ | refine then_ret ?_ | refine blk_n ?_ | refine blk_ret ?_ | refine blk_exit ?_ | refine blk_other rfl ?_ | refine then_k ?_
      | refine awp_true rfl ?_
      | refine awp_false rfl ?_
      | refine awp_split rfl (fun hb => ?_) (fun hb => ?_)
      | (refine isR ?_; first | refine x_far [] tb_ok rfl ?_ | refine r_nil ?_ | refine r_nild (by kernel_rfl) ?_ | refine x_m [] [0] (c0 _) ?_ | refine x_m0 [] [0] (c0 _) ?_ | refine x_m [] [0] (c0) ?_ | refine x_m0 [] [0] (c0) ?_ | refine x_call (c1 _) ?_ | refine x_call (c1) ?_ | refine x_cv .u64 tb_ok ?_ | refine x_appK natV (K' := B2) tb_ok ?_ (hlim := by simp [LIM]; omega) | refine x_bs tb_ok ?_ | refine x_addE ?_ | refine x_add ?_ | refine x_subE ?_ | refine x_sub ?_ | refine x_cat ?_ | refine x_lenF tb_ok ?_ | refine x_lenO tb_ok ?_ | refine x_lenN tb_ok ?_ | refine x_lenS ?_ | refine x_lssT ?_ | refine x_lssF ?_ | refine x_lss (fun hc => ?_) (fun hc => ?_) | refine x_gtrT ?_ | refine x_gtrF ?_ | refine x_gtr (fun hc => ?_) (fun hc => ?_) | refine x_iaF tb_ok ?_ | refine x_iaO tb_ok ?_ | refine x_iaA tb_ok ?_ | refine x_iaAF tb_ok ?_ | refine x_bytes tb_ok ?_ | refine x_cv64 tb_ok ?_)
      | refine x_ret ?_
      | refine x_nor ?_
      | exact x_le)
  refine ConS.awp_whileM (fun k : Nat => ⟨[(1, .fp (V.cells (conN g P U)) 0), (3, .own 0 0 ((B1 ++ B2) ++ purpBits P k).length), (4, natV k)], [(0, some (.els TI 1 (((B1 ++ B2) ++ purpBits P k).map natV)))], 1, 72⟩) (fun k => k ≤ 10) (fun k => 10 - k) 0 ?_ (Nat.zero_le _) ?_
  · rw [show purpBits P 0 = [] from rfl, List.append_nil]
    exact (by exact x_len [1])
  intro k hk
  have hlp := purpBits_len P k
  have hl12 : ((B1 ++ B2) ++ purpBits P k).length = 42 + k := by rw [List.length_append, List.length_append, h1, h36, hlp]
  by_cases hk2 : k < 10
  · have hpk := purf_at (g := g) (U := U) P hk2
    have cb := c2 (P k)
    have hst : (B1 ++ B2) ++ purpBits P (k + 1) = ((B1 ++ B2) ++ purpBits P k) ++ [(P k).toNat] := by rw [purpBits_succ, List.append_assoc, List.append_assoc, List.append_assoc]
    generalize hq1 : (B1 ++ B2) ++ purpBits P (k + 1) = q1 at *
    generalize (B1 ++ B2) ++ purpBits P k = q at *
    subst hst
    repeat' (first
        | with_reducible first | refine awp_seq ?_ | refine awp_region ?_ | refine awp_draw mixed ?_ | refine then_n ?_ | refine awp_skip ?_ | refine awp_block ?_ | refine awp_exit ?_ | refine awp_ret ?_ | refine awp_label ?_ | refine then_exit ?_ | refine then_ret ?_ | refine blk_n ?_ | refine blk_ret ?_ | refine blk_exit ?_ | refine blk_other rfl ?_ | refine then_k ?_
        | refine awp_true rfl ?_
        | refine awp_false rfl ?_
        | refine awp_split rfl (fun hb => ?_) (fun hb => ?_)
        | (refine isR ?_; first | refine x_far [] tb_ok rfl ?_ | refine r_nil ?_ | refine r_nild (by kernel_rfl) ?_ | refine r_val rfl rfl rfl (law_load_fp tb_ok rfl rfl hpk) (hT rfl Abs.h0) ?_ | refine x_call (cb _) ?_ | refine x_call (cb) ?_ | refine x_app natV (a1 := ((P k).toNat)) tb_ok ?_ | refine x_bs tb_ok ?_ | refine x_addE ?_ | refine x_add ?_ | refine x_subE ?_ | refine x_sub ?_ | refine x_cat ?_ | refine x_lenF tb_ok ?_ | refine x_lenO tb_ok ?_ | refine x_lenN tb_ok ?_ | refine x_lenS ?_ | refine x_lssT ?_ | refine x_lssF ?_ | refine x_lss (fun hc => ?_) (fun hc => ?_) | refine x_gtrT ?_ | refine x_gtrF ?_ | refine x_gtr (fun hc => ?_) (fun hc => ?_) | refine x_iaF tb_ok ?_ | refine x_iaO tb_ok ?_ | refine x_iaA tb_ok ?_ | refine x_iaAF tb_ok ?_ | refine x_bytes tb_ok ?_ | refine x_cv64 tb_ok ?_)
        | refine x_ret ?_
        | refine x_nor ?_
        | exact x_le)
    refine ⟨k + 1, by omega, by omega, ?_⟩
    rw [hq1]
    exact (by exact x_len [1])
  · obtain rfl : k = 10 := by omega
    clear c0 c1 c2 w1 hlp
    generalize (B1 ++ B2) ++ purpBits P 10 = q at *
    have hmR : (bR.map natV).length = bR.length := List.length_map _
    have hmE : (bE.map natV).length = bE.length := List.length_map _
    have hU0 : U.length = 0 → lastOf U = 0 := fun h => by rw [List.eq_nil_of_length_eq_zero h]; rfl
    have hat := fun h => at_map (f := natV) (last_at (U := U) h)
    by_cases hc : bR.length < bE.length
    · rw [decide_eq_true hc, cond_true] at c6
      by_cases hu : 0 < U.length
      · have hat := hat hu
        have hk1 : ((U.map natV).length : Int) - 1 = ((U.length - 1 : Nat) : Int) := by omega
        repeat' (first
            | refine awp_freeze (f := natV) 2 3 rfl (fun _ => rfl) ?_
            | with_reducible first | refine awp_seq ?_ | refine awp_region ?_ | refine awp_draw mixed ?_ | refine then_n ?_ | refine awp_skip ?_ | refine awp_block ?_ | refine awp_exit ?_ | refine awp_ret ?_ | refine awp_label ?_ | refine then_exit ?_ | refine then_ret ?_ | refine blk_n ?_ | refine blk_ret ?_ | refine blk_exit ?_ | refine blk_other rfl ?_ | refine then_k ?_
            | refine awp_true rfl ?_
            | refine awp_false rfl ?_
            | refine awp_split rfl (fun hb => ?_) (fun hb => ?_)
            | (refine isR ?_; first | refine x_far [] tb_ok rfl ?_ | refine r_nil ?_ | refine r_nild (by kernel_rfl) ?_ | refine x_call (c3 _) ?_ | refine x_call (c3) ?_ | refine x_call (c4 _) ?_ | refine x_call (c4) ?_ | refine x_call (c5 _) ?_ | refine x_call (c5) ?_ | refine x_call (c6 _) ?_ | refine x_call (c6) ?_ | refine x_call (c7 _) ?_ | refine x_call (c7) ?_ | refine x_cv .u64 tb_ok ?_ | refine x_appK natV (K' := B4) tb_ok ?_ (hlim := by simp [LIM]; omega) | refine x_appK natV (K' := bR) tb_ok ?_ (hlim := by simp [LIM]; omega) | refine x_bs tb_ok ?_ | refine x_addE ?_ | refine x_add ?_ | refine x_subE ?_ | refine x_sub ?_ | refine x_cat ?_ | refine x_lenF tb_ok ?_ | refine x_lenO tb_ok ?_ | refine x_lenN tb_ok ?_ | refine x_lenS ?_ | refine x_lssT ?_ | refine x_lssF ?_ | refine x_lss (fun hc => ?_) (fun hc => ?_) | refine x_gtrT ?_ | refine x_gtrF ?_ | refine x_gtr (fun hc => ?_) (fun hc => ?_) | refine x_iaF tb_ok ?_ | refine x_iaO tb_ok ?_ | refine x_iaA tb_ok ?_ | refine x_iaAF tb_ok ?_ | refine x_bytes tb_ok ?_ | refine x_cv64 tb_ok ?_)
            | refine x_ret ?_
            | refine x_nor ?_
            | exact x_le)
        rfl
      · have h0 := hU0 (by omega)
        exfalso; omega
    · rw [decide_eq_false hc, cond_false] at c6
      by_cases hu : 0 < U.length
      · have hat := hat hu
        have hk1 : ((U.map natV).length : Int) - 1 = ((U.length - 1 : Nat) : Int) := by omega
        repeat' (first
            | refine awp_freeze (f := natV) 2 3 rfl (fun _ => rfl) ?_
            | with_reducible first | refine awp_seq ?_ | refine awp_region ?_ | refine awp_draw mixed ?_ | refine then_n ?_ | refine awp_skip ?_ | refine awp_block ?_ | refine awp_exit ?_ | refine awp_ret ?_ | refine awp_label ?_ | refine then_exit ?_ | refine then_ret ?_ | refine blk_n ?_ | refine blk_ret ?_ | refine blk_exit ?_ | refine blk_other rfl ?_ | refine then_k ?_
            | refine awp_true rfl ?_
            | refine awp_false rfl ?_
            | refine awp_split rfl (fun hb => ?_) (fun hb => ?_)
            | (refine isR ?_; first | refine x_far [] tb_ok rfl ?_ | refine r_nil ?_ | refine r_nild (by kernel_rfl) ?_ | refine x_call (c3 _) ?_ | refine x_call (c3) ?_ | refine x_call (c4 _) ?_ | refine x_call (c4) ?_ | refine x_call (c5 _) ?_ | refine x_call (c5) ?_ | refine x_call (c6 _) ?_ | refine x_call (c6) ?_ | refine x_call (c7 _) ?_ | refine x_call (c7) ?_ | refine x_cv .u64 tb_ok ?_ | refine x_appK natV (K' := B4) tb_ok ?_ (hlim := by simp [LIM]; omega) | refine x_appK natV (K' := bE) tb_ok ?_ (hlim := by simp [LIM]; omega) | refine x_bs tb_ok ?_ | refine x_addE ?_ | refine x_add ?_ | refine x_subE ?_ | refine x_sub ?_ | refine x_cat ?_ | refine x_lenF tb_ok ?_ | refine x_lenO tb_ok ?_ | refine x_lenN tb_ok ?_ | refine x_lenS ?_ | refine x_lssT ?_ | refine x_lssF ?_ | refine x_lss (fun hc => ?_) (fun hc => ?_) | refine x_gtrT ?_ | refine x_gtrF ?_ | refine x_gtr (fun hc => ?_) (fun hc => ?_) | refine x_iaF tb_ok ?_ | refine x_iaO tb_ok ?_ | refine x_iaA tb_ok ?_ | refine x_iaAF tb_ok ?_ | refine x_bytes tb_ok ?_ | refine x_cv64 tb_ok ?_)
            | refine x_ret ?_
            | refine x_nor ?_
            | exact x_le)
        rfl
      · have h0 := hU0 (by omega)
        rw [h0] at c3 c4 c5 w3
        repeat' (first
            | refine awp_freeze (f := natV) 2 3 rfl (fun _ => rfl) ?_
            | with_reducible first | refine awp_seq ?_ | refine awp_region ?_ | refine awp_draw mixed ?_ | refine then_n ?_ | refine awp_skip ?_ | refine awp_block ?_ | refine awp_exit ?_ | refine awp_ret ?_ | refine awp_label ?_ | refine then_exit ?_ | refine then_ret ?_ | refine blk_n ?_ | refine blk_ret ?_ | refine blk_exit ?_ | refine blk_other rfl ?_ | refine then_k ?_
            | refine awp_true rfl ?_
            | refine awp_false rfl ?_
            | refine awp_split rfl (fun hb => ?_) (fun hb => ?_)
            | (refine isR ?_; first | refine x_far [] tb_ok rfl ?_ | refine r_nil ?_ | refine r_nild (by kernel_rfl) ?_ | refine x_call (c3 _) ?_ | refine x_call (c3) ?_ | refine x_call (c4 _) ?_ | refine x_call (c4) ?_ | refine x_call (c5 _) ?_ | refine x_call (c5) ?_ | refine x_call (c6 _) ?_ | refine x_call (c6) ?_ | refine x_call (c7 _) ?_ | refine x_call (c7) ?_ | refine x_cv .u64 tb_ok ?_ | refine x_appK natV (K' := B4) tb_ok ?_ (hlim := by simp [LIM]; omega) | refine x_appK natV (K' := bE) tb_ok ?_ (hlim := by simp [LIM]; omega) | refine x_bs tb_ok ?_ | refine x_addE ?_ | refine x_add ?_ | refine x_subE ?_ | refine x_sub ?_ | refine x_cat ?_ | refine x_lenF tb_ok ?_ | refine x_lenO tb_ok ?_ | refine x_lenN tb_ok ?_ | refine x_lenS ?_ | refine x_lssT ?_ | refine x_lssF ?_ | refine x_lss (fun hc => ?_) (fun hc => ?_) | refine x_gtrT ?_ | refine x_gtrF ?_ | refine x_gtr (fun hc => ?_) (fun hc => ?_) | refine x_iaF tb_ok ?_ | refine x_iaO tb_ok ?_ | refine x_iaA tb_ok ?_ | refine x_iaAF tb_ok ?_ | refine x_bytes tb_ok ?_ | refine x_cv64 tb_ok ?_)
            | refine x_ret ?_
            | refine x_nor ?_
            | exact x_le)
        rfl
end Go.Proofs.YtfhfpanemalbmaaDoor.ConY
