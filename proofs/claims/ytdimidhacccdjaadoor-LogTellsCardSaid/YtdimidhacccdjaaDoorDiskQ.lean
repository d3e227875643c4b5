/- The document's log: its items; its steps. -/
import Derived.Test.YtdimidhacccdjaaDoorDiskN
import Derived.Test.YtdimidhacccdjaaDoorDiskE
namespace Go.Proofs.YtdimidhacccdjaaDoor.DiskQ
open Go.RowKit Mem Abs TreeW NumP WordS DiskP DiskA DiskB DiskC DiskG DiskH DiskI DiskJ DiskK DiskN

set_option maxRecDepth 100000 in
set_option maxHeartbeats 4000000 in
theorem logItems_v {d : Disk} : ACalls Tryd.prog 21 [d.v] (.tup [strsT (itemsF d).1, .int .i64 (itemsF d).2]) := by
  have c1 := logHead_v (d := d)
  unfold itemsF
  by_cases h0 : (countF d).2 = 0
  · rw [if_neg (by simpa using h0)]
    obtain ⟨l1, l2, l3, l4⟩ := DiskE.disk_bd (count_log.1 h0)
    rw [h0] at c1
    generalize (countF d).1 = h at *
    obtain ⟨t, m⟩ := h
    obtain ⟨K, W⟩ := d
    dsimp only at l1 l2 l3 l4 ⊢
    have hx : ((K.map strT).length : Int) = (K.length : Int) := by simp
    have c1 : ACalls Tryd.prog 36 [.agg [.fro (K.map strT), .fro (W.map Put.v)]] (.tup [.int .i64 (t : Int), .int .i64 (m : Int), .int .i64 0]) := c1
    have e : (K.drop 2).take m = List.drop (Int.toNat 2) (List.take (2 + (m : Int)).toNat K) := by
      have : (2 + (m : Int)).toNat = 2 + m := by omega
      rw [this, List.drop_take]
      show _ = List.take (2 + m - 2) (List.drop 2 K)
      congr 1
      omega
    rw [e]
    have hl : (List.drop (Int.toNat 2) (List.take (2 + (m : Int)).toNat K)).length ≤ 1000 := by rw [← e, List.length_take, List.length_drop]; omega
    clear e
    show ACalls _ _ [.agg [.fro (K.map strT), .fro (W.map Put.v)]] _
    refine fun1 tb_ok Tryd.func21 rfl Tryd.ntmps21 Tryd.results21 rfl fun N => ?_
    repeat' (first
        | with_reducible first | refine awp_seq ?_ | refine awp_region ?_ | refine awp_draw mixed ?_ | refine then_n ?_ | refine awp_skip ?_ | refine awp_block ?_ | refine awp_exit ?_ | refine awp_ret ?_ | refine awp_label ?_ | refine then_exit ?_ | refine then_ret ?_ | refine blk_n ?_ | refine blk_ret ?_ | refine blk_exit ?_ | refine blk_other rfl ?_ | refine then_k ?_
        | refine awp_true rfl ?_
        | refine awp_false rfl ?_
        | refine awp_split rfl (fun hb => ?_) (fun hb => ?_)
        | (refine isR ?_; first | refine x_far [16] tb_ok rfl ?_ | refine r_nil ?_ | refine r_nild (by kernel_rfl) ?_ | refine x_call (c1 _) ?_ | refine x_call (c1) ?_ | refine x_appK strT (L := []) (K' := List.drop (Int.toNat 2) (List.take (2 + (m : Int)).toNat K)) tb_ok ?_ | refine x_bsO 16 tb_ok ?_ | refine x_bs tb_ok ?_ | refine x_addE ?_ | refine x_add ?_ | refine x_cat ?_ | refine x_neqT ?_ | refine x_neqF ?_ | refine x_neq (fun hc => ?_) (fun hc => ?_) | refine x_neqB ?_ | refine x_neqST ?_ | refine x_neqSF ?_ | refine x_neqS (fun hc => ?_) (fun hc => ?_) | refine x_neqI ?_ | refine x_neqN ?_ | refine x_slSf tb_ok ?_ | refine x_slSt tb_ok ?_ | refine x_slSm tb_ok ?_ | refine x_slFf tb_ok ?_ | refine x_slFt tb_ok ?_ | refine x_slFm tb_ok ?_ | refine x_neqA tb_ok ?_ | refine x_neqAS tb_ok (fun hc => ?_) (fun hc => ?_))
        | refine x_ret ?_
        | refine x_nor ?_
        | exact x_le)
    show V.tup [V.fro (List.take ([] ++ List.drop (Int.toNat 2) (List.take (2 + (m : Int)).toNat K)).length (List.drop 0 (([] ++ List.drop (Int.toNat 2) (List.take (2 + (m : Int)).toNat K)).map strT))), _] = _
    rw [full]
    rfl
  · rw [if_pos h0]
    generalize (countF d) = h at *
    obtain ⟨⟨t, m⟩, e⟩ := h
    obtain ⟨K, W⟩ := d
    dsimp only at h0 c1
    refine ACalls.nfd (r := .tup [.nils, .int .i64 e]) ?_ rfl
    have c1 : ACalls Tryd.prog 36 [.agg [.fro (K.map strT), .fro (W.map Put.v)]] (.tup [.int .i64 (t : Int), .int .i64 (m : Int), .int .i64 e]) := c1
    show ACalls _ _ [.agg [.fro (K.map strT), .fro (W.map Put.v)]] _
    refine fun1 tb_ok Tryd.func21 rfl Tryd.ntmps21 Tryd.results21 rfl fun N => ?_
    repeat' (first
        | with_reducible first | refine awp_seq ?_ | refine awp_region ?_ | refine awp_draw mixed ?_ | refine then_n ?_ | refine awp_skip ?_ | refine awp_block ?_ | refine awp_exit ?_ | refine awp_ret ?_ | refine awp_label ?_ | refine then_exit ?_ | refine then_ret ?_ | refine blk_n ?_ | refine blk_ret ?_ | refine blk_exit ?_ | refine blk_other rfl ?_ | refine then_k ?_
        | refine awp_true rfl ?_
        | refine awp_false rfl ?_
        | refine awp_split rfl (fun hb => ?_) (fun hb => ?_)
        | (refine isR ?_; first | refine x_far [] tb_ok rfl ?_ | refine r_nil ?_ | refine r_nild (by kernel_rfl) ?_ | refine x_call (c1 _) ?_ | refine x_call (c1) ?_ | refine x_bs tb_ok ?_ | refine x_addE ?_ | refine x_add ?_ | refine x_cat ?_ | refine x_neqT ?_ | refine x_neqF ?_ | refine x_neq (fun hc => ?_) (fun hc => ?_) | refine x_neqB ?_ | refine x_neqST ?_ | refine x_neqSF ?_ | refine x_neqS (fun hc => ?_) (fun hc => ?_) | refine x_neqI ?_ | refine x_neqN ?_ | refine x_slSf tb_ok ?_ | refine x_slSt tb_ok ?_ | refine x_slSm tb_ok ?_ | refine x_slFf tb_ok ?_ | refine x_slFt tb_ok ?_ | refine x_slFm tb_ok ?_ | refine x_neqA tb_ok ?_ | refine x_neqAS tb_ok (fun hc => ?_) (fun hc => ?_))
        | refine x_ret ?_
        | refine x_nor ?_
        | exact x_le)
    rfl
theorem decN_v {u : Nat} (h : u < 10000000) : ACalls Tryd.prog 37 [.int .i64 (u : Int)] (strT (dd u)) := by
  have := decimal_v (x := (u : Int)) ⟨by simp only [rng]; omega, by simp only [rng]; omega⟩
  rwa [itoa_dd] at this
set_option maxRecDepth 100000 in
set_option maxHeartbeats 4000000 in
theorem logSteps_v {d : Disk} {s : List UInt8} : ACalls Tryd.prog 22 [d.v, strT s] (.tup [.fro ((stepsF d s).1.map Put.v), .int .i64 (stepsF d s).2]) := by
  have c1 := logHead_v (d := d)
  unfold stepsF
  by_cases h0 : (countF d).2 = 0
  · rw [if_neg (by simpa using h0)]
    obtain ⟨l1, l2, l3, l4⟩ := DiskE.disk_bd (count_log.1 h0)
    rw [h0] at c1
    generalize (countF d).1 = h at *
    obtain ⟨t, m⟩ := h
    obtain ⟨K, W⟩ := d
    dsimp only at l1 l2 l3 l4 ⊢
    have hx : ((K.map strT).length : Int) = (K.length : Int) := by simp
    have c1 : ACalls Tryd.prog 36 [.agg [.fro (K.map strT), .fro (W.map Put.v)]] (.tup [.int .i64 (t : Int), .int .i64 (m : Int), .int .i64 0]) := c1
    show ACalls _ _ [.agg [.fro (K.map strT), .fro (W.map Put.v)], _] _
    by_cases h1 : 20000 < s.length
    · rw [if_pos (.inl h1)]
      refine ACalls.nfd (r := .tup [.nils, .int .i64 2]) ?_ rfl
      refine fun2 tb_ok Tryd.func22 rfl Tryd.ntmps22 Tryd.results22 rfl fun N => ?_
      repeat' (first
          | with_reducible first | refine awp_seq ?_ | refine awp_region ?_ | refine awp_draw mixed ?_ | refine then_n ?_ | refine awp_skip ?_ | refine awp_block ?_ | refine awp_exit ?_ | refine awp_ret ?_ | refine awp_label ?_ | refine then_exit ?_ | refine then_ret ?_ | refine blk_n ?_ | refine blk_ret ?_ | refine blk_exit ?_ | refine blk_other rfl ?_ | refine then_k ?_
          | refine awp_true rfl ?_
          | refine awp_false rfl ?_
          | refine awp_split rfl (fun hb => ?_) (fun hb => ?_)
          | (refine isR ?_; first | refine x_far [] tb_ok rfl ?_ | refine r_nil ?_ | refine r_nild (by kernel_rfl) ?_ | refine x_call (c1 _) ?_ | refine x_call (c1) ?_ | refine x_bs tb_ok ?_ | refine x_addE ?_ | refine x_add ?_ | refine x_cat ?_ | refine x_lenF tb_ok ?_ | refine x_lenO tb_ok ?_ | refine x_lenN tb_ok ?_ | refine x_lenS ?_ | refine x_gtrT ?_ | refine x_gtrF ?_ | refine x_gtr (fun hc => ?_) (fun hc => ?_) | refine x_geqT ?_ | refine x_geqF ?_ | refine x_geq (fun hc => ?_) (fun hc => ?_) | refine x_neqT ?_ | refine x_neqF ?_ | refine x_neq (fun hc => ?_) (fun hc => ?_) | refine x_neqB ?_ | refine x_neqST ?_ | refine x_neqSF ?_ | refine x_neqS (fun hc => ?_) (fun hc => ?_) | refine x_neqI ?_ | refine x_neqN ?_ | refine x_neqA tb_ok ?_ | refine x_neqAS tb_ok (fun hc => ?_) (fun hc => ?_))
          | refine x_ret ?_
          | refine x_nor ?_
          | exact x_le)
      rfl
    · by_cases h2 : K.length ≤ 2 + m
      · rw [if_pos (.inr (.inl h2))]
        refine ACalls.nfd (r := .tup [.nils, .int .i64 2]) ?_ rfl
        refine fun2 tb_ok Tryd.func22 rfl Tryd.ntmps22 Tryd.results22 rfl fun N => ?_
        repeat' (first
            | with_reducible first | refine awp_seq ?_ | refine awp_region ?_ | refine awp_draw mixed ?_ | refine then_n ?_ | refine awp_skip ?_ | refine awp_block ?_ | refine awp_exit ?_ | refine awp_ret ?_ | refine awp_label ?_ | refine then_exit ?_ | refine then_ret ?_ | refine blk_n ?_ | refine blk_ret ?_ | refine blk_exit ?_ | refine blk_other rfl ?_ | refine then_k ?_
            | refine awp_true rfl ?_
            | refine awp_false rfl ?_
            | refine awp_split rfl (fun hb => ?_) (fun hb => ?_)
            | (refine isR ?_; first | refine x_far [] tb_ok rfl ?_ | refine r_nil ?_ | refine r_nild (by kernel_rfl) ?_ | refine x_call (c1 _) ?_ | refine x_call (c1) ?_ | refine x_bs tb_ok ?_ | refine x_addE ?_ | refine x_add ?_ | refine x_cat ?_ | refine x_lenF tb_ok ?_ | refine x_lenO tb_ok ?_ | refine x_lenN tb_ok ?_ | refine x_lenS ?_ | refine x_gtrT ?_ | refine x_gtrF ?_ | refine x_gtr (fun hc => ?_) (fun hc => ?_) | refine x_geqT ?_ | refine x_geqF ?_ | refine x_geq (fun hc => ?_) (fun hc => ?_) | refine x_neqT ?_ | refine x_neqF ?_ | refine x_neq (fun hc => ?_) (fun hc => ?_) | refine x_neqB ?_ | refine x_neqST ?_ | refine x_neqSF ?_ | refine x_neqS (fun hc => ?_) (fun hc => ?_) | refine x_neqI ?_ | refine x_neqN ?_ | refine x_neqA tb_ok ?_ | refine x_neqAS tb_ok (fun hc => ?_) (fun hc => ?_))
            | refine x_ret ?_
            | refine x_nor ?_
            | exact x_le)
        rfl
      · by_cases h3 : t = 1000000
        · rw [if_pos (.inr (.inr h3))]
          refine ACalls.nfd (r := .tup [.nils, .int .i64 2]) ?_ rfl
          refine fun2 tb_ok Tryd.func22 rfl Tryd.ntmps22 Tryd.results22 rfl fun N => ?_
          repeat' (first
              | with_reducible first | refine awp_seq ?_ | refine awp_region ?_ | refine awp_draw mixed ?_ | refine then_n ?_ | refine awp_skip ?_ | refine awp_block ?_ | refine awp_exit ?_ | refine awp_ret ?_ | refine awp_label ?_ | refine then_exit ?_ | refine then_ret ?_ | refine blk_n ?_ | refine blk_ret ?_ | refine blk_exit ?_ | refine blk_other rfl ?_ | refine then_k ?_
              | refine awp_true rfl ?_
              | refine awp_false rfl ?_
              | refine awp_split rfl (fun hb => ?_) (fun hb => ?_)
              | (refine isR ?_; first | refine x_far [] tb_ok rfl ?_ | refine r_nil ?_ | refine r_nild (by kernel_rfl) ?_ | refine x_call (c1 _) ?_ | refine x_call (c1) ?_ | refine x_bs tb_ok ?_ | refine x_addE ?_ | refine x_add ?_ | refine x_cat ?_ | refine x_lenF tb_ok ?_ | refine x_lenO tb_ok ?_ | refine x_lenN tb_ok ?_ | refine x_lenS ?_ | refine x_gtrT ?_ | refine x_gtrF ?_ | refine x_gtr (fun hc => ?_) (fun hc => ?_) | refine x_geqT ?_ | refine x_geqF ?_ | refine x_geq (fun hc => ?_) (fun hc => ?_) | refine x_neqT ?_ | refine x_neqF ?_ | refine x_neq (fun hc => ?_) (fun hc => ?_) | refine x_neqB ?_ | refine x_neqST ?_ | refine x_neqSF ?_ | refine x_neqS (fun hc => ?_) (fun hc => ?_) | refine x_neqI ?_ | refine x_neqN ?_ | refine x_neqA tb_ok ?_ | refine x_neqAS tb_ok (fun hc => ?_) (fun hc => ?_))
              | refine x_ret ?_
              | refine x_nor ?_
              | exact x_le)
          rfl
        · rw [if_neg (by omega)]
          have c2 : ACalls Tryd.prog 37 [.int .i64 ((t : Int) + 1)] (strT (dd (t + 1))) := decN_v (u := t + 1) (by omega)
          have c3 : ACalls Tryd.prog 37 [.int .i64 ((m : Int) + 1)] (strT (dd (m + 1))) := decN_v (u := m + 1) (by omega)
          have g1 : (dd (t + 1)).length ≤ 7 := dd_len (by omega)
          have g2 : (dd (m + 1)).length ≤ 7 := dd_len (by omega)
          have e : txt (t + 1) (m + 1) = ((dd (t + 1) ++ [59]) ++ dd (m + 1)) ++ [59] := by unfold txt; simp
          rw [e]
          clear e
          generalize dd (t + 1) = a at *
          generalize dd (m + 1) = b at *
          have e1 : ((t : Int) + 1).tmod 2 = (((t + 1) % 2 : Nat) : Int) := rfl
          have hr2 : InR .i64 (((t + 1) % 2 : Nat) : Int) := ⟨by simp only [rng]; omega, by simp only [rng]; omega⟩
          refine fun2 tb_ok Tryd.func22 rfl Tryd.ntmps22 Tryd.results22 rfl fun N => ?_
          repeat' (first
              | with_reducible first | refine awp_seq ?_ | refine awp_region ?_ | refine awp_draw mixed ?_ | refine then_n ?_ | refine awp_skip ?_ | refine awp_block ?_ | refine awp_exit ?_ | refine awp_ret ?_ | refine awp_label ?_ | refine then_exit ?_ | refine then_ret ?_ | refine blk_n ?_ | refine blk_ret ?_ | refine blk_exit ?_ | refine blk_other rfl ?_ | refine then_k ?_
              | refine awp_true rfl ?_
              | refine awp_false rfl ?_
              | refine awp_split rfl (fun hb => ?_) (fun hb => ?_)
              | (refine isR ?_; first | refine x_far [] tb_ok rfl ?_ | refine r_nil ?_ | refine r_nild (by kernel_rfl) ?_ | refine x_call (c1 _) ?_ | refine x_call (c1) ?_ | refine x_call (c2 _) ?_ | refine x_call (c2) ?_ | refine x_call (c3 _) ?_ | refine x_call (c3) ?_ | refine x_rem ?_ | refine x_bs tb_ok ?_ | refine x_addE ?_ | refine x_add ?_ | refine x_cat ?_ | refine x_lenF tb_ok ?_ | refine x_lenO tb_ok ?_ | refine x_lenN tb_ok ?_ | refine x_lenS ?_ | refine x_gtrT ?_ | refine x_gtrF ?_ | refine x_gtr (fun hc => ?_) (fun hc => ?_) | refine x_geqT ?_ | refine x_geqF ?_ | refine x_geq (fun hc => ?_) (fun hc => ?_) | refine x_neqT ?_ | refine x_neqF ?_ | refine x_neq (fun hc => ?_) (fun hc => ?_) | refine x_neqB ?_ | refine x_neqST ?_ | refine x_neqSF ?_ | refine x_neqS (fun hc => ?_) (fun hc => ?_) | refine x_neqI ?_ | refine x_neqN ?_ | refine x_neqA tb_ok ?_ | refine x_neqAS tb_ok (fun hc => ?_) (fun hc => ?_))
              | refine x_ret ?_
              | refine x_nor ?_
              | exact x_le)
          rfl
  · rw [if_pos h0]
    generalize (countF d) = h at *
    obtain ⟨⟨t, m⟩, e⟩ := h
    obtain ⟨K, W⟩ := d
    dsimp only at h0 c1
    refine ACalls.nfd (r := .tup [.nils, .int .i64 e]) ?_ rfl
    have c1 : ACalls Tryd.prog 36 [.agg [.fro (K.map strT), .fro (W.map Put.v)]] (.tup [.int .i64 (t : Int), .int .i64 (m : Int), .int .i64 e]) := c1
    show ACalls _ _ [.agg [.fro (K.map strT), .fro (W.map Put.v)], _] _
    refine fun2 tb_ok Tryd.func22 rfl Tryd.ntmps22 Tryd.results22 rfl fun N => ?_
    repeat' (first
        | with_reducible first | refine awp_seq ?_ | refine awp_region ?_ | refine awp_draw mixed ?_ | refine then_n ?_ | refine awp_skip ?_ | refine awp_block ?_ | refine awp_exit ?_ | refine awp_ret ?_ | refine awp_label ?_ | refine then_exit ?_ | refine then_ret ?_ | refine blk_n ?_ | refine blk_ret ?_ | refine blk_exit ?_ | refine blk_other rfl ?_ | refine then_k ?_
        | refine awp_true rfl ?_
        | refine awp_false rfl ?_
        | refine awp_split rfl (fun hb => ?_) (fun hb => ?_)
        | (refine isR ?_; first | refine x_far [] tb_ok rfl ?_ | refine r_nil ?_ | refine r_nild (by kernel_rfl) ?_ | refine x_call (c1 _) ?_ | refine x_call (c1) ?_ | refine x_bs tb_ok ?_ | refine x_addE ?_ | refine x_add ?_ | refine x_cat ?_ | refine x_lenF tb_ok ?_ | refine x_lenO tb_ok ?_ | refine x_lenN tb_ok ?_ | refine x_lenS ?_ | refine x_gtrT ?_ | refine x_gtrF ?_ | refine x_gtr (fun hc => ?_) (fun hc => ?_) | refine x_geqT ?_ | refine x_geqF ?_ | refine x_geq (fun hc => ?_) (fun hc => ?_) | refine x_neqT ?_ | refine x_neqF ?_ | refine x_neq (fun hc => ?_) (fun hc => ?_) | refine x_neqB ?_ | refine x_neqST ?_ | refine x_neqSF ?_ | refine x_neqS (fun hc => ?_) (fun hc => ?_) | refine x_neqI ?_ | refine x_neqN ?_ | refine x_neqA tb_ok ?_ | refine x_neqAS tb_ok (fun hc => ?_) (fun hc => ?_))
        | refine x_ret ?_
        | refine x_nor ?_
        | exact x_le)
    rfl
end Go.Proofs.YtdimidhacccdjaaDoor.DiskQ
