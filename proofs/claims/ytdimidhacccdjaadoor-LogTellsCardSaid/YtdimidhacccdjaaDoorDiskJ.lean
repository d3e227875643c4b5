/- The document's numerals: two of them; a head. -/
import Derived.Test.YtdimidhacccdjaaDoorDiskI
namespace Go.Proofs.YtdimidhacccdjaaDoor.DiskJ
open Go.RowKit Mem Abs TreeW NumP WordS DiskP DiskG DiskH DiskI

abbrev TI : Nat := 3
abbrev intT (n : Int) : Abs.V := .int .i64 n
abbrev NUM (s : List UInt8) (x : Int) (r : List UInt8) (b : Bool) : Prop := ACalls Tryd.prog 53 [strT s] (.tup [.int .i64 x, strT r, .bool b])
set_option maxRecDepth 100000 in
set_option maxHeartbeats 4000000 in
theorem numbers0_v {s r : List UInt8} {x : Int} (c1 : NUM s x r false) : ACalls Tryd.prog 47 [strT s, .int .i64 2] (.tup [.nils, strT [], .bool false]) := by
  refine fun2 tb_ok Tryd.func47 rfl Tryd.ntmps47 Tryd.results47 rfl fun N => ?_
  repeat' (first
      | with_reducible first | refine awp_seq ?_ | refine awp_region ?_ | refine awp_draw mixed ?_ | refine then_n ?_ | refine awp_skip ?_ | refine awp_block ?_ | refine awp_exit ?_ | refine awp_ret ?_ | refine awp_label ?_ | refine then_exit ?_ | refine then_ret ?_ | refine blk_n ?_ | refine blk_ret ?_ | refine blk_exit ?_ | refine blk_other rfl ?_ | refine then_k ?_
      | refine awp_true rfl ?_
      | refine awp_false rfl ?_
      | refine awp_split rfl (fun hb => ?_) (fun hb => ?_)
      | (refine isR ?_; first | refine x_far [] tb_ok rfl ?_ | refine r_nil ?_ | refine r_nild (by kernel_rfl) ?_ | refine x_bs tb_ok ?_ | refine x_lenF tb_ok ?_ | refine x_lenO tb_ok ?_ | refine x_lenN tb_ok ?_ | refine x_lenS ?_ | refine x_lssT ?_ | refine x_lssF ?_ | refine x_lss (fun hc => ?_) (fun hc => ?_))
      | refine x_ret ?_
      | refine x_nor ?_
      | exact x_le)
  refine awp_for (fun k => ⟨[(0, strT s), (1, .int .i64 2), (7, .nils)], [], 0, 30⟩) (fun k => k = 0) 2 0 (by exact x_le) rfl ?_
  rintro k rfl
  repeat' (first
      | with_reducible first | refine awp_seq ?_ | refine awp_region ?_ | refine awp_draw mixed ?_ | refine then_n ?_ | refine awp_skip ?_ | refine awp_block ?_ | refine awp_exit ?_ | refine awp_ret ?_ | refine awp_label ?_ | refine then_exit ?_ | refine then_ret ?_ | refine blk_n ?_ | refine blk_ret ?_ | refine blk_exit ?_ | refine blk_other rfl ?_ | refine then_k ?_
      | refine awp_true rfl ?_
      | refine awp_false rfl ?_
      | refine awp_split rfl (fun hb => ?_) (fun hb => ?_)
      | (refine isR ?_; first | refine x_far [] tb_ok rfl ?_ | refine r_nil ?_ | refine r_nild (by kernel_rfl) ?_ | refine x_call (c1 _) ?_ | refine x_call (c1) ?_ | refine x_bs tb_ok ?_ | refine x_lenF tb_ok ?_ | refine x_lenO tb_ok ?_ | refine x_lenN tb_ok ?_ | refine x_lenS ?_ | refine x_lssT ?_ | refine x_lssF ?_ | refine x_lss (fun hc => ?_) (fun hc => ?_))
      | refine x_ret ?_
      | refine x_nor ?_
      | exact x_le)
  rfl
set_option maxRecDepth 100000 in
set_option maxHeartbeats 4000000 in
theorem numbers1_v {s r r2 : List UInt8} {x y : Int} (c1 : NUM s x r true) (c2 : NUM r y r2 false) : ACalls Tryd.prog 47 [strT s, .int .i64 2] (.tup [.nils, strT [], .bool false]) := by
  have z1 : ([] : List Int).length = 0 := rfl
  have z2 : [x].length = 1 := rfl
  refine fun2 tb_ok Tryd.func47 rfl Tryd.ntmps47 Tryd.results47 rfl fun N => ?_
  repeat' (first
      | with_reducible first | refine awp_seq ?_ | refine awp_region ?_ | refine awp_draw mixed ?_ | refine then_n ?_ | refine awp_skip ?_ | refine awp_block ?_ | refine awp_exit ?_ | refine awp_ret ?_ | refine awp_label ?_ | refine then_exit ?_ | refine then_ret ?_ | refine blk_n ?_ | refine blk_ret ?_ | refine blk_exit ?_ | refine blk_other rfl ?_ | refine then_k ?_
      | refine awp_true rfl ?_
      | refine awp_false rfl ?_
      | refine awp_split rfl (fun hb => ?_) (fun hb => ?_)
      | (refine isR ?_; first | refine x_far [] tb_ok rfl ?_ | refine r_nil ?_ | refine r_nild (by kernel_rfl) ?_ | refine x_bs tb_ok ?_ | refine x_lenF tb_ok ?_ | refine x_lenO tb_ok ?_ | refine x_lenN tb_ok ?_ | refine x_lenS ?_ | refine x_lssT ?_ | refine x_lssF ?_ | refine x_lss (fun hc => ?_) (fun hc => ?_))
      | refine x_ret ?_
      | refine x_nor ?_
      | exact x_le)
  refine awp_name (t := 7) TI 1 (by decide) rfl rfl ?_
  refine awp_forN (fun k => ⟨[(0, strT (if k = 0 then s else r)), (1, .int .i64 2), (7, .own 0 0 k)], [(0, some (.els TI 1 ((if k = 0 then [] else [x]).map intT)))], 1, 30⟩) (fun k => k ≤ 1) 2 0 (by exact x_le) (by decide) ?_
  intro k hk
  obtain rfl | rfl : k = 0 ∨ k = 1 := by omega
  · skip
    repeat' (first
        | with_reducible first | refine awp_seq ?_ | refine awp_region ?_ | refine awp_draw mixed ?_ | refine then_n ?_ | refine awp_skip ?_ | refine awp_block ?_ | refine awp_exit ?_ | refine awp_ret ?_ | refine awp_label ?_ | refine then_exit ?_ | refine then_ret ?_ | refine blk_n ?_ | refine blk_ret ?_ | refine blk_exit ?_ | refine blk_other rfl ?_ | refine then_k ?_
        | refine awp_true rfl ?_
        | refine awp_false rfl ?_
        | refine awp_split rfl (fun hb => ?_) (fun hb => ?_)
        | (refine isR ?_; first | refine x_far [] tb_ok rfl ?_ | refine r_nil ?_ | refine r_nild (by kernel_rfl) ?_ | refine x_call (c1 _) ?_ | refine x_call (c1) ?_ | refine x_app intT (L := []) (a1 := x) tb_ok ?_ (hby := by show _ * (_ : Nat) ≤ _; simp) | refine x_bs tb_ok ?_ | refine x_lenF tb_ok ?_ | refine x_lenO tb_ok ?_ | refine x_lenN tb_ok ?_ | refine x_lenS ?_ | refine x_lssT ?_ | refine x_lssF ?_ | refine x_lss (fun hc => ?_) (fun hc => ?_))
        | refine x_ret ?_
        | refine x_nor ?_
        | exact x_le)
    refine ⟨by omega, by omega, ?_⟩
    exact (by exact x_len [1])
  · skip
    repeat' (first
        | with_reducible first | refine awp_seq ?_ | refine awp_region ?_ | refine awp_draw mixed ?_ | refine then_n ?_ | refine awp_skip ?_ | refine awp_block ?_ | refine awp_exit ?_ | refine awp_ret ?_ | refine awp_label ?_ | refine then_exit ?_ | refine then_ret ?_ | refine blk_n ?_ | refine blk_ret ?_ | refine blk_exit ?_ | refine blk_other rfl ?_ | refine then_k ?_
        | refine awp_true rfl ?_
        | refine awp_false rfl ?_
        | refine awp_split rfl (fun hb => ?_) (fun hb => ?_)
        | (refine isR ?_; first | refine x_far [] tb_ok rfl ?_ | refine r_nil ?_ | refine r_nild (by kernel_rfl) ?_ | refine x_call (c2 _) ?_ | refine x_call (c2) ?_ | refine x_bs tb_ok ?_ | refine x_lenF tb_ok ?_ | refine x_lenO tb_ok ?_ | refine x_lenN tb_ok ?_ | refine x_lenS ?_ | refine x_lssT ?_ | refine x_lssF ?_ | refine x_lss (fun hc => ?_) (fun hc => ?_))
        | refine x_ret ?_
        | refine x_nor ?_
        | exact x_le)
    rfl
set_option maxRecDepth 100000 in
set_option maxHeartbeats 4000000 in
theorem numbers2_v {s r r2 : List UInt8} {x y : Int} (c1 : NUM s x r true) (c2 : NUM r y r2 true) : ACalls Tryd.prog 47 [strT s, .int .i64 2] (.tup [.fro [.int .i64 x, .int .i64 y], strT r2, .bool true]) := by
  have z1 : ([] : List Int).length = 0 := rfl
  have z2 : [x].length = 1 := rfl
  refine fun2 tb_ok Tryd.func47 rfl Tryd.ntmps47 Tryd.results47 rfl fun N => ?_
  repeat' (first
      | with_reducible first | refine awp_seq ?_ | refine awp_region ?_ | refine awp_draw mixed ?_ | refine then_n ?_ | refine awp_skip ?_ | refine awp_block ?_ | refine awp_exit ?_ | refine awp_ret ?_ | refine awp_label ?_ | refine then_exit ?_ | refine then_ret ?_ | refine blk_n ?_ | refine blk_ret ?_ | refine blk_exit ?_ | refine blk_other rfl ?_ | refine then_k ?_
      | refine awp_true rfl ?_
      | refine awp_false rfl ?_
      | refine awp_split rfl (fun hb => ?_) (fun hb => ?_)
      | (refine isR ?_; first | refine x_far [] tb_ok rfl ?_ | refine r_nil ?_ | refine r_nild (by kernel_rfl) ?_ | refine x_bs tb_ok ?_ | refine x_lenF tb_ok ?_ | refine x_lenO tb_ok ?_ | refine x_lenN tb_ok ?_ | refine x_lenS ?_ | refine x_lssT ?_ | refine x_lssF ?_ | refine x_lss (fun hc => ?_) (fun hc => ?_))
      | refine x_ret ?_
      | refine x_nor ?_
      | exact x_le)
  refine awp_name (t := 7) TI 1 (by decide) rfl rfl ?_
  refine awp_forN (fun k => ⟨[(0, strT (if k = 0 then s else if k = 1 then r else r2)), (1, .int .i64 2), (7, .own 0 0 k)], [(0, some (.els TI 1 ((if k = 0 then [] else if k = 1 then [x] else [x, y]).map intT)))], 1, 30⟩) (fun k => k ≤ 2) 2 0 (by exact x_le) (by decide) ?_
  intro k hk
  obtain rfl | rfl | rfl : k = 0 ∨ k = 1 ∨ k = 2 := by omega
  · skip
    repeat' (first
        | with_reducible first | refine awp_seq ?_ | refine awp_region ?_ | refine awp_draw mixed ?_ | refine then_n ?_ | refine awp_skip ?_ | refine awp_block ?_ | refine awp_exit ?_ | refine awp_ret ?_ | refine awp_label ?_ | refine then_exit ?_ | refine then_ret ?_ | refine blk_n ?_ | refine blk_ret ?_ | refine blk_exit ?_ | refine blk_other rfl ?_ | refine then_k ?_
        | refine awp_true rfl ?_
        | refine awp_false rfl ?_
        | refine awp_split rfl (fun hb => ?_) (fun hb => ?_)
        | (refine isR ?_; first | refine x_far [] tb_ok rfl ?_ | refine r_nil ?_ | refine r_nild (by kernel_rfl) ?_ | refine x_call (c1 _) ?_ | refine x_call (c1) ?_ | refine x_app intT (L := []) (a1 := x) tb_ok ?_ (hby := by show _ * (_ : Nat) ≤ _; simp) | refine x_bs tb_ok ?_ | refine x_lenF tb_ok ?_ | refine x_lenO tb_ok ?_ | refine x_lenN tb_ok ?_ | refine x_lenS ?_ | refine x_lssT ?_ | refine x_lssF ?_ | refine x_lss (fun hc => ?_) (fun hc => ?_))
        | refine x_ret ?_
        | refine x_nor ?_
        | exact x_le)
    refine ⟨by omega, by omega, ?_⟩
    exact (by exact x_len [1])
  · skip
    repeat' (first
        | with_reducible first | refine awp_seq ?_ | refine awp_region ?_ | refine awp_draw mixed ?_ | refine then_n ?_ | refine awp_skip ?_ | refine awp_block ?_ | refine awp_exit ?_ | refine awp_ret ?_ | refine awp_label ?_ | refine then_exit ?_ | refine then_ret ?_ | refine blk_n ?_ | refine blk_ret ?_ | refine blk_exit ?_ | refine blk_other rfl ?_ | refine then_k ?_
        | refine awp_true rfl ?_
        | refine awp_false rfl ?_
        | refine awp_split rfl (fun hb => ?_) (fun hb => ?_)
        | (refine isR ?_; first | refine x_far [] tb_ok rfl ?_ | refine r_nil ?_ | refine r_nild (by kernel_rfl) ?_ | refine x_call (c2 _) ?_ | refine x_call (c2) ?_ | refine x_app intT (L := [x]) (a1 := y) tb_ok ?_ (hby := by show _ * (_ : Nat) ≤ _; simp) | refine x_bs tb_ok ?_ | refine x_lenF tb_ok ?_ | refine x_lenO tb_ok ?_ | refine x_lenN tb_ok ?_ | refine x_lenS ?_ | refine x_lssT ?_ | refine x_lssF ?_ | refine x_lss (fun hc => ?_) (fun hc => ?_))
        | refine x_ret ?_
        | refine x_nor ?_
        | exact x_le)
    refine ⟨by omega, by omega, ?_⟩
    exact (by exact x_len [1])
  · skip
    repeat' (first
        | with_reducible first | refine awp_seq ?_ | refine awp_region ?_ | refine awp_draw mixed ?_ | refine then_n ?_ | refine awp_skip ?_ | refine awp_block ?_ | refine awp_exit ?_ | refine awp_ret ?_ | refine awp_label ?_ | refine then_exit ?_ | refine then_ret ?_ | refine blk_n ?_ | refine blk_ret ?_ | refine blk_exit ?_ | refine blk_other rfl ?_ | refine then_k ?_
        | refine awp_true rfl ?_
        | refine awp_false rfl ?_
        | refine awp_split rfl (fun hb => ?_) (fun hb => ?_)
        | (refine isR ?_; first | refine x_far [] tb_ok rfl ?_ | refine r_nil ?_ | refine r_nild (by kernel_rfl) ?_ | refine x_bs tb_ok ?_ | refine x_lenF tb_ok ?_ | refine x_lenO tb_ok ?_ | refine x_lenN tb_ok ?_ | refine x_lenS ?_ | refine x_lssT ?_ | refine x_lssF ?_ | refine x_lss (fun hc => ?_) (fun hc => ?_))
        | refine x_ret ?_
        | refine x_nor ?_
        | exact x_le)
    rfl
end Go.Proofs.YtdimidhacccdjaaDoor.DiskJ
