/- What must be in any case of hosts. -/
import Derived.Test.YtkgdkpiacencjaaDoorHostE
namespace Go.Proofs.YtkgdkpiacencjaaDoor.HostF
open Go.RowKit Mem Abs HostP HostO HostA HostB HostC HostD HostE TreeW WordP WordS Globs

theorem b1 : canonF ([87, 87, 87, 46, 69, 120, 97, 109, 112, 108, 101, 46, 67, 79, 77] : List UInt8) = (([119, 119, 119, 46, 101, 120, 97, 109, 112, 108, 101, 46, 99, 111, 109] : List UInt8), 0) := by decide +kernel
theorem b2 : canonF ([97, 46, 46, 98] : List UInt8) = ([], 1) := by decide +kernel
theorem b3 : address ([49, 48, 46, 48, 46, 48, 46, 50, 53, 53] : List UInt8) = true := by decide +kernel
theorem b4 : address ([49, 48, 46, 48, 46, 48, 46, 50, 53, 54] : List UInt8) = false := by decide +kernel
theorem b5 : matchF ([119, 119, 119, 46, 101, 120, 97, 109, 112, 108, 101, 46, 99, 111, 109] : List UInt8) ([101, 120, 97, 109, 112, 108, 101, 46, 99, 111, 109] : List UInt8) = true := by decide +kernel
theorem b6 : matchF ([119, 119, 119, 101, 120, 97, 109, 112, 108, 101, 46, 99, 111, 109] : List UInt8) ([101, 120, 97, 109, 112, 108, 101, 46, 99, 111, 109] : List UInt8) = false := by decide +kernel
theorem b7 : matchF ([49, 46, 49, 48, 46, 48, 46, 48] : List UInt8) ([49, 48, 46, 48, 46, 48] : List UInt8) = false := by decide +kernel
theorem b8 : upsF ([97, 46, 98, 46, 99] : List UInt8) = [([97, 46, 98, 46, 99] : List UInt8), ([98, 46, 99] : List UInt8), ([99] : List UInt8)] := by decide +kernel
set_option maxRecDepth 100000 in
set_option maxHeartbeats 4000000 in
theorem begun_v : ACallsG Tryd.prog gStr 22 [] (.bool true) := by
  have c1 := canon_v (l := ([87, 87, 87, 46, 69, 120, 97, 109, 112, 108, 101, 46, 67, 79, 77] : List UInt8))
  have c2 := canon_v (l := ([97, 46, 46, 98] : List UInt8))
  have c3 := address_v (l := ([49, 48, 46, 48, 46, 48, 46, 50, 53, 53] : List UInt8)) (by decide)
  have c4 := address_v (l := ([49, 48, 46, 48, 46, 48, 46, 50, 53, 54] : List UInt8)) (by decide)
  have c5 := match_v (l := ([119, 119, 119, 46, 101, 120, 97, 109, 112, 108, 101, 46, 99, 111, 109] : List UInt8)) (m := ([101, 120, 97, 109, 112, 108, 101, 46, 99, 111, 109] : List UInt8)) (by decide) (by decide)
  have c6 := match_v (l := ([119, 119, 119, 101, 120, 97, 109, 112, 108, 101, 46, 99, 111, 109] : List UInt8)) (m := ([101, 120, 97, 109, 112, 108, 101, 46, 99, 111, 109] : List UInt8)) (by decide) (by decide)
  have c7 := match_v (l := ([49, 46, 49, 48, 46, 48, 46, 48] : List UInt8)) (m := ([49, 48, 46, 48, 46, 48] : List UInt8)) (by decide) (by decide)
  have c8 := ups_v (l := ([97, 46, 98, 46, 99] : List UInt8)) (by decide)
  have c9 := sameTexts_v (L := [([97, 46, 98, 46, 99] : List UInt8), ([98, 46, 99] : List UInt8), ([99] : List UInt8)]) (K := [([97, 46, 98, 46, 99] : List UInt8), ([98, 46, 99] : List UInt8), ([99] : List UInt8)])
  rw [b1] at c1; rw [b2] at c2; rw [b3] at c3; rw [b4] at c4; rw [b5] at c5; rw [b6] at c6; rw [b7] at c7; rw [b8] at c8; rw [decide_eq_true rfl] at c9
  refine funG0 tb_ok Tryd.func22 rfl Tryd.ntmps22 Tryd.results22 fun N => ?_
  repeat' (first
      | with_reducible first | refine awp_seq ?_ | refine awp_region ?_ | refine awp_draw mixed ?_ | refine then_n ?_ | refine awp_skip ?_ | refine awp_block ?_ | refine awp_exit ?_ | refine awp_ret ?_ | refine awp_label ?_ | refine then_exit ?_ | refine then_ret ?_ | refine blk_n ?_ | refine blk_ret ?_ | refine blk_exit ?_ | refine blk_other rfl ?_ | refine then_k ?_
      | refine awp_true rfl ?_
      | refine awp_false rfl ?_
      | refine awp_split rfl (fun hb => ?_) (fun hb => ?_)
      | (refine isR ?_; first | refine x_far [] tb_ok rfl ?_ | refine r_nil ?_ | refine r_nild (by kernel_rfl) ?_ | refine x_call (c1 _) ?_ | refine x_call (c1) ?_ | refine x_call (c2 _) ?_ | refine x_call (c2) ?_ | refine x_call (c3 _) ?_ | refine x_call (c3) ?_ | refine x_call (c4 _) ?_ | refine x_call (c4) ?_ | refine x_call (c5 _) ?_ | refine x_call (c5) ?_ | refine x_call (c6 _) ?_ | refine x_call (c6) ?_ | refine x_call (c7 _) ?_ | refine x_call (c7) ?_ | refine x_call (c8 _) ?_ | refine x_call (c8) ?_ | refine x_call (c9 _) ?_ | refine x_call (c9) ?_ | refine x_bs tb_ok ?_ | refine x_eqlT ?_ | refine x_eqlF ?_ | refine x_eql (fun hc => ?_) (fun hc => ?_) | refine x_eqlB ?_ | refine x_eqlST ?_ | refine x_eqlSF ?_ | refine x_eqlS (fun hc => ?_) (fun hc => ?_) | refine x_eqlI ?_ | refine x_eqlN ?_ | refine x_eqlA tb_ok ?_ | refine x_eqlAS tb_ok (fun hc => ?_) (fun hc => ?_))
      | refine x_ret ?_
      | refine x_nor ?_
      | exact x_le)
  rfl
end Go.Proofs.YtkgdkpiacencjaaDoor.HostF
