/- The walk's steps, each a lemma whose last premise is found by itself: what is left to show is handed on. -/
import Derived.Test.YtfhfpanemalbmaaDoorAbsD
import Derived.Test.YtfhfpanemalbmaaDoorTb
namespace Go.Proofs.YtfhfpanemalbmaaDoor.Abs
open Go.RowKit Mem
section
variable {p q q' : Prop} {α : Prop}
/-- A step of control. -/
theorem zt (k : q) (h : q → p := by intro hk; first | (with_reducible first | exact awp_seq hk | exact awp_region hk | exact awp_draw mixed hk | exact then_n hk | exact awp_skip hk | exact awp_block hk | exact awp_exit hk | exact awp_ret hk | exact awp_label hk | exact then_exit hk | exact then_ret hk | exact blk_n hk | exact blk_ret hk | exact blk_exit hk | exact blk_other rfl hk | exact then_k hk) | exact awp_true rfl hk | exact awp_false rfl hk) : p := h k
/-- The end. -/
theorem zr (k : q) (h : q → p := by intro hk; first | exact x_ret hk | exact x_nor hk) : p := h k
/-- Many steps at once, or none left. -/
theorem zo (k : q) (h : q → p := by intro hk; first | exact x_far [] tb_ok rfl hk | exact r_nil hk | exact r_nild (by kernel_rfl) hk) : p := h k
theorem zn (k : q) (h : q → p := by intro hk; first | exact r_nil hk | exact r_nild (by kernel_rfl) hk) : p := h k
theorem zA (k : q) (h : q → p := by intro hk; first | exact x_addE hk | exact x_add hk | exact x_subE hk | exact x_sub hk | exact x_mulE hk | exact x_mul hk | exact x_cat hk) : p := h k
theorem zL (k : q) (h : q → p := by intro hk; first | exact x_lenF tb_ok hk | exact x_lenO tb_ok hk | exact x_lenN tb_ok hk | exact x_lenS hk) : p := h k
theorem zI (k : q) (h : q → p := by intro hk; first | exact x_ixS tb_ok hk | exact x_ixA tb_ok hk | exact x_iaF tb_ok hk | exact x_iaO tb_ok hk | exact x_iaA tb_ok hk | exact x_iaAF tb_ok hk) : p := h k
theorem zS (k : q) (h : q → p := by intro hk; first | exact x_slSf tb_ok hk | exact x_slSt tb_ok hk | exact x_slSm tb_ok hk | exact x_slFf tb_ok hk | exact x_slFt tb_ok hk | exact x_slFm tb_ok hk) : p := h k
theorem zB (k : q) (h : q → p := by intro hk; first | exact x_bytes tb_ok hk | exact x_cv64 tb_ok hk) : p := h k
theorem zM (k : q) (h : q → p := by intro hk; first | exact x_mk hk | exact x_lookAtOk tb_ok hk | exact x_lookNoOk tb_ok hk | exact x_lookAt tb_ok hk | exact x_lookNo tb_ok hk) : p := h k
theorem zc1 (k : q) (h : q → p := by intro hk; first | exact x_lssT hk | exact x_lssF hk) : p := h k
theorem zc2 (k : q) (h : q → p := by intro hk; first | exact x_leqT hk | exact x_leqF hk) : p := h k
theorem zc3 (k : q) (h : q → p := by intro hk; first | exact x_gtrT hk | exact x_gtrF hk) : p := h k
theorem zc4 (k : q) (h : q → p := by intro hk; first | exact x_geqT hk | exact x_geqF hk) : p := h k
theorem zc5 (k : q) (h : q → p := by intro hk; first | exact x_eqlT hk | exact x_eqlF hk | exact x_eqlB hk | exact x_eqlST hk | exact x_eqlSF hk | exact x_eqlI hk | exact x_eqlN hk | exact x_eqlA tb_ok hk) : p := h k
theorem zc6 (k : q) (h : q → p := by intro hk; first | exact x_neqT hk | exact x_neqF hk | exact x_neqB hk | exact x_neqST hk | exact x_neqSF hk | exact x_neqI hk | exact x_neqN hk | exact x_neqA tb_ok hk) : p := h k
theorem zs1 (k : q) (k' : q') (h : q → q' → p := by intro hk hl; exact x_lss hk hl) : p := h k k'
theorem zs2 (k : q) (k' : q') (h : q → q' → p := by intro hk hl; exact x_leq hk hl) : p := h k k'
theorem zs3 (k : q) (k' : q') (h : q → q' → p := by intro hk hl; exact x_gtr hk hl) : p := h k k'
theorem zs4 (k : q) (k' : q') (h : q → q' → p := by intro hk hl; exact x_geq hk hl) : p := h k k'
theorem zs5 (k : q) (k' : q') (h : q → q' → p := by intro hk hl; first | exact x_eql hk hl | exact x_eqlS hk hl | exact x_eqlAS tb_ok hk hl) : p := h k k'
theorem zs6 (k : q) (k' : q') (h : q → q' → p := by intro hk hl; first | exact x_neq hk hl | exact x_neqS hk hl | exact x_neqAS tb_ok hk hl) : p := h k k'
/-- A call by its contract. -/
theorem zk (c : α) (k : q) (h : α → q → p := by intro hc hk; first | exact x_call (hc _) hk | exact x_call hc hk) : p := h c k
end
end Go.Proofs.YtfhfpanemalbmaaDoor.Abs
