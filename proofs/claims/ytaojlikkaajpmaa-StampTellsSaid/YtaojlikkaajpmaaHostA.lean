/- Labels of hosts. -/
import Derived.Test.YtaojlikkaajpmaaWk
import Derived.Test.YtaojlikkaajpmaaFnB
import Derived.Test.YtaojlikkaajpmaaHostP
namespace Go.Proofs.Ytaojlikkaajpmaa.HostA
open Go.RowKit Mem Abs HostP

set_option maxRecDepth 100000 in
set_option maxHeartbeats 4000000 in
theorem isDigit_v {c : UInt8} : ACalls Try.prog 60 [byteT c] (.bool (digB c)) := by
  refine fun1 tb_ok Try.func60 rfl Try.ntmps60 Try.results60 rfl fun N => ?_
  repeat' (first | refine zt ?_ | (refine isR ?_; first | refine zo ?_ | refine zc2 ?_ | refine zc4 ?_ | (refine zs2 ?_ ?_ <;> intro hc) | (refine zs4 ?_ ?_ <;> intro hc)) | refine awp_split rfl (fun hb => ?_) (fun hb => ?_) | refine zr ?_ | exact x_le)
  all_goals (show V.bool _ = V.bool _; congr 1; unfold digB; simp; omega)
theorem str_lim {l : List UInt8} {r : List Abs.V} (h : V.LimL (strT l :: r)) : l.length ≤ 4611686018427387904 ∧ V.LimL r := by
  have := h.1
  rw [V.Lim, str_size] at this
  exact ⟨this, h.2⟩
theorem host_outer {c : UInt8} (h : hostB c = true) (h2 : ¬ ((c.toNat : Int) = 45)) : outerB c = true := by
  unfold hostB at h
  rw [Bool.or_eq_true] at h
  rcases h with h | h
  · exact h
  · simp at h; omega
theorem outer_45 {c : UInt8} (h : ((c.toNat : Int) = 45)) : outerB c = false := by
  unfold outerB digB
  simp; omega
end Go.Proofs.Ytaojlikkaajpmaa.HostA
