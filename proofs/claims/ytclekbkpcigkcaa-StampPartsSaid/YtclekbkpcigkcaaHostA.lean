/- Labels of hosts. -/
import Derived.Test.YtclekbkpcigkcaaFnB
import Derived.Test.YtclekbkpcigkcaaHostP
namespace Go.Proofs.Ytclekbkpcigkcaa.HostA
open Go.RowKit Mem Abs HostP

theorem str_lim {l : List UInt8} {r : List Abs.V} (h : V.LimL (strT l :: r)) : l.length ≤ 4611686018427387904 ∧ V.LimL r := by
  have := h.1
  rw [V.Lim, str_size] at this
  exact ⟨this, h.2⟩
theorem host_outer {c : UInt8} (h : hostB c = true) (h2 : ¬ ((c.toNat : Int) = 45)) : outerB c = true := by
  unfold hostB at h
  rw [Bool.or_eq_true] at h
  rcases h with h | h
  · exact h
  · simp at h; omega
theorem outer_45 {c : UInt8} (h : ((c.toNat : Int) = 45)) : outerB c = false := by
  unfold outerB digB
  simp; omega
end Go.Proofs.Ytclekbkpcigkcaa.HostA
