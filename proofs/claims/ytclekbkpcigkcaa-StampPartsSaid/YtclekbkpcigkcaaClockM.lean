/- The walk of the reference's MomentOf. -/
import Derived.Test.YtclekbkpcigkcaaClockR
import Derived.Test.YtclekbkpcigkcaaSeq
namespace Go.Proofs.Ytclekbkpcigkcaa.ClockM
open Go.RowKit ClockP ClockW ClockO ClockR

theorem tup {k j : IntKind} {a b c d : Int} (h : a = b) (h2 : c = d) : Value.tuple #[.int k a, .int j c] = .tuple #[.int k b, .int j d] := by rw [h, h2]
theorem below_next {w w1 wx : World} {o : Obj} (hb : Below wx.heap.size wx w1) (h : Below (w.heap.size + 1) (w.alloc o) wx) : Below (w.heap.size + 1) (w.alloc o) w1 := h.trans (hb.mono (by have := h.size; simpa using this))

theorem of_right {y m d h mi s : Int} (t0 : ¬ y < 1601) (t1 : ¬ 9999 < y) (t2 : ¬ d < 1) (t3 : ¬ mlen y m < d) (t4 : ¬ h < 0) (t5 : ¬ 23 < h) (t6 : ¬ mi < 0) (t7 : ¬ 59 < mi) (t8 : ¬ s < 0) (t9 : ¬ 59 < s) : right y m d h mi s :=
  ⟨⟨by omega, by omega, by omega, by omega⟩, by omega, by omega, by omega, by omega, by omega, by omega⟩
end Go.Proofs.Ytclekbkpcigkcaa.ClockM
