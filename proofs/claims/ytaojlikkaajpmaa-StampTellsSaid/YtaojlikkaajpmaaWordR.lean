/- The walk of word.Parts: 'for p := range parts(s, b)', parts' closure writing its own s. -/
import Derived.RangeFuncNested
import Derived.RangeFuncBound
import Derived.RangeFuncCalls
import Derived.RangeFuncLeaves
import Derived.RangeFuncBox
import Derived.Shelf.Abstract
import Derived.Shelf.RegionOpen
import Derived.WalkKit
import Derived.OwnWalkIn
import Derived.TacticsInMore
import Derived.LoopNIn
import Derived.LoopIn
import Derived.Maps.AppendAt
import Derived.Test.YtaojlikkaajpmaaWordC
import Derived.Test.YtaojlikkaajpmaaRange
namespace Go.Proofs.Ytaojlikkaajpmaa.WordR
open Go.RowKit Go.Shelf Mem WordP WordW WordS WordC Range
attribute [local go_sem] Oper.semAt_some

theorem grown_of_below {w w' : World} (h : Below w.heap.size w w') (row : Option Nat) : w.grownBy w' row := ⟨h.os, h.tape, h.output, h.size, fun k hk _ => h.block k hk⟩
theorem box_same {W W' : World} {B : Nat} {t : TypeId} {v : Value} (h : Boxed W B t v) (e : W'.heap[B]? = W.heap[B]?) : Boxed W' B t v := e.trans h
def boxLen (b : Nat) (W : World) : Nat := match W.cell? ⟨b, 0, none⟩ with | some (.string s) => s.size | _ => 0
theorem boxLen_of {b : Nat} {W : World} {t : TypeId} {s : ByteArray} (h : Boxed W b t (.string s)) : boxLen b W = s.size := by unfold boxLen; rw [h.cell]

theorem own_lower {w : World} {a b : Nat} {e : TypeId} {size n : Nat} {v : Value} {xs : List Value} (h : w.ownsRow b e size v n xs) (hab : a ≤ b) : w.ownsRow a e size v n xs := by
  refine ⟨h.1, ?_⟩
  rcases h.2 with h | ⟨g, cap, cur, e1, e2, e3⟩
  · exact .inl h
  · exact .inr ⟨g, cap, cur, e1, by omega, e3⟩
theorem own_far {w : World} {b k : Nat} {e : TypeId} {size n : Nat} {v : Value} {xs : List Value} (h : w.ownsRow b e size v n xs) (hk : k < b) : v.ownBlock ≠ some k := by
  rcases h.2 with ⟨rfl, _⟩ | ⟨g, cap, cur, rfl, e2, e3⟩
  · simp [Value.ownBlock]
  · simp [Value.ownBlock]; omega
theorem info_str : (Try.prog.info? 9).map (fun i => (i.zero, i.size, i.bytes)) = some (some (.string ⟨#[]⟩), 1, 16) := by kernel_rfl
end Go.Proofs.Ytaojlikkaajpmaa.WordR
