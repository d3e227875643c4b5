/- The walk of the reference's PartsOf: from the end, by itself. -/
import Derived.Test.YtaojlikkaajpmaaWordJ
import Derived.Test.YtaojlikkaajpmaaWordR
namespace Go.Proofs.Ytaojlikkaajpmaa.WordQ
open Go.RowKit Mem WordP OneB WordW WordS WordJ
open WordC (ext_drop ext_take)

theorem elemStr : Elem Try.prog 51 9 1 16 := Elem.mk (z := .string ⟨#[]⟩) Try.underlying51 (by kernel_rfl) rfl (by decide)
theorem own_lower {w : World} {a b : Nat} {e : TypeId} {size n : Nat} {v : Value} {xs : List Value} (h : w.ownsRow b e size v n xs) (hab : a ≤ b) : w.ownsRow a e size v n xs := WordR.own_lower h hab
end Go.Proofs.Ytaojlikkaajpmaa.WordQ
