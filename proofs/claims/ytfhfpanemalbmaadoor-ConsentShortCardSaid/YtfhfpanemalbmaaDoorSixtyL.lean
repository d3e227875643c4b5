/- The walks of the laws SixtyBack, SixtyJoins. -/
import Derived.Test.YtfhfpanemalbmaaDoorSixtyR
namespace Go.Proofs.YtfhfpanemalbmaaDoor.SixtyL
open Go.RowKit Mem BitsP BitsS BitsT SixtyP WordW SixtyW SixtyQ SixtyR

/-- A call that gives a text and a code. -/
def Two (a : ByteArray) (n : Int) (w : World) (e : Ending) (w' : World) : Prop := e = .returned (.tuple #[.string a, .int .i64 n]) ∧ Below w.heap.size w w'
theorem w_ok (s : ByteArray) (w : World) (h : s.size ≤ 400) : Calls Tryd.prog 48 #[.string s] w (Two (str (enc6 (tbits s.data.toList))) 0 w) := by
  have := swrite_any s w (by omega)
  unfold writeF at this
  rw [if_neg (by simpa using h)] at this
  exact this
theorem w_many (s : ByteArray) (w : World) (h : ¬ s.size ≤ 400) (hs : s.size ≤ 281474976710656) : Calls Tryd.prog 48 #[.string s] w (Two ⟨#[]⟩ 2 w) := by
  have := swrite_any s w hs
  unfold writeF at this
  rw [if_pos (by simpa using h)] at this
  exact this
theorem r_of (t : ByteArray) (w : World) (hs : t.size ≤ 140737488355328) {a : List UInt8} {n : Nat} (h : readF t.data.toList = (a, n)) : Calls Tryd.prog 28 #[.string t] w (Two (str a) n w) := by
  have := sread_any t w hs
  rw [h] at this
  exact this
theorem read_code (t : List UInt8) : (∃ a, readF t = (a, 0)) ∨ readF t = ([], 1) ∨ readF t = ([], 2) := by
  unfold readF
  repeat' split
  all_goals first | exact .inr (.inl rfl) | exact .inr (.inr rfl) | exact .inl ⟨_, rfl⟩
theorem beq_self (b : ByteArray) : (b.toList == b.toList) = true := by simp
end Go.Proofs.YtfhfpanemalbmaaDoor.SixtyL
