/- The walks of word.Trim, Cut, Token. -/
import Derived.Test.YtaojlikkaajpmaaWordW
import Derived.Test.YtaojlikkaajpmaaWordS
import Derived.Test.YtaojlikkaajpmaaShelf
import Derived.Shelf.Strings.SlTrimAscii
namespace Go.Proofs.Ytaojlikkaajpmaa.WordC
open Go.RowKit Mem WordP OneB WordW WordS

theorem ne_toList {s t : ByteArray} (h : ¬ s = t) : (s.toList == t.toList) = false := by
  rw [beq_eq_false_iff_ne]
  intro e
  rw [ByteArray.toList_eq, ByteArray.toList_eq] at e
  exact h (by rw [← mkB s, ← mkB t, e])
theorem len0 (t : ByteArray) (h : t.size = 0) : t.data.toList = [] := List.eq_nil_of_length_eq_zero (by simpa using h)
theorem take_all_succ (p : UInt8 → Bool) (s : ByteArray) (k : Nat) (h : k < s.size) (ha : (s.data.toList.take k).all p = true) (hp : p s[k] = true) : (s.data.toList.take (k + 1)).all p = true := by
  rw [take_snocB s k h, List.all_append, ha]; simp [hp]
theorem all_false (p : UInt8 → Bool) (s : ByteArray) (k : Nat) (h : k < s.size) (hp : p s[k] = false) : s.data.toList.all p = false := by
  have e : s.data.toList = s.data.toList.take k ++ s.data.toList.drop k := (List.take_append_drop k _).symm
  rw [e, drop_consB s k h, List.all_append, List.all_cons, hp]; simp
theorem tok_false (s : ByteArray) (k : Nat) (h : k < s.size) (hp : tokB s[k] = false) : token s.data.toList = false := by
  unfold token; rw [all_false tokB s k h hp]; simp
/-- What Cut says. -/
def cut (c : UInt8) (l : List UInt8) : List UInt8 × List UInt8 × Bool :=
  if l.contains c then (l.take (Lib.indexByte l c).toNat, l.drop ((Lib.indexByte l c).toNat + 1), true) else (l, [], false)
theorem cut_none {c : UInt8} {l : List UInt8} (h : l.contains c = false) : cut c l = (l, [], false) := by unfold cut; rw [h]; rfl
theorem cut_at {c : UInt8} {a r : List UInt8} (h : a.contains c = false) : cut c (a ++ c :: r) = (a, r, true) := by
  unfold cut
  rw [index_at a r c h, if_pos (by simp)]
  simp
theorem ext_drop (s : ByteArray) (k : Nat) : s.extract k s.size = str (s.data.toList.drop k) := by
  apply ByteArray.ext; apply Array.ext'
  simp [str, ByteArray.data_extract]
  exact List.take_of_length_le (by simp)
theorem ext_take (s : ByteArray) (k : Nat) : s.extract 0 k = str (s.data.toList.take k) := by
  apply ByteArray.ext; apply Array.ext'
  simp [str, ByteArray.data_extract]
def Cuts (p : List UInt8 × List UInt8 × Bool) (w : World) (e : Ending) (w' : World) : Prop := e = .returned (.tuple #[.string (str p.1), .string (str p.2.1), .bool p.2.2]) ∧ Below w.heap.size w w'
end Go.Proofs.Ytaojlikkaajpmaa.WordC
