/- The walks of word.Join, and of the reference's SameTexts, ByteText, JoinOf. -/
import Derived.Test.YtbacakgjhohedaaDoorWordC
import Derived.Lib.Join
namespace Go.Proofs.YtbacakgjhohedaaDoor.WordJ
open Go.RowKit Mem WordP OneB WordW WordS WordC

theorem lib_join (u : UInt8) (l : List (List UInt8)) : Lib.join l [u] = join u l := by
  induction l with
  | nil => rfl
  | cons a l ih =>
    cases l with
    | nil => rw [Lib.join_one]; simp [join]
    | cons b l =>
      rw [join_cons _ _ _ (by simp), ← ih]
      simp [Lib.join, List.intercalate]
def strs (L : List ByteArray) : List Value := L.map Value.string
theorem strs_len (L : List ByteArray) : (strs L).length = L.length := by simp [strs]
theorem strs_open {w : World} {B : Nat} {A : Option Addr} {L : List ByteArray} (h : Row w B A (strs L)) (hl : 0 < L.length) : ∃ b o, A = some ⟨b, o, none⟩ ∧ b < B ∧ ∀ (j : Nat) x, L[j]? = some x → w.cell? ⟨b, o + j, none⟩ = some (.string x) := by
  obtain ⟨b, o, e, hlt, hc⟩ := h (by rw [strs_len]; exact hl)
  refine ⟨b, o, e, hlt, fun j x hx => ?_⟩
  obtain ⟨hj, rfl⟩ := List.getElem?_eq_some_iff.1 hx
  rw [hc j (by rw [strs_len]; exact hj)]
  simp [strs]
theorem takeS (L : List ByteArray) (k : Nat) (h : k < L.length) : L.take (k + 1) = L.take k ++ [L[k]] := List.take_succ_eq_append_getElem h
theorem str_cat (a b : List UInt8) : str a ++ str b = str (a ++ b) := by
  apply ByteArray.ext; simp [str, ByteArray.data_append]
theorem join_take (u : UInt8) (l : List (List UInt8)) (k : Nat) : (join u (l.take k)).length ≤ (join u l).length := by
  induction l generalizing k with
  | nil => simp
  | cons a l ih =>
    cases k with
    | zero => simp [join]
    | succ k =>
      rw [List.take_succ_cons]
      have := ih k
      unfold join
      split <;> split <;> simp_all
theorem join_next (u : UInt8) (l : List (List UInt8)) (k : Nat) (hk : k < l.length) (h0 : k ≠ 0) : join u (l.take (k + 1)) = join u (l.take k) ++ u :: l[k] := by
  rw [List.take_succ_eq_append_getElem hk, join_snoc]
  intro e
  rw [List.take_eq_nil_iff] at e
  rcases e with e | e
  · exact h0 e
  · subst e; simp at hk
end Go.Proofs.YtbacakgjhohedaaDoor.WordJ
