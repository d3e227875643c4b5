/- The digits that a text begins with: the walk. -/
import Derived.Test.YtclekbkpcigkcaaHostO
import Derived.Test.YtclekbkpcigkcaaHostA
import Derived.Test.YtclekbkpcigkcaaTreeW
namespace Go.Proofs.Ytclekbkpcigkcaa.Lead
open Go.RowKit Mem Abs HostP HostO HostA TreeW WordP WordS

theorem lead_at {l : List UInt8} {k : Nat} (hk : k ≤ l.length) (h : Upto digB l k) (he : ∀ c, l[k]? = some c → digB c = false) : lead l = l.take k := by
  induction l generalizing k with
  | nil => simp [lead]
  | cons c r ih =>
    unfold lead
    cases k with
    | zero =>
      rw [List.takeWhile_cons, if_neg (by rw [he c rfl]; simp)]
      rfl
    | succ k =>
      rw [List.takeWhile_cons, if_pos (h 0 c (by omega) rfl), List.take_succ_cons]
      congr 1
      exact ih (by simpa using hk) (fun j y hj hy => h (j + 1) y (by omega) (by simpa using hy)) (fun x hx => he x (by simpa using hx))
theorem value5 {l : List UInt8} {k : Nat} {c : UInt8} (h : l[k]? = some c) (hk : k < 5) : value ((l.take (k + 1)).take 5) = 10 * value ((l.take k).take 5) + (c.toNat - 48) := by
  have hl := (List.getElem?_eq_some_iff.1 h)
  rw [List.take_take, List.take_take, Nat.min_eq_right (by omega), Nat.min_eq_right (by omega), List.take_succ_eq_append_getElem hl.1, value_snoc, hl.2]
theorem value5_on {l : List UInt8} {k : Nat} (hk : ¬ k < 5) : value ((l.take (k + 1)).take 5) = value ((l.take k).take 5) := by
  rw [List.take_take, List.take_take, Nat.min_eq_left (by omega), Nat.min_eq_left (by omega)]
theorem upto_take {l : List UInt8} {k : Nat} (h : Upto digB l k) : (l.take k).all digB = true := List.all_eq_true.2 fun x hx => by
  obtain ⟨i, hi⟩ := List.mem_iff_getElem?.1 hx
  rw [List.getElem?_take] at hi
  split at hi
  · exact h i x (by assumption) hi
  · cases hi
theorem value5_le {l : List UInt8} {k : Nat} (h : Upto digB l k) : value ((l.take k).take 5) < 100000 := by
  have h1 := upto_take h
  have h2 : ((l.take k).take 5).all digB = true := List.all_eq_true.2 fun x hx => List.all_eq_true.1 h1 x (List.mem_of_mem_take hx)
  have h3 := value_le _ h2
  have h4 : ((l.take k).take 5).length ≤ 5 := by simp; omega
  have h5 : 10 ^ ((l.take k).take 5).length ≤ 10 ^ 5 := Nat.pow_le_pow_right (by decide) h4
  omega
theorem dig_nat {c : UInt8} (h : digB c = true) : 48 ≤ c.toNat ∧ c.toNat ≤ 57 := by
  unfold digB at h
  simpa using h
abbrev pairN (a b : Nat) : Abs.V := .tup [.int .i64 (a : Int), .int .i64 (b : Int)]
end Go.Proofs.Ytclekbkpcigkcaa.Lead
