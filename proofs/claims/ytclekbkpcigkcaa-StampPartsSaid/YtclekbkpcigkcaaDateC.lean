/- Dates: the walks of the document's own: words, months, times of day. -/
import Derived.Test.YtclekbkpcigkcaaDateB
namespace Go.Proofs.Ytclekbkpcigkcaa.StampH
open Go.RowKit Mem Abs TreeW WordP WordS HostP HostO HostA PathT StampP StampA StampB StampC StampD StampE StampF StampG Lead ClockP ClockV

end Go.Proofs.Ytclekbkpcigkcaa.StampH
namespace Go.Proofs.Ytclekbkpcigkcaa.StampI
open Go.RowKit Mem Abs TreeW WordP WordS HostP HostO HostA PathT StampP StampA StampB StampC StampD StampE StampF StampG StampH Lead ClockP ClockV

theorem lead5 {w : List UInt8} (h : (lead w).length ≤ 5) : leadN w = value (lead w) := by
  unfold leadN
  rw [List.take_of_length_le h]
theorem dig_is {w : List UInt8} {lo hi : Nat} (hh : hi ≤ 5) : ((digF w lo hi).2.2 = true ∧ lo ≤ (lead w).length ∧ (lead w).length ≤ hi ∧ digF w lo hi = ((leadN w : Int), w.drop (lead w).length, true)) ∨ ((digF w lo hi).2.2 = false ∧ ((lead w).length < lo ∨ hi < (lead w).length)) := by
  unfold digF
  by_cases h : hi < (lead w).length
  · rw [if_pos h]; exact .inr ⟨rfl, .inr h⟩
  · rw [if_neg h]
    by_cases h2 : lo ≤ (lead w).length
    · rw [decide_eq_true h2]
      exact .inl ⟨rfl, h2, by omega, by rw [lead5 (by omega)]⟩
    · rw [decide_eq_false h2]
      exact .inr ⟨rfl, .inl (by omega)⟩
theorem cut58 (w : List UInt8) : ((cutP w [58]).2 = true ∧ ∃ r, w = 58 :: r ∧ cutP w [58] = (r, true)) ∨ ((cutP w [58]).2 = false ∧ (w = [] ∨ ∃ b r, w = b :: r ∧ b ≠ 58)) := by
  unfold cutP
  cases w with
  | nil => exact .inr ⟨rfl, .inl rfl⟩
  | cons b r =>
    by_cases hb : b = 58
    · subst hb
      have : pre (58 :: r) [58] = true := by unfold pre; exact decide_eq_true rfl
      rw [if_pos this]
      exact .inl ⟨rfl, r, rfl, rfl⟩
    · have : pre (b :: r) [58] = false := by
        unfold pre
        exact decide_eq_false (fun e => hb (by simpa using e))
      rw [if_neg (by simp [this])]
      exact .inr ⟨rfl, .inr ⟨b, r, rfl, hb⟩⟩
/-- What dayTime gives: three numbers, or none. -/
def dayL (w : List UInt8) : List Int := if (dayTimeF w 0 0 0).1 then [(dayTimeF w 0 0 0).2.1, (dayTimeF w 0 0 0).2.2.1, (dayTimeF w 0 0 0).2.2.2] else []
abbrev intT (n : Int) : Abs.V := .int .i64 n
abbrev intsT (L : List Int) : Abs.V := .fro (L.map intT)
theorem lead_int (w : List UInt8) : (lead w).length ≤ w.length := lead_len w
theorem leadN_lt (w : List UInt8) : leadN w < 100000 := by
  unfold leadN
  have h1 : ((lead w).take 5).all digB = true := List.all_eq_true.2 fun x hx => List.all_eq_true.1 (lead_all w) x (List.mem_of_mem_take hx)
  have h2 := value_le _ h1
  have h3 : 10 ^ ((lead w).take 5).length ≤ 10 ^ 5 := Nat.pow_le_pow_right (by decide) (by simp; omega)
  omega
theorem end3 (a b c : Int) : Abs.V.fro (List.take ([] ++ [a] ++ [b] ++ [c] : List Int).length (List.drop 0 (([] ++ [a] ++ [b] ++ [c] : List Int).map intT))) = intsT [a, b, c] := rfl
theorem day_fail1 {w : List UInt8} (h : (digF w 1 2).2.2 = false) : (dayTimeF w 0 0 0).1 = false := by unfold dayTimeF; rw [if_pos h]
end Go.Proofs.Ytclekbkpcigkcaa.StampI
