/- Decimal numerals: parsed and printed. Plain. -/
import Derived.Lib.AtoiAll
import Derived.Lib.ItoaNum
namespace Go.Proofs.YtdimidhacccdjaaDoor.NumP
open Go

def digC (c : UInt8) : Bool := decide (48 ≤ c.toNat) && decide (c.toNat ≤ 57)
def valA (a : Nat) (l : List UInt8) : Nat := l.foldl (fun n c => n * 10 + (c.toNat - 48)) a
theorem valA_ge : ∀ (l : List UInt8) (a : Nat), a ≤ valA a l
  | [], a => Nat.le_refl _
  | c :: l, a => by
    show a ≤ valA (a * 10 + (c.toNat - 48)) l
    exact Nat.le_trans (by omega) (valA_ge l _)
theorem digit_nat {d : Nat} (h : d < 10) : (UInt8.ofNat (48 + d)).toNat = 48 + d := by
  rw [UInt8.toNat_ofNat']; exact Nat.mod_eq_of_lt (by omega)
theorem dd_digits (u : Nat) : ∀ c ∈ Lib.decDigits u, digC c = true := by
  induction u using Nat.strongRecOn with
  | _ u ih =>
    intro c hc
    have key : ∀ d, d < 10 → digC (UInt8.ofNat (48 + d)) = true := fun d hd => by unfold digC; rw [digit_nat hd]; simp; omega
    rw [Lib.decDigits] at hc
    split at hc
    · rename_i h
      simp only [List.mem_singleton] at hc
      subst hc; exact key u h
    · rcases List.mem_append.1 hc with hc | hc
      · exact ih (u / 10) (by omega) c hc
      · simp only [List.mem_singleton] at hc
        subst hc; exact key _ (Nat.mod_lt _ (by decide))
theorem valA_snoc (l : List UInt8) (c : UInt8) (a : Nat) : valA a (l ++ [c]) = valA a l * 10 + (c.toNat - 48) := by unfold valA; rw [List.foldl_append]; rfl
theorem dd_val (u : Nat) : valA 0 (Lib.decDigits u) = u := by
  induction u using Nat.strongRecOn with
  | _ u ih =>
    rw [Lib.decDigits]
    split
    · rename_i h
      show 0 * 10 + ((UInt8.ofNat (48 + u)).toNat - 48) = u
      rw [digit_nat h]; omega
    · rw [valA_snoc, ih (u / 10) (by omega), digit_nat (Nat.mod_lt _ (by decide))]; omega
theorem dd_ne (u : Nat) : Lib.decDigits u ≠ [] := by
  rw [Lib.decDigits]
  split <;> simp
theorem dd_head {u : Nat} {c : UInt8} {r : List UInt8} (h : Lib.decDigits u = c :: r) : digC c = true := dd_digits u c (by rw [h]; simp)
theorem p10 : ∀ (l : List UInt8) (a : Nat), (∀ c ∈ l, digC c = true) → valA a l < 18446744073709551616 → Lib.parseUint10 a l = .ok (valA a l)
  | [], a, _, _ => rfl
  | c :: l, a, h, hv => by
    have hc := h c (by simp)
    unfold digC at hc
    simp only [Bool.and_eq_true, decide_eq_true_eq] at hc
    have hge := valA_ge l (a * 10 + (c.toNat - 48))
    have hv2 : valA (a * 10 + (c.toNat - 48)) l < 18446744073709551616 := hv
    show (if 48 ≤ c.toNat ∧ c.toNat ≤ 57 then _ else _) = _
    rw [if_pos hc, if_neg (by omega), if_neg (by omega)]
    exact p10 l _ (fun d hd => h d (by simp [hd])) hv2
/-- A numeral is read as it was printed. -/
theorem atoi_itoa (u : Nat) (h : u < 9223372036854775808) : Lib.atoiAll (Lib.itoa (u : Int)) = .ok (u : Int) := by
  have e : Lib.itoa (u : Int) = Lib.decDigits u := by unfold Lib.itoa; rw [if_neg (by omega)]; simp
  rw [e]
  cases hd : Lib.decDigits u with
  | nil => exact absurd hd (dd_ne u)
  | cons c r =>
    have hc := dd_head hd
    unfold digC at hc
    simp only [Bool.and_eq_true, decide_eq_true_eq] at hc
    unfold Lib.atoiAll
    dsimp only
    rw [if_neg (by omega)]
    have hm : Lib.parseMag (c :: r) = .ok u := by
      unfold Lib.parseMag
      rw [if_neg (by simp), ← hd, p10 _ _ (dd_digits u) (by rw [dd_val]; omega), dd_val]
    rw [hm]
    dsimp only
    rw [if_neg (by omega), if_neg (by omega), if_neg (by omega)]
theorem itoa_dd (u : Nat) : Lib.itoa (u : Int) = Lib.decDigits u := by unfold Lib.itoa; rw [if_neg (by omega)]; simp
theorem itoa_inj {u v : Nat} (h : Lib.itoa (u : Int) = Lib.itoa (v : Int)) : u = v := by
  rw [itoa_dd, itoa_dd] at h
  have := congrArg (valA 0) h
  rwa [dd_val, dd_val] at this
theorem itoa_no (n : Int) (b : UInt8) (h1 : digC b = false) (h2 : b ≠ 45) : (Lib.itoa n).contains b = false := by
  have key : ∀ u, (Lib.decDigits u).contains b = false := fun u => by
    rw [← Bool.not_eq_true, List.contains_iff_mem]
    intro hm
    rw [dd_digits u b hm] at h1; cases h1
  unfold Lib.itoa
  split
  · rw [List.contains_cons, key, Bool.or_false]; simpa using h2
  · exact key _
theorem dd_len {u : Nat} (h : u < 10000000) : (Lib.decDigits u).length ≤ 7 := by
  rw [Lib.decDigits_length]
  have h1 : u < 10 ^ 7 := h
  by_cases h0 : Lib.nDigits u ≤ 7
  · exact h0
  · exfalso
    have : ∀ k u, u < 10 ^ (k + 1) → Lib.nDigits u ≤ k + 1 := by
      intro k
      induction k with
      | zero => intro u hu; rw [Lib.nDigits_small (by simpa using hu)]; exact Nat.le_refl _
      | succ k ih =>
        intro u hu
        by_cases h : u < 10
        · rw [Lib.nDigits_small h]; omega
        · rw [Lib.nDigits_big h]
          have := ih (u / 10) (by rw [Nat.pow_succ] at hu; omega)
          omega
    exact h0 (this 6 u h1)
end Go.Proofs.YtdimidhacccdjaaDoor.NumP
