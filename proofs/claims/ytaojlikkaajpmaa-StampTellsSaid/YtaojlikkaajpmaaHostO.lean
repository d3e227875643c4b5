/- Numbers of a byte, plain: as they are written, and read. -/
import Derived.Test.YtaojlikkaajpmaaHostP
import Derived.Lib.AtoiAll
import Derived.Lib.ItoaNum
namespace Go.Proofs.Ytaojlikkaajpmaa.HostO
open WordP WordS HostP

def dig3 (n : Nat) : List UInt8 := if n < 10 then [UInt8.ofNat (48 + n)] else if n < 100 then [UInt8.ofNat (48 + n / 10), UInt8.ofNat (48 + n % 10)] else [UInt8.ofNat (48 + n / 100), UInt8.ofNat (48 + n / 10 % 10), UInt8.ofNat (48 + n % 10)]
theorem dec_dig3 {n : Nat} (h : n < 1000) : Lib.decDigits n = dig3 n := by
  unfold dig3
  split
  · exact Lib.decDigits_one (by assumption)
  · split
    · exact Lib.decDigits_two (by assumption) (by assumption)
    · rw [Lib.decDigits, dif_neg (by assumption), Lib.decDigits_two (by omega) (by omega)]
      simp only [List.cons_append, List.nil_append, Nat.div_div_eq_div_mul]
theorem oct_fin : ∀ n : Fin 256, octet (dig3 n.val) = true ∧ value (dig3 n.val) = n.val := by decide +kernel
theorem atoi_fin : ∀ n : Fin 256, Lib.parseMag (dig3 n.val) = .ok n.val ∧ (match dig3 n.val with | [] => false | c :: _ => decide (c.toNat ≠ 43) && decide (c.toNat ≠ 45)) = true := by decide +kernel
theorem atoi_dig3 {n : Nat} (h : n < 256) : Lib.atoiAll (dig3 n) = .ok (n : Int) := by
  obtain ⟨h1, h2⟩ := atoi_fin ⟨n, h⟩
  simp only at h1 h2
  revert h1 h2
  generalize dig3 n = l
  intro h1 h2
  cases l with
  | nil => cases h2
  | cons c r =>
    simp only [Bool.and_eq_true, decide_eq_true_eq] at h2
    unfold Lib.atoiAll
    simp only [h2.1, h2.2, or_self, if_false, h1]
    rw [if_neg (by omega), if_neg (by simp)]
theorem one_fin : ∀ a : Fin 10, octet [UInt8.ofNat (48 + a.val)] = true → [UInt8.ofNat (48 + a.val)] = dig3 (value [UInt8.ofNat (48 + a.val)]) := by decide +kernel
theorem two_fin : ∀ a b : Fin 10, octet [UInt8.ofNat (48 + a.val), UInt8.ofNat (48 + b.val)] = true → [UInt8.ofNat (48 + a.val), UInt8.ofNat (48 + b.val)] = dig3 (value [UInt8.ofNat (48 + a.val), UInt8.ofNat (48 + b.val)]) := by decide +kernel
theorem three_fin : ∀ a b c : Fin 10, octet [UInt8.ofNat (48 + a.val), UInt8.ofNat (48 + b.val), UInt8.ofNat (48 + c.val)] = true → [UInt8.ofNat (48 + a.val), UInt8.ofNat (48 + b.val), UInt8.ofNat (48 + c.val)] = dig3 (value [UInt8.ofNat (48 + a.val), UInt8.ofNat (48 + b.val), UInt8.ofNat (48 + c.val)]) := by decide +kernel
theorem dig_of {c : UInt8} (h : digB c = true) : ∃ a : Fin 10, c = UInt8.ofNat (48 + a.val) := by
  unfold digB at h
  simp only [Bool.and_eq_true, decide_eq_true_eq] at h
  refine ⟨⟨c.toNat - 48, by omega⟩, ?_⟩
  apply UInt8.toNat.inj
  rw [UInt8.toNat_ofNat_of_lt' (by have := c.toNat_lt; show 48 + (c.toNat - 48) < 256; omega)]
  show c.toNat = 48 + (c.toNat - 48)
  omega
theorem octet_parts {s : List UInt8} (h : octet s = true) : 1 ≤ s.length ∧ s.length ≤ 3 ∧ s.all digB = true ∧ value s ≤ 255 := by
  unfold octet at h
  simp only [Bool.and_eq_true, decide_eq_true_eq] at h
  exact ⟨h.1.1.1.1, h.1.1.1.2, h.1.1.2, h.1.2⟩
theorem octet_dig3 {s : List UInt8} (h : octet s = true) : s = dig3 (value s) := by
  obtain ⟨h1, h2, h3, _⟩ := octet_parts h
  match s, h1, h2 with
  | [a], _, _ =>
    simp at h3
    obtain ⟨a, rfl⟩ := dig_of h3
    exact one_fin a h
  | [a, b], _, _ =>
    simp at h3
    obtain ⟨a, rfl⟩ := dig_of h3.1
    obtain ⟨b, rfl⟩ := dig_of h3.2
    exact two_fin a b h
  | [a, b, c], _, _ =>
    simp at h3
    obtain ⟨a, rfl⟩ := dig_of h3.1
    obtain ⟨b, rfl⟩ := dig_of h3.2.1
    obtain ⟨c, rfl⟩ := dig_of h3.2.2
    exact three_fin a b c h
  | a :: b :: c :: d :: r, _, h => simp at h
/-- What strconv says of it. -/
theorem octet_iff (s : List UInt8) : octet s = true ↔ ∃ n : Int, Lib.atoiAll s = .ok n ∧ n ≤ 255 ∧ Lib.itoa n = s ∧ 0 ≤ n := by
  constructor
  · intro h
    have h1 := (octet_parts h).2.2.2
    have h2 := octet_dig3 h
    refine ⟨(value s : Nat), ?_, by omega, ?_, by omega⟩
    · have h3 := atoi_dig3 (n := value s) (by omega)
      rwa [← h2] at h3
    · unfold Lib.itoa
      rw [if_neg (by omega), Int.toNat_natCast, dec_dig3 (by omega), ← h2]
  · rintro ⟨n, h1, h2, h3, h4⟩
    obtain ⟨k, rfl⟩ := Int.eq_ofNat_of_zero_le h4
    unfold Lib.itoa at h3
    rw [if_neg (by omega), Int.toNat_natCast, dec_dig3 (by omega)] at h3
    rw [← h3]
    exact (oct_fin ⟨k, by omega⟩).1
/-! ### The digits that a text begins with -/
def lead (l : List UInt8) : List UInt8 := l.takeWhile digB
def leadN (l : List UInt8) : Nat := value ((lead l).take 5)
theorem value_snoc (l : List UInt8) (c : UInt8) : value (l ++ [c]) = 10 * value l + (c.toNat - 48) := by unfold value; rw [List.foldl_append]; rfl
theorem snoc_ind {α : Type} {p : List α → Prop} (h0 : p []) (h1 : ∀ l b, p l → p (l ++ [b])) : ∀ l, p l := fun l => by
  have : ∀ r : List α, p r.reverse := fun r => by
    induction r with
    | nil => exact h0
    | cons b r ih => rw [List.reverse_cons]; exact h1 _ _ ih
  have h := this l.reverse
  rwa [List.reverse_reverse] at h
theorem value_le : ∀ (l : List UInt8), l.all digB = true → value l < 10 ^ l.length := by
  refine snoc_ind (fun _ => by decide) fun l c ih h => ?_
  · skip
    rw [List.all_append, Bool.and_eq_true] at h
    have h1 := ih h.1
    have h2 : digB c = true := by simpa using h.2
    unfold digB at h2
    simp only [Bool.and_eq_true, decide_eq_true_eq] at h2
    rw [value_snoc, List.length_append, List.length_singleton, Nat.pow_succ]
    omega
theorem lead_all (l : List UInt8) : (lead l).all digB = true := List.all_eq_true.2 fun x hx => by
  unfold lead at hx
  induction l with
  | nil => simp at hx
  | cons c r ih =>
    rw [List.takeWhile_cons] at hx
    split at hx
    · rename_i hc
      rcases List.mem_cons.1 hx with rfl | hx
      · exact hc
      · exact ih hx
    · cases hx
theorem take_self : ∀ (s : List UInt8), s.all digB = true → s.takeWhile digB = s
  | [], _ => rfl
  | c :: r, h => by
    rw [List.all_cons, Bool.and_eq_true] at h
    rw [List.takeWhile_cons, if_pos h.1, take_self r h.2]
theorem octet_lead (s : List UInt8) : octet s = (decide (1 ≤ (lead s).length) && decide ((lead s).length ≤ 3) && decide ((lead s).length = s.length) && decide (leadN s ≤ 255) && (decide ((lead s).length ≤ 1) || !(s.getD 0 0 == 48))) := by
  by_cases h : s.all digB = true
  · have e : lead s = s := by
      unfold lead
      exact take_self s h
    unfold octet leadN
    rw [e, h]
    by_cases h3 : s.length ≤ 3
    · rw [List.take_of_length_le (by omega)]; simp
    · simp [h3]
  · have e : (lead s).length ≠ s.length := fun e => by
      have h1 : lead s = s := by
        have := List.takeWhile_prefix digB (l := s)
        exact this.eq_of_length e
      exact h (h1 ▸ lead_all s)
    simp only [Bool.not_eq_true] at h
    unfold octet
    rw [h]
    simp [e]
end Go.Proofs.Ytaojlikkaajpmaa.HostO
