/- Bytes as letters, plain: sixes of bits. -/
import Derived.Test.YtfhfpanemalbmaaDoorBitsP
import Derived.Test.YtfhfpanemalbmaaDoorWordS
namespace Go.Proofs.YtfhfpanemalbmaaDoor.SixtyP
open BitsP

def abc : List UInt8 := [65, 66, 67, 68, 69, 70, 71, 72, 73, 74, 75, 76, 77, 78, 79, 80, 81, 82, 83, 84, 85, 86, 87, 88, 89, 90, 97, 98, 99, 100, 101, 102, 103, 104, 105, 106, 107, 108, 109, 110, 111, 112, 113, 114, 115, 116, 117, 118, 119, 120, 121, 122, 48, 49, 50, 51, 52, 53, 54, 55, 56, 57, 45, 95]
theorem abc_len : abc.length = 64 := by decide
def letter (n : Nat) : UInt8 := abc.getD n 0
/-- Letters for bits, six by six; the last ones are filled up with noughts. -/
def enc6 : List Nat → List UInt8
  | a :: b :: c :: d :: e :: f :: r => letter (num [a, b, c, d, e, f]) :: enc6 r
  | [] => []
  | l => [letter (num l * 2 ^ (6 - l.length))]
theorem enc6_step (l : List Nat) (h : l ≠ []) : enc6 l = letter (num (l.take (min 6 l.length)) * 2 ^ (6 - min 6 l.length)) :: enc6 (l.drop (min 6 l.length)) := by
  match l, h with
  | [a], _ => rfl
  | [a, b], _ => rfl
  | [a, b, c], _ => rfl
  | [a, b, c, d], _ => rfl
  | [a, b, c, d, e], _ => rfl
  | a :: b :: c :: d :: e :: f :: r, _ =>
    have e : min 6 (a :: b :: c :: d :: e :: f :: r).length = 6 := by simp
    rw [e]
    simp [enc6]
theorem enc6_len : ∀ (n : Nat) (l : List Nat), l.length ≤ n → (enc6 l).length = (l.length + 5) / 6
  | 0, l, h => by
    obtain rfl : l = [] := List.eq_nil_of_length_eq_zero (by omega)
    rfl
  | n + 1, l, h => by
    by_cases h0 : l = []
    · subst h0; rfl
    · have hl : 0 < l.length := List.length_pos_iff.2 h0
      rw [enc6_step l h0, List.length_cons, enc6_len n _ (by rw [List.length_drop]; omega), List.length_drop]
      omega
/-- Six bits and more. -/
theorem enc6_app (a l : List Nat) (h : a.length = 6) : enc6 (a ++ l) = letter (num a) :: enc6 l := by
  match a, h with
  | [a, b, c, d, e, f], _ => rfl
theorem enc6_apps : ∀ (n : Nat) (a l : List Nat), a.length = 6 * n → enc6 (a ++ l) = enc6 a ++ enc6 l
  | 0, a, l, h => by
    obtain rfl : a = [] := List.eq_nil_of_length_eq_zero (by omega)
    rfl
  | n + 1, a, l, h => by
    have h6 : (a.take 6).length = 6 := by rw [List.length_take]; omega
    have hd : (a.drop 6).length = 6 * n := by rw [List.length_drop]; omega
    have e1 := enc6_app (a.take 6) (a.drop 6 ++ l) h6
    have e2 := enc6_app (a.take 6) (a.drop 6) h6
    rw [← List.append_assoc, List.take_append_drop] at e1
    rw [List.take_append_drop] at e2
    rw [e1, e2, enc6_apps n _ _ hd]
    rfl
theorem bits8 (n : Nat) (h : n < 256) : bitsOf n 8 = [n / 128 % 2, n / 64 % 2, n / 32 % 2, n / 16 % 2, n / 8 % 2, n / 4 % 2, n / 2 % 2, n % 2] := by
  have key : ∀ m : Fin 256, bitsOf m.val 8 = [m.val / 128 % 2, m.val / 64 % 2, m.val / 32 % 2, m.val / 16 % 2, m.val / 8 % 2, m.val / 4 % 2, m.val / 2 % 2, m.val % 2] := by decide +kernel
  exact key ⟨n, h⟩
/-- Three bytes are four letters. -/
theorem enc_three (a b c : UInt8) (r : List UInt8) : enc6 (tbits (a :: b :: c :: r)) = letter (a.toNat / 4) :: letter (a.toNat % 4 * 16 + b.toNat / 16) :: letter (b.toNat % 16 * 4 + c.toNat / 64) :: letter (c.toNat % 64) :: enc6 (tbits r) := by
  have ha := a.toNat_lt; have hb := b.toNat_lt; have hc := c.toNat_lt
  simp only [tbits, List.flatMap_cons]
  rw [bits8 _ ha, bits8 _ hb, bits8 _ hc]
  simp only [List.cons_append, List.nil_append, enc6, num, List.foldl_cons, List.foldl_nil]
  refine List.cons_eq_cons.2 ⟨congrArg letter (by omega), List.cons_eq_cons.2 ⟨congrArg letter (by omega), List.cons_eq_cons.2 ⟨congrArg letter (by omega), List.cons_eq_cons.2 ⟨congrArg letter (by omega), rfl⟩⟩⟩⟩
theorem enc_two (a b : UInt8) : enc6 (tbits [a, b]) = [letter (a.toNat / 4), letter (a.toNat % 4 * 16 + b.toNat / 16), letter (b.toNat % 16 * 4)] := by
  have ha := a.toNat_lt; have hb := b.toNat_lt
  simp only [tbits, List.flatMap_cons, List.flatMap_nil]
  rw [bits8 _ ha, bits8 _ hb]
  simp only [List.cons_append, List.nil_append, enc6, num, List.foldl_cons, List.foldl_nil, List.length_cons, List.length_nil]
  refine List.cons_eq_cons.2 ⟨congrArg letter (by omega), List.cons_eq_cons.2 ⟨congrArg letter (by omega), List.cons_eq_cons.2 ⟨congrArg letter (by omega), rfl⟩⟩⟩
theorem enc_one (a : UInt8) : enc6 (tbits [a]) = [letter (a.toNat / 4), letter (a.toNat % 4 * 16)] := by
  have ha := a.toNat_lt
  simp only [tbits, List.flatMap_cons, List.flatMap_nil]
  rw [bits8 _ ha]
  simp only [List.cons_append, List.nil_append, enc6, num, List.foldl_cons, List.foldl_nil, List.length_cons, List.length_nil]
  refine List.cons_eq_cons.2 ⟨congrArg letter (by omega), List.cons_eq_cons.2 ⟨congrArg letter (by omega), rfl⟩⟩
end Go.Proofs.YtfhfpanemalbmaaDoor.SixtyP
