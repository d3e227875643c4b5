/- The plain law of ChainHurt: the hash tells one byte's change. -/
import Derived.Test.YtmcihmcgkhijcaaChainP
namespace Go.Proofs.Ytmcihmcgkhijcaa.ChainX
open ChainW ChainH ChainR ChainD ChainE ChainP

theorem mul_inj {a b : Nat} (ha : a < 18446744073709551616) (hb : b < 18446744073709551616) (e : (a * 1099511628211) % 18446744073709551616 = (b * 1099511628211) % 18446744073709551616) : a = b := by
  have h1 : (a * 1099511628211 % 18446744073709551616) * 14886173955864302971 % 18446744073709551616 = (b * 1099511628211 % 18446744073709551616) * 14886173955864302971 % 18446744073709551616 := by rw [e]
  have key : ∀ x : Nat, x < 18446744073709551616 → (x * 1099511628211 % 18446744073709551616) * 14886173955864302971 % 18446744073709551616 = x := by
    intro x hx
    rw [Nat.mul_mod, Nat.mod_mod, ← Nat.mul_mod, Nat.mul_assoc, Nat.mul_mod, show (1099511628211 * 14886173955864302971) % 18446744073709551616 = 1 from by decide, Nat.mul_one, Nat.mod_mod, Nat.mod_eq_of_lt hx]
  rw [key a ha, key b hb] at h1
  exact h1
theorem xor_lt64 {h : Nat} (c : UInt8) (hh : h < 18446744073709551616) : h ^^^ c.toNat < 18446744073709551616 := by
  have := c.toNat_lt
  exact Nat.xor_lt_two_pow (n := 64) hh (by omega)
theorem xor_right_inj {a b c : Nat} (e : a ^^^ c = b ^^^ c) : a = b := by
  have : (a ^^^ c) ^^^ c = (b ^^^ c) ^^^ c := by rw [e]
  simpa [Nat.xor_assoc] using this
theorem xor_left_inj {a b c : Nat} (e : c ^^^ a = c ^^^ b) : a = b := by
  rw [Nat.xor_comm c a, Nat.xor_comm c b] at e; exact xor_right_inj e
theorem step_inj_state {h g : Nat} (c : UInt8) (hh : h < 18446744073709551616) (hg : g < 18446744073709551616) (e : ChainW.step h c = ChainW.step g c) : h = g := xor_right_inj (mul_inj (xor_lt64 c hh) (xor_lt64 c hg) e)
theorem step_inj_byte {h : Nat} {c d : UInt8} (hh : h < 18446744073709551616) (e : ChainW.step h c = ChainW.step h d) : c = d :=
  UInt8.toNat_inj.1 (xor_left_inj (mul_inj (xor_lt64 c hh) (xor_lt64 d hh) e))
theorem fold_inj : ∀ (l : List UInt8) {h g : Nat}, h < 18446744073709551616 → g < 18446744073709551616 → l.foldl ChainW.step h = l.foldl ChainW.step g → h = g
  | [], _, _, _, _, e => e
  | c :: l, h, g, hh, hg, e => step_inj_state c hh hg (fold_inj l (step_lt h c) (step_lt g c) e)
theorem fnv_hurt (p r : List UInt8) (c d : UInt8) : fnv (p ++ c :: r) = fnv (p ++ d :: r) ↔ c = d := by
  constructor
  · intro e
    unfold fnv at e
    rw [List.foldl_append, List.foldl_append] at e
    simp only [List.foldl_cons] at e
    exact step_inj_byte (fold_lt p _ (by omega)) (fold_inj r (step_lt _ c) (step_lt _ d) e)
  · rintro rfl; rfl
theorem head_hurt (L : List ByteArray) (p r : List UInt8) (c d : UInt8) (s t : ByteArray) (hs : s.data.toList = p ++ c :: r) (ht : t.data.toList = p ++ d :: r) : head (L ++ [s]) = head (L ++ [t]) ↔ c = d := by
  rw [head_snoc, head_snoc, hs, ht]
  unfold link
  rw [← List.append_assoc, ← List.append_assoc]
  exact fnv_hurt _ _ _ _
end Go.Proofs.Ytmcihmcgkhijcaa.ChainX
