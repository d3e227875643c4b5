/- Opening handed slices of fields and of ints. -/
import Derived.Test.YtmcihmcgkhijcaaSeen
import Derived.Test.YtmcihmcgkhijcaaBitsZ
namespace Go.Proofs.Ytmcihmcgkhijcaa.BitsO
open Go.RowKit Go.WideShapes Mem Seen BitsW BitsY
section
variable {w : World} {okS : Nat → Prop} {okL : TypeId → Nat → Prop}
theorem as_field (m : Nat) (x : List Value) (h : Sees Try.prog w okS okL m 50 x) : ∃ f : Nat × Int, x = fld f ∧ f.1 < 18446744073709551616 := by
  obtain ⟨q, hl, hf⟩ := sees_struct Try.underlying50 h
  have e : Try.prog.cellsOf 50 = 2 := by kernel_rfl
  have e0 : Try.prog.cellsOf 26 = 1 := by kernel_rfl
  have e1 : Try.prog.cellsOf 3 = 1 := by kernel_rfl
  rw [e] at hl
  match x, hl with
  | [a, b], _ =>
    have h0 := sees_field hf 0 0 1 26 rfl rfl rfl e0
    have h1 := sees_field hf 1 1 1 3 rfl rfl rfl e1
    obtain ⟨i, hi, wi⟩ := sees_int Try.underlying26 h0
    obtain ⟨k, hk, _⟩ := sees_int Try.underlying3 h1
    simp at hi hk
    subst hi hk
    have hb := bounds_u64 wi
    obtain ⟨n, rfl⟩ := Int.eq_ofNat_of_zero_le hb.1
    exact ⟨(n, k), rfl, by omega⟩
theorem as_int (m : Nat) (x : List Value) (h : Sees Try.prog w okS okL m 3 x) : ∃ i : Int, x = [.int .i64 i] ∧ True := by
  obtain ⟨i, hi, _⟩ := sees_int Try.underlying3 h
  exact ⟨i, hi, trivial⟩
theorem open_fields {r : Reach} {b0 : Nat} {v : Value} (hv : Value.okWide Try.prog w r b0 39 v) (h : ∃ n, Sees Try.prog w okS okL n 39 v.cells.toList) (hL : ∀ n, okL 50 n → n * 16 ≤ 140737488351232) :
    ∃ A c L, v = .slice A (List.length L) c ∧ HF w A L ∧ List.length L ≤ c := by
  obtain ⟨A, c, L, rfl, h1, h2, h3, h4, h5⟩ := open_list fld _ Try.underlying39 hv h as_field
  refine ⟨A, c, L, rfl, ⟨h4, ?_, h5⟩, h2⟩
  rcases h3 with h3 | h3
  · have := h1 h3; omega
  · have := hL c h3; omega
theorem open_intsL {r : Reach} {b0 : Nat} {v : Value} (hv : Value.okWide Try.prog w r b0 40 v) (h : ∃ n, Sees Try.prog w okS okL n 40 v.cells.toList) (hL : ∀ n, okL 3 n → n * 8 ≤ 140737488351232) :
    ∃ A c L, v = .slice A (List.length L) c ∧ HI w A L := by
  obtain ⟨A, c, L, rfl, h1, h2, h3, h4, h5⟩ := open_list (fun i : Int => [Value.int .i64 i]) _ Try.underlying40 hv h as_int
  refine ⟨A, c, L, rfl, by rw [flat_single] at h4; exact h4, ?_⟩
  rcases h3 with h3 | h3
  · have := h1 h3; omega
  · have := hL c h3; omega
end
end Go.Proofs.Ytmcihmcgkhijcaa.BitsO
