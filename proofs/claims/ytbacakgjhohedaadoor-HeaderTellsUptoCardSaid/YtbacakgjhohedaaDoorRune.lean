/- Runes of a text, seen from its bytes: each one under 128 by itself, all else from 128 on. Plain. -/
import Derived.Test.YtbacakgjhohedaaDoorAbsU
import Derived.Lib.SpaceUEq
import Derived.Lib.MapLaws
namespace Go.Proofs.YtbacakgjhohedaaDoor.Rune
open Abs
theorem get_str (l : List UInt8) (i : Nat) : (str l).get! i = l.getD i 0 := by
  show l.toArray[i]! = _
  rw [List.getElem!_toArray, List.getD_eq_getElem?_getD, List.getElem!_eq_getElem?_getD]
  rfl
theorem getD_some {l : List UInt8} {i : Nat} (h : i < l.length) : l[i]? = some (l.getD i 0) := by
  rw [List.getD_eq_getElem?_getD, List.getElem?_eq_getElem h]; rfl
theorem rune_at (l : List UInt8) (pos : Nat) (h : pos < l.length) : ∃ c wd, Utf8.decode (str l) pos = (c, wd) ∧ 1 ≤ wd ∧ pos + wd ≤ l.length ∧ c ≤ 1114111 ∧
    ((∃ b, l[pos]? = some b ∧ b.toNat < 128 ∧ c = b.toNat ∧ wd = 1) ∨ (128 ≤ c ∧ ∀ j, pos ≤ j → j < pos + wd → ∃ b, l[j]? = some b ∧ 128 ≤ b.toNat)) := by
  have hr := Lib.rune_le (str l) pos
  have hd := Lib.decode_at (str l) pos
  rw [get_str, get_str, get_str, get_str, str_size] at hd
  have h0 := getD_some h
  have hb := (l.getD pos 0).toNat_lt
  have hs := Lib.decodeN_shape (l.length - pos) (l.getD pos 0).toNat (l.getD (pos + 1) 0).toNat (l.getD (pos + 2) 0).toNat (l.getD (pos + 3) 0).toNat
  rcases hs with ⟨g1, g2⟩ | ⟨g1, g2, g3, g4, g5⟩ | ⟨g1, g2, g3, g4, g5, g6, g7⟩ | ⟨g1, g2, g3, g4, g5, g6, g7, g8⟩ | g1
  · rw [g2] at hd
    exact ⟨_, _, hd, by omega, by omega, by omega, .inl ⟨_, h0, g1, rfl, rfl⟩⟩
  · rw [g5] at hd
    refine ⟨_, _, hd, by omega, by omega, by rw [hd] at hr; exact hr, .inr ⟨g4, fun j h1 h2 => ?_⟩⟩
    refine ⟨_, getD_some (by omega), ?_⟩
    rcases (show j = pos ∨ j = pos + 1 by omega) with rfl | rfl <;> omega
  · rw [g7] at hd
    refine ⟨_, _, hd, by omega, by omega, by rw [hd] at hr; exact hr, .inr ⟨by omega, fun j h1 h2 => ?_⟩⟩
    refine ⟨_, getD_some (by omega), ?_⟩
    rcases (show j = pos ∨ j = pos + 1 ∨ j = pos + 2 by omega) with rfl | rfl | rfl <;> omega
  · rw [g8] at hd
    refine ⟨_, _, hd, by omega, by omega, by rw [hd] at hr; exact hr, .inr ⟨by omega, fun j h1 h2 => ?_⟩⟩
    refine ⟨_, getD_some (by omega), ?_⟩
    rcases (show j = pos ∨ j = pos + 1 ∨ j = pos + 2 ∨ j = pos + 3 by omega) with rfl | rfl | rfl | rfl <;> omega
  · rw [g1] at hd
    by_cases h1 : (l.getD pos 0).toNat < 128
    · exfalso
      have : Lib.decodeN (l.length - pos) (l.getD pos 0).toNat (l.getD (pos + 1) 0).toNat (l.getD (pos + 2) 0).toNat (l.getD (pos + 3) 0).toNat = ((l.getD pos 0).toNat, 1) := by unfold Lib.decodeN; rw [if_pos h1]
      rw [g1] at this
      have := congrArg Prod.fst this
      dsimp only at this; omega
    · refine ⟨_, _, hd, by omega, by omega, by omega, .inr ⟨by omega, fun j h2 h3 => ?_⟩⟩
      obtain rfl : j = pos := by omega
      exact ⟨_, h0, by omega⟩
end Go.Proofs.YtbacakgjhohedaaDoor.Rune
