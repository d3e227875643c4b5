/- The walks of word.Fold, and of the reference's FoldOf, TrimOf, TokenOf, PlaceOf. -/
import Derived.Test.YtfhfpanemalbmaaDoorProg
import Derived.Test.YtfhfpanemalbmaaDoorWordP
import Derived.Test.YtfhfpanemalbmaaDoorOneB
import Derived.Test.YtfhfpanemalbmaaDoorSeq
import Derived.WalkKit
import Derived.WalkLawsBesides
import Derived.WalkSpells
import Derived.Outline
import Derived.Deep.Light
import Derived.LoopTactic
import Derived.IntWalk
import Derived.BigQuiet
import Derived.Laws.IdiomStrings
namespace Go.Proofs.YtfhfpanemalbmaaDoor.WordW
open Go.RowKit Mem WordP OneB

theorem take_snocB (s : ByteArray) (k : Nat) (h : k < s.size) : s.data.toList.take (k + 1) = s.data.toList.take k ++ [s[k]] := by
  rw [List.take_succ_eq_append_getElem (by simpa using h)]; rfl
theorem drop_consB (s : ByteArray) (k : Nat) (h : k < s.size) : s.data.toList.drop k = s[k] :: s.data.toList.drop (k + 1) := List.drop_eq_getElem_cons (by simpa using h)
theorem mkB (s : ByteArray) : (⟨s.data.toList.toArray⟩ : ByteArray) = s := by apply ByteArray.ext; simp
theorem sizeB (l : List UInt8) : (⟨l.toArray⟩ : ByteArray).size = l.length := by simp [ByteArray.size]
def str (l : List UInt8) : ByteArray := ⟨l.toArray⟩
theorem str_app (a : List UInt8) (c : UInt8) : str (a ++ [c]) = str a ++ ⟨#[c]⟩ := by
  apply ByteArray.ext; simp [str, ByteArray.data_append]
theorem str_size (l : List UInt8) : (str l).size = l.length := by simp [str, ByteArray.size]

theorem setCell_marked (w : World) (g i : Nat) (cs : Array Value) (t : TypeId) (fr : Nat × Nat) (v : Value) (hg : w.heap[g]? = some (.cells cs t fr)) :
    (w.setCell ⟨g, i, none⟩ v).heap[g]? = some (.cells (cs.setIfInBounds i v) t fr) := by
  rw [setCell_eq_setRow w g i cs t fr v hg]
  exact setRow_heap w g cs _ t _ hg
/-- The bytes of a conversion, the first k of them folded. -/
def HalfRow (w : World) (g : Nat) (s : ByteArray) (k : Nat) : Prop :=
  ∃ C : Array Value, w.heap[g]? = some (.cells C 5 (C.size, C.size + 1)) ∧ s.size ≤ C.size ∧ ∀ j (hj : j < s.size), C[j]? = some (.int .u8 ((if j < k then foldB s[j] else s[j]).toNat : Int))
theorem half_cell {w : World} {g : Nat} {s : ByteArray} {k : Nat} (h : HalfRow w g s k) (j : Nat) (hj : j < s.size) : w.cell? ⟨g, j, none⟩ = some (.int .u8 ((if j < k then foldB s[j] else s[j]).toNat : Int)) ∧ w.frozen? ⟨g, j, none⟩ = false := by
  obtain ⟨C, h1, h2, h3⟩ := h
  have h4 := h3 j hj
  constructor
  · simp [World.cell?, h1, h4]
  · simp [World.frozen?, h1]; omega
theorem half_set {w : World} {g : Nat} {s : ByteArray} {k : Nat} (h : HalfRow w g s k) (hk : k < s.size) : HalfRow (w.setCell ⟨g, k, none⟩ (.int .u8 ((foldB s[k]).toNat : Int))) g s (k + 1) := by
  obtain ⟨C, h1, h2, h3⟩ := h
  refine ⟨C.setIfInBounds k (.int .u8 ((foldB s[k]).toNat : Int)), ?_, by simpa using h2, fun j hj => ?_⟩
  · have h4 := setCell_marked w g k _ _ _ (.int .u8 ((foldB s[k]).toNat : Int)) h1
    simpa using h4
  · by_cases e : j = k
    · subst e
      rw [Array.getElem?_setIfInBounds_self_of_lt (by omega), if_pos (by omega)]
    · rw [Array.getElem?_setIfInBounds_ne (by omega), h3 j hj]
      by_cases hlt : j < k
      · rw [if_pos hlt, if_pos (by omega)]
      · rw [if_neg hlt, if_neg (by omega)]
theorem half_keep {w : World} {g : Nat} {s : ByteArray} {k : Nat} (h : HalfRow w g s k) (hk : k < s.size) (he : foldB s[k] = s[k]) : HalfRow w g s (k + 1) := by
  obtain ⟨C, h1, h2, h3⟩ := h
  refine ⟨C, h1, h2, fun j hj => ?_⟩
  rw [h3 j hj]
  by_cases e : j = k
  · subst e; rw [if_neg (by omega), if_pos (by omega), he]
  · by_cases hlt : j < k
    · rw [if_pos hlt, if_pos (by omega)]
    · rw [if_neg hlt, if_neg (by omega)]
end Go.Proofs.YtfhfpanemalbmaaDoor.WordW
