/- The walks of word.Fold, and of the reference's FoldOf, TrimOf, TokenOf, PlaceOf. -/
import Derived.Test.YtbacakgjhohedaaDoorProg
import Derived.Test.YtbacakgjhohedaaDoorWordP
import Derived.Test.YtbacakgjhohedaaDoorOneB
import Derived.Test.YtbacakgjhohedaaDoorSeq
import Derived.WalkKit
import Derived.WalkLawsBesides
import Derived.WalkSpells
import Derived.Outline
import Derived.Deep.Light
import Derived.LoopTactic
import Derived.IntWalk
import Derived.BigQuiet
import Derived.Laws.IdiomStrings
namespace Go.Proofs.YtbacakgjhohedaaDoor.WordW
open Go.RowKit Mem WordP OneB

theorem take_snocB (s : ByteArray) (k : Nat) (h : k < s.size) : s.data.toList.take (k + 1) = s.data.toList.take k ++ [s[k]] := by
  rw [List.take_succ_eq_append_getElem (by simpa using h)]; rfl
theorem drop_consB (s : ByteArray) (k : Nat) (h : k < s.size) : s.data.toList.drop k = s[k] :: s.data.toList.drop (k + 1) := List.drop_eq_getElem_cons (by simpa using h)
theorem mkB (s : ByteArray) : (⟨s.data.toList.toArray⟩ : ByteArray) = s := by apply ByteArray.ext; simp
theorem sizeB (l : List UInt8) : (⟨l.toArray⟩ : ByteArray).size = l.length := by simp [ByteArray.size]
def str (l : List UInt8) : ByteArray := ⟨l.toArray⟩
theorem str_app (a : List UInt8) (c : UInt8) : str (a ++ [c]) = str a ++ ⟨#[c]⟩ := by
  apply ByteArray.ext; simp [str, ByteArray.data_append]
theorem str_size (l : List UInt8) : (str l).size = l.length := by simp [str, ByteArray.size]

theorem setCell_marked (w : World) (g i : Nat) (cs : Array Value) (t : TypeId) (fr : Nat × Nat) (v : Value) (hg : w.heap[g]? = some (.cells cs t fr)) :
    (w.setCell ⟨g, i, none⟩ v).heap[g]? = some (.cells (cs.setIfInBounds i v) t fr) := by
  rw [setCell_eq_setRow w g i cs t fr v hg]
  exact setRow_heap w g cs _ t _ hg
/-- The bytes of a conversion, the first k of them folded. -/
def HalfRow (w : World) (g : Nat) (s : ByteArray) (k : Nat) : Prop :=
  ∃ C : Array Value, w.heap[g]? = some (.cells C 5 (C.size, C.size + 1)) ∧ s.size ≤ C.size ∧ ∀ j (hj : j < s.size), C[j]? = some (.int .u8 ((if j < k then foldB s[j] else s[j]).toNat : Int))
theorem half_cell {w : World} {g : Nat} {s : ByteArray} {k : Nat} (h : HalfRow w g s k) (j : Nat) (hj : j < s.size) : w.cell? ⟨g, j, none⟩ = some (.int .u8 ((if j < k then foldB s[j] else s[j]).toNat : Int)) ∧ w.frozen? ⟨g, j, none⟩ = false := by
  obtain ⟨C, h1, h2, h3⟩ := h
  have h4 := h3 j hj
  constructor
  · simp [World.cell?, h1, h4]
  · simp [World.frozen?, h1]; omega
theorem half_set {w : World} {g : Nat} {s : ByteArray} {k : Nat} (h : HalfRow w g s k) (hk : k < s.size) : HalfRow (w.setCell ⟨g, k, none⟩ (.int .u8 ((foldB s[k]).toNat : Int))) g s (k + 1) := by
  obtain ⟨C, h1, h2, h3⟩ := h
  refine ⟨C.setIfInBounds k (.int .u8 ((foldB s[k]).toNat : Int)), ?_, by simpa using h2, fun j hj => ?_⟩
  · have h4 := setCell_marked w g k _ _ _ (.int .u8 ((foldB s[k]).toNat : Int)) h1
    simpa using h4
  · by_cases e : j = k
    · subst e
      rw [Array.getElem?_setIfInBounds_self_of_lt (by omega), if_pos (by omega)]
    · rw [Array.getElem?_setIfInBounds_ne (by omega), h3 j hj]
      by_cases hlt : j < k
      · rw [if_pos hlt, if_pos (by omega)]
      · rw [if_neg hlt, if_neg (by omega)]
theorem half_keep {w : World} {g : Nat} {s : ByteArray} {k : Nat} (h : HalfRow w g s k) (hk : k < s.size) (he : foldB s[k] = s[k]) : HalfRow w g s (k + 1) := by
  obtain ⟨C, h1, h2, h3⟩ := h
  refine ⟨C, h1, h2, fun j hj => ?_⟩
  rw [h3 j hj]
  by_cases e : j = k
  · subst e; rw [if_neg (by omega), if_pos (by omega), he]
  · by_cases hlt : j < k
    · rw [if_pos hlt, if_pos (by omega)]
    · rw [if_neg hlt, if_neg (by omega)]
set_option maxHeartbeats 2000000 in
theorem fold_any (s : ByteArray) (w : World) (hs : s.size ≤ 4611686018427387904) :
    Calls Tryd.prog 19 #[.string s] w (Gives (.string (str (fold s.data.toList))) w) := by
  have kc := fun (w : World) (s : ByteArray) => run_bytes_of_string (P := Tryd.prog) w 9 45 5 s Tryd.underlying9 Tryd.underlying45 Tryd.underlying5
  have kb := fun (w : World) (g cap : Nat) (l : List UInt8) h => run_convert_bytes_back (P := Tryd.prog) w 45 9 5 ⟨g, 0, none⟩ cap l Tryd.underlying45 Tryd.underlying5 Tryd.underlying9 h
  have KB := Lib.hid kb
  clear kb
  go_enter Tryd.func19, Tryd.ntmps19
  go_wp2_with fail
  have hrow : HalfRow (w.alloc (.cells (bytesRow s (grownCap w s.size 0 5)) 5 ((bytesRow s (grownCap w s.size 0 5)).size, (bytesRow s (grownCap w s.size 0 5)).size + 1))).drew w.heap.size s 0 := by
    refine ⟨_, heap_alloc_new w _, by simp [bytesRow], fun j hj => ?_⟩
    rw [bytesRow_at s _ j (by simpa using hj), if_neg (by omega)]; rfl
  have hb0 : Below w.heap.size w (w.alloc (.cells (bytesRow s (grownCap w s.size 0 5)) 5 ((bytesRow s (grownCap w s.size 0 5)).size, (bytesRow s (grownCap w s.size 0 5)).size + 1))).drew := ((Below.refl _ w).alloc (Nat.le_refl _) _).drew
  generalize (w.alloc (.cells (bytesRow s (grownCap w s.size 0 5)) 5 ((bytesRow s (grownCap w s.size 0 5)).size, (bytesRow s (grownCap w s.size 0 5)).size + 1))).drew = w1 at hrow hb0 ⊢
  generalize grownCap w s.size 0 5 = C
  clear kc
  go_loopw [10] (fun i wr => ∃ k : Nat, k ≤ s.size ∧ i = .int .i64 k ∧ HalfRow wr w.heap.size s k ∧ Below w.heap.size w wr) (fun i _ => s.size - (intOf i).toNat)
  case atStart => exact ⟨0, Nat.zero_le _, rfl, hrow, hb0⟩
  case round =>
    obtain ⟨k, hk, rfl, hh, hb⟩ := hrel
    by_cases hlt : k < s.size
    · obtain ⟨c0, f0⟩ := half_cell hh k hlt
      rw [if_neg (by omega)] at c0
      have hc256 : s[k].toNat < 256 := UInt8.toNat_lt _
      have hnat := foldB_nat s[k]
      have HH := Lib.hid hh
      have hk1 : (0 : Int) ≤ (k : Int) := by omega
      have hk2 : (k : Int) < (s.size : Int) := by omega
      by_cases hup : 65 ≤ s[k].toNat ∧ s[k].toNat ≤ 90
      · have hset := half_set hh hlt
        rw [if_pos hup] at hnat
        have hi : ((foldB s[k]).toNat : Int) = (s[k].toNat : Int) + 32 := by omega
        rw [hi] at hset
        have HS := Lib.hid hset
        obtain ⟨u1, u2⟩ := hup
        clear hset hh hnat hi
        generalize s[k] = c at c0 hc256 u1 u2 HS
        go_wp2_with fail
        go_roundw
        case rel => exact ⟨k + 1, by omega, by go_num, HS.out, hb.setCell (Nat.le_refl _) _⟩
        case measure => simp [intOf]; omega
      · have hkeep : foldB s[k] = s[k] := by
          rw [if_neg hup] at hnat
          exact UInt8.toNat_inj.1 hnat
        have HS := Lib.hid (half_keep hh hlt hkeep)
        clear hkeep hh hnat
        generalize s[k] = c at c0 hc256 hup
        by_cases u1 : 65 ≤ c.toNat
        · have u2 : ¬ c.toNat ≤ 90 := fun h => hup ⟨u1, h⟩
          clear hup
          go_wp2_with fail
          go_roundw
          case rel => exact ⟨k + 1, by omega, by go_num, HS.out, hb⟩
          case measure => simp [intOf]; omega
        · have u3 : decide ((65 : Int) ≤ (c.toNat : Int)) = false := by simp; omega
          clear hup
          go_wp2_with fail
          go_roundw
          case rel => exact ⟨k + 1, by omega, by go_num, HS.out, hb⟩
          case measure => simp [intOf]; omega
    · obtain rfl : k = s.size := by omega
      have kb := KB.out wr w.heap.size C (fold s.data.toList) (fun j hj => by
        have hj' : j < s.size := by simpa [fold] using hj
        obtain ⟨c0, _⟩ := half_cell hh j hj'
        rw [if_pos hj'] at c0
        have e : (⟨w.heap.size, 0, none⟩ : Addr).add j = ⟨w.heap.size, j, none⟩ := by
          unfold Addr.add
          split
          · subst_vars; rfl
          · simp
        rw [e, c0]
        simp [fold]; rfl)
      have e : (fold s.data.toList).length = s.size := by simp [fold]
      rw [e] at kb
      clear hh hrow
      go_wp2_with fail
      go_ret
      exact ⟨rfl, hb⟩
end Go.Proofs.YtbacakgjhohedaaDoor.WordW
