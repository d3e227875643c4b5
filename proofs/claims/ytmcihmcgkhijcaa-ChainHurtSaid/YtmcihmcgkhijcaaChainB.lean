/- The walk of the law's chainBegun. -/
import Derived.Test.YtmcihmcgkhijcaaChainS
namespace Go.Proofs.Ytmcihmcgkhijcaa.ChainB
open Go.RowKit ChainW ChainH ChainR ChainD ChainS

theorem strs_lit (w : World) (t : TypeId) (L : List ByteArray) (B : Nat) (hB : w.heap.size < B) : Strs (w.alloc (.cells (L.map Value.string).toArray t)) B (some ⟨w.heap.size, 0, none⟩) L := fun _ => by
  refine ⟨w.heap.size, 0, rfl, hB, fun j hj => ?_⟩
  rw [Nat.zero_add]
  simp [World.cell?_alloc_new, hj]
def bA : ByteArray := ⟨#[97]⟩
def bB : ByteArray := ⟨#[98]⟩
theorem z1 : ∀ s ∈ [bA], s.size ≤ 140737488351232 := by intro s h; simp at h; subst h; decide
theorem z2 : ∀ s ∈ [bB], s.size ≤ 140737488351232 := by intro s h; simp at h; subst h; decide
theorem z12 : ∀ s ∈ [bA, bB], s.size ≤ 140737488351232 := by intro s h; simp at h; rcases h with rfl | rfl <;> decide
def hAB : Nat := head [bA, bB]
theorem hAB_lt : hAB < 18446744073709551616 := head_lt _
theorem fnv0 : fnv [] = 14695981039346656037 := rfl
theorem fnvA : fnv [97] = 12638187200555641996 := by decide
theorem lnk : link 258 [120] = [0, 0, 0, 0, 0, 0, 1, 2, 120] := by decide
theorem hA_ne : ((head [bA] : Int) == IntKind.u64.wrap ((hAB : Int) + 1)) = false := by decide
theorem noAB : colF [bA] [bB] 1 1 1 = (⟨#[]⟩, ⟨#[]⟩, false) := by decide

theorem hash0_any (w : World) : Calls Try.prog 25 #[.string ⟨#[]⟩] w (VPost (.int .u64 14695981039346656037) w) := hash_any ⟨#[]⟩ w (by decide)
theorem hashA_any (w : World) : Calls Try.prog 25 #[.string ⟨#[97]⟩] w (VPost (.int .u64 12638187200555641996) w) := by
  have h := hash_any ⟨#[97]⟩ w (by decide)
  have e : fnv (⟨#[97]⟩ : ByteArray).data.toList = 12638187200555641996 := fnvA
  rw [e] at h
  exact h
theorem link258_any (w : World) : Calls Try.prog 27 #[.int .u64 258, .string ⟨#[120]⟩] w (VPost (.string ⟨#[0, 0, 0, 0, 0, 0, 1, 2, 120]⟩) w) := by
  have h := link_any 258 ⟨#[120]⟩ w (by decide) (by decide)
  have e : link 258 (⟨#[120]⟩ : ByteArray).data.toList = [0, 0, 0, 0, 0, 0, 1, 2, 120] := lnk
  rw [e] at h
  exact h
theorem headNil_any (w : World) : Calls Try.prog 29 #[.slice none 0 0] w (VPost (.int .u64 14695981039346656037) w) := head_any none 0 [] w (fun h => absurd h (by decide)) (by decide) (by intro s h; simp at h)
theorem headAB_any (w : World) : Calls Try.prog 29 #[.slice (some ⟨w.heap.size, 0, none⟩) 2 2] (w.alloc (.cells #[.string ⟨#[97]⟩, .string ⟨#[98]⟩] 9)) (VPost (.int .u64 hAB) (w.alloc (.cells #[.string ⟨#[97]⟩, .string ⟨#[98]⟩] 9))) :=
  head_any (some ⟨w.heap.size, 0, none⟩) 2 [bA, bB] _ (strs_lit w _ [bA, bB] _ (by simp)) (by decide) z12
theorem verAB_any (w : World) : Calls Try.prog 31 #[.slice (some ⟨w.heap.size, 0, none⟩) 2 2, .int .u64 hAB] (w.alloc (.cells #[.string ⟨#[97]⟩, .string ⟨#[98]⟩] 9)) (VPost (.bool true) (w.alloc (.cells #[.string ⟨#[97]⟩, .string ⟨#[98]⟩] 9))) := by
  have h := verify_any (some ⟨w.heap.size, 0, none⟩) 2 [bA, bB] hAB _ (strs_lit w 9 [bA, bB] (w.alloc (.cells #[.string ⟨#[97]⟩, .string ⟨#[98]⟩] 9)).heap.size (by simp)) (by decide) z12
  have e : ((head [bA, bB] : Int) == (hAB : Int)) = true := by show ((hAB : Int) == hAB) = true; simp
  rw [e] at h
  exact h
theorem verA_any (w : World) : Calls Try.prog 31 #[.slice (some ⟨w.heap.size, 0, none⟩) 1 1, .int .u64 (IntKind.u64.wrap ((hAB : Int) + 1))] (w.alloc (.cells #[.string ⟨#[97]⟩] 9)) (VPost (.bool false) (w.alloc (.cells #[.string ⟨#[97]⟩] 9))) := by
  have h := verify_any (some ⟨w.heap.size, 0, none⟩) 1 [bA] (IntKind.u64.wrap ((hAB : Int) + 1)) _ (strs_lit w 9 [bA] (w.alloc (.cells #[.string ⟨#[97]⟩] 9)).heap.size (by simp)) (by decide) z1
  rw [hA_ne] at h
  exact h
theorem colAB_any (w : World) : Calls Try.prog 22 #[.slice (some ⟨w.heap.size, 0, none⟩) 1 1, .slice (some ⟨w.heap.size + 1, 0, none⟩) 1 1] ((w.alloc (.cells #[.string ⟨#[97]⟩] 9)).alloc (.cells #[.string ⟨#[98]⟩] 9))
    (VPost (.tuple #[.string ⟨#[]⟩, .string ⟨#[]⟩, .bool false]) ((w.alloc (.cells #[.string ⟨#[97]⟩] 9)).alloc (.cells #[.string ⟨#[98]⟩] 9))) := by
  have h := collide_any (some ⟨w.heap.size, 0, none⟩) 1 [bA] (some ⟨(w.alloc (.cells #[.string ⟨#[97]⟩] 9)).heap.size, 0, none⟩) 1 [bB] ((w.alloc (.cells #[.string ⟨#[97]⟩] 9)).alloc (.cells #[.string ⟨#[98]⟩] 9))
    (((strs_lit w 9 [bA] (w.heap.size + 1) (by omega)).below ((Below.refl _ _).alloc (by simp) _)).more (by simp)) (by decide) z1
    (strs_lit (w.alloc (.cells #[.string ⟨#[97]⟩] 9)) 9 [bB] _ (by simp)) (by decide) z2
  rw [show (w.alloc (.cells #[.string ⟨#[97]⟩] 9)).heap.size = w.heap.size + 1 by simp] at h
  refine h.mono ?_
  rintro e w' ⟨r, hr, rfl, hb⟩
  have e : colF [bA] [bB] (max [bA].length [bB].length) [bA].length [bB].length = (⟨#[]⟩, ⟨#[]⟩, false) := noAB
  rw [e] at hr
  subst hr
  exact ⟨rfl, hb⟩

set_option maxHeartbeats 2000000 in
theorem chainBegun_any (w : World) : Calls Try.prog 24 #[] w (fun e w' => e = .returned (.bool true) ∧ Below w.heap.size w w') := by
  go_enter Try.func24, Try.ntmps24
  go_wp2_with fail
  refine (headAB_any w).mono ?_
  rintro e w1 ⟨rfl, hb1⟩
  have B1 : Below w.heap.size w w1 := ((Below.refl _ w).alloc (Nat.le_refl _) _).trans (hb1.mono (by simp))
  clear hb1
  go_wp2_with fail
  refine (colAB_any w1).mono ?_
  rintro e w2 ⟨rfl, hb2⟩
  have B2 : Below w.heap.size w w2 := ((B1.alloc B1.size _).alloc (by have := B1.size; simp; omega) _).trans (hb2.mono (by have := B1.size; simp; omega))
  clear hb2
  go_wp2_with fail
  refine (hash0_any w2).mono ?_
  rintro e w3 ⟨rfl, hb3⟩
  have B3 := B2.trans (hb3.mono B2.size)
  clear hb3
  go_wp2_with fail
  refine (hashA_any w3).mono ?_
  rintro e w4 ⟨rfl, hb4⟩
  have B4 := B3.trans (hb4.mono B3.size)
  clear hb4
  go_wp2_with fail
  refine (link258_any w4).mono ?_
  rintro e w5 ⟨rfl, hb5⟩
  have B5 := B4.trans (hb5.mono B4.size)
  clear hb5
  go_wp2_with fail
  refine (headNil_any w5).mono ?_
  rintro e w6 ⟨rfl, hb6⟩
  have B6 := B5.trans (hb6.mono B5.size)
  clear hb6
  go_wp2_with fail
  refine (hash0_any w6).mono ?_
  rintro e w7 ⟨rfl, hb7⟩
  have B7 := B6.trans (hb7.mono B6.size)
  clear hb7
  go_wp2_with fail
  refine (verAB_any w7).mono ?_
  rintro e w8 ⟨rfl, hb8⟩
  have B8 : Below w.heap.size w w8 := (B7.alloc B7.size _).trans (hb8.mono (by have := B7.size; simp; omega))
  clear hb8
  go_wp2_with fail
  refine (verA_any w8).mono ?_
  rintro e w9 ⟨rfl, hb9⟩
  have B9 : Below w.heap.size w w9 := (B8.alloc B8.size _).trans (hb9.mono (by have := B8.size; simp; omega))
  clear hb9
  go_wp2_with fail
  go_ret
  exact ⟨rfl, B9⟩
end Go.Proofs.Ytmcihmcgkhijcaa.ChainB
