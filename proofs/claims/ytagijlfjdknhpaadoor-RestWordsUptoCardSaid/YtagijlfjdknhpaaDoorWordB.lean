/- The walk of wordBegun. -/
import Derived.Test.YtagijlfjdknhpaaDoorWordC
import Derived.Test.YtagijlfjdknhpaaDoorWordR
import Derived.Test.YtagijlfjdknhpaaDoorWordJ
namespace Go.Proofs.YtagijlfjdknhpaaDoor.WordB
open Go.RowKit Mem WordP OneB WordW WordS WordC WordR WordJ

theorem b_cut (w : World) : Calls Tryd.prog 24 #[.string ⟨#[110, 97, 109, 101, 61, 118, 97, 108, 117, 101, 61, 120]⟩, .int .u8 61] w (fun e w' => e = .returned (.tuple #[.string ⟨#[110, 97, 109, 101]⟩, .string ⟨#[118, 97, 108, 117, 101, 61, 120]⟩, .bool true]) ∧ Below w.heap.size w w') := by
  have h := cut_any ⟨#[110, 97, 109, 101, 61, 118, 97, 108, 117, 101, 61, 120]⟩ 61 w (by decide)
  have e : cut 61 (⟨#[110, 97, 109, 101, 61, 118, 97, 108, 117, 101, 61, 120]⟩ : ByteArray).data.toList = ([110, 97, 109, 101], [118, 97, 108, 117, 101, 61, 120], true) := by kernel_rfl
  unfold Cuts at h
  rw [e] at h
  exact h
theorem b_fold (w : World) : Calls Tryd.prog 18 #[.string ⟨#[83, 101, 116, 45, 67, 79, 79, 75, 73, 69, 195]⟩] w (Gives (.string ⟨#[115, 101, 116, 45, 99, 111, 111, 107, 105, 101, 195]⟩) w) := by
  have h := fold_any ⟨#[83, 101, 116, 45, 67, 79, 79, 75, 73, 69, 195]⟩ w (by decide)
  have e : str (fold (⟨#[83, 101, 116, 45, 67, 79, 79, 75, 73, 69, 195]⟩ : ByteArray).data.toList) = ⟨#[115, 101, 116, 45, 99, 111, 111, 107, 105, 101, 195]⟩ := by kernel_rfl
  rw [e] at h
  exact h
theorem b_trim (w : World) : Calls Tryd.prog 20 #[.string ⟨#[32, 9, 97, 32, 98, 9, 32]⟩] w (Gives (.string ⟨#[97, 32, 98]⟩) w) := by
  have h := trim_any ⟨#[32, 9, 97, 32, 98, 9, 32]⟩ w (by decide)
  have e : str (trim (⟨#[32, 9, 97, 32, 98, 9, 32]⟩ : ByteArray).data.toList) = ⟨#[97, 32, 98]⟩ := by kernel_rfl
  rw [e] at h
  exact h
theorem b_tok1 (w : World) : Calls Tryd.prog 22 #[.string ⟨#[95, 95, 72, 111, 115, 116, 45, 105, 100]⟩] w (Gives (.bool true) w) := by
  have h := wtoken_any ⟨#[95, 95, 72, 111, 115, 116, 45, 105, 100]⟩ w (by decide)
  have e : token (⟨#[95, 95, 72, 111, 115, 116, 45, 105, 100]⟩ : ByteArray).data.toList = true := by kernel_rfl
  rw [e] at h
  exact h
theorem b_tok2 (w : World) : Calls Tryd.prog 22 #[.string ⟨#[97, 59, 98]⟩] w (Gives (.bool false) w) := by
  have h := wtoken_any ⟨#[97, 59, 98]⟩ w (by decide)
  have e : token (⟨#[97, 59, 98]⟩ : ByteArray).data.toList = false := by kernel_rfl
  rw [e] at h
  exact h
theorem b_tok3 (w : World) : Calls Tryd.prog 22 #[.string ⟨#[]⟩] w (Gives (.bool false) w) := by
  have h := wtoken_any ⟨#[]⟩ w (by decide)
  have e : token (⟨#[]⟩ : ByteArray).data.toList = false := by kernel_rfl
  rw [e] at h
  exact h
def abc : List ByteArray := [⟨#[97]⟩, ⟨#[]⟩, ⟨#[98]⟩]
theorem b_parts (w : World) : Calls Tryd.prog 27 #[.string ⟨#[97, 59, 59, 98]⟩, .int .u8 59] w (fun e w' => ∃ A c, e = .returned (.slice A 3 c) ∧ Row w' w'.heap.size A (strs abc) ∧ Below w.heap.size w w') := by
  have h := parts_any ⟨#[97, 59, 59, 98]⟩ 59 w (by decide)
  have e : (split 59 (⟨#[97, 59, 59, 98]⟩ : ByteArray).data.toList) = [[97], [], [98]] := by kernel_rfl
  rw [e] at h
  refine h.mono ?_
  rintro e w' ⟨v, rfl, ho, hb⟩
  obtain ⟨A, c, rfl, h1, h2, h3⟩ := own_row ho
  exact ⟨A, c, rfl, h3, hb⟩
theorem b_same (A : Option Addr) (c : Nat) (w : World) (g : Nat) (hA : Row w w.heap.size A (strs abc)) (hB : Row w w.heap.size (some ⟨g, 0, none⟩) (strs abc)) : Calls Tryd.prog 26 #[.slice A 3 c, .slice (some ⟨g, 0, none⟩) 3 3] w (Gives (.bool true) w) := by
  have h := sameTexts_any A c abc (some ⟨g, 0, none⟩) 3 abc w hA (by decide) hB (by decide)
  rw [decide_eq_true rfl] at h
  exact h
theorem b_join (w : World) (g : Nat) (hB : Row w w.heap.size (some ⟨g, 0, none⟩) (strs abc)) : Calls Tryd.prog 29 #[.slice (some ⟨g, 0, none⟩) 3 3, .int .u8 46] w (Gives (.string ⟨#[97, 46, 46, 98]⟩) w) := by
  have h := join_any (some ⟨g, 0, none⟩) 3 abc 46 w hB (by decide) (by decide) (by decide)
  have e : str (join 46 (abc.map (·.data.toList))) = ⟨#[97, 46, 46, 98]⟩ := by kernel_rfl
  rw [e] at h
  exact h
set_option maxRecDepth 100000 in
set_option maxHeartbeats 4000000 in
theorem wordBegun_any (w : World) : Calls Tryd.prog 17 #[] w (Gives (.bool true) w) := by
  go_enter Tryd.func17, Tryd.ntmps17
  go_wp2_with fail
  refine (b_cut _).mono ?_
  rintro e w1 ⟨rfl, b1⟩
  go_wp2_with fail
  refine (b_fold _).mono ?_
  rintro e w2 ⟨rfl, b2⟩
  go_wp2_with fail
  refine (b_trim _).mono ?_
  rintro e w3 ⟨rfl, b3⟩
  go_wp2_with fail
  refine (b_tok1 _).mono ?_
  rintro e w4 ⟨rfl, b4⟩
  go_wp2_with fail
  refine (b_tok2 _).mono ?_
  rintro e w5 ⟨rfl, b5⟩
  go_wp2_with fail
  refine (b_tok3 _).mono ?_
  rintro e w6 ⟨rfl, b6⟩
  go_wp2_with fail
  refine (b_parts _).mono ?_
  rintro e w7 ⟨A, c, rfl, hrow, b7⟩
  have hb7 := below_cat (below_cat (below_cat (below_cat (below_cat (below_cat b1 b2) b3) b4) b5) b6) b7
  clear b1 b2 b3 b4 b5 b6 b7
  go_wp2_with fail
  have hlit : Row (w7.alloc (.cells #[.string ⟨#[97]⟩, .string ⟨#[]⟩, .string ⟨#[98]⟩] 9)) (w7.alloc (.cells #[.string ⟨#[97]⟩, .string ⟨#[]⟩, .string ⟨#[98]⟩] 9)).heap.size (some ⟨w7.heap.size, 0, none⟩) (strs abc) := Row.lit w7 9 (strs abc) _ (by simp)
  have hrow' := hrow.at' ((Below.refl _ w7).alloc (Nat.le_refl _) (.cells #[.string ⟨#[97]⟩, .string ⟨#[]⟩, .string ⟨#[98]⟩] 9))
  refine (b_same A c _ w7.heap.size hrow' hlit).mono ?_
  rintro e w8 ⟨rfl, b8⟩
  have hb8 := below_cat (below_new hb7 (.cells #[.string ⟨#[97]⟩, .string ⟨#[]⟩, .string ⟨#[98]⟩] 9)) b8
  clear b8 hrow hrow' hlit hb7
  go_wp2_with fail
  have hlit : Row (w8.alloc (.cells #[.string ⟨#[97]⟩, .string ⟨#[]⟩, .string ⟨#[98]⟩] 9)) (w8.alloc (.cells #[.string ⟨#[97]⟩, .string ⟨#[]⟩, .string ⟨#[98]⟩] 9)).heap.size (some ⟨w8.heap.size, 0, none⟩) (strs abc) := Row.lit w8 9 (strs abc) _ (by simp)
  refine (b_join _ w8.heap.size hlit).mono ?_
  rintro e w9 ⟨rfl, b9⟩
  have hb9 := below_cat (below_new hb8 (.cells #[.string ⟨#[97]⟩, .string ⟨#[]⟩, .string ⟨#[98]⟩] 9)) b9
  go_wp2_with fail
  go_ret
  exact ⟨rfl, hb9⟩
end Go.Proofs.YtagijlfjdknhpaaDoor.WordB
