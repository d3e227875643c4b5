/- The plain words of package bits: bits of a number, bytes of bits, and back. -/
import Derived.Test.YtfhfpanemalbmaaDoorMem
namespace Go.Proofs.YtfhfpanemalbmaaDoor.BitsP

/-- The lowest w bits of a number, the highest first. -/
def bitsOf (n : Nat) : Nat → List Nat
  | 0 => []
  | w + 1 => n / 2 ^ w % 2 :: bitsOf n w
theorem bitsOf_len (n w : Nat) : (bitsOf n w).length = w := by
  induction w with
  | zero => rfl
  | succ w ih => simp [bitsOf, ih]
def Bin (l : List Nat) : Prop := ∀ b ∈ l, b < 2
theorem Bin.app {l m : List Nat} (h : Bin l) (k : Bin m) : Bin (l ++ m) := fun b hb => by
  rcases List.mem_append.1 hb with x | x
  · exact h b x
  · exact k b x
theorem Bin.left {l m : List Nat} (h : Bin (l ++ m)) : Bin l := fun b hb => h b (List.mem_append_left _ hb)
theorem Bin.right {l m : List Nat} (h : Bin (l ++ m)) : Bin m := fun b hb => h b (List.mem_append_right _ hb)
theorem bin_nil : Bin [] := fun _ h => by cases h
theorem bitsOf_bin (n w : Nat) : Bin (bitsOf n w) := by
  induction w with
  | zero => exact bin_nil
  | succ w ih => intro b hb; simp only [bitsOf, List.mem_cons] at hb; rcases hb with rfl | hb; omega; exact ih b hb
theorem Bin.getD {l : List Nat} (h : Bin l) (i : Nat) : l.getD i 0 < 2 := by
  rw [List.getD_eq_getElem?_getD]
  rcases hl : l[i]? with _ | b
  · simp
  · exact h b (List.mem_of_getElem? hl)

/-- Byte j of bits. -/
def byteAt (l : List Nat) (j : Nat) : Nat := l.getD (8 * j) 0 * 128 + l.getD (8 * j + 1) 0 * 64 + l.getD (8 * j + 2) 0 * 32 + l.getD (8 * j + 3) 0 * 16 + l.getD (8 * j + 4) 0 * 8 + l.getD (8 * j + 5) 0 * 4 + l.getD (8 * j + 6) 0 * 2 + l.getD (8 * j + 7) 0
def packB (l : List Nat) : List Nat := (List.range ((l.length + 7) / 8)).map (byteAt l)
def packBZ (l : List Nat) : List Nat := (List.range (l.length / 8 + 1)).map (byteAt l)
theorem packB_len (l : List Nat) : (packB l).length = (l.length + 7) / 8 := by simp [packB]
theorem packBZ_len (l : List Nat) : (packBZ l).length = l.length / 8 + 1 := by simp [packBZ]
theorem byteAt_lt {l : List Nat} (h : Bin l) (j : Nat) : byteAt l j < 256 := by
  unfold byteAt
  have h0 := h.getD (8 * j); have h1 := h.getD (8 * j + 1); have h2 := h.getD (8 * j + 2); have h3 := h.getD (8 * j + 3)
  have h4 := h.getD (8 * j + 4); have h5 := h.getD (8 * j + 5); have h6 := h.getD (8 * j + 6); have h7 := h.getD (8 * j + 7)
  omega
theorem getD_snoc (l : List Nat) (b i : Nat) : (l ++ [b]).getD i 0 = if i = l.length then b else l.getD i 0 := by
  simp only [List.getD_eq_getElem?_getD]
  by_cases h : i < l.length
  · rw [List.getElem?_append_left h, if_neg (by omega)]
  · rw [List.getElem?_append_right (by omega)]
    by_cases h2 : i = l.length
    · subst h2; simp
    · rw [if_neg h2, List.getElem?_eq_none (by simp; omega), List.getElem?_eq_none (by omega)]
theorem getD_beyond (l : List Nat) (i : Nat) (h : l.length ≤ i) : l.getD i 0 = 0 := by
  rw [List.getD_eq_getElem?_getD, List.getElem?_eq_none h]; rfl
/-- The last byte has room below. -/
theorem byteAt_room (l : List Nat) : byteAt l (l.length / 8) % 2 ^ (8 - l.length % 8) = 0 := by
  unfold byteAt
  generalize hq : l.length / 8 = q
  have hr : l.length % 8 = 0 ∨ l.length % 8 = 1 ∨ l.length % 8 = 2 ∨ l.length % 8 = 3 ∨ l.length % 8 = 4 ∨ l.length % 8 = 5 ∨ l.length % 8 = 6 ∨ l.length % 8 = 7 := by omega
  rcases hr with h | h | h | h | h | h | h | h
  all_goals
    have z := fun i (hi : l.length ≤ 8 * q + i) => getD_beyond l (8 * q + i) hi
    rw [h]
  · rw [show 8 * q = 8 * q + 0 from rfl, z 0 (by omega), Nat.add_zero, z 1 (by omega), z 2 (by omega), z 3 (by omega), z 4 (by omega), z 5 (by omega), z 6 (by omega), z 7 (by omega)]
  · rw [z 1 (by omega), z 2 (by omega), z 3 (by omega), z 4 (by omega), z 5 (by omega), z 6 (by omega), z 7 (by omega)]; omega
  · rw [z 2 (by omega), z 3 (by omega), z 4 (by omega), z 5 (by omega), z 6 (by omega), z 7 (by omega)]; omega
  · rw [z 3 (by omega), z 4 (by omega), z 5 (by omega), z 6 (by omega), z 7 (by omega)]; omega
  · rw [z 4 (by omega), z 5 (by omega), z 6 (by omega), z 7 (by omega)]; omega
  · rw [z 5 (by omega), z 6 (by omega), z 7 (by omega)]; omega
  · rw [z 6 (by omega), z 7 (by omega)]; omega
  · rw [z 7 (by omega)]; omega
theorem byteAt_snoc (l : List Nat) (b j : Nat) : byteAt (l ++ [b]) j = byteAt l j + (if j = l.length / 8 then b * 2 ^ (7 - l.length % 8) else 0) := by
  unfold byteAt
  simp only [getD_snoc]
  by_cases hj : j = l.length / 8
  · have z := fun i (hi : l.length = 8 * j + i) => getD_beyond l (8 * j + i) (by omega)
    have hr : l.length = 8 * j + 0 ∨ l.length = 8 * j + 1 ∨ l.length = 8 * j + 2 ∨ l.length = 8 * j + 3 ∨ l.length = 8 * j + 4 ∨ l.length = 8 * j + 5 ∨ l.length = 8 * j + 6 ∨ l.length = 8 * j + 7 := by omega
    rw [if_pos hj]
    rcases hr with h | h | h | h | h | h | h | h
    all_goals
      have e : l.length % 8 = l.length - 8 * j := by omega
      have zz := z _ h
      rw [e, h]
      simp only [Nat.add_sub_cancel_left, Nat.add_zero] at zz ⊢
      rw [List.getD_eq_getElem?_getD] at zz
      simp [zz]; try omega
  · rw [if_neg hj, if_neg (by omega), if_neg (by omega), if_neg (by omega), if_neg (by omega), if_neg (by omega), if_neg (by omega), if_neg (by omega), if_neg (by omega)]
    omega
/-- One bit more. -/
theorem packB_snoc (l : List Nat) (b : Nat) : packB (l ++ [b]) = (packBZ l).set (l.length / 8) (byteAt l (l.length / 8) + b * 2 ^ (7 - l.length % 8)) := by
  apply List.ext_getElem
  · simp [packB, packBZ]; omega
  · intro i h1 h2
    rw [List.getElem_set]
    simp only [packB, packBZ, List.getElem_map, List.getElem_range]
    rw [byteAt_snoc]
    by_cases h : i = l.length / 8
    · rw [if_pos h, if_pos h.symm, h]
    · rw [if_neg h, if_neg (by omega)]; rfl
theorem packBZ_old {l : List Nat} (h : l.length % 8 ≠ 0) : packBZ l = packB l := by
  unfold packBZ packB; rw [show (l.length + 7) / 8 = l.length / 8 + 1 from by omega]
theorem packBZ_new {l : List Nat} (h : l.length % 8 = 0) : packBZ l = packB l ++ [0] := by
  unfold packBZ packB; rw [show (l.length + 7) / 8 = l.length / 8 from by omega, List.range_succ, List.map_append]
  have hz : byteAt l (l.length / 8) = 0 := by
    unfold byteAt
    rw [getD_beyond l _ (by omega), getD_beyond l _ (by omega), getD_beyond l _ (by omega), getD_beyond l _ (by omega), getD_beyond l _ (by omega), getD_beyond l _ (by omega), getD_beyond l _ (by omega), getD_beyond l _ (by omega)]
  simp [hz]
theorem packBZ_at (l : List Nat) : (packBZ l)[l.length / 8]? = some (byteAt l (l.length / 8)) := by
  simp [packBZ]

theorem snoc_ind {p : List Nat → Prop} (h0 : p []) (h1 : ∀ l b, p l → p (l ++ [b])) : ∀ l, p l := fun l => by
  rw [← List.reverse_reverse l]
  induction l.reverse with
  | nil => exact h0
  | cons b m ih => rw [List.reverse_cons]; exact h1 _ _ ih
/-- A number of bits. -/
def num (l : List Nat) : Nat := l.foldl (fun n b => 2 * n + b) 0
theorem num_snoc (l : List Nat) (b : Nat) : num (l ++ [b]) = 2 * num l + b := by unfold num; rw [List.foldl_append]; rfl
theorem num_lt {l : List Nat} (h : Bin l) : num l < 2 ^ l.length := by
  revert h
  refine snoc_ind (p := fun l => Bin l → num l < 2 ^ l.length) (fun _ => by decide) (fun l b ih h => ?_) l
  · have h1 := ih h.left
    have h2 : b < 2 := h b (by simp)
    rw [num_snoc, List.length_append, List.length_singleton, Nat.pow_succ]; omega
theorem num_app (l m : List Nat) : num (l ++ m) = num l * 2 ^ m.length + num m := by
  refine snoc_ind (p := fun m => num (l ++ m) = num l * 2 ^ m.length + num m) (by simp [num]) (fun m b ih => ?_) m
  · rw [← List.append_assoc, num_snoc, num_snoc, ih, List.length_append, List.length_singleton, Nat.pow_succ, Nat.mul_add]; rw [Nat.mul_comm 2 (num l * 2 ^ m.length), Nat.mul_assoc]; omega
theorem num_bitsOf (n w : Nat) : num (bitsOf n w) = n % 2 ^ w := by
  induction w with
  | zero => simp [bitsOf, num, Nat.mod_one]
  | succ w ih =>
    rw [show bitsOf n (w + 1) = [n / 2 ^ w % 2] ++ bitsOf n w from rfl, num_app, ih, bitsOf_len, Nat.pow_succ, Nat.mod_mul]
    simp [num, Nat.mul_comm, Nat.add_comm]

/-- The bits of bytes. -/
def tbits (l : List UInt8) : List Nat := l.flatMap fun c => bitsOf c.toNat 8
theorem tbits_len (l : List UInt8) : (tbits l).length = 8 * l.length := by
  induction l with
  | nil => rfl
  | cons c l ih => rw [tbits, List.flatMap_cons, List.length_append, bitsOf_len, ← tbits, ih, List.length_cons]; omega
theorem tbits_bin (l : List UInt8) : Bin (tbits l) := by
  intro b hb
  simp only [tbits, List.mem_flatMap] at hb
  obtain ⟨c, _, hb⟩ := hb
  exact bitsOf_bin _ _ b hb
theorem bitsOf_at (n w i : Nat) (h : i < w) : (bitsOf n w)[i]? = some (n / 2 ^ (w - 1 - i) % 2) := by
  induction w generalizing i with
  | zero => omega
  | succ w ih =>
    rcases i with _ | i
    · simp [bitsOf]
    · simp only [bitsOf, List.getElem?_cons_succ]
      rw [ih i (by omega), show w + 1 - 1 - (i + 1) = w - 1 - i from by omega]
theorem tbits_at : ∀ (l : List UInt8) (i : Nat) (h : i < 8 * l.length), (tbits l)[i]? = some ((l[i / 8]'(by omega)).toNat / 2 ^ (7 - i % 8) % 2)
  | [], i, h => absurd h (by simp)
  | c :: l, i, h => by
    rw [tbits, List.flatMap_cons, ← tbits]
    by_cases h8 : i < 8
    · rw [List.getElem?_append_left (by rw [bitsOf_len]; exact h8), bitsOf_at _ _ _ h8]
      have e : i / 8 = 0 := by omega
      simp only [e, List.getElem_cons_zero]
      rw [show 8 - 1 - i = 7 - i % 8 from by omega]
    · rw [List.getElem?_append_right (by rw [bitsOf_len]; omega), bitsOf_len, tbits_at l (i - 8) (by simp at h; omega)]
      have e : i / 8 = (i - 8) / 8 + 1 := by omega
      simp only [e, List.getElem_cons_succ]
      rw [show (i - 8) % 8 = i % 8 from by omega]
end Go.Proofs.YtfhfpanemalbmaaDoor.BitsP
