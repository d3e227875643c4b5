/- A text parted at a byte, and joined: plain. -/
import Derived.Lib.Bytealg
namespace Go.Proofs.YtfhfpanemalbmaaDoor.WordS
def split (c : UInt8) : List UInt8 → List (List UInt8)
  | [] => [[]]
  | b :: l => if b == c then [] :: split c l else match split c l with
    | [] => [[b]]
    | h :: t => (b :: h) :: t
def join (c : UInt8) : List (List UInt8) → List UInt8
  | [] => []
  | a :: l => if l.isEmpty then a else a ++ c :: join c l
theorem split_ne (c : UInt8) (l : List UInt8) : split c l ≠ [] := by
  cases l with
  | nil => simp [split]
  | cons b l =>
    unfold split
    split
    · simp
    · split <;> simp
theorem split_app (c : UInt8) (a r : List UInt8) (h : a.contains c = false) : split c (a ++ c :: r) = a :: split c r := by
  induction a with
  | nil => simp [split]
  | cons b l ih =>
    rw [List.contains_cons, Bool.or_eq_false_iff] at h
    have hb : (b == c) = false := by
      have := h.1
      simp only [beq_eq_false_iff_ne] at this ⊢; exact fun e => this e.symm
    rw [List.cons_append, split, hb, ih h.2]; rfl
theorem split_none (c : UInt8) (a : List UInt8) (h : a.contains c = false) : split c a = [a] := by
  induction a with
  | nil => rfl
  | cons b l ih =>
    rw [List.contains_cons, Bool.or_eq_false_iff] at h
    have hb : (b == c) = false := by
      have := h.1
      simp only [beq_eq_false_iff_ne] at this ⊢; exact fun e => this e.symm
    rw [split, hb, ih h.2]; rfl
/-- Parted at the first. -/
theorem first_at (c : UInt8) (l : List UInt8) : l.contains c = false ∨ ∃ a r, l = a ++ c :: r ∧ a.contains c = false := by
  induction l with
  | nil => exact .inl rfl
  | cons b l ih =>
    by_cases hb : b = c
    · exact .inr ⟨[], l, by rw [hb]; rfl, rfl⟩
    · have hb' : (c == b) = false := by simp; exact fun e => hb e.symm
      rcases ih with h | ⟨a, r, rfl, h⟩
      · exact .inl (by rw [List.contains_cons, hb', h]; rfl)
      · exact .inr ⟨b :: a, r, rfl, by rw [List.contains_cons, hb', h]; rfl⟩
theorem split_len (c : UInt8) (l : List UInt8) : (split c l).length ≤ l.length + 1 := by
  induction l with
  | nil => simp [split]
  | cons b l ih =>
    unfold split
    split
    · simp; omega
    · split
      · simp
      · rename_i h t e
        rw [e] at ih; simp at ih ⊢; omega
/-- Parted at any of them. -/
theorem split_mid (c : UInt8) (a r : List UInt8) : split c (a ++ c :: r) = split c a ++ split c r := by
  induction a with
  | nil => simp [split]
  | cons b l ih =>
    rw [List.cons_append, split, split]
    by_cases hb : (b == c) = true
    · simp [hb, ih]
    · simp only [hb, ih]
      cases e : split c l with
      | nil => exact absurd e (split_ne c l)
      | cons h t => simp
theorem join_cons (c : UInt8) (a : List UInt8) (l : List (List UInt8)) (h : l ≠ []) : join c (a :: l) = a ++ c :: join c l := by
  unfold join
  rw [if_neg (by simpa using h)]
  cases l with
  | nil => exact absurd rfl h
  | cons b l => rw [join]
theorem join_split (c : UInt8) : ∀ (n : Nat) (l : List UInt8), l.length ≤ n → join c (split c l) = l
  | 0, l, h => by
    obtain rfl : l = [] := List.eq_nil_of_length_eq_zero (by omega)
    rfl
  | n + 1, l, h => by
    rcases first_at c l with h1 | ⟨a, r, rfl, h1⟩
    · rw [split_none c l h1]; simp [join]
    · rw [split_app c a r h1, join_cons _ _ _ (split_ne c r), join_split c n r (by simp at h; omega)]
theorem split_join (c : UInt8) (l : List (List UInt8)) (h0 : l ≠ []) (h : ∀ a ∈ l, a.contains c = false) : split c (join c l) = l := by
  induction l with
  | nil => exact absurd rfl h0
  | cons a l ih =>
    cases l with
    | nil => simp [join]; exact split_none c a (h a (by simp))
    | cons b l =>
      rw [join_cons _ _ _ (by simp), split_app c a _ (h a (by simp)), ih (by simp) (fun x hx => h x (by simp at hx ⊢; exact .inr hx))]
theorem join_snoc (c : UInt8) (l : List (List UInt8)) (a : List UInt8) (h : l ≠ []) : join c (l ++ [a]) = join c l ++ c :: a := by
  induction l with
  | nil => exact absurd rfl h
  | cons b l ih =>
    cases l with
    | nil => simp [join]
    | cons d l => rw [List.cons_append, join_cons _ _ _ (by simp), ih (by simp), join_cons c b (d :: l) (by simp)]; simp
/-- The byte's place. -/
theorem index_none (l : List UInt8) (c : UInt8) (h : l.contains c = false) : Lib.indexByte l c = -1 := by
  induction l with
  | nil => rfl
  | cons b l ih =>
    rw [List.contains_cons, Bool.or_eq_false_iff] at h
    have hb : (b == c) = false := by
      have := h.1
      simp only [beq_eq_false_iff_ne] at this ⊢; exact fun e => this e.symm
    rw [Lib.indexByte, hb, ih h.2]; rfl
theorem index_at (a r : List UInt8) (c : UInt8) (h : a.contains c = false) : Lib.indexByte (a ++ c :: r) c = a.length := by
  induction a with
  | nil => simp [Lib.indexByte]
  | cons b l ih =>
    rw [List.contains_cons, Bool.or_eq_false_iff] at h
    have hb : (b == c) = false := by
      have := h.1
      simp only [beq_eq_false_iff_ne] at this ⊢; exact fun e => this e.symm
    rw [List.cons_append, Lib.indexByte, hb, ih h.2]
    have e : ((l.length : Int) == -1) = false := by simp
    rw [if_neg (by simp), e]
    simp
theorem index_ge (l : List UInt8) (c : UInt8) : decide (0 ≤ Lib.indexByte l c) = l.contains c := by
  rcases first_at c l with h1 | ⟨a, r, rfl, h1⟩
  · rw [index_none l c h1, h1]; rfl
  · rw [index_at a r c h1]; simp
end Go.Proofs.YtfhfpanemalbmaaDoor.WordS
