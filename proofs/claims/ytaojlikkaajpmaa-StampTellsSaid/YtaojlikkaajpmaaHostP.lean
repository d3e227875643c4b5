/- Hosts, plain: labels, addresses, what matches, what is above. -/
import Derived.Test.YtaojlikkaajpmaaWordP
import Derived.Test.YtaojlikkaajpmaaWordS
namespace Go.Proofs.Ytaojlikkaajpmaa.HostP
open WordP WordS

def digB (c : UInt8) : Bool := decide (48 ≤ c.toNat) && decide (c.toNat ≤ 57)
def outerB (c : UInt8) : Bool := (decide (97 ≤ c.toNat) && decide (c.toNat ≤ 122)) || digB c
def hostB (c : UInt8) : Bool := outerB c || c.toNat == 45
/-- A label of a host. -/
def label (l : List UInt8) : Bool := !l.isEmpty && decide (l.length ≤ 63) && outerB (l.getD 0 0) && outerB (l.getD (l.length - 1) 0) && l.all hostB
def canonF (l : List UInt8) : List UInt8 × Nat := if 253 < l.length then ([], 2) else if (split 46 (fold l)).all label then (fold l, 0) else ([], 1)
def value (l : List UInt8) : Nat := l.foldl (fun n c => 10 * n + (c.toNat - 48)) 0
def octet (l : List UInt8) : Bool := decide (1 ≤ l.length) && decide (l.length ≤ 3) && l.all digB && decide (value l ≤ 255) && (decide (l.length ≤ 1) || !(l.getD 0 0 == 48))
def address (l : List UInt8) : Bool := decide ((split 46 l).length = 4) && (split 46 l).all octet
def endsB (l s : List UInt8) : Bool := decide (s.length ≤ l.length) && l.drop (l.length - s.length) == s
def matchF (h d : List UInt8) : Bool := h == d || (!address h && endsB h (46 :: d))
def after : List UInt8 → List (List UInt8)
  | [] => []
  | c :: r => if c = 46 then r :: after r else after r
def upsF (l : List UInt8) : List (List UInt8) := if l = [] then [] else if address l then [l] else l :: after l

theorem endsB_iff (l s : List UInt8) : endsB l s = true ↔ ∃ x, l = x ++ s := by
  unfold endsB
  constructor
  · intro h
    simp only [Bool.and_eq_true, decide_eq_true_eq, beq_iff_eq] at h
    refine ⟨l.take (l.length - s.length), ?_⟩
    conv => { lhs; rw [← List.take_append_drop (l.length - s.length) l, h.2] }
  · rintro ⟨x, rfl⟩
    simp
theorem match_iff (h d : List UInt8) : matchF h d = true ↔ h = d ∨ (address h = false ∧ ∃ x, h = x ++ 46 :: d) := by
  unfold matchF
  simp only [Bool.or_eq_true, beq_iff_eq, Bool.and_eq_true, Bool.not_eq_true', endsB_iff]
theorem canon_fold (l : List UInt8) : canonF (fold l) = canonF l := by
  unfold canonF
  have e : (fold l).length = l.length := by simp [fold]
  rw [e, fold_twice]
theorem canon_ok {l h : List UInt8} (e : canonF l = (h, 0)) : h = fold l ∧ l.length ≤ 253 ∧ (split 46 (fold l)).all label = true := by
  unfold canonF at e
  split at e
  · cases e
  · split at e
    · rename_i h1 h2
      cases e
      exact ⟨rfl, by omega, h2⟩
    · cases e
theorem canon_code (l : List UInt8) : canonF l = (fold l, 0) ∨ canonF l = ([], 1) ∨ canonF l = ([], 2) := by
  unfold canonF
  split
  · exact .inr (.inr rfl)
  · split
    · exact .inl rfl
    · exact .inr (.inl rfl)
theorem match_self (a : List UInt8) : matchF a a = true := (match_iff a a).2 (.inl rfl)
theorem match_anti (a b : List UInt8) (h1 : matchF a b = true) (h2 : matchF b a = true) : a = b := by
  rcases (match_iff a b).1 h1 with h | ⟨_, x, hx⟩
  · exact h
  · rcases (match_iff b a).1 h2 with h | ⟨_, y, hy⟩
    · exact h.symm
    · have e1 := congrArg List.length hx
      have e2 := congrArg List.length hy
      simp at e1 e2
      omega
theorem match_trans (a b c : List UInt8) (h1 : matchF a b = true) (h2 : matchF b c = true) : matchF a c = true := by
  rcases (match_iff a b).1 h1 with rfl | ⟨n, x, hx⟩
  · exact h2
  · rcases (match_iff b c).1 h2 with rfl | ⟨_, y, hy⟩
    · exact h1
    · refine (match_iff a c).2 (.inr ⟨n, x ++ 46 :: y, ?_⟩)
      rw [hx, hy]; simp
theorem match_address (a b : List UInt8) (ha : address a = true) (h : matchF a b = true) : a = b := by
  rcases (match_iff a b).1 h with h | ⟨n, _⟩
  · exact h
  · rw [ha] at n; cases n
/-- Of two ends the shorter one is the longer one's. -/
theorem ends_two : ∀ (x y a b : List UInt8), x ++ a = y ++ b → a.length ≤ b.length → ∃ z, b = z ++ a
  | [], y, a, b, h, hl => by
    have := congrArg List.length h
    simp at this
    have hy : y = [] := List.eq_nil_of_length_eq_zero (by omega)
    subst hy
    exact ⟨[], by simpa using h.symm⟩
  | c :: x, [], a, b, h, _ => ⟨c :: x, by simpa using h.symm⟩
  | c :: x, d :: y, a, b, h, hl => by
    simp only [List.cons_append, List.cons.injEq] at h
    exact ends_two x y a b h.2 hl
theorem chain_two (h a b : List UInt8) (na : address a = false) (nb : address b = false) (h1 : matchF h a = true) (h2 : matchF h b = true) : matchF a b = true ∨ matchF b a = true := by
  rcases (match_iff h a).1 h1 with rfl | ⟨n, x, hx⟩
  · exact .inl h2
  · rcases (match_iff h b).1 h2 with rfl | ⟨_, y, hy⟩
    · exact .inr h1
    · have two : ∀ (x y a b : List UInt8), x ++ 46 :: a = y ++ 46 :: b → a.length ≤ b.length → a = b ∨ ∃ z, b = z ++ 46 :: a := fun x y a b e hl => by
        obtain ⟨z, hz⟩ := ends_two x y (46 :: a) (46 :: b) e (by simpa using hl)
        cases z with
        | nil => simp at hz; exact .inl hz.symm
        | cons c z => simp at hz; exact .inr ⟨z, hz.2⟩
      rcases Nat.le_total a.length b.length with hl | hl
      · rcases two x y a b (by rw [← hx, hy]) hl with rfl | ⟨z, hz⟩
        · exact .inl (match_self _)
        · exact .inr ((match_iff b a).2 (.inr ⟨nb, z, hz⟩))
      · rcases two y x b a (by rw [← hx, hy]) hl with rfl | ⟨z, hz⟩
        · exact .inl (match_self _)
        · exact .inl ((match_iff a b).2 (.inr ⟨na, z, hz⟩))
theorem mem_after (a : List UInt8) : ∀ l : List UInt8, a ∈ after l ↔ ∃ x, l = x ++ 46 :: a
  | [] => by simp [after]
  | c :: r => by
    have ih := mem_after a r
    unfold after
    constructor
    · intro h
      split at h
      · rename_i hc
        rcases List.mem_cons.1 h with rfl | h
        · exact ⟨[], by rw [hc]; rfl⟩
        · obtain ⟨x, rfl⟩ := ih.1 h
          exact ⟨c :: x, rfl⟩
      · obtain ⟨x, rfl⟩ := ih.1 h
        exact ⟨c :: x, rfl⟩
    · rintro ⟨x, hx⟩
      cases x with
      | nil =>
        simp at hx
        rw [if_pos hx.1, hx.2]; exact List.mem_cons_self
      | cons d x =>
        simp only [List.cons_append, List.cons.injEq] at hx
        have := ih.2 ⟨x, hx.2⟩
        split
        · exact List.mem_cons_of_mem _ this
        · exact this
theorem mem_ups (l a : List UInt8) (h : l ≠ []) : a ∈ upsF l ↔ matchF l a = true := by
  rw [match_iff]
  unfold upsF
  rw [if_neg h]
  split
  · rename_i ha
    rw [List.mem_singleton]
    exact ⟨fun e => .inl e.symm, fun e => by
      rcases e with e | ⟨n, _⟩
      · exact e.symm
      · rw [ha] at n; cases n⟩
  · rename_i ha
    have ha : address l = false := by simpa using ha
    rw [List.mem_cons, mem_after]
    exact ⟨fun e => by
      rcases e with e | e
      · exact .inl e.symm
      · exact .inr ⟨ha, e⟩, fun e => by
      rcases e with e | ⟨_, e⟩
      · exact .inl e.symm
      · exact .inr e⟩
theorem after_none (l : List UInt8) (h : l.contains 46 = false) : after l = [] := by
  induction l with
  | nil => rfl
  | cons c r ih =>
    simp only [List.contains_cons, Bool.or_eq_false_iff, beq_eq_false_iff_ne] at h
    unfold after
    rw [if_neg (fun e => h.1 e.symm), ih h.2]
theorem after_at (a r : List UInt8) (h : a.contains 46 = false) : after (a ++ 46 :: r) = r :: after r := by
  induction a with
  | nil => simp [after]
  | cons c a ih =>
    simp only [List.contains_cons, Bool.or_eq_false_iff, beq_eq_false_iff_ne] at h
    rw [List.cons_append, after, if_neg (fun e => h.1 e.symm), ih h.2]
theorem after_snoc (l : List UInt8) (c : UInt8) : after (l ++ [c]) = (after l).map (· ++ [c]) ++ (if c = 46 then [[]] else []) := by
  induction l with
  | nil => simp only [List.nil_append, after]; split <;> rfl
  | cons d l ih =>
    simp only [List.cons_append, after]
    split
    · rw [ih]; simp
    · rw [ih]
theorem after_len (l : List UInt8) : (after l).length ≤ l.length := by
  induction l with
  | nil => exact Nat.le_refl _
  | cons c l ih => unfold after; split <;> simp <;> omega
/-- In the canon there is a label. -/
theorem canon_ne {l h : List UInt8} (e : canonF l = (h, 0)) : h ≠ [] := by
  obtain ⟨rfl, _, ha⟩ := canon_ok e
  intro h0
  rw [h0] at ha
  simp [split, label] at ha
end Go.Proofs.Ytaojlikkaajpmaa.HostP
