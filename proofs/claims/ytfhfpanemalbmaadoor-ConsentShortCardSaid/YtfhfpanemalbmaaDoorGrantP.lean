/- Consents, plain: what is right; what may be done; less, meet, join, drop. -/
import Derived.Test.YtfhfpanemalbmaaDoorScan
namespace Go.Proofs.YtfhfpanemalbmaaDoor.GrantP
open Scan

def codeV (V : List Int) (i : Nat) : Nat := if V.getD i 0 < 1 ∨ 40 < V.getD i 0 then 3 else if 0 < i ∧ V.getD i 0 ≤ V.getD (i - 1) 0 then 4 else 0
def codeG (g : Int) : Nat := if g < 0 ∨ 68719476735 < g then 3 else 0
def check (g : Int) (V : List Int) : Nat := if codeG g = 0 then scan (codeV V) V.length else 3
theorem codeV_zero {V : List Int} {i : Nat} : codeV V i = 0 ↔ (1 ≤ V.getD i 0 ∧ V.getD i 0 ≤ 40) ∧ (0 < i → V.getD (i - 1) 0 < V.getD i 0) := by
  unfold codeV
  split
  · constructor
    · intro h; cases h
    · intro h; omega
  · split
    · constructor
      · intro h; cases h
      · intro h; omega
    · constructor
      · intro _; omega
      · intro _; rfl
/-- Right vendors: rising, from 1 to 40. -/
def Right (V : List Int) : Prop := V.Pairwise (· < ·) ∧ ∀ v ∈ V, 1 ≤ v ∧ v ≤ 40
theorem right_of {V : List Int} (h : scan (codeV V) V.length = 0) : Right V := by
  have ha := scan_zero.1 h
  have step : ∀ i, i + 1 < V.length → V.getD i 0 < V.getD (i + 1) 0 := fun i hi => (codeV_zero.1 (ha (i + 1) hi)).2 (by omega)
  have lt : ∀ d i, i + d + 1 < V.length → V.getD i 0 < V.getD (i + d + 1) 0 := by
    intro d
    induction d with
    | zero => intro i hi; exact step i hi
    | succ d ih => intro i hi; exact Int.lt_trans (ih i (by omega)) (step (i + d + 1) hi)
  have at' : ∀ i (hi : i < V.length), V.getD i 0 = V[i] := fun i hi => by rw [List.getD_eq_getElem?_getD, List.getElem?_eq_getElem hi]; rfl
  refine ⟨List.pairwise_iff_getElem.2 fun i j hi hj hij => ?_, fun v hv => ?_⟩
  · have := lt (j - i - 1) i (by omega)
    rw [show i + (j - i - 1) + 1 = j from by omega, at' i hi, at' j hj] at this
    exact this
  · obtain ⟨i, hi, rfl⟩ := List.mem_iff_getElem.1 hv
    have := (codeV_zero.1 (ha i hi)).1
    rwa [at' i hi] at this
theorem of_right {V : List Int} (h : Right V) : scan (codeV V) V.length = 0 := by
  have at' : ∀ i (hi : i < V.length), V.getD i 0 = V[i] := fun i hi => by rw [List.getD_eq_getElem?_getD, List.getElem?_eq_getElem hi]; rfl
  refine scan_zero.2 fun i hi => codeV_zero.2 ⟨?_, fun h0 => ?_⟩
  · rw [at' i hi]; exact h.2 _ (List.getElem_mem hi)
  · rw [at' i hi, at' (i - 1) (by omega)]
    exact List.pairwise_iff_getElem.1 h.1 (i - 1) i (by omega) hi (by omega)
def nums : List Int := (List.range 40).map fun i : Nat => (i : Int) + 1
theorem nums_sorted : nums.Pairwise (· < ·) := by decide +kernel
theorem mem_nums (v : Int) : v ∈ nums ↔ 1 ≤ v ∧ v ≤ 40 := by
  unfold nums
  simp only [List.mem_map, List.mem_range]
  constructor
  · rintro ⟨i, hi, rfl⟩; omega
  · intro h; exact ⟨(v - 1).toNat, by omega, by omega⟩
def upto (f : Int → Bool) : List Int := nums.filter f
theorem mem_upto (f : Int → Bool) (v : Int) : v ∈ upto f ↔ (1 ≤ v ∧ v ≤ 40) ∧ f v = true := by
  unfold upto; rw [List.mem_filter, mem_nums]
theorem upto_right (f : Int → Bool) : Right (upto f) := ⟨nums_sorted.filter _, fun v hv => ((mem_upto f v).1 hv).1⟩
/-- Two rising lists with the same members are one. -/
theorem sorted_ext : ∀ {a b : List Int}, a.Pairwise (· < ·) → b.Pairwise (· < ·) → (∀ x, x ∈ a ↔ x ∈ b) → a = b
  | [], [], _, _, _ => rfl
  | [], y :: b, _, _, h => by have := (h y).2 List.mem_cons_self; cases this
  | x :: a, [], _, _, h => by have := (h x).1 List.mem_cons_self; cases this
  | x :: a, y :: b, ha, hb, h => by
    have ha' := List.pairwise_cons.1 ha
    have hb' := List.pairwise_cons.1 hb
    have e : x = y := by
      have h1 := (h x).1 List.mem_cons_self
      have h2 := (h y).2 List.mem_cons_self
      rcases List.mem_cons.1 h1 with e | h1
      · exact e
      · rcases List.mem_cons.1 h2 with e | h2
        · exact e.symm
        · have := hb'.1 x h1; have := ha'.1 y h2; omega
    subst e
    refine congrArg (x :: ·) (sorted_ext ha'.2 hb'.2 fun z => ?_)
    constructor
    · intro hz
      rcases List.mem_cons.1 ((h z).1 (List.mem_cons_of_mem _ hz)) with e | h1
      · subst e; have := ha'.1 z hz; omega
      · exact h1
    · intro hz
      rcases List.mem_cons.1 ((h z).2 (List.mem_cons_of_mem _ hz)) with e | h1
      · subst e; have := hb'.1 z hz; omega
      · exact h1
theorem right_upto {V : List Int} (h : Right V) : V = upto (V.contains ·) := by
  refine sorted_ext h.1 (upto_right _).1 fun x => ?_
  rw [mem_upto]
  constructor
  · intro hx; exact ⟨h.2 x hx, by simpa using hx⟩
  · rintro ⟨_, hx⟩; simpa using hx
theorem filter_right {V : List Int} (h : Right V) (f : Int → Bool) : Right (V.filter f) := ⟨h.1.filter _, fun v hv => h.2 v ((List.mem_filter.1 hv).1)⟩
/-- The meet as the document has it. -/
theorem meet_eq {a b : List Int} (ha : Right a) : a.filter (b.contains ·) = upto fun v => a.contains v && b.contains v := by
  refine sorted_ext (filter_right ha _).1 (upto_right _).1 fun x => ?_
  rw [mem_upto, List.mem_filter]
  constructor
  · rintro ⟨h1, h2⟩; exact ⟨ha.2 x h1, by simp at h2 ⊢; exact ⟨h1, h2⟩⟩
  · rintro ⟨_, h2⟩; simp at h2 ⊢; exact h2
theorem upto_contains (f : Int → Bool) (v : Int) : (upto f).contains v = (decide (1 ≤ v ∧ v ≤ 40) && f v) := by
  rw [Bool.eq_iff_iff]
  simp only [List.contains_iff_mem, mem_upto, Bool.and_eq_true, decide_eq_true_eq]
def mayP (P : Nat → Bool) (p : Int) : Bool := p == 0 || (decide (1 ≤ p) && decide (p ≤ 10) && P (p - 1).toNat)
def mayV (V : List Int) (v : Int) : Bool := v == 0 || V.contains v
def may (P : Nat → Bool) (V : List Int) (p v : Int) : Bool := mayP P p && mayV V v
def lessP (P Q : Nat → Bool) : Bool := (List.range 10).all fun i => !P i || Q i
def less (P Q : Nat → Bool) (V U : List Int) : Bool := lessP P Q && V.all (U.contains ·)
def same10 (P Q : Nat → Bool) : Bool := (List.range 10).all fun i => P i == Q i
/-- As far as i purposes were looked at. -/
def mayTo (P : Nat → Bool) (p : Int) (i : Nat) : Bool := p == 0 || (decide (1 ≤ p) && decide (p ≤ i) && P (p - 1).toNat)
theorem mayTo_zero (P : Nat → Bool) (p : Int) : mayTo P p 0 = (p == 0) := by
  unfold mayTo
  by_cases h : p = 0
  · simp [h]
  · have : ¬ (1 ≤ p ∧ p ≤ 0) := by omega
    simp only [← Bool.decide_and, decide_eq_false (p := 1 ≤ p ∧ p ≤ ((0 : Nat) : Int)) (by simpa using this), Bool.false_and, Bool.or_false]
theorem mayTo_succ (P : Nat → Bool) (p : Int) (i : Nat) : mayTo P p (i + 1) = (mayTo P p i || (p == (i : Int) + 1 && P i)) := by
  unfold mayTo
  by_cases h0 : p = 0
  · simp [h0]
  · have e0 : (p == 0) = false := by simpa using h0
    rw [e0]
    by_cases h : p = (i : Int) + 1
    · subst h
      have e1 : ((i : Int) + 1 - 1).toNat = i := by omega
      have e2 : decide ((1 : Int) ≤ (i : Int) + 1) = true := by simp; omega
      have e3 : decide ((i : Int) + 1 ≤ ((i + 1 : Nat) : Int)) = true := by simp
      have e4 : decide ((i : Int) + 1 ≤ (i : Int)) = false := by simp; omega
      rw [e1, e2, e3, e4]; simp
    · have e1 : (p == (i : Int) + 1) = false := by simpa using h
      have e2 : decide (p ≤ ((i + 1 : Nat) : Int)) = decide (p ≤ (i : Int)) := by
        by_cases hh : p ≤ (i : Int)
        · rw [decide_eq_true hh, decide_eq_true (by omega)]
        · rw [decide_eq_false hh, decide_eq_false (by omega)]
      rw [e1, e2]; simp
theorem lessP_false {P Q : Nat → Bool} {i : Nat} (hi : i < 10) (hp : P i = true) (hq : Q i = false) : lessP P Q = false := by
  unfold lessP
  rw [List.all_eq_false]
  exact ⟨i, List.mem_range.2 hi, by simp [hp, hq]⟩
theorem lessP_true {P Q : Nat → Bool} (h : ∀ i, i < 10 → P i = true → Q i = true) : lessP P Q = true := by
  unfold lessP
  rw [List.all_eq_true]
  intro i hi
  have := h i (List.mem_range.1 hi)
  cases hp : P i
  · rfl
  · simp [this hp]
end Go.Proofs.YtfhfpanemalbmaaDoor.GrantP
