/- The plain words of package word: great letters folded, blanks trimmed, tokens, parts. -/
import Derived.Lib.Strings
import Derived.Lib.Bytealg
import Derived.Lib.SlTrimSet
namespace Go.Proofs.YtfhfpanemalbmaaDoor.WordP

/-- A great letter made small. -/
def foldB (c : UInt8) : UInt8 := if 65 ≤ c.toNat ∧ c.toNat ≤ 90 then UInt8.ofNat (c.toNat + 32) else c
def fold (l : List UInt8) : List UInt8 := l.map foldB
theorem foldB_nat (c : UInt8) : (foldB c).toNat = if 65 ≤ c.toNat ∧ c.toNat ≤ 90 then c.toNat + 32 else c.toNat := by
  unfold foldB
  split
  · rw [UInt8.toNat_ofNat']; omega
  · rfl
theorem foldB_twice (c : UInt8) : foldB (foldB c) = foldB c := by
  apply UInt8.toNat_inj.1
  rw [foldB_nat (foldB c), foldB_nat c]
  by_cases h : 65 ≤ c.toNat ∧ c.toNat ≤ 90
  · rw [if_pos h, if_neg (by omega)]
  · rw [if_neg h, if_neg h]
theorem fold_twice (l : List UInt8) : fold (fold l) = fold l := by
  simp [fold, foldB_twice]
theorem fold_app (a b : List UInt8) : fold (a ++ b) = fold a ++ fold b := by simp [fold]

def blankB (c : UInt8) : Bool := c.toNat == 32 || c.toNat == 9
/-- What is left without the last ones that p lets. -/
def rdrop (p : UInt8 → Bool) (l : List UInt8) : List UInt8 := (l.reverse.dropWhile p).reverse
theorem rdrop_nil (p : UInt8 → Bool) : rdrop p [] = [] := rfl
theorem dropWhile_snoc (p : UInt8 → Bool) (l : List UInt8) (c : UInt8) : (l ++ [c]).dropWhile p = if l.dropWhile p = [] then (if p c then [] else [c]) else l.dropWhile p ++ [c] := by
  induction l with
  | nil => simp [List.dropWhile_cons]
  | cons a l ih =>
    rw [List.cons_append, List.dropWhile_cons, List.dropWhile_cons]
    cases p a with
    | true => simpa using ih
    | false => simp
theorem rdrop_cons (p : UInt8 → Bool) (c : UInt8) (l : List UInt8) : rdrop p (c :: l) = if rdrop p l = [] then (if p c then [] else [c]) else c :: rdrop p l := by
  unfold rdrop
  rw [List.reverse_cons, dropWhile_snoc]
  by_cases h : l.reverse.dropWhile p = []
  · simp only [h, if_true, List.reverse_nil]; cases p c <;> simp
  · simp [h]
theorem drop_rdrop (p : UInt8 → Bool) (l : List UInt8) : (rdrop p l).dropWhile p = rdrop p (l.dropWhile p) := by
  induction l with
  | nil => rfl
  | cons c l ih =>
    rw [rdrop_cons, List.dropWhile_cons]
    cases hp : p c with
    | true =>
      simp only [if_true]
      by_cases h : rdrop p l = []
      · rw [if_pos h, ← ih, h]
      · rw [if_neg h, List.dropWhile_cons, hp]; simpa using ih
    | false =>
      by_cases h : rdrop p l = []
      · rw [if_pos h]; simp only [Bool.false_eq_true, if_false]; rw [rdrop_cons, if_pos h, hp]; simp [hp]
      · rw [if_neg h]; simp only [Bool.false_eq_true, if_false]; rw [rdrop_cons, if_neg h, List.dropWhile_cons, hp]; simp
/-- Blanks trimmed at both ends. -/
def trim (l : List UInt8) : List UInt8 := rdrop blankB (l.dropWhile blankB)
theorem blank_set (c : UInt8) : [32, 9].contains c = blankB c := by
  unfold blankB
  have e1 : (c == 32) = (c.toNat == 32) := by rw [Bool.eq_iff_iff, beq_iff_eq, beq_iff_eq]; exact ⟨fun h => by rw [h]; rfl, fun h => UInt8.toNat_inj.1 h⟩
  have e2 : (c == 9) = (c.toNat == 9) := by rw [Bool.eq_iff_iff, beq_iff_eq, beq_iff_eq]; exact ⟨fun h => by rw [h]; rfl, fun h => UInt8.toNat_inj.1 h⟩
  rw [← e1, ← e2]; simp
  rw [Bool.eq_iff_iff]; simp
theorem trimS_eq (l : List UInt8) : Lib.trimS l [32, 9] = trim l := by
  unfold Lib.trimS Lib.trimLeftS Lib.trimRightS trim
  have e : (fun c : UInt8 => [32, 9].contains c) = blankB := funext blank_set
  rw [e]
  exact drop_rdrop blankB l
theorem rdrop_fold (l : List UInt8) (p : UInt8 → Bool) (h : ∀ c, p (foldB c) = p c) : rdrop p (fold l) = fold (rdrop p l) := by
  induction l with
  | nil => rfl
  | cons c l ih =>
    have e : fold (c :: l) = foldB c :: fold l := rfl
    rw [e, rdrop_cons, rdrop_cons, ih, h]
    by_cases hr : rdrop p l = []
    · rw [if_pos hr, if_pos (by rw [hr]; rfl)]; cases p c <;> rfl
    · rw [if_neg hr, if_neg (by simpa [fold] using hr)]; rfl
theorem drop_fold (l : List UInt8) (p : UInt8 → Bool) (h : ∀ c, p (foldB c) = p c) : (fold l).dropWhile p = fold (l.dropWhile p) := by
  induction l with
  | nil => rfl
  | cons c l ih =>
    have e : fold (c :: l) = foldB c :: fold l := rfl
    rw [e, List.dropWhile_cons, List.dropWhile_cons, h]
    cases p c with
    | true => simpa using ih
    | false => simp [e]
theorem blank_fold (c : UInt8) : blankB (foldB c) = blankB c := by
  unfold blankB
  rw [foldB_nat]
  split
  · rename_i h
    have e1 : (c.toNat + 32 == 32) = false := by simp; omega
    have e2 : (c.toNat + 32 == 9) = false := by simp
    have e3 : (c.toNat == 32) = false := by simp; omega
    have e4 : (c.toNat == 9) = false := by simp; omega
    rw [e1, e2, e3, e4]
  · rfl
theorem trim_fold (l : List UInt8) : trim (fold l) = fold (trim l) := by
  unfold trim
  rw [drop_fold _ _ blank_fold, rdrop_fold _ _ blank_fold]
theorem dropWhile_idem (p : UInt8 → Bool) (l : List UInt8) : (l.dropWhile p).dropWhile p = l.dropWhile p := by
  induction l with
  | nil => rfl
  | cons c l ih =>
    rw [List.dropWhile_cons]
    cases hp : p c with
    | true => simpa using ih
    | false => simp [hp]
theorem rdrop_idem (p : UInt8 → Bool) (l : List UInt8) : rdrop p (rdrop p l) = rdrop p l := by
  unfold rdrop; rw [List.reverse_reverse, dropWhile_idem]
theorem trim_twice (l : List UInt8) : trim (trim l) = trim l := by
  unfold trim
  rw [drop_rdrop, dropWhile_idem, rdrop_idem]
theorem trim_len (l : List UInt8) : (trim l).length ≤ l.length := by
  unfold trim rdrop
  rw [List.length_reverse]
  have h1 := (List.dropWhile_sublist blankB (l := (l.dropWhile blankB).reverse)).length_le
  have h2 := (List.dropWhile_sublist blankB (l := l)).length_le
  rw [List.length_reverse] at h1
  omega

/-- The signs that part words. -/
def bad : List UInt8 := [40, 41, 60, 62, 64, 44, 59, 58, 92, 34, 47, 91, 93, 63, 61, 123, 125]
def tokB (c : UInt8) : Bool := decide (33 ≤ c.toNat) && decide (c.toNat ≤ 126) && !bad.contains c
def token (l : List UInt8) : Bool := !l.isEmpty && l.all tokB
theorem tokB_fold (c : UInt8) (h : tokB c = true) : tokB (foldB c) = true := by
  have key : ∀ n : Fin 256, tokB (UInt8.ofNat n.val) = true → tokB (foldB (UInt8.ofNat n.val)) = true := by decide +kernel
  have e : UInt8.ofNat c.toNat = c := by simp
  have := key ⟨c.toNat, c.toNat_lt⟩
  simp only [e] at this
  exact this h
theorem tokB_blank (c : UInt8) (h : tokB c = true) : blankB c = false := by
  unfold tokB at h
  simp only [Bool.and_eq_true, decide_eq_true_eq] at h
  unfold blankB
  have e1 : (c.toNat == 32) = false := by simp; omega
  have e2 : (c.toNat == 9) = false := by simp; omega
  rw [e1, e2]; rfl
theorem token_fold (l : List UInt8) (h : token l = true) : token (fold l) = true := by
  unfold token fold at *
  simp only [Bool.and_eq_true, List.all_eq_true, Bool.not_eq_true', List.isEmpty_eq_false_iff] at *
  refine ⟨by simpa using h.1, fun x hx => ?_⟩
  simp only [List.mem_map] at hx
  obtain ⟨c, hc, rfl⟩ := hx
  exact tokB_fold c (h.2 c hc)
theorem dropWhile_none (p : UInt8 → Bool) (l : List UInt8) (h : ∀ c ∈ l, p c = false) : l.dropWhile p = l := by
  cases l with
  | nil => rfl
  | cons c l => rw [List.dropWhile_cons, h c (by simp)]; simp
theorem token_trim (l : List UInt8) (h : token l = true) : trim l = l := by
  unfold token at h
  simp only [Bool.and_eq_true, List.all_eq_true] at h
  have hb : ∀ c ∈ l, blankB c = false := fun c hc => tokB_blank c (h.2 c hc)
  unfold trim rdrop
  rw [dropWhile_none _ _ hb, dropWhile_none _ _ (fun c hc => hb c (List.mem_reverse.1 hc)), List.reverse_reverse]
theorem token_app (a b : List UInt8) (ha : a ≠ []) (hb : b ≠ []) : token (a ++ b) = (token a && token b) := by
  unfold token
  have e1 : (a ++ b).isEmpty = false := by simp [ha]
  have e2 : a.isEmpty = false := by simp [ha]
  have e3 : b.isEmpty = false := by simp [hb]
  rw [e1, e2, e3, List.all_append]; simp
end Go.Proofs.YtfhfpanemalbmaaDoor.WordP
