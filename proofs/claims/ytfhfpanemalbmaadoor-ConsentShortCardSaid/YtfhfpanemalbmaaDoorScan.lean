/- The first fault of many: a scan, and its steps. Over any program. -/
import Derived.WalkKit
namespace Go.Proofs.YtfhfpanemalbmaaDoor.Scan
/-- The first number that is not nought among f 0, .. f (n-1); else nought. -/
def scan (f : Nat → Nat) : Nat → Nat
  | 0 => 0
  | n + 1 => if scan f n = 0 then f n else scan f n
theorem scan_next {f : Nat → Nat} {k : Nat} (h : scan f k = 0) (hk : f k = 0) : scan f (k + 1) = 0 := by
  simp [scan, h, hk]
theorem scan_at {f : Nat → Nat} {k : Nat} (h : scan f k = 0) : scan f (k + 1) = f k := by
  simp [scan, h]
theorem scan_keep {f : Nat → Nat} {k : Nat} (h : scan f k ≠ 0) : ∀ n, k ≤ n → scan f n = scan f k := by
  intro n hn
  induction n with
  | zero => have : k = 0 := by omega
            subst this; rfl
  | succ n ih =>
    by_cases e : k = n + 1
    · subst e; rfl
    · have := ih (by omega)
      simp only [scan]
      rw [this, if_neg h]
theorem scan_stop {f : Nat → Nat} {k n : Nat} (h : scan f k = 0) (hk : f k ≠ 0) (hn : k < n) : scan f n = f k := by
  have e := scan_at h
  rw [scan_keep (by rw [e]; exact hk) n hn, e]
theorem scan_zero {f : Nat → Nat} {n : Nat} : scan f n = 0 ↔ ∀ i, i < n → f i = 0 := by
  induction n with
  | zero => simp [scan]
  | succ n ih =>
    constructor
    · intro h
      have h0 : scan f n = 0 := by
        rcases Nat.eq_zero_or_pos (scan f n) with h0 | h0
        · exact h0
        · simp only [scan] at h; rw [if_neg (by omega)] at h; omega
      intro i hi
      by_cases e : i = n
      · subst e; rw [scan_at h0] at h; exact h
      · exact ih.1 h0 i (by omega)
    · intro h
      exact scan_next (ih.2 fun i hi => h i (by omega)) (h n (by omega))
theorem scan_congr {f g : Nat → Nat} {n : Nat} (h : ∀ i, i < n → f i = g i) : scan f n = scan g n := by
  induction n with
  | zero => rfl
  | succ n ih =>
    simp only [scan]
    rw [ih fun i hi => h i (by omega), h n (by omega)]
end Go.Proofs.YtfhfpanemalbmaaDoor.Scan
