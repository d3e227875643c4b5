/- The plain laws of grants. -/
import Derived.Test.YtnjaepdlfnidfaaGrantJ
import Derived.Test.YtnjaepdlfnidfaaGrantK
namespace Go.Proofs.Ytnjaepdlfnidfaa.GrantN
open Go.RowKit Go.Maps Mem Scan GrantP GrantW GrantX GrantY GrantZ GrantM GrantB GrantC GrantD GrantE GrantH GrantI GrantJ GrantK Facts Glue

theorem joinOf_con {g g' : Int} {P Q : Nat → Bool} {V U : List Int} {cs us : Array Value} {w : World} (h : ConV w g P V cs) (k : ConV w g' Q U us) : Calls Try.prog 11 #[.agg cs, .agg us] w (Own2 (bothF (· || ·) g g' P Q V U) w) := by
  obtain ⟨hf, A, c, rfl, hr⟩ := h
  obtain ⟨kf, B, d, rfl, kr⟩ := k
  exact (joinOf_any g g' P Q A c V B d U w hr kr hf.1 kf.1).mono fun _ _ h => CPostR.own h (fit_both ..)
theorem meetOf_con {g g' : Int} {P Q : Nat → Bool} {V U : List Int} {cs us : Array Value} {w : World} (h : ConV w g P V cs) (k : ConV w g' Q U us) : Calls Try.prog 10 #[.agg cs, .agg us] w (Own2 (bothF (· && ·) g g' P Q V U) w) := by
  obtain ⟨hf, A, c, rfl, hr⟩ := h
  obtain ⟨kf, B, d, rfl, kr⟩ := k
  exact (meetOf_any g g' P Q A c V B d U w hr kr hf.1 kf.1).mono fun _ _ h => CPostR.own h (fit_both ..)
theorem dropOf_con {g : Int} {P : Nat → Bool} {V : List Int} {cs : Array Value} {w : World} (p v now : Int) (h : ConV w g P V cs) : Calls Try.prog 12 #[.agg cs, .int .i64 p, .int .i64 v, .int .i64 now] w (Own2 (dropF g P V p v now) w) := by
  obtain ⟨hf, A, c, rfl, hr⟩ := h
  exact (dropOf_any g P A c V p v now w hr hf.1).mono fun _ _ h => CPostR.own h (fit_drop _ _ _ _ _ _ hf)
theorem same10_self (P : Nat → Bool) : same10 P P = true := by unfold same10; rw [List.all_eq_true]; intro i _; simp
theorem same_self (g : Int) (P : Nat → Bool) (V : List Int) : sameC g g P P V V = true := by unfold sameC; rw [same10_self]; simp
theorem same_of {g g' : Int} {P Q : Nat → Bool} {V U : List Int} (h1 : g = g') (h2 : ∀ i, i < 10 → P i = Q i) (h3 : V = U) : sameC g g' P Q V U = true := by
  subst h1 h3; unfold sameC same10
  simp only [beq_self_eq_true, decide_true, Bool.and_true, Bool.true_and, List.all_eq_true, List.mem_range, beq_iff_eq]
  exact h2
/-- Where a call that makes a consent says 0, what it made is right. -/
theorem both_ok {k : Bool → Bool → Bool} {g g' : Int} {P Q : Nat → Bool} {V U : List Int} {r : Int × (Nat → Bool) × List Int × Nat} (h : bothF k g g' P Q V U = r) (h0 : ((r.2.2.2 : Nat) : Int) = 0) :
    check g V = 0 ∧ check g' U = 0 ∧ r = (max g g', fun i => k (P i) (Q i), upto (fun v => k (V.contains v) (U.contains v)), 0) := by
  subst h
  unfold bothF at h0 ⊢
  by_cases h1 : check g V = 0
  · by_cases h2 : check g' U = 0
    · rw [if_neg (by simp [h1]), if_neg (by simp [h2])]; exact ⟨h1, h2, rfl⟩
    · rw [if_neg (by simp [h1]), if_pos h2] at h0; exact absurd (Int.ofNat_inj.1 h0) h2
  · rw [if_pos h1] at h0; exact absurd (Int.ofNat_inj.1 h0) h1
theorem both_of {k : Bool → Bool → Bool} {g g' : Int} {P Q : Nat → Bool} {V U : List Int} (h1 : check g V = 0) (h2 : check g' U = 0) : bothF k g g' P Q V U = (max g g', fun i => k (P i) (Q i), upto (fun v => k (V.contains v) (U.contains v)), 0) := by
  unfold bothF; rw [if_neg (by simp [h1]), if_neg (by simp [h2])]
theorem mayV_upto (f : Int → Bool) (v : Int) (h0 : v ≠ 0) : mayV (upto f) v = (decide (1 ≤ v ∧ v ≤ 40) && f v) := by
  unfold mayV; rw [upto_contains]; simp [h0]
theorem right_in {V : List Int} (h : Right V) {v : Int} (hv : V.contains v = true) : decide (1 ≤ v ∧ v ≤ 40) = true := decide_eq_true (h.2 v (by simpa using hv))
theorem meet_may {g g' : Int} {P Q : Nat → Bool} {V U : List Int} {r : Int × (Nat → Bool) × List Int × Nat} (h : bothF (· && ·) g g' P Q V U = r) (h0 : ((r.2.2.2 : Nat) : Int) = 0) (p v : Int) : may r.2.1 r.2.2.1 p v = (may P V p v && may Q U p v) := by
  obtain ⟨h1, h2, rfl⟩ := both_ok h h0
  have rV := right_of (check_zero h1).2
  have eP : mayP (fun i => P i && Q i) p = (mayP P p && mayP Q p) := by
    unfold mayP
    by_cases hp : p = 0
    · simp [hp]
    · have e : (p == 0) = false := by simpa using hp
      rw [e]; simp only [Bool.false_or]
      cases decide (1 ≤ p) <;> cases decide (p ≤ 10) <;> simp
  have eV : mayV (upto fun v => V.contains v && U.contains v) v = (mayV V v && mayV U v) := by
    by_cases hv : v = 0
    · subst hv; simp [mayV]
    · rw [mayV_upto _ _ hv]
      have e : (v == 0) = false := by simpa using hv
      unfold mayV
      rw [e, Bool.false_or, Bool.false_or]
      cases hc : V.contains v with
      | false => simp
      | true => rw [right_in rV hc]; simp
  show may (fun i => P i && Q i) (upto fun v => V.contains v && U.contains v) p v = _
  unfold may
  rw [eP, eV]
  cases mayP P p <;> cases mayP Q p <;> cases mayV V v <;> cases mayV U v <;> rfl
theorem less_may {P Q : Nat → Bool} {V U : List Int} (h : less P Q V U = true) (p v : Int) (hm : may P V p v = true) : may Q U p v = true := by
  unfold less at h
  rw [Bool.and_eq_true] at h
  obtain ⟨h1, h2⟩ := h
  unfold may mayP mayV at hm ⊢
  simp only [Bool.and_eq_true, Bool.or_eq_true, beq_iff_eq, decide_eq_true_eq] at hm ⊢
  refine ⟨?_, ?_⟩
  · rcases hm.1 with h | ⟨⟨a, b⟩, c⟩
    · exact .inl h
    · refine .inr ⟨⟨a, b⟩, ?_⟩
      unfold lessP at h1
      have := List.all_eq_true.1 h1 (p - 1).toNat (List.mem_range.2 (by omega))
      rw [c] at this
      simpa using this
  · rcases hm.2 with h | h
    · exact .inl h
    · exact .inr (List.all_eq_true.1 h2 v (by simpa using h))
end Go.Proofs.Ytnjaepdlfnidfaa.GrantN
