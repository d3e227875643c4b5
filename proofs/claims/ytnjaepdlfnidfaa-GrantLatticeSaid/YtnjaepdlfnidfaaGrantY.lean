/- The walks of May, MayOf, LessOf. -/
import Derived.Test.YtnjaepdlfnidfaaGrantX
namespace Go.Proofs.Ytnjaepdlfnidfaa.GrantY
open Go.RowKit Mem Scan GrantP GrantW GrantX

theorem contains_any (A : Option Addr) (c : Nat) (V : List Int) (v : Int) (w : World) (hr : Row w w.heap.size A (intV V)) (hn : V.length ≤ 4611686018427387904) :
    Calls Try.prog 30 #[.slice A V.length c, .int .i64 v] w (fun e w' => e = .returned (.bool (V.contains v)) ∧ w = w') := by
  by_cases h0 : V.length = 0
  · obtain rfl : V = [] := List.eq_nil_of_length_eq_zero h0
    exact (Try.slices_Contains_int_empty A c v w).mono fun _ _ h => ⟨h.1, h.2.symm⟩
  · obtain ⟨b, o, rfl, _, hcs⟩ := ints_open hr (by omega)
    refine (Try.slices_Contains_int b o V.length c V v w (Nat.le_refl _) (by omega) hcs).mono fun _ _ h => ⟨?_, h.2.symm⟩
    rw [h.1, List.take_length]
abbrev conO (g : Int) (P : Nat → Bool) (v : Value) : Obj := .cells #[.int .i64 g, .bool (P 0), .bool (P 1), .bool (P 2), .bool (P 3), .bool (P 4), .bool (P 5), .bool (P 6), .bool (P 7), .bool (P 8), .bool (P 9), v] 25
theorem con_at (g : Int) (P : Nat → Bool) (v : Value) (i : Nat) (hi : i < 10) : (#[Value.int .i64 g, .bool (P 0), .bool (P 1), .bool (P 2), .bool (P 3), .bool (P 4), .bool (P 5), .bool (P 6), .bool (P 7), .bool (P 8), .bool (P 9), v] : Array Value)[1 + i]? = some (.bool (P i)) := by
  have hc : i = 0 ∨ i = 1 ∨ i = 2 ∨ i = 3 ∨ i = 4 ∨ i = 5 ∨ i = 6 ∨ i = 7 ∨ i = 8 ∨ i = 9 := by omega
  rcases hc with rfl | rfl | rfl | rfl | rfl | rfl | rfl | rfl | rfl | rfl <;> rfl
set_option maxRecDepth 100000 in
set_option maxHeartbeats 4000000 in
theorem may_any (g : Int) (P : Nat → Bool) (A : Option Addr) (c : Nat) (V : List Int) (p v : Int) (w : World) (hr : Row w w.heap.size A (intV V)) (hn : V.length ≤ 4611686018427387904) :
    Calls Try.prog 14 #[conV g P A V.length c, .int .i64 p, .int .i64 v] w (Gives (.bool (may P V p v)) w) := by
  have hb : Below w.heap.size w (w.alloc (conO g P (.slice A V.length c))) := (Below.refl _ _).alloc (Nat.le_refl _) _
  have CV := Lib.hid (contains_any A c V v _ (hr.at' hb) hn)
  have hbc := box_cells w g P (.slice A V.length c)
  have key : ∀ (h : mayP P p = true), Calls Try.prog 14 #[conV g P A V.length c, .int .i64 p, .int .i64 v] w (Gives (.bool (mayV V v)) w) := by
    intro h
    unfold mayV
    by_cases p0 : p = 0
    · have e1 : (p != 0) = false := by simpa using p0
      have e2 : (p == 0) = true := by simpa using p0
      clear h p0 hbc
      by_cases v0 : v = 0
      · have e3 : (v == 0) = true := by simpa using v0
        clear CV
        go_enter Try.func14, Try.ntmps14
        go_wp2_with fail
        go_ret
        exact ⟨by simp [e3], hb⟩
      · have e3 : (v == 0) = false := by simpa using v0
        rw [e3, Bool.false_or]
        generalize V.contains v = r at CV
        go_enter Try.func14, Try.ntmps14
        go_wp2_with fail
        with_reducible refine CV.out.mono ?_
        rintro e w1 ⟨rfl, rfl⟩
        go_wp2_with fail
        go_ret
        exact ⟨by simp, hb⟩
    · unfold mayP at h
      have e2 : (p == 0) = false := by simpa using p0
      have e1 : (p != 0) = true := by simpa using p0
      rw [e2, Bool.false_or] at h
      simp only [Bool.and_eq_true, decide_eq_true_eq] at h
      obtain ⟨⟨h1, h2⟩, h3⟩ := h
      have e4 : decide (p < 1) = false := decide_eq_false (by omega)
      have e5 : decide (10 < p) = false := decide_eq_false (by omega)
      obtain ⟨q, rfl⟩ : ∃ q : Nat, p = (q : Int) + 1 := ⟨(p - 1).toNat, by omega⟩
      rw [show ((q : Int) + 1 - 1).toNat = q from by omega] at h3
      have hcell := hbc q (by omega)
      have hcell2 := con_at g P (.slice A V.length c) q (by omega)
      rw [h3] at hcell hcell2
      have e7 : q < 10 := by omega
      have e8 : (q : Int) < 10 := by omega
      clear hbc p0 h3
      by_cases v0 : v = 0
      · have e3 : (v == 0) = true := by simpa using v0
        clear CV
        go_enter Try.func14, Try.ntmps14
        go_wp2_with fail
        go_ret
        exact ⟨by simp [e3], hb⟩
      · have e3 : (v == 0) = false := by simpa using v0
        rw [e3, Bool.false_or]
        generalize V.contains v = r at CV
        go_enter Try.func14, Try.ntmps14
        go_wp2_with fail
        with_reducible refine CV.out.mono ?_
        rintro e w1 ⟨rfl, rfl⟩
        go_wp2_with fail
        go_ret
        exact ⟨by simp, hb⟩
  unfold may
  cases h : mayP P p with
  | true => exact key h
  | false =>
    rw [Bool.false_and]
    unfold mayP at h
    simp only [Bool.or_eq_false_iff, Bool.and_eq_false_iff, decide_eq_false_iff_not] at h
    obtain ⟨h0, h⟩ := h
    have e1 : (p != 0) = true := by simpa using h0
    clear CV key
    by_cases p1 : p < 1
    · have e4 : decide (p < 1) = true := decide_eq_true p1
      clear hbc h
      go_enter Try.func14, Try.ntmps14
      go_wp2_with fail
      go_ret
      exact ⟨rfl, hb⟩
    · have e4 : decide (p < 1) = false := decide_eq_false p1
      by_cases p2 : 10 < p
      · have e5 : decide (10 < p) = true := decide_eq_true p2
        clear hbc h
        go_enter Try.func14, Try.ntmps14
        go_wp2_with fail
        go_ret
        exact ⟨rfl, hb⟩
      · have e5 : decide (10 < p) = false := decide_eq_false p2
        have h3 : P (p - 1).toNat = false := by
          rcases h with (h | h) | h
          · omega
          · omega
          · exact h
        obtain ⟨q, rfl⟩ : ∃ q : Nat, p = (q : Int) + 1 := ⟨(p - 1).toNat, by omega⟩
        rw [show ((q : Int) + 1 - 1).toNat = q from by omega] at h3
        have hcell := hbc q (by omega)
        have hcell2 := con_at g P (.slice A V.length c) q (by omega)
        rw [h3] at hcell hcell2
        have e7 : q < 10 := by omega
        have e8 : (q : Int) < 10 := by omega
        clear hbc h h3
        go_enter Try.func14, Try.ntmps14
        go_wp2_with fail
        go_ret
        exact ⟨rfl, hb⟩
end Go.Proofs.Ytnjaepdlfnidfaa.GrantY
