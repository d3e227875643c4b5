/- The walks of package clock and of its references. -/
import Derived.Test.YtaojlikkaajpmaaProg
import Derived.Test.YtaojlikkaajpmaaClockP
import Derived.WalkKit
import Derived.WalkLawsBesides
import Derived.WalkSpells
import Derived.Lib.Hide
import Derived.Deep.QuietTactic
import Derived.BigQuiet
import Derived.Outline
import Derived.Below
import Derived.Deep.Light
namespace Go.Proofs.Ytaojlikkaajpmaa.ClockW
open Go.RowKit ClockP

theorem tmod_zero (y k : Int) : (y.tmod k == 0) = (y % k == 0) := by
  rw [Bool.eq_iff_iff, beq_iff_eq, beq_iff_eq]
  rw [← Int.dvd_iff_tmod_eq_zero, ← Int.dvd_iff_emod_eq_zero]

theorem ret_int {k : IntKind} {a b : Int} (h : a = b) : Ending.returned (.int k a) = .returned (.int k b) := by rw [h]
theorem ret_two {k j : IntKind} {a b c d : Int} (h : a = b) (h2 : c = d) : Ending.returned (.tuple #[.int k a, .int j c]) = .returned (.tuple #[.int k b, .int j d]) := by rw [h, h2]

def leapT (y : Int) : Bool := (y.tmod 4 == 0 && y.tmod 100 != 0) || y.tmod 400 == 0
theorem leapT_eq (y : Int) : leapT y = lp y := by unfold leapT lp bne; rw [tmod_zero, tmod_zero, tmod_zero]

set_option maxHeartbeats 400000 in
theorem leap_any (y : Int) (w : World) :
    Calls Try.prog 80 #[.int .i64 y] w fun e w' => e = .returned (.bool (leapT y)) ∧ w = w' := by
  unfold leapT
  cases h4 : (y.tmod 4 == 0) <;> cases h1 : (y.tmod 100 != 0) <;> cases h0 : (y.tmod 400 == 0)
  all_goals
    go_enter Try.func80, Try.ntmps80
    go_wp2
    go_ret
    exact ⟨rfl, rfl⟩

theorem mlen_29 {y m : Int} (h : (m == 2) = true) (h2 : leapT y = true) : 29 = mlen y m := by
  rw [leapT_eq] at h2; obtain rfl : m = 2 := by simpa using h
  simp [mlen, lpn, h2]
theorem mlen_28 {y m : Int} (h : (m == 2) = true) (h2 : leapT y = false) : 28 = mlen y m := by
  rw [leapT_eq] at h2; obtain rfl : m = 2 := by simpa using h
  simp [mlen, lpn, h2]
theorem mlen_30 {y m : Int} (h : m = 4 ∨ m = 6 ∨ m = 9 ∨ m = 11) : mlen y m = 30 := by rw [mlen, if_neg (by omega), if_pos h]
theorem mlen_31 {y m : Int} (h : m = 1 ∨ m = 3 ∨ m = 5 ∨ m = 7 ∨ m = 8 ∨ m = 10 ∨ m = 12) : mlen y m = 31 := by rw [mlen, if_neg (by omega), if_neg (by omega), if_pos h]
theorem mlen_0 {y m : Int} (h : m < 1 ∨ 12 < m ∨ (m ≠ 1 ∧ m ≠ 2 ∧ m ≠ 3 ∧ m ≠ 4 ∧ m ≠ 5 ∧ m ≠ 6 ∧ m ≠ 7 ∧ m ≠ 8 ∧ m ≠ 9 ∧ m ≠ 10 ∧ m ≠ 11 ∧ m ≠ 12)) : mlen y m = 0 := mlen_none y m (by omega)

set_option maxHeartbeats 400000 in
theorem length_any (y m : Int) (w : World) :
    Calls Try.prog 55 #[.int .i64 y, .int .i64 m] w fun e w' => e = .returned (.int .i64 (mlen y m)) ∧ w = w' := by
  go_enter Try.func55, Try.ntmps55
  go_wp2_with (go_at_call 80; refine (leap_any _ _).mono ?_; rintro e w' ⟨rfl, rfl⟩)
  all_goals
    go_ret
    refine ⟨ret_int ?_, rfl⟩
    go_light
    first | exact mlen_29 ‹_› ‹_› | exact mlen_28 ‹_› ‹_› | (simp only [beq_iff_eq, beq_eq_false_iff_ne, ne_eq] at *; exact (mlen_30 (by omega)).symm) | (simp only [beq_iff_eq, beq_eq_false_iff_ne, ne_eq] at *; exact (mlen_31 (by omega)).symm) | (simp only [beq_eq_false_iff_ne, ne_eq] at *; exact (mlen_0 (by omega)).symm)

set_option maxHeartbeats 400000 in
theorem daysTo_any (y : Int) (w : World) (h : 1 ≤ y) (h2 : y ≤ 20000) :
    Calls Try.prog 56 #[.int .i64 y] w fun e w' => e = .returned (.int .i64 (dby y)) ∧ w = w' := by
  go_enter Try.func56, Try.ntmps56
  go_wp2
  go_ret
  exact ⟨rfl, rfl⟩

def isB (n : Int) : Bool := decide (-11644473600 ≤ n) && decide (n ≤ 253402300799)
set_option maxHeartbeats 400000 in
theorem is_any (n : Int) (w : World) :
    Calls Try.prog 57 #[.int .i64 n] w fun e w' => e = .returned (.bool (isB n)) ∧ w = w' := by
  unfold isB
  by_cases h1 : -11644473600 ≤ n <;> by_cases h2 : n ≤ 253402300799
  all_goals
    go_enter Try.func57, Try.ntmps57
    go_wp2
    go_ret
    exact ⟨by simp [h1, h2], rfl⟩

theorem tdm (n : Int) : n.tmod 86400 = n - 86400 * n.tdiv 86400 ∧ (0 ≤ n ∧ n.tdiv 86400 = n / 86400 ∨ n < 0 ∧ n.tdiv 86400 = - ((-n) / 86400)) := by
  refine ⟨by have := Int.mul_tdiv_add_tmod n 86400; omega, ?_⟩
  by_cases h : 0 ≤ n
  · exact .inl ⟨h, Int.tdiv_eq_ediv_of_nonneg h⟩
  · refine .inr ⟨by omega, ?_⟩
    have h1 := Int.neg_tdiv (a := -n) (b := 86400)
    have h2 : (-n).tdiv 86400 = (-n) / 86400 := Int.tdiv_eq_ediv_of_nonneg (by omega)
    rw [Int.neg_neg] at h1
    rw [h1, h2]
set_option maxHeartbeats 400000 in
theorem cut_any (n : Int) (w : World) (h1 : -11644473600 ≤ n) (h2 : n ≤ 253402300799) :
    Calls Try.prog 58 #[.int .i64 n] w fun e w' => e = .returned (.tuple #[.int .i64 (n / 86400), .int .i64 (n % 86400)]) ∧ w = w' := by
  have t := tdm n
  have a : -134775 ≤ n.tdiv 86400 ∧ n.tdiv 86400 ≤ 2932897 := by omega
  have b : -86400 < n.tmod 86400 ∧ n.tmod 86400 < 86400 := by omega
  have T := Lib.hid t; clear t
  go_enter Try.func58, Try.ntmps58
  go_wp2
  all_goals
    go_ret2
    have t := T.out
    exact ⟨ret_two (by show _ = _; first | (go_light; omega)) (by go_light; omega), rfl⟩

def afterF (n s : Int) : Int := if s < 0 then (if s < -11644473600 - n then -11644473600 else n + s) else if 253402300799 - n < s then 253402300799 else n + s
set_option maxHeartbeats 400000 in
theorem weekday_yes (n : Int) (w : World) (h1 : -11644473600 ≤ n) (h2 : n ≤ 253402300799) :
    Calls Try.prog 27 #[.int .i64 n] w fun e w' => e = .returned (.tuple #[.int .i64 ((n / 86400 + 4) % 7), .int .i64 0]) ∧ w = w' := by
  have hb : isB n = true := by unfold isB; simp; omega
  have a : -134775 ≤ n / 86400 ∧ n / 86400 ≤ 2932897 := by omega
  have t1 : -6 ≤ (n / 86400 + 4).tmod 7 ∧ (n / 86400 + 4).tmod 7 ≤ 6 ∧ ((n / 86400 + 4).tmod 7 + 7) % 7 = (n / 86400 + 4) % 7 := by
    have := Int.mul_tdiv_add_tmod (n / 86400 + 4) 7
    have h3 : ((n / 86400 + 4).tmod 7).natAbs < 7 := by
      have := Int.natAbs_tmod (n / 86400 + 4) 7; rw [this]; exact Nat.mod_lt _ (by decide)
    omega
  obtain ⟨t1, t2, t3⟩ := t1
  have T := Lib.hid t3; clear t3
  go_enter Try.func27, Try.ntmps27
  go_wp2_with (first
    | (go_at_call 57; refine (is_any _ _).mono ?_; rintro e w' ⟨rfl, rfl⟩)
    | (go_at_call 58; refine (cut_any _ _ h1 h2).mono ?_; rintro e w' ⟨rfl, rfl⟩))
  go_ret2
  exact ⟨ret_two T.out rfl, rfl⟩
theorem weekday_no (n : Int) (w : World) (h : isB n = false) :
    Calls Try.prog 27 #[.int .i64 n] w fun e w' => e = .returned (.tuple #[.int .i64 0, .int .i64 3]) ∧ w = w' := by
  go_enter Try.func27, Try.ntmps27
  go_wp2_with (go_at_call 57; refine (is_any _ _).mono ?_; rintro e w' ⟨rfl, rfl⟩)
  go_ret2
  exact ⟨rfl, rfl⟩
end Go.Proofs.Ytaojlikkaajpmaa.ClockW
