/- The walks of the references of chapter 2: monthDays, dayNo, MomentOf, TimeOf; and of clock.Time. -/
import Derived.Test.YtaojlikkaajpmaaClockO
namespace Go.Proofs.Ytaojlikkaajpmaa.ClockR
open Go.RowKit ClockP ClockW ClockO

set_option maxHeartbeats 400000 in
theorem isLeap_any (y : Int) (w : World) :
    Calls Try.prog 81 #[.int .i64 y] w fun e w' => e = .returned (.bool (leapT y)) ∧ w = w' := by
  unfold leapT
  cases h4 : (y.tmod 4 == 0) <;> cases h1 : (y.tmod 100 != 0) <;> cases h0 : (y.tmod 400 == 0)
  all_goals
    go_enter Try.func81, Try.ntmps81
    go_wp2
    go_ret
    exact ⟨rfl, rfl⟩

def MdPost (y m : Int) (w : World) (e : Ending) (w' : World) : Prop := e = .returned (.int .i64 (mlen y m)) ∧ Below w.heap.size w w'
set_option maxHeartbeats 1000000 in
theorem monthDays_any (y m : Int) (w : World) :
    Calls Try.prog 62 #[.int .i64 y, .int .i64 m] w (MdPost y m w) := by
  by_cases h1 : m < 1
  · have hm := mlen_none y m (.inl h1)
    have H := Lib.hid hm; clear hm
    go_enter Try.func62, Try.ntmps62
    go_wp2_with fail
    go_ret
    exact ⟨ret_int H.out.symm, Below.refl _ _⟩
  · by_cases h2 : 12 < m
    · have hm := mlen_none y m (.inr h2)
      have H := Lib.hid hm; clear hm
      go_enter Try.func62, Try.ntmps62
      go_wp2_with fail
      go_ret
      exact ⟨ret_int H.out.symm, Below.refl _ _⟩
    · have hc : m = 1 ∨ m = 2 ∨ m = 3 ∨ m = 4 ∨ m = 5 ∨ m = 6 ∨ m = 7 ∨ m = 8 ∨ m = 9 ∨ m = 10 ∨ m = 11 ∨ m = 12 := by omega
      clear h1 h2
      rcases hc with rfl | rfl | rfl | rfl | rfl | rfl | rfl | rfl | rfl | rfl | rfl | rfl
      all_goals
        go_enter Try.func62, Try.ntmps62
        go_wp2_with (go_at_call 81; refine (isLeap_any _ _).mono ?_; rintro e w' ⟨rfl, rfl⟩)
        all_goals
          go_ret
          refine ⟨ret_int ?_, by first | exact Below.refl _ _ | exact (Below.refl _ _).alloc (Nat.le_refl _) _⟩
          first | exact mlen_29 rfl ‹_› | exact mlen_28 rfl ‹_› | (simp [mlen]; done)

set_option maxHeartbeats 1000000 in
theorem dayNo_any (y m d : Int) (w : World) (hr : vld y m d) :
    Calls Try.prog 63 #[.int .i64 y, .int .i64 m, .int .i64 d] w fun e w' => e = .returned (.int .i64 (num y m d)) ∧ w = w' := by
  obtain ⟨hm1, hm2⟩ := vld_m hr
  obtain ⟨hy1, hy2, hd1, hd2⟩ := hr
  have hd3 := (mlen_bd y m).2
  have H := Lib.hid (dayNo_num y m d hm1 hm2)
  by_cases h3 : m - 3 < 0
  all_goals
    go_enter Try.func63, Try.ntmps63
    go_wp2_with fail
    go_ret
    refine ⟨ret_int ?_, rfl⟩
    rw [← H.out]
    show _ = dayNo y m d
    go_light
    first | (simp only [dayNo, if_pos h3] <;> omega) | (simp only [dayNo, if_neg h3] <;> omega)

end Go.Proofs.Ytaojlikkaajpmaa.ClockR
