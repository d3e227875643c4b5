/- The walk of clock.Time: what it finds is the one time of its moment. -/
import Derived.Test.YtaojlikkaajpmaaClockT
namespace Go.Proofs.Ytaojlikkaajpmaa.ClockI
open Go.RowKit ClockP ClockW ClockO ClockT

theorem ref_one {y m d h mi s n : Int} (hr : right y m d h mi s) (e : mom y m d h mi s = n) : refT n = .tuple #[.agg #[.int .i64 y, .int .i64 m, .int .i64 d, .int .i64 h, .int .i64 mi, .int .i64 s], .int .i64 0] := by
  have b := mom_bd hr
  rw [e] at b
  obtain ⟨r, e2⟩ := ref_right n b.1 b.2
  obtain ⟨h1, h2, h3, h4, h5, h6⟩ := mom_inj r hr (e2.trans e.symm)
  unfold refT
  rw [h1, h2, h3, h4, h5, h6]

set_option maxHeartbeats 400000 in
theorem time_no (n : Int) (w : World) (h : isB n = false) :
    Calls Try.prog 26 #[.int .i64 n] w (TPost noT w) := by
  go_enter Try.func26, Try.ntmps26
  go_wp2_with (go_at_call 57; refine (is_any _ _).mono ?_; rintro e w' ⟨rfl, rfl⟩)
  exact bodyPost_ret (v := noT) (by simp [results, Try.results26, go_sem, noT]) rfl ⟨rfl, (Below.refl _ _).alloc (Nat.le_refl _) _⟩

theorem tdiv366 (d : Int) (h1 : -134775 ≤ d) (h2 : d ≤ 2932897) : -369 ≤ d.tdiv 366 ∧ d.tdiv 366 ≤ 8014 := by
  by_cases h : 0 ≤ d
  · rw [Int.tdiv_eq_ediv_of_nonneg h]; omega
  · have h3 := Int.neg_tdiv (a := -d) (b := 366)
    have h4 : (-d).tdiv 366 = (-d) / 366 := Int.tdiv_eq_ediv_of_nonneg (by omega)
    rw [Int.neg_neg] at h3
    rw [h3, h4]; omega

def W1 (w : World) (y m : Int) : World := w.alloc (.cells #[.int .i64 y, .int .i64 m, .int .i64 0, .int .i64 0, .int .i64 0, .int .i64 0] 47)

set_option maxHeartbeats 1000000 in
theorem time_yes (n : Int) (w : World) (h1 : -11644473600 ≤ n) (h2 : n ≤ 253402300799) :
    Calls Try.prog 26 #[.int .i64 n] w (TPost (refT n) w) := by
  have hb : isB n = true := by unfold isB; simp; omega
  have FIN : Hid (∀ y m d h mi s : Int, right y m d h mi s → mom y m d h mi s = n → refT n = .tuple #[.agg #[.int .i64 y, .int .i64 m, .int .i64 d, .int .i64 h, .int .i64 mi, .int .i64 s], .int .i64 0]) := Lib.hid fun y m d h mi s hr e => ref_one hr e
  go_enter Try.func26, Try.ntmps26
  go_upto_region 4 with (first
    | (go_at_call 57; refine (is_any _ _).mono ?_; rintro e w' ⟨rfl, rfl⟩)
    | (go_at_call 58; refine (cut_any _ _ h1 h2).mono ?_; rintro e w' ⟨rfl, rfl⟩))
  generalize hD : n / 86400 = D
  generalize hS : n % 86400 = S
  have s0 : 0 ≤ S ∧ S < 86400 := by omega
  have d0 : -134774 ≤ D ∧ D ≤ 2932896 := by omega
  have d1 := tdiv366 D (by omega) (by omega)
  have HN : Hid (n = D * 86400 + S) := Lib.hid (by omega)
  clear hD hS
  go_wp2_with fail
  go_loopw [19] (fun _ wr => ∃ y : Int, 1601 ≤ y ∧ y ≤ 9999 ∧ wr = W1 w y 0) (fun _ wr => match wr.cell? ⟨w.heap.size, 0, none⟩ with | some v => (intOf v).toNat | none => 0)
  case atStart => exact ⟨_, by omega, by omega, rfl⟩
  case round =>
    obtain ⟨y, hy1, hy2, rfl⟩ := hrel
    unfold W1
    by_cases hc : D < dby y
    · have hy3 : 1602 ≤ y := by have := dby_mono y 1601; rw [dby_first] at this; omega
      go_wp2_with (go_at_call 56; refine (daysTo_any _ _ (by omega) (by omega)).mono ?_; rintro e w' ⟨rfl, rfl⟩)
      go_roundw
      case rel => exact ⟨y - 1, by omega, by omega, rfl⟩
      case measure => simp [intOf]; omega
    · go_wp2_with (go_at_call 56; refine (daysTo_any _ _ (by omega) (by omega)).mono ?_; rintro e w' ⟨rfl, rfl⟩)
      have hle : dby y ≤ D := by omega
      clear hc
      go_loopw [28] (fun _ wr => ∃ y : Int, 1601 ≤ y ∧ y ≤ 9999 ∧ dby y ≤ D ∧ wr = W1 w y 0) (fun _ wr => match wr.cell? ⟨w.heap.size, 0, none⟩ with | some v => 10000 - (intOf v).toNat | none => 0)
      case atStart => exact ⟨_, hy1, hy2, hle, rfl⟩
      case round =>
        clear hy1 hy2 hle
        obtain ⟨y, hy1, hy2, hle, rfl⟩ := hrel
        unfold W1
        by_cases hc : dby (y + 1) ≤ D
        · have hy3 : y ≤ 9998 := by have := dby_mono 10000 (y + 1); rw [dby_last] at this; omega
          go_wp2_with (go_at_call 56; refine (daysTo_any _ _ (by omega) (by omega)).mono ?_; rintro e w' ⟨rfl, rfl⟩)
          go_roundw
          case rel => exact ⟨y + 1, by omega, by omega, hc, rfl⟩
          case measure => simp [intOf]; omega
        · have hlt : D < dby (y + 1) := by omega
          have hdn : dby (y + 1) = dby y + 365 + lpn y := dby_succ y
          have hln := lpn_bd y
          have hdd : D - dby y < 365 + lpn y := by omega
          clear hc hdn
          go_wp2_with (go_at_call 56; refine (daysTo_any _ _ (by omega) (by omega)).mono ?_; rintro e w' ⟨rfl, rfl⟩)
          go_loopw [4, 44] (fun t _ wr => ∃ m : Int, 1 ≤ m ∧ m ≤ 12 ∧ t = .int .i64 (D - dby y - cum y m) ∧ 0 ≤ D - dby y - cum y m ∧ wr = W1 w y m) (fun _ _ wr => match wr.cell? ⟨w.heap.size, 1, none⟩ with | some v => 13 - (intOf v).toNat | none => 0)
          case atStart => exact ⟨1, by omega, by omega, by rw [cum_1 y 1 (by omega)]; simp, by rw [cum_1 y 1 (by omega)]; omega, rfl⟩
          case round =>
            obtain ⟨m, hm1, hm2, rfl, hr, rfl⟩ := hrel
            unfold W1
            have db := mlen_bd y m
            have cb := cum_bd y m (by omega)
            have hr2 : D - dby y - cum y m ≤ 400 := by omega
            clear cb
            have cs := cum_succ y m hm1 hm2
            by_cases hc : mlen y m ≤ D - dby y - cum y m
            · have hm3 : m ≤ 11 := by
                refine Int.not_lt.1 fun hh => ?_
                obtain rfl : m = 12 := by omega
                rw [show (12 : Int) + 1 = 13 from rfl, cum_13] at cs
                omega
              have CS := Lib.hid cs; clear cs
              go_wp2_with (go_at_call 55; refine (length_any _ _ _).mono ?_; rintro e w' ⟨rfl, rfl⟩)
              go_roundw
              case rel => exact ⟨m + 1, by omega, by omega, by rw [CS.out]; go_num, by rw [CS.out]; omega, rfl⟩
              case measure => simp [intOf]; omega
            · have hv : vld y m (D - dby y - cum y m + 1) := ⟨hy1, hy2, by omega, by omega⟩
              have hrt : right y m (D - dby y - cum y m + 1) (S / 3600) (S / 60 % 60) (S % 60) := ⟨hv, by omega, by omega, by omega, by omega, by omega, by omega⟩
              have F := FIN.out _ _ _ _ _ _ hrt (by rw [HN.out]; unfold mom num; omega)
              have F2 := Lib.hid F
              clear F cs hv hrt FIN HN
              go_wp2_with (go_at_call 55; refine (length_any _ _ _).mono ?_; rintro e w' ⟨rfl, rfl⟩)
              refine bodyPost_ret (v := .tuple #[.agg #[.int .i64 y, .int .i64 m, .int .i64 (D - dby y - cum y m + 1), .int .i64 (S / 3600), .int .i64 (S / 60 % 60), .int .i64 (S % 60)], .int .i64 0]) (by simp [results, Try.results26, go_sem]) rfl ⟨by rw [F2.out], ?_⟩
              exact (Below.refl _ _).alloc (Nat.le_refl _) _

/-! What is in any case. -/
theorem right_begun : right 1994 11 6 8 49 37 := ⟨⟨by decide, by decide, by decide, by decide⟩, by decide, by decide, by decide, by decide, by decide, by decide⟩
theorem mom_begun : mom 1994 11 6 8 49 37 = 784111777 := by decide
theorem right_1969 : right 1969 12 31 23 59 59 := ⟨⟨by decide, by decide, by decide, by decide⟩, by decide, by decide, by decide, by decide, by decide, by decide⟩
theorem mom_1969 : mom 1969 12 31 23 59 59 = -1 := by decide
theorem wrong_1900 : ¬ right 1900 2 29 0 0 0 := fun h => absurd h.1.2.2.2 (by decide)
theorem of_yes (y m d h mi s : Int) (w : World) (hr : right y m d h mi s) :
    Calls Try.prog 25 #[.agg #[.int .i64 y, .int .i64 m, .int .i64 d, .int .i64 h, .int .i64 mi, .int .i64 s]] w (TPost (.tuple #[.int .i64 (mom y m d h mi s), .int .i64 0]) w) :=
  (of_any y m d h mi s w).mono fun e w' ⟨v, he, ha, hb⟩ => by
    rcases ha with ⟨_, rfl⟩ | ⟨h, _⟩
    · exact ⟨he, hb⟩
    · exact absurd hr h
theorem of_no (y m d h mi s : Int) (w : World) (hr : ¬ right y m d h mi s) :
    Calls Try.prog 25 #[.agg #[.int .i64 y, .int .i64 m, .int .i64 d, .int .i64 h, .int .i64 mi, .int .i64 s]] w (TPost (.tuple #[.int .i64 0, .int .i64 3]) w) :=
  (of_any y m d h mi s w).mono fun e w' ⟨v, he, ha, hb⟩ => by
    rcases ha with ⟨h, _⟩ | ⟨_, rfl⟩
    · exact absurd h hr
    · exact ⟨he, hb⟩
end Go.Proofs.Ytaojlikkaajpmaa.ClockI
