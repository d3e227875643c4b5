/- The four laws on moments: their walks out of the contracts. -/
import Derived.Test.YtmcihmcgkhijcaaClockI
import Derived.Test.YtmcihmcgkhijcaaClockM
import Derived.RowKit3
namespace Go.Proofs.Ytmcihmcgkhijcaa.ClockL
open Go.RowKit
theorem ret_bool {a b : Bool} (h : a = b) : Ending.returned (.bool a) = .returned (.bool b) := by rw [h]
open ClockP ClockW ClockO ClockT ClockI ClockM

set_option maxHeartbeats 1000000 in
theorem begun_any (w : World) : Calls Try.prog 48 #[] w (TPost (.bool true) w) := by
  have f1 := ref_one right_1969 mom_1969
  have FT := Lib.hid f1; clear f1
  go_enter Try.func48, Try.ntmps48
  go_wp2_with fail
  refine (of_yes _ _ _ _ _ _ _ right_begun).mono ?_
  rintro e w1 ⟨rfl, hb1⟩
  rw [mom_begun]
  go_wp2_with fail
  rw [show ((-1 : Int)) = -1 from rfl]
  refine (time_yes (-1) _ (by decide) (by decide)).mono ?_
  rintro e w2 ⟨rfl, hb2⟩
  rw [FT.out]
  go_wp2_with fail
  refine (weekday_yes 0 _ (by decide) (by decide)).mono ?_
  rintro e w3 ⟨rfl, rfl⟩
  go_wp2_with fail
  refine (add_yes 784111777 4611686018427387904 _ (by decide) (by decide) (by decide)).mono ?_
  rintro e w3 ⟨rfl, rfl⟩
  rw [show afterF 784111777 4611686018427387904 = 253402300799 from by decide]
  go_wp2_with fail
  refine (of_no _ _ _ _ _ _ _ wrong_1900).mono ?_
  rintro e w3 ⟨rfl, hb3⟩
  obtain ⟨hc3, hf3⟩ := bcell hb3
  go_wp2_with fail
  go_ret
  have s1 := hb1.size
  have s2 := hb2.size
  exact ⟨rfl, ((hb1.trans (hb2.mono s1)).alloc (by omega) _).trans (hb3.mono (by simp; omega))⟩

theorem agg_right (y m d h mi s : Int) (w : World) (hr : right y m d h mi s) :
    Calls Try.prog 44 #[.agg #[.int .i64 y, .int .i64 m, .int .i64 d, .int .i64 h, .int .i64 mi, .int .i64 s]] w (TPost (.tuple #[.int .i64 (mom y m d h mi s), .int .i64 0]) w) :=
  (momentOf_any y m d h mi s w).mono fun e w' ⟨v, he, ha, hb⟩ => by
    rcases ha with ⟨_, rfl⟩ | ⟨h, _⟩
    · exact ⟨he, hb⟩
    · exact absurd hr h
theorem agg_wrong (y m d h mi s : Int) (w : World) (hr : ¬ right y m d h mi s) :
    Calls Try.prog 44 #[.agg #[.int .i64 y, .int .i64 m, .int .i64 d, .int .i64 h, .int .i64 mi, .int .i64 s]] w (TPost (.tuple #[.int .i64 0, .int .i64 3]) w) :=
  (momentOf_any y m d h mi s w).mono fun e w' ⟨v, he, ha, hb⟩ => by
    rcases ha with ⟨h, _⟩ | ⟨_, rfl⟩
    · exact absurd h hr
    · exact ⟨he, hb⟩

/-- What a call of Of and of MomentOf answers, as one value each. -/
theorem of_one (y m d h mi s : Int) : ∃ a e : Int, (∀ w, Calls Try.prog 40 #[.agg #[.int .i64 y, .int .i64 m, .int .i64 d, .int .i64 h, .int .i64 mi, .int .i64 s]] w (TPost (.tuple #[.int .i64 a, .int .i64 e]) w)) ∧
    (∀ w, Calls Try.prog 44 #[.agg #[.int .i64 y, .int .i64 m, .int .i64 d, .int .i64 h, .int .i64 mi, .int .i64 s]] w (TPost (.tuple #[.int .i64 a, .int .i64 e]) w)) := by
  by_cases hr : right y m d h mi s
  · exact ⟨_, _, fun w => of_yes y m d h mi s w hr, fun w => agg_right y m d h mi s w hr⟩
  · exact ⟨_, _, fun w => of_no y m d h mi s w hr, fun w => agg_wrong y m d h mi s w hr⟩
theorem time_one (n : Int) : ∃ y m d h mi s e : Int, (∀ w, Calls Try.prog 41 #[.int .i64 n] w (TPost (.tuple #[.agg #[.int .i64 y, .int .i64 m, .int .i64 d, .int .i64 h, .int .i64 mi, .int .i64 s], .int .i64 e]) w)) ∧
    (∀ w, Calls Try.prog 45 #[.int .i64 n] w (TPost (.tuple #[.agg #[.int .i64 y, .int .i64 m, .int .i64 d, .int .i64 h, .int .i64 mi, .int .i64 s], .int .i64 e]) w)) := by
  by_cases hb : isB n = true
  · have h := hb; unfold isB at h; simp at h
    exact ⟨_, _, _, _, _, _, _, fun w => time_yes n w h.1 h.2, fun w => timeOf_yes n w h.1 h.2⟩
  · have h : isB n = false := by simpa using hb
    exact ⟨_, _, _, _, _, _, _, fun w => time_no n w h, fun w => timeOf_no n w (by unfold NmB; rw [h]; rfl)⟩
theorem weekday_one (n : Int) : ∃ a e : Int, (∀ w, Calls Try.prog 42 #[.int .i64 n] w fun x w' => x = .returned (.tuple #[.int .i64 a, .int .i64 e]) ∧ w = w') ∧
    (∀ w, Calls Try.prog 46 #[.int .i64 n] w fun x w' => x = .returned (.tuple #[.int .i64 a, .int .i64 e]) ∧ w = w') := by
  by_cases hb : isB n = true
  · have h := hb; unfold isB at h; simp at h
    exact ⟨_, _, fun w => weekday_yes n w h.1 h.2, fun w => weekdayOf_yes n w h.1 h.2⟩
  · have h : isB n = false := by simpa using hb
    exact ⟨_, _, fun w => weekday_no n w h, fun w => weekdayOf_no n w (by unfold NmB; rw [h]; rfl)⟩
theorem add_one (n s : Int) (s1 : -9223372036854775808 ≤ s) (s2 : s ≤ 9223372036854775807) : ∃ a e : Int, (∀ w, Calls Try.prog 43 #[.int .i64 n, .int .i64 s] w fun x w' => x = .returned (.tuple #[.int .i64 a, .int .i64 e]) ∧ w = w') ∧
    (∀ w, Calls Try.prog 47 #[.int .i64 n, .int .i64 s] w fun x w' => x = .returned (.tuple #[.int .i64 a, .int .i64 e]) ∧ w = w') := by
  by_cases hb : isB n = true
  · exact ⟨_, _, fun w => add_yes n s w hb s1 s2, fun w => addOf_yes n s w (by unfold NmB; rw [hb]; rfl) s1 s2⟩
  · have h : isB n = false := by simpa using hb
    exact ⟨_, _, fun w => add_no n s w h, fun w => addOf_no n s w (by unfold NmB; rw [h]; rfl)⟩

set_option maxHeartbeats 2000000 in
theorem clockTells (y m d h mi s n x : Int) (x1 : -9223372036854775808 ≤ x) (x2 : x ≤ 9223372036854775807) (w : World) :
    Calls Try.prog 13 #[.agg #[.int .i64 y, .int .i64 m, .int .i64 d, .int .i64 h, .int .i64 mi, .int .i64 s], .int .i64 n, .int .i64 x] w (TPost (.bool true) w) := by
  obtain ⟨a, e, o1, o2⟩ := of_one y m d h mi s
  obtain ⟨ty, tm, td, th, tmi, ts, te, t1, t2⟩ := time_one n
  obtain ⟨wa, we, w1, w2⟩ := weekday_one n
  obtain ⟨aa, ae, a1, a2⟩ := add_one n x x1 x2
  have O1 := Lib.hid o1; have O2 := Lib.hid o2; have T1 := Lib.hid t1; have T2 := Lib.hid t2; have W1 := Lib.hid w1; have W2 := Lib.hid w2; have A1 := Lib.hid a1; have A2 := Lib.hid a2
  clear o1 o2 t1 t2 w1 w2 a1 a2
  go_enter Try.func13, Try.ntmps13
  go_wp2_with fail
  refine (O1.out _).mono ?_
  rintro e1 v1 ⟨rfl, hb1⟩
  obtain ⟨hc1, hf1⟩ := bcell hb1
  have z1 : w.heap.size < v1.heap.size := by have := hb1.size; simp at this; omega
  go_wp2_with fail
  refine (T1.out _).mono ?_
  rintro e1 v2 ⟨rfl, hb2⟩
  obtain ⟨hc2, hf2⟩ := bcell hb2
  have z2 : v1.heap.size ≤ v2.heap.size := hb2.size
  have y2 : w.heap.size < v2.heap.size := by omega
  go_wp2_with fail
  refine (W1.out _).mono ?_
  rintro e1 v3 ⟨rfl, rfl⟩
  go_wp2_with fail
  refine (A1.out _).mono ?_
  rintro e1 v3 ⟨rfl, rfl⟩
  go_wp2_with fail
  refine (O2.out _).mono ?_
  rintro e1 v3 ⟨rfl, hb3⟩
  obtain ⟨hc3, hf3⟩ := bcell hb3
  have z3 : v2.heap.size < v3.heap.size := by have := hb3.size; simp at this; omega
  have y3 : w.heap.size < v3.heap.size := by omega
  go_wp2_with fail
  refine (T2.out _).mono ?_
  rintro e1 v4 ⟨rfl, hb4⟩
  obtain ⟨hc4, hf4⟩ := bcell hb4
  have z4 : v3.heap.size ≤ v4.heap.size := hb4.size
  have y4 : w.heap.size < v4.heap.size := by omega
  have x4 : v2.heap.size < v4.heap.size := by omega
  go_wp2_with fail
  refine (W2.out _).mono ?_
  rintro e1 v5 ⟨rfl, rfl⟩
  go_wp2_with fail
  refine (A2.out _).mono ?_
  rintro e1 v5 ⟨rfl, rfl⟩
  go_wp2_with fail
  refine (begun_any _).mono ?_
  rintro e1 v5 ⟨rfl, hb5⟩
  obtain ⟨hc5, hf5⟩ := bcell hb5
  have z5 : v4.heap.size < v5.heap.size := by have := hb5.size; simp at this; omega
  have y5 : w.heap.size < v5.heap.size := by omega
  have x5 : v2.heap.size < v5.heap.size := by omega
  go_wp2_with fail
  go_ret
  refine ⟨rfl, ?_⟩
  have B1 := ((Below.refl w.heap.size w).alloc (Nat.le_refl _) (.cells #[.int .i64 y, .int .i64 m, .int .i64 d, .int .i64 h, .int .i64 mi, .int .i64 s] 54)).trans (hb1.mono (by simp))
  have B2 := (B1.trans (hb2.mono (by omega))).alloc (by omega) (.cells #[.int .i64 ty, .int .i64 tm, .int .i64 td, .int .i64 th, .int .i64 tmi, .int .i64 ts] 54)
  have B3 := B2.trans (hb3.mono (by simp; omega))
  have B4 := (B3.trans (hb4.mono (by omega))).alloc (by omega) (.cells #[.int .i64 ty, .int .i64 tm, .int .i64 td, .int .i64 th, .int .i64 tmi, .int .i64 ts] 54)
  exact B4.trans (hb5.mono (by simp; omega))

theorem after_mono (n a b : Int) (h1 : -11644473600 ≤ n) (h2 : n ≤ 253402300799) : -11644473600 ≤ afterF n a ∧ afterF n a ≤ 253402300799 ∧ (a ≤ b → afterF n a ≤ afterF n b) ∧ (afterF n a ≠ -11644473600 → afterF n a ≠ 253402300799 → afterF n a - n = a) := by
  unfold afterF; refine ⟨?_, ?_, ?_, ?_⟩ <;> omega
set_option maxHeartbeats 2000000 in
theorem clockAdds (n a b : Int) (a1 : -9223372036854775808 ≤ a) (a2 : a ≤ 9223372036854775807) (b1 : -9223372036854775808 ≤ b) (b2 : b ≤ 9223372036854775807) (w : World) :
    Calls Try.prog 16 #[.int .i64 n, .int .i64 a, .int .i64 b] w (TPost (.bool true) w) := by
  by_cases hb : isB n = true
  · have h := hb; unfold isB at h; simp at h
    obtain ⟨h1, h2⟩ := h
    obtain ⟨m1, m2, m3, m4⟩ := after_mono n a b h1 h2
    go_enter Try.func16, Try.ntmps16
    go_wp2_with fail
    refine (add_yes n a _ hb a1 a2).mono ?_
    rintro e v1 ⟨rfl, rfl⟩
    go_wp2_with fail
    refine (add_yes n b _ hb b1 b2).mono ?_
    rintro e v1 ⟨rfl, rfl⟩
    generalize afterF n a = x at *
    generalize afterF n b = y at *
    go_wp2_with fail
    refine (begun_any _).mono ?_
    rintro e v1 ⟨rfl, hb1⟩
    go_wp2_with fail
    all_goals go_ret
    all_goals refine ⟨?_, hb1⟩
    all_goals first | rfl | (refine ret_bool ?_; go_light; show _ = true; simp only [Bool.or_eq_true, Bool.and_eq_true, decide_eq_true_eq, beq_iff_eq]; omega)
  · have h : isB n = false := by simpa using hb
    go_enter Try.func16, Try.ntmps16
    go_wp2_with fail
    refine (add_no n a _ h).mono ?_
    rintro e v1 ⟨rfl, rfl⟩
    go_wp2_with fail
    refine (add_no n b _ h).mono ?_
    rintro e v1 ⟨rfl, rfl⟩
    go_wp2_with fail
    refine (begun_any _).mono ?_
    rintro e v1 ⟨rfl, hb1⟩
    go_wp2_with fail
    go_ret
    exact ⟨rfl, hb1⟩

theorem lp_400 (y : Int) : lp (y + 400) = lp y := by rw [show y + 400 = 400 * 1 + y from by omega, lp_era]
theorem lpn_400 (y : Int) : lpn (y + 400) = lpn y := by unfold lpn; rw [lp_400]
theorem mlen_400 (y m : Int) : mlen (y + 400) m = mlen y m := by unfold mlen; rw [lpn_400]
theorem mom_400 (y m d h mi s : Int) : mom (y + 400) m d h mi s = mom y m d h mi s + 12622780800 := by
  have : cum (y + 400) m = cum y m := by unfold cum; rw [lpn_400]
  have h2 : dby (y + 400) = dby y + 146097 := by unfold dby; omega
  unfold mom num; rw [this, h2]; omega
theorem right_400 {y m d h mi s : Int} (hr : right y m d h mi s) (hy : y ≤ 9599) : right (y + 400) m d h mi s := ⟨⟨by have := hr.1.1; omega, by omega, hr.1.2.2.1, by rw [mlen_400]; exact hr.1.2.2.2⟩, hr.2⟩
set_option maxHeartbeats 2000000 in
theorem clockCycle (y m d h mi s : Int) (w : World) :
    Calls Try.prog 15 #[.agg #[.int .i64 y, .int .i64 m, .int .i64 d, .int .i64 h, .int .i64 mi, .int .i64 s]] w (TPost (.bool true) w) := by
  by_cases hr : right y m d h mi s
  · by_cases hy : y ≤ 9599
    · have hm := mom_400 y m d h mi s
      have hr4 := right_400 hr hy
      have b1 := mom_bd hr
      have b2 := mom_bd hr4
      rw [hm] at b2
      have HM := Lib.hid hm; clear hm
      have hy0 : 1601 ≤ y := hr.1.1
      go_enter Try.func15, Try.ntmps15
      go_wp2_with fail
      refine (of_yes _ _ _ _ _ _ _ hr).mono ?_
      rintro e v1 ⟨rfl, hb1⟩
      obtain ⟨hc1, hf1⟩ := bcell hb1
      have z1 : w.heap.size < v1.heap.size := by have := hb1.size; simp at this; omega
      generalize mom y m d h mi s = M at b1 b2 HM ⊢
      have hw1 : (M + 12622780800) / 86400 = M / 86400 + 146097 := by omega
      have hw2 : (M + 86400) / 86400 = M / 86400 + 1 := by omega
      have HW1 := Lib.hid hw1; have HW2 := Lib.hid hw2; clear hw1 hw2
      go_wp2_with fail
      refine (begun_any _).mono ?_
      rintro e v2 ⟨rfl, hb2⟩
      obtain ⟨hc2, hf2⟩ := bcell hb2
      have z2 : v1.heap.size ≤ v2.heap.size := hb2.size
      have y2 : w.heap.size < v2.heap.size := by omega
      go_wp2_with fail
      refine (of_yes _ _ _ _ _ _ _ hr4).mono ?_
      rintro e v3 ⟨rfl, hb3⟩
      rw [HM.out]
      have z3 : v2.heap.size < v3.heap.size := by have := hb3.size; simp at this; omega
      go_wp2_with fail
      refine (weekday_yes M _ b1.1 b1.2).mono ?_
      rintro e v4 ⟨rfl, rfl⟩
      go_wp2_with fail
      refine (weekday_yes (M + 12622780800) _ b2.1 b2.2).mono ?_
      rintro e v4 ⟨rfl, rfl⟩
      rw [HW1.out]
      go_wp2_with fail
      refine (weekday_yes (M + 86400) _ (by omega) (by omega)).mono ?_
      rintro e v4 ⟨rfl, rfl⟩
      rw [HW2.out]
      have q1 : (M / 86400 + 146097 + 4) % 7 = (M / 86400 + 4) % 7 := by omega
      have q2 : (M / 86400 + 1 + 4) % 7 = ((M / 86400 + 4) % 7 + 1) % 7 := by omega
      rw [q1, q2]
      have q3 : 0 ≤ (M / 86400 + 4) % 7 ∧ (M / 86400 + 4) % 7 < 7 := by omega
      clear q1 q2
      generalize (M / 86400 + 4) % 7 = V at q3 ⊢
      go_wp2_with fail
      go_ret
      refine ⟨rfl, ?_⟩
      · have B1 := ((Below.refl w.heap.size w).alloc (Nat.le_refl _) (.cells #[.int .i64 y, .int .i64 m, .int .i64 d, .int .i64 h, .int .i64 mi, .int .i64 s] 54)).trans (hb1.mono (by simp))
        have B2 := (B1.trans (hb2.mono (by omega))).alloc (by omega) (.cells #[.int .i64 (y + 400), .int .i64 m, .int .i64 d, .int .i64 h, .int .i64 mi, .int .i64 s] 54)
        exact B2.trans (hb3.mono (by simp; omega))
    · go_enter Try.func15, Try.ntmps15
      go_wp2_with fail
      refine (of_yes _ _ _ _ _ _ _ hr).mono ?_
      rintro e v1 ⟨rfl, hb1⟩
      obtain ⟨hc1, hf1⟩ := bcell hb1
      have z1 : w.heap.size < v1.heap.size := by have := hb1.size; simp at this; omega
      generalize mom y m d h mi s = M
      go_wp2_with fail
      refine (begun_any _).mono ?_
      rintro e v2 ⟨rfl, hb2⟩
      obtain ⟨hc2, hf2⟩ := bcell hb2
      go_wp2_with fail
      go_ret
      exact ⟨rfl, (((Below.refl w.heap.size w).alloc (Nat.le_refl _) _).trans (hb1.mono (by simp))).trans (hb2.mono (by omega))⟩
  · go_enter Try.func15, Try.ntmps15
    go_wp2_with fail
    refine (of_no _ _ _ _ _ _ _ hr).mono ?_
    rintro e v1 ⟨rfl, hb1⟩
    have z1 : w.heap.size < v1.heap.size := by have := hb1.size; simp at this; omega
    go_wp2_with fail
    refine (begun_any _).mono ?_
    rintro e v2 ⟨rfl, hb2⟩
    go_wp2_with fail
    go_ret
    exact ⟨rfl, (((Below.refl w.heap.size w).alloc (Nat.le_refl _) _).trans (hb1.mono (by simp))).trans (hb2.mono (by omega))⟩

set_option maxHeartbeats 2000000 in
theorem clockBack (y m d h mi s n : Int) (w : World) :
    Calls Try.prog 14 #[.agg #[.int .i64 y, .int .i64 m, .int .i64 d, .int .i64 h, .int .i64 mi, .int .i64 s], .int .i64 n] w (TPost (.bool true) w) := by
  by_cases hr : right y m d h mi s <;> by_cases hb : isB n = true
  · have b1 := mom_bd hr
    have TM := Lib.hid (ref_one hr rfl)
    have h := hb
    unfold isB at h
    simp at h
    obtain ⟨h1, h2⟩ := h
    obtain ⟨ty, tm, td, th, tmi, ts, hn, he⟩ : ∃ ty tm td th tmi ts, right ty tm td th tmi ts ∧ mom ty tm td th tmi ts = n := ⟨_, _, _, _, _, _, ref_right n h1 h2⟩
    have TN := Lib.hid (ref_one hn he)
    have HE := Lib.hid he
    clear he hb
    go_enter Try.func14, Try.ntmps14
    go_wp2_with fail
    refine (of_yes _ _ _ _ _ _ _ hr).mono ?_
    rintro e v1 ⟨rfl, hb1⟩
    obtain ⟨hc1, hf1⟩ := bcell hb1
    have z1 : w.heap.size < v1.heap.size := by have := hb1.size; simp at this; omega
    generalize mom y m d h mi s = M at TM b1 ⊢
    go_wp2_with fail
    refine (time_yes n _ h1 h2).mono ?_
    rintro e v2 ⟨rfl, hb2⟩
    rw [TN.out]
    obtain ⟨hc2, hf2⟩ := bcell hb2
    have z2 : v1.heap.size ≤ v2.heap.size := hb2.size
    have y2 : w.heap.size < v2.heap.size := by omega
    go_wp2_with fail
    refine (begun_any _).mono ?_
    rintro e v3 ⟨rfl, hb3⟩
    obtain ⟨hc3, hf3⟩ := bcell hb3
    have z3 : v2.heap.size < v3.heap.size := by have := hb3.size; simp at this; omega
    have y3 : w.heap.size < v3.heap.size := by omega
    go_wp2_with fail
    refine (time_yes M _ b1.1 b1.2).mono ?_
    rintro e v4 ⟨rfl, hb4⟩
    rw [TM.out]
    obtain ⟨hc4, hf4⟩ := bcell hb4
    have z4 : v3.heap.size ≤ v4.heap.size := hb4.size
    have y4 : w.heap.size < v4.heap.size := by omega
    have x4 : v2.heap.size < v4.heap.size := by omega
    go_wp2_with fail
    refine (of_yes _ _ _ _ _ _ _ hn).mono ?_
    rintro e v5 ⟨rfl, hb5⟩
    rw [HE.out]
    go_wp2_with fail
    go_ret
    refine ⟨rfl, ?_⟩
    have B1 := ((Below.refl w.heap.size w).alloc (Nat.le_refl _) (.cells #[.int .i64 y, .int .i64 m, .int .i64 d, .int .i64 h, .int .i64 mi, .int .i64 s] 54)).trans (hb1.mono (by simp))
    have B2 := (B1.trans (hb2.mono (by omega))).alloc (by omega) (.cells #[.int .i64 ty, .int .i64 tm, .int .i64 td, .int .i64 th, .int .i64 tmi, .int .i64 ts] 54)
    have B3 := B2.trans (hb3.mono (by simp; omega))
    have B4 := (B3.trans (hb4.mono (by omega))).alloc (by omega) (.cells #[.int .i64 y, .int .i64 m, .int .i64 d, .int .i64 h, .int .i64 mi, .int .i64 s] 54)
    have B5 := B4.trans (hb5.mono (by simp; omega))
    exact B5
  · have b1 := mom_bd hr
    have TM := Lib.hid (ref_one hr rfl)
    have hb : isB n = false := by simpa using hb
    have hor : n < -11644473600 ∨ 253402300799 < n := by unfold isB at hb; simp at hb; omega
    rcases hor with hor | hor
    all_goals
      go_enter Try.func14, Try.ntmps14
      go_wp2_with fail
      refine (of_yes _ _ _ _ _ _ _ hr).mono ?_
      rintro e v1 ⟨rfl, hb1⟩
      obtain ⟨hc1, hf1⟩ := bcell hb1
      have z1 : w.heap.size < v1.heap.size := by have := hb1.size; simp at this; omega
      generalize mom y m d h mi s = M at TM b1 ⊢
      go_wp2_with fail
      refine (time_no n _ hb).mono ?_
      rintro e v2 ⟨rfl, hb2⟩
      unfold noT
      obtain ⟨hc2, hf2⟩ := bcell hb2
      have z2 : v1.heap.size ≤ v2.heap.size := hb2.size
      have y2 : w.heap.size < v2.heap.size := by omega
      go_wp2_with fail
      refine (begun_any _).mono ?_
      rintro e v3 ⟨rfl, hb3⟩
      obtain ⟨hc3, hf3⟩ := bcell hb3
      have z3 : v2.heap.size < v3.heap.size := by have := hb3.size; simp at this; omega
      have y3 : w.heap.size < v3.heap.size := by omega
      go_wp2_with fail
      refine (time_yes M _ b1.1 b1.2).mono ?_
      rintro e v4 ⟨rfl, hb4⟩
      rw [TM.out]
      obtain ⟨hc4, hf4⟩ := bcell hb4
      have z4 : v3.heap.size ≤ v4.heap.size := hb4.size
      have y4 : w.heap.size < v4.heap.size := by omega
      have x4 : v2.heap.size < v4.heap.size := by omega
      go_wp2_with fail
      go_ret
      refine ⟨rfl, ?_⟩
      have B1 := ((Below.refl w.heap.size w).alloc (Nat.le_refl _) (.cells #[.int .i64 y, .int .i64 m, .int .i64 d, .int .i64 h, .int .i64 mi, .int .i64 s] 54)).trans (hb1.mono (by simp))
      have B2 := (B1.trans (hb2.mono (by omega))).alloc (by omega) (.cells #[.int .i64 0, .int .i64 0, .int .i64 0, .int .i64 0, .int .i64 0, .int .i64 0] 54)
      have B3 := B2.trans (hb3.mono (by simp; omega))
      have B4 := (B3.trans (hb4.mono (by omega))).alloc (by omega) (.cells #[.int .i64 y, .int .i64 m, .int .i64 d, .int .i64 h, .int .i64 mi, .int .i64 s] 54)
      exact B4
  · have h := hb
    unfold isB at h
    simp at h
    obtain ⟨h1, h2⟩ := h
    obtain ⟨ty, tm, td, th, tmi, ts, hn, he⟩ : ∃ ty tm td th tmi ts, right ty tm td th tmi ts ∧ mom ty tm td th tmi ts = n := ⟨_, _, _, _, _, _, ref_right n h1 h2⟩
    have TN := Lib.hid (ref_one hn he)
    have HE := Lib.hid he
    clear he hb
    go_enter Try.func14, Try.ntmps14
    go_wp2_with fail
    refine (of_no _ _ _ _ _ _ _ hr).mono ?_
    rintro e v1 ⟨rfl, hb1⟩
    obtain ⟨hc1, hf1⟩ := bcell hb1
    have z1 : w.heap.size < v1.heap.size := by have := hb1.size; simp at this; omega
    go_wp2_with fail
    refine (time_yes n _ h1 h2).mono ?_
    rintro e v2 ⟨rfl, hb2⟩
    rw [TN.out]
    obtain ⟨hc2, hf2⟩ := bcell hb2
    have z2 : v1.heap.size ≤ v2.heap.size := hb2.size
    have y2 : w.heap.size < v2.heap.size := by omega
    go_wp2_with fail
    refine (begun_any _).mono ?_
    rintro e v3 ⟨rfl, hb3⟩
    obtain ⟨hc3, hf3⟩ := bcell hb3
    have z3 : v2.heap.size < v3.heap.size := by have := hb3.size; simp at this; omega
    have y3 : w.heap.size < v3.heap.size := by omega
    go_wp2_with fail
    refine (of_yes _ _ _ _ _ _ _ hn).mono ?_
    rintro e v5 ⟨rfl, hb5⟩
    rw [HE.out]
    go_wp2_with fail
    go_ret
    refine ⟨rfl, ?_⟩
    have B1 := ((Below.refl w.heap.size w).alloc (Nat.le_refl _) (.cells #[.int .i64 y, .int .i64 m, .int .i64 d, .int .i64 h, .int .i64 mi, .int .i64 s] 54)).trans (hb1.mono (by simp))
    have B2 := (B1.trans (hb2.mono (by omega))).alloc (by omega) (.cells #[.int .i64 ty, .int .i64 tm, .int .i64 td, .int .i64 th, .int .i64 tmi, .int .i64 ts] 54)
    have B3 := B2.trans (hb3.mono (by simp; omega))
    have B5 := B3.trans (hb5.mono (by omega))
    exact B5
  · have hb : isB n = false := by simpa using hb
    have hor : n < -11644473600 ∨ 253402300799 < n := by unfold isB at hb; simp at hb; omega
    rcases hor with hor | hor
    all_goals
      go_enter Try.func14, Try.ntmps14
      go_wp2_with fail
      refine (of_no _ _ _ _ _ _ _ hr).mono ?_
      rintro e v1 ⟨rfl, hb1⟩
      obtain ⟨hc1, hf1⟩ := bcell hb1
      have z1 : w.heap.size < v1.heap.size := by have := hb1.size; simp at this; omega
      go_wp2_with fail
      refine (time_no n _ hb).mono ?_
      rintro e v2 ⟨rfl, hb2⟩
      unfold noT
      obtain ⟨hc2, hf2⟩ := bcell hb2
      have z2 : v1.heap.size ≤ v2.heap.size := hb2.size
      have y2 : w.heap.size < v2.heap.size := by omega
      go_wp2_with fail
      refine (begun_any _).mono ?_
      rintro e v3 ⟨rfl, hb3⟩
      obtain ⟨hc3, hf3⟩ := bcell hb3
      have z3 : v2.heap.size < v3.heap.size := by have := hb3.size; simp at this; omega
      have y3 : w.heap.size < v3.heap.size := by omega
      go_wp2_with fail
      go_ret
      refine ⟨rfl, ?_⟩
      have B1 := ((Below.refl w.heap.size w).alloc (Nat.le_refl _) (.cells #[.int .i64 y, .int .i64 m, .int .i64 d, .int .i64 h, .int .i64 mi, .int .i64 s] 54)).trans (hb1.mono (by simp))
      have B2 := (B1.trans (hb2.mono (by omega))).alloc (by omega) (.cells #[.int .i64 0, .int .i64 0, .int .i64 0, .int .i64 0, .int .i64 0, .int .i64 0] 54)
      have B3 := B2.trans (hb3.mono (by simp; omega))
      exact B3
end Go.Proofs.Ytmcihmcgkhijcaa.ClockL
