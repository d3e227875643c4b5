/- Days, months and moments in plain integers: what package clock reckons, what the references reckon, and that these are one. -/
namespace Go.Proofs.Ytaojlikkaajpmaa.ClockP

def lp (y : Int) : Bool := (y % 4 == 0 && y % 100 != 0) || y % 400 == 0
def lpn (y : Int) : Int := if lp y then 1 else 0
/-- The days of a month; 0: there is none. -/
def mlen (y m : Int) : Int :=
  if m = 2 then 28 + lpn y else if m = 4 ∨ m = 6 ∨ m = 9 ∨ m = 11 then 30 else if m = 1 ∨ m = 3 ∨ m = 5 ∨ m = 7 ∨ m = 8 ∨ m = 10 ∨ m = 12 then 31 else 0
/-- The days from 1970 to a year. -/
def dby (y : Int) : Int := 365 * (y - 1) + (y - 1) / 4 - (y - 1) / 100 + (y - 1) / 400 - 719162
/-- The days of a year ahead of a month. -/
def cum (y m : Int) : Int :=
  if m ≤ 1 then 0 else if m = 2 then 31 else (if m = 3 then 59 else if m = 4 then 90 else if m = 5 then 120 else if m = 6 then 151 else if m = 7 then 181 else if m = 8 then 212 else if m = 9 then 243 else if m = 10 then 273 else if m = 11 then 304 else if m = 12 then 334 else 365) + lpn y
theorem lpn_bd (y : Int) : 0 ≤ lpn y ∧ lpn y ≤ 1 := by unfold lpn; split <;> omega
theorem lpn_eq (y : Int) : lpn y = y / 4 - (y - 1) / 4 - (y / 100 - (y - 1) / 100) + (y / 400 - (y - 1) / 400) := by
  unfold lpn lp
  by_cases a : y % 4 = 0 <;> by_cases b : y % 100 = 0 <;> by_cases c : y % 400 = 0 <;> simp [a, b, c] <;> omega
theorem dby_succ (y : Int) : dby (y + 1) = dby y + 365 + lpn y := by
  rw [lpn_eq]; unfold dby; omega
theorem mlen_bd (y m : Int) : 0 ≤ mlen y m ∧ mlen y m ≤ 31 := by
  have := lpn_bd y; unfold mlen; repeat' split
  all_goals omega
theorem mlen_pos (y m : Int) (h : 1 ≤ m) (h2 : m ≤ 12) : 28 ≤ mlen y m := by
  have := lpn_bd y; unfold mlen; repeat' split
  all_goals omega
theorem mlen_none (y m : Int) (h : m < 1 ∨ 12 < m) : mlen y m = 0 := by
  unfold mlen; repeat' split
  all_goals omega
theorem cum_succ (y m : Int) (h : 1 ≤ m) (h2 : m ≤ 12) : cum y (m + 1) = cum y m + mlen y m := by
  have : m = 1 ∨ m = 2 ∨ m = 3 ∨ m = 4 ∨ m = 5 ∨ m = 6 ∨ m = 7 ∨ m = 8 ∨ m = 9 ∨ m = 10 ∨ m = 11 ∨ m = 12 := by omega
  rcases this with h | h | h | h | h | h | h | h | h | h | h | h <;> subst h <;> simp [cum, mlen] <;> omega
theorem cum_mono (y m k : Int) (h : 1 ≤ m) (hk : k ≤ 13) (hmk : m ≤ k) : cum y m ≤ cum y k := by
  obtain ⟨n, rfl⟩ : ∃ n : Nat, k = m + n := ⟨(k - m).toNat, by omega⟩
  clear hmk
  induction n with
  | zero => simp
  | succ n ih =>
    have h1 := ih (by omega)
    have h2 := cum_succ y (m + n) (by omega) (by omega)
    have h3 := mlen_bd y (m + n)
    rw [show m + ((n + 1 : Nat) : Int) = m + n + 1 from by omega]
    omega
theorem cum_13 (y : Int) : cum y 13 = 365 + lpn y := by simp [cum]
theorem cum_1 (y m : Int) (h : m ≤ 1) : cum y m = 0 := if_pos h
theorem cum_bd (y m : Int) (h2 : m ≤ 13) : 0 ≤ cum y m ∧ cum y m ≤ 366 := by
  have h := lpn_bd y
  by_cases h1 : m ≤ 1
  · rw [cum_1 y m h1]; omega
  · have a := cum_mono y 1 m (by omega) h2 (by omega)
    have b := cum_mono y m 13 (by omega) (by omega) h2
    rw [cum_1 y 1 (by omega)] at a
    rw [cum_13] at b
    omega
/-- The day of a date. -/
def num (y m d : Int) : Int := dby y + cum y m + d - 1
def vld (y m d : Int) : Prop := 1601 ≤ y ∧ y ≤ 9999 ∧ 1 ≤ d ∧ d ≤ mlen y m
instance (y m d : Int) : Decidable (vld y m d) := by unfold vld; infer_instance
theorem vld_m {y m d : Int} (h : vld y m d) : 1 ≤ m ∧ m ≤ 12 := by
  obtain ⟨_, _, h3, h4⟩ := h
  refine ⟨Int.not_lt.1 fun hh => ?_, Int.not_lt.1 fun hh => ?_⟩ <;> rw [mlen_none _ _ (by omega)] at h4 <;> omega
theorem dby_mono (a b : Int) (h : a ≤ b) : dby a ≤ dby b := by unfold dby; omega
theorem num_lt {y m d : Int} (h : vld y m d) : dby y ≤ num y m d ∧ num y m d < dby (y + 1) := by
  have hm := vld_m h
  obtain ⟨_, _, h3, h4⟩ := h
  have c0 := cum_bd y m (by omega)
  have c1 := cum_succ y m hm.1 hm.2
  have c2 := cum_mono y (m + 1) 13 (by omega) (by omega) (by omega)
  have c3 : cum y 13 = 365 + lpn y := by simp [cum]
  rw [dby_succ]; unfold num; omega
theorem num_inj {y m d y' m' d' : Int} (h : vld y m d) (h' : vld y' m' d') (e : num y m d = num y' m' d') : y = y' ∧ m = m' ∧ d = d' := by
  have n := num_lt h
  have n' := num_lt h'
  have hy : y = y' := by
    have a := dby_mono (y + 1) y'
    have b := dby_mono (y' + 1) y
    omega
  subst hy
  have hm := vld_m h
  have hm' := vld_m h'
  have c := cum_succ y m hm.1 hm.2
  have c' := cum_succ y m' hm'.1 hm'.2
  have a := cum_mono y (m + 1) m' (by omega) (by omega)
  have b := cum_mono y (m' + 1) m (by omega) (by omega)
  obtain ⟨_, _, h3, h4⟩ := h
  obtain ⟨_, _, h3', h4'⟩ := h'
  unfold num at e
  have : m = m' := by omega
  subst this
  omega
/-! The reference's reckoning, by eras. -/
def dayNo (y m d : Int) : Int :=
  let m' := if m - 3 < 0 then m - 3 + 12 else m - 3
  let y' := if m - 3 < 0 then y - 1 else y
  y' / 400 * 146097 + y' % 400 * 365 + y' % 400 / 4 - y' % 400 / 100 + (153 * m' + 2) / 5 + d - 1 - 719468
theorem era_sum (y : Int) : y / 400 * 146097 + y % 400 * 365 + y % 400 / 4 - y % 400 / 100 = 365 * y + y / 4 - y / 100 + y / 400 := by omega
theorem dayNo_num (y m d : Int) (h : 1 ≤ m) (h2 : m ≤ 12) : dayNo y m d = num y m d := by
  have e := era_sum y
  have e1 := era_sum (y - 1)
  have l := lpn_eq y
  have : m = 1 ∨ m = 2 ∨ m = 3 ∨ m = 4 ∨ m = 5 ∨ m = 6 ∨ m = 7 ∨ m = 8 ∨ m = 9 ∨ m = 10 ∨ m = 11 ∨ m = 12 := by omega
  rcases this with h | h | h | h | h | h | h | h | h | h | h | h <;> subst h <;> simp only [dayNo, num, cum, dby] <;> simp <;> omega

/-- A moment of a time that is one. -/
def mom (y m d h mi s : Int) : Int := num y m d * 86400 + h * 3600 + mi * 60 + s
def right (y m d h mi s : Int) : Prop := vld y m d ∧ 0 ≤ h ∧ h ≤ 23 ∧ 0 ≤ mi ∧ mi ≤ 59 ∧ 0 ≤ s ∧ s ≤ 59
theorem mom_inj {y m d h mi s y' m' d' h' mi' s' : Int} (a : right y m d h mi s) (b : right y' m' d' h' mi' s') (e : mom y m d h mi s = mom y' m' d' h' mi' s') :
    y = y' ∧ m = m' ∧ d = d' ∧ h = h' ∧ mi = mi' ∧ s = s' := by
  obtain ⟨v, a1, a2, a3, a4, a5, a6⟩ := a
  obtain ⟨v', b1, b2, b3, b4, b5, b6⟩ := b
  unfold mom at e
  have en : num y m d = num y' m' d' := by omega
  obtain ⟨rfl, rfl, rfl⟩ := num_inj v v' en
  omega
theorem dby_first : dby 1601 = -134774 := by decide
theorem dby_last : dby 10000 = 2932897 := by decide
theorem mom_bd {y m d h mi s : Int} (a : right y m d h mi s) : -11644473600 ≤ mom y m d h mi s ∧ mom y m d h mi s ≤ 253402300799 := by
  obtain ⟨v, a1, a2, a3, a4, a5, a6⟩ := a
  have n := num_lt v
  have m1 := dby_mono 1601 y v.1
  have m2 := dby_mono (y + 1) 10000 (by have := v.2.1; omega)
  rw [dby_first] at m1
  rw [dby_last] at m2
  unfold mom
  omega

/-! The reference's way back, by eras. -/
def eraOf (n : Int) : Int := ((n + 11644473600) / 86400 - 134774 + 719468) / 146097
def inOf (n : Int) : Int := ((n + 11644473600) / 86400 - 134774 + 719468) % 146097
def yOf (i : Int) : Int := (i - i / 1460 + i / 36524 - i / 146096) / 365
def kOf (i : Int) : Int := i - (365 * yOf i + yOf i / 4 - yOf i / 100)
def mOf (i : Int) : Int := (5 * kOf i + 2) / 153
def dOf (i : Int) : Int := kOf i - (153 * mOf i + 2) / 5 + 1
/-- A day of an era in centuries, fours of years, and days. -/
theorem split_in (i : Int) (h : 0 ≤ i) (h2 : i < 146097) : ∃ c q r j : Int, i = 36524 * c + 1461 * q + r ∧ 0 ≤ c ∧ c ≤ 3 ∧ 0 ≤ q ∧ q ≤ 24 ∧ 0 ≤ r ∧ r ≤ 1460 ∧ (q = 24 → r = 1460 → c = 3) ∧
    0 ≤ j ∧ j ≤ 3 ∧ 365 * j ≤ r ∧ (r < 365 * j + 365 ∨ (r = 1460 ∧ j = 3)) := by
  by_cases hl : i = 146096
  · exact ⟨3, 24, 1460, 3, by omega, by omega, by omega, by omega, by omega, by omega, by omega, by omega, by omega, by omega, by omega, by omega⟩
  · by_cases hr : (i % 36524) % 1461 = 1460
    · exact ⟨i / 36524, (i % 36524) / 1461, (i % 36524) % 1461, 3, by omega, by omega, by omega, by omega, by omega, by omega, by omega, by omega, by omega, by omega, by omega, by omega⟩
    · exact ⟨i / 36524, (i % 36524) / 1461, (i % 36524) % 1461, (i % 36524) % 1461 / 365, by omega, by omega, by omega, by omega, by omega, by omega, by omega, by omega, by omega, by omega, by omega, by omega⟩
theorem y_form (c q r j : Int) (c0 : 0 ≤ c) (c3 : c ≤ 3) (q0 : 0 ≤ q) (q24 : q ≤ 24) (r0 : 0 ≤ r) (r1460 : r ≤ 1460) (hl : q = 24 → r = 1460 → c = 3)
    (j0 : 0 ≤ j) (j3 : j ≤ 3) (hj : 365 * j ≤ r) (hj2 : r < 365 * j + 365 ∨ (r = 1460 ∧ j = 3)) : yOf (36524 * c + 1461 * q + r) = 100 * c + 4 * q + j := by
  have e1 : (36524 * c + 1461 * q + r) / 1460 = 25 * c + q + (if 1460 ≤ 24 * c + q + r then 1 else 0) := by split <;> omega
  by_cases hx : c = 3 ∧ q = 24 ∧ r = 1460
  · obtain ⟨rfl, rfl, rfl⟩ := hx
    have : j = 3 := by omega
    subst this; decide
  · have e2 : (36524 * c + 1461 * q + r) / 36524 = c := by omega
    have e3 : (36524 * c + 1461 * q + r) / 146096 = 0 := by omega
    unfold yOf
    rw [e1, e2, e3]
    split <;> omega
theorem k_form (c q r j : Int) (c0 : 0 ≤ c) (c3 : c ≤ 3) (q0 : 0 ≤ q) (q24 : q ≤ 24) (r0 : 0 ≤ r) (r1460 : r ≤ 1460) (hl : q = 24 → r = 1460 → c = 3)
    (j0 : 0 ≤ j) (j3 : j ≤ 3) (hj : 365 * j ≤ r) (hj2 : r < 365 * j + 365 ∨ (r = 1460 ∧ j = 3)) : kOf (36524 * c + 1461 * q + r) = r - 365 * j := by
  unfold kOf
  rw [y_form c q r j c0 c3 q0 q24 r0 r1460 hl j0 j3 hj hj2]
  omega
/-- What is known of a day of an era. -/
theorem era_day (i : Int) (h : 0 ≤ i) (h2 : i < 146097) : 0 ≤ yOf i ∧ yOf i ≤ 399 ∧ 0 ≤ kOf i ∧ kOf i ≤ 365 ∧ (kOf i = 365 → lp (yOf i + 1) = true) := by
  obtain ⟨c, q, r, j, rfl, c0, c3, q0, q24, r0, r1460, hl, j0, j3, hj, hj2⟩ := split_in i h h2
  rw [y_form c q r j c0 c3 q0 q24 r0 r1460 hl j0 j3 hj hj2, k_form c q r j c0 c3 q0 q24 r0 r1460 hl j0 j3 hj hj2]
  refine ⟨by omega, by omega, by omega, by omega, fun hk => ?_⟩
  have h3 : r = 1460 ∧ j = 3 := by omega
  obtain ⟨rfl, rfl⟩ := h3
  unfold lp
  by_cases h24 : q = 24
  · have := hl h24 rfl
    subst this; subst h24; decide
  · have a : (100 * c + 4 * q + 3 + 1) % 4 = 0 := by omega
    have b : (100 * c + 4 * q + 3 + 1) % 100 ≠ 0 := by omega
    simp [a, b]
theorem lp_era (e y : Int) : lp (400 * e + y) = lp y := by
  unfold lp
  rw [show (400 * e + y) % 4 = y % 4 from by omega, show (400 * e + y) % 100 = y % 100 from by omega, show (400 * e + y) % 400 = y % 400 from by omega]
def yE (e y m : Int) : Int := if 12 < m + 3 then e * 400 + y + 1 else e * 400 + y
def mE (m : Int) : Int := if 12 < m + 3 then m + 3 - 12 else m + 3
theorem date_calc (e y k m : Int) (y0 : 0 ≤ y) (y1 : y ≤ 399) (k0 : 0 ≤ k) (k1 : k ≤ 365) (hmo : m = (5 * k + 2) / 153) (hl : k = 365 → lpn (e * 400 + y + 1) = 1) :
    num (yE e y m) (mE m) (k - (153 * m + 2) / 5 + 1) = e * 146097 + (365 * y + y / 4 - y / 100) + k - 719468 ∧ 1 ≤ mE m ∧ mE m ≤ 12 ∧ 1 ≤ k - (153 * m + 2) / 5 + 1 ∧ k - (153 * m + 2) / 5 + 1 ≤ mlen (yE e y m) (mE m) := by
  have e0 := lpn_eq (e * 400 + y)
  have b1 := lpn_bd (e * 400 + y + 1)
  have : m = 0 ∨ m = 1 ∨ m = 2 ∨ m = 3 ∨ m = 4 ∨ m = 5 ∨ m = 6 ∨ m = 7 ∨ m = 8 ∨ m = 9 ∨ m = 10 ∨ m = 11 := by omega
  rcases this with h | h | h | h | h | h | h | h | h | h | h | h <;> subst h <;> simp [yE, mE, num, cum, mlen, dby] <;> omega
/-- The reference's time of a moment. -/
def refY (n : Int) : Int := yE (eraOf n) (yOf (inOf n)) (mOf (inOf n))
def refM (n : Int) : Int := mE (mOf (inOf n))
theorem ref_right (n : Int) (h : -11644473600 ≤ n) (h2 : n ≤ 253402300799) :
    right (refY n) (refM n) (dOf (inOf n)) ((n + 11644473600) % 86400 / 3600) ((n + 11644473600) % 86400 % 3600 / 60) ((n + 11644473600) % 86400 % 60) ∧
    mom (refY n) (refM n) (dOf (inOf n)) ((n + 11644473600) % 86400 / 3600) ((n + 11644473600) % 86400 % 3600 / 60) ((n + 11644473600) % 86400 % 60) = n := by
  have i0 : 0 ≤ inOf n := by unfold inOf; omega
  have i1 : inOf n < 146097 := by unfold inOf; omega
  obtain ⟨y0, y1, k0, k1, kl⟩ := era_day _ i0 i1
  have hl : kOf (inOf n) = 365 → lpn (eraOf n * 400 + yOf (inOf n) + 1) = 1 := fun hh => by
    unfold lpn; rw [show eraOf n * 400 + yOf (inOf n) + 1 = 400 * eraOf n + (yOf (inOf n) + 1) from by omega, lp_era, kl hh]; rfl
  obtain ⟨hn, m1, m2, d1, d2⟩ := date_calc (eraOf n) (yOf (inOf n)) (kOf (inOf n)) (mOf (inOf n)) y0 y1 k0 k1 rfl hl
  have hn' : num (refY n) (refM n) (dOf (inOf n)) = (n + 11644473600) / 86400 - 134774 := by
    have hk : inOf n - kOf (inOf n) = 365 * yOf (inOf n) + yOf (inOf n) / 4 - yOf (inOf n) / 100 := by unfold kOf; omega
    have hD : eraOf n * 146097 + inOf n = (n + 11644473600) / 86400 - 134774 + 719468 := by unfold eraOf inOf; omega
    show num (yE _ _ _) (mE _) (dOf _) = _
    unfold dOf; rw [hn]; omega
  have hb : 1601 ≤ refY n ∧ refY n ≤ 9999 := by
    have c0 := cum_bd (refY n) (refM n) (by show mE _ ≤ 13; omega)
    have c1 := cum_succ (refY n) (refM n) m1 m2
    have c2 := cum_mono (refY n) (refM n + 1) 13 (by show 1 ≤ mE _ + 1; omega) (by omega) (by show mE _ + 1 ≤ 13; omega)
    rw [cum_13] at c2
    have c3 := dby_succ (refY n)
    have d1' : 1 ≤ dOf (inOf n) := d1
    have d2' : dOf (inOf n) ≤ mlen (refY n) (refM n) := d2
    unfold num at hn'
    refine ⟨Int.not_lt.1 fun hh => ?_, Int.not_lt.1 fun hh => ?_⟩
    · have := dby_mono (refY n + 1) 1601 (by omega); rw [dby_first] at this; omega
    · have := dby_mono 10000 (refY n) (by omega); rw [dby_last] at this; omega
  refine ⟨⟨⟨hb.1, hb.2, d1, d2⟩, by omega, by omega, by omega, by omega, by omega, by omega⟩, ?_⟩
  unfold mom; rw [hn']; omega
end Go.Proofs.Ytaojlikkaajpmaa.ClockP
