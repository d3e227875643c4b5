/- Times and moments: the contracts over named trees. -/
import Derived.Test.YtaojlikkaajpmaaWk
import Derived.Test.YtaojlikkaajpmaaClockI
import Derived.Test.YtaojlikkaajpmaaClockM
import Derived.Test.YtaojlikkaajpmaaAbsZ
import Derived.Test.YtaojlikkaajpmaaTreeW
namespace Go.Proofs.Ytaojlikkaajpmaa.ClockV
open Go.RowKit Mem Abs TreeW ClockP ClockW ClockO ClockR ClockM ClockT ClockI

abbrev timeT (y m d h mi s : Int) : Abs.V := .agg [.int .i64 y, .int .i64 m, .int .i64 d, .int .i64 h, .int .i64 mi, .int .i64 s]
open Classical in
noncomputable def ofF (y m d h mi s : Int) : Int × Int := if right y m d h mi s then (mom y m d h mi s, 0) else (0, 3)
theorem ofF_yes {y m d h mi s : Int} (hr : right y m d h mi s) : ofF y m d h mi s = (mom y m d h mi s, 0) := if_pos hr
theorem ofF_no {y m d h mi s : Int} (hr : ¬ right y m d h mi s) : ofF y m d h mi s = (0, 3) := if_neg hr
theorem fz_time {X : Nat → Prop} {w : World} {y m d h mi s : Int} {x : Value} (hx : Fz X w (timeT y m d h mi s) x) : x = .agg #[.int .i64 y, .int .i64 m, .int .i64 d, .int .i64 h, .int .i64 mi, .int .i64 s] := by
  obtain ⟨cs, rfl, hl, hc⟩ := fz_agg hx
  obtain ⟨cs⟩ := cs
  match cs, hl with
  | [c0, c1, c2, c3, c4, c5], _ =>
    obtain ⟨rfl, _⟩ := fz_int (hc 0 _ c0 rfl rfl)
    obtain ⟨rfl, _⟩ := fz_int (hc 1 _ c1 rfl rfl)
    obtain ⟨rfl, _⟩ := fz_int (hc 2 _ c2 rfl rfl)
    obtain ⟨rfl, _⟩ := fz_int (hc 3 _ c3 rfl rfl)
    obtain ⟨rfl, _⟩ := fz_int (hc 4 _ c4 rfl rfl)
    obtain ⟨rfl, _⟩ := fz_int (hc 5 _ c5 rfl rfl)
    rfl
theorem fz_two {X : Nat → Prop} {w : World} {a b : Int} (ha : InR .i64 a) (hb : InR .i64 b) : Fz X w (.tup [.int .i64 a, .int .i64 b]) (.tuple #[.int .i64 a, .int .i64 b]) := by
  refine .tup rfl fun i x c hx hc => ?_
  rcases i with _ | _ | i
  · simp at hx hc; subst hx hc; exact .int ha
  · simp at hx hc; subst hx hc; exact .int hb
  · simp at hx
theorem ofF_in (y m d h mi s : Int) : InR .i64 (ofF y m d h mi s).1 ∧ InR .i64 (ofF y m d h mi s).2 := by
  by_cases hr : right y m d h mi s
  · rw [ofF_yes hr]
    have := mom_bd hr
    exact ⟨⟨by simp only [rng]; omega, by simp only [rng]; omega⟩, inR_zero _⟩
  · rw [ofF_no hr]
    exact ⟨inR_zero _, ⟨by decide, by decide⟩⟩
theorem of_post {f : FuncId} {y m d h mi s : Int} (hc : ∀ w, Calls Try.prog f #[.agg #[.int .i64 y, .int .i64 m, .int .i64 d, .int .i64 h, .int .i64 mi, .int .i64 s]] w (OfPost y m d h mi s w)) : ACalls Try.prog f [timeT y m d h mi s] (.tup [.int .i64 (ofF y m d h mi s).1, .int .i64 (ofF y m d h mi s).2]) := fun g N w vs hG hN hlen hv => by
  obtain ⟨vs⟩ := vs
  match vs, hlen with
  | [x0], _ =>
    have := fz_time (hv 0 _ x0 rfl rfl)
    subst this
    obtain ⟨r1, r2⟩ := ofF_in y m d h mi s
    refine (hc w).mono fun e w' ⟨v, he, ha, hb⟩ => ⟨v, he, hb, ?_⟩
    rcases ha with ⟨hr, rfl⟩ | ⟨hr, rfl⟩
    · rw [ofF_yes hr] at r1 r2 ⊢; exact fz_two r1 r2
    · rw [ofF_no hr] at r1 r2 ⊢; exact fz_two r1 r2
theorem of_v {y m d h mi s : Int} : ACalls Try.prog 25 [timeT y m d h mi s] (.tup [.int .i64 (ofF y m d h mi s).1, .int .i64 (ofF y m d h mi s).2]) := of_post fun w => of_any y m d h mi s w
theorem momentOf_v {y m d h mi s : Int} : ACalls Try.prog 33 [timeT y m d h mi s] (.tup [.int .i64 (ofF y m d h mi s).1, .int .i64 (ofF y m d h mi s).2]) := of_post fun w => momentOf_any y m d h mi s w
/-- A moment's time. -/
structure TM where
  y : Int
  m : Int
  d : Int
  h : Int
  mi : Int
  s : Int
def tmF (n : Int) : TM := if isB n then ⟨refY n, refM n, dOf (inOf n), (n + 11644473600) % 86400 / 3600, (n + 11644473600) % 86400 % 3600 / 60, (n + 11644473600) % 86400 % 60⟩ else ⟨0, 0, 0, 0, 0, 0⟩
def teF (n : Int) : Int := if isB n then 0 else 3
abbrev TM.v (t : TM) : Abs.V := timeT t.y t.m t.d t.h t.mi t.s
theorem isB_iff {n : Int} : isB n = true ↔ -11644473600 ≤ n ∧ n ≤ 253402300799 := by unfold isB; simp
theorem tm_right {n : Int} (h : isB n = true) : right (tmF n).y (tmF n).m (tmF n).d (tmF n).h (tmF n).mi (tmF n).s ∧ mom (tmF n).y (tmF n).m (tmF n).d (tmF n).h (tmF n).mi (tmF n).s = n := by
  have hb := isB_iff.1 h
  unfold tmF
  rw [if_pos h]
  exact ref_right n hb.1 hb.2
theorem tm_bd {n : Int} : (0 ≤ (tmF n).y ∧ (tmF n).y ≤ 9999) ∧ (0 ≤ (tmF n).m ∧ (tmF n).m ≤ 12) ∧ (0 ≤ (tmF n).d ∧ (tmF n).d ≤ 31) ∧ (0 ≤ (tmF n).h ∧ (tmF n).h ≤ 23) ∧ (0 ≤ (tmF n).mi ∧ (tmF n).mi ≤ 59) ∧ (0 ≤ (tmF n).s ∧ (tmF n).s ≤ 59) := by
  cases h : isB n with
  | false => unfold tmF; rw [h]; simp
  | true =>
    obtain ⟨⟨⟨h1, h2, h3, h4⟩, h5, h6, h7, h8, h9, h10⟩, _⟩ := tm_right h
    have hm := vld_m ⟨h1, h2, h3, h4⟩
    have hl : mlen (tmF n).y (tmF n).m ≤ 31 := by
      unfold mlen lpn
      repeat' split
      all_goals omega
    omega
theorem te_in (n : Int) : InR .i64 (teF n) := by unfold teF; split <;> exact ⟨by decide, by decide⟩
theorem fz_timeR {X : Nat → Prop} {w : World} {n e : Int} (he : InR .i64 e) : Fz X w (.tup [(tmF n).v, .int .i64 e]) (.tuple #[.agg #[.int .i64 (tmF n).y, .int .i64 (tmF n).m, .int .i64 (tmF n).d, .int .i64 (tmF n).h, .int .i64 (tmF n).mi, .int .i64 (tmF n).s], .int .i64 e]) := by
  obtain ⟨b1, b2, b3, b4, b5, b6⟩ := tm_bd (n := n)
  refine .tup rfl fun i x c hx hc => ?_
  rcases i with _ | _ | i
  · simp at hx hc; subst hx hc
    refine .agg rfl (fun v hv => ?_) fun j x c hx hc => ?_
    · simp only [List.mem_cons, List.not_mem_nil, or_false] at hv
      rcases hv with rfl | rfl | rfl | rfl | rfl | rfl <;> rfl
    · rcases j with _ | _ | _ | _ | _ | _ | j
      · simp at hx hc; subst hx hc; exact .int ⟨by simp only [rng]; omega, by simp only [rng]; omega⟩
      · simp at hx hc; subst hx hc; exact .int ⟨by simp only [rng]; omega, by simp only [rng]; omega⟩
      · simp at hx hc; subst hx hc; exact .int ⟨by simp only [rng]; omega, by simp only [rng]; omega⟩
      · simp at hx hc; subst hx hc; exact .int ⟨by simp only [rng]; omega, by simp only [rng]; omega⟩
      · simp at hx hc; subst hx hc; exact .int ⟨by simp only [rng]; omega, by simp only [rng]; omega⟩
      · simp at hx hc; subst hx hc; exact .int ⟨by simp only [rng]; omega, by simp only [rng]; omega⟩
      · simp at hx
  · simp at hx hc; subst hx hc; exact .int he
  · simp at hx
theorem time_post {f : FuncId} {n : Int} (h1 : isB n = true → ∀ w, Calls Try.prog f #[.int .i64 n] w (TPost (refT n) w)) (h2 : isB n = false → ∀ w, Calls Try.prog f #[.int .i64 n] w (TPost noT w)) : ACalls Try.prog f [.int .i64 n] (.tup [(tmF n).v, .int .i64 (teF n)]) := fun g N w vs hG hN hlen hv => by
  obtain ⟨vs⟩ := vs
  match vs, hlen with
  | [x0], _ =>
    obtain ⟨rfl, _⟩ := fz_int (hv 0 _ x0 rfl rfl)
    have hz := fun w' => fz_timeR (X := N) (w := w') (n := n) (te_in n)
    cases hb : isB n with
    | true =>
      refine (h1 hb w).mono fun e w' ⟨he, hbel⟩ => ⟨_, he, hbel, ?_⟩
      have := hz w'
      unfold tmF teF at this ⊢
      rw [hb] at this ⊢
      exact this
    | false =>
      refine (h2 hb w).mono fun e w' ⟨he, hbel⟩ => ⟨_, he, hbel, ?_⟩
      have := hz w'
      unfold tmF teF at this ⊢
      rw [hb] at this ⊢
      exact this
theorem time_v {n : Int} : ACalls Try.prog 26 [.int .i64 n] (.tup [(tmF n).v, .int .i64 (teF n)]) :=
  time_post (fun h w => time_yes n w (isB_iff.1 h).1 (isB_iff.1 h).2) fun h w => time_no n w h
theorem timeOf_v {n : Int} : ACalls Try.prog 34 [.int .i64 n] (.tup [(tmF n).v, .int .i64 (teF n)]) :=
  time_post (fun h w => timeOf_yes n w (isB_iff.1 h).1 (isB_iff.1 h).2) fun h w => timeOf_no n w (by unfold NmB; rw [h]; rfl)
/-- A moment's weekday. -/
def wdF (n : Int) : Int := if isB n then (n / 86400 + 4) % 7 else 0
theorem wd_bd (n : Int) : 0 ≤ wdF n ∧ wdF n ≤ 6 := by unfold wdF; split <;> omega
theorem weekday_v {n : Int} : ACalls Try.prog 27 [.int .i64 n] (.tup [.int .i64 (wdF n), .int .i64 (teF n)]) := fun g N w vs hG hN hlen hv => by
  obtain ⟨vs⟩ := vs
  match vs, hlen with
  | [x0], _ =>
    obtain ⟨rfl, _⟩ := fz_int (hv 0 _ x0 rfl rfl)
    have hw := wd_bd n
    have hz := fun w' => fz_two (X := N) (w := w') (a := wdF n) (b := teF n) ⟨by simp only [rng]; omega, by simp only [rng]; omega⟩ (te_in n)
    cases hb : isB n with
    | true =>
      refine (weekday_yes n w (isB_iff.1 hb).1 (isB_iff.1 hb).2).mono fun e w' ⟨he, hbel⟩ => ⟨_, he, hbel ▸ Below.refl _ _, ?_⟩
      have := hz w'
      unfold wdF teF at this ⊢
      rw [hb] at this ⊢
      exact this
    | false =>
      refine (weekday_no n w hb).mono fun e w' ⟨he, hbel⟩ => ⟨_, he, hbel ▸ Below.refl _ _, ?_⟩
      have := hz w'
      unfold wdF teF at this ⊢
      rw [hb] at this ⊢
      exact this
theorem noMoment_v {n : Int} : ACalls Try.prog 64 [.int .i64 n] (.bool (!isB n)) := fun g N w vs hG hN hlen hv => by
  obtain ⟨vs⟩ := vs
  match vs, hlen with
  | [x0], _ =>
    obtain ⟨rfl, _⟩ := fz_int (hv 0 _ x0 rfl rfl)
    exact (noMoment_any n w).mono fun e w' ⟨he, hbel⟩ => ⟨_, he, hbel ▸ Below.refl _ _, .bool⟩
set_option maxRecDepth 100000 in
set_option maxHeartbeats 4000000 in
theorem weekdayOf_v {n : Int} : ACalls Try.prog 35 [.int .i64 n] (.tup [.int .i64 (wdF n), .int .i64 (teF n)]) := by
  have c1 := noMoment_v (n := n)
  cases hb : isB n with
  | false =>
    rw [hb] at c1
    unfold wdF teF
    rw [hb]
    refine fun1 tb_ok Try.func35 rfl Try.ntmps35 Try.results35 rfl fun N => ?_
    repeat' (first | refine zt ?_ | (refine isR ?_; first | refine zo ?_ | refine zk c1 ?_ | refine zA ?_) | refine awp_split rfl (fun hb => ?_) (fun hb => ?_) | refine zr ?_ | exact x_le)
    rfl
  | true =>
    have hr := isB_iff.1 hb
    rw [hb] at c1
    unfold wdF teF
    rw [hb]
    have q1 : IntKind.i64.wrap ((n + 11644473600).tdiv 86400) = n / 86400 + 134774 := by
      rw [Int.tdiv_eq_ediv_of_nonneg (by omega), show (n + 11644473600) / 86400 = n / 86400 + 134774 by omega]
      exact wrap64 (by omega) (by omega)
    have q2 : (n / 86400 + 134774 + 1).tmod 7 = (n / 86400 + 4) % 7 := by
      rw [Int.tmod_eq_emod_of_nonneg (by omega)]; omega
    have q3 : InR .i64 ((n / 86400 + 4) % 7) := ⟨by simp only [rng]; omega, by simp only [rng]; omega⟩
    have q4 : -134775 ≤ n / 86400 ∧ n / 86400 ≤ 2932897 := by omega
    rw [show (if true = true then (n / 86400 + 4) % 7 else 0) = (n / 86400 + 4) % 7 from rfl]
    generalize (n / 86400 + 4) % 7 = u at *
    generalize n / 86400 = v at *
    refine fun1 tb_ok Try.func35 rfl Try.ntmps35 Try.results35 rfl fun N => ?_
    repeat' (first | refine zt ?_ | (refine isR ?_; first | refine zo ?_ | refine zk c1 ?_ | refine x_quo ?_ | refine x_rem ?_ | refine zA ?_) | refine awp_split rfl (fun hb => ?_) (fun hb => ?_) | refine zr ?_ | exact x_le)
    rfl
end Go.Proofs.Ytaojlikkaajpmaa.ClockV
