/- The walk of the reference's TimeOf. -/
import Derived.Test.YtaojlikkaajpmaaClockR
namespace Go.Proofs.Ytaojlikkaajpmaa.ClockT
open Go.RowKit ClockP ClockW ClockO

def TPost (v : Value) (w : World) (e : Ending) (w' : World) : Prop := e = .returned v ∧ Below w.heap.size w w'
def refT (n : Int) : Value := .tuple #[.agg #[.int .i64 (refY n), .int .i64 (refM n), .int .i64 (dOf (inOf n)), .int .i64 ((n + 11644473600) % 86400 / 3600), .int .i64 ((n + 11644473600) % 86400 % 3600 / 60), .int .i64 ((n + 11644473600) % 86400 % 60)], .int .i64 0]
def noT : Value := .tuple #[.agg #[.int .i64 0, .int .i64 0, .int .i64 0, .int .i64 0, .int .i64 0, .int .i64 0], .int .i64 3]

set_option maxHeartbeats 1000000 in
theorem timeOf_no (n : Int) (w : World) (h : NmB n = true) :
    Calls Try.prog 34 #[.int .i64 n] w (TPost noT w) := by
  go_enter Try.func34, Try.ntmps34
  go_wp2_with (go_at_call 64; refine (noMoment_any _ _).mono ?_; rintro e w' ⟨rfl, rfl⟩)
  exact bodyPost_ret (v := noT) (by simp [results, Try.results34, go_sem, noT]) rfl ⟨rfl, (Below.refl _ _).alloc (Nat.le_refl _) _⟩

set_option maxHeartbeats 1000000 in
theorem timeOf_yes (n : Int) (w : World) (h1 : -11644473600 ≤ n) (h2 : n ≤ 253402300799) :
    Calls Try.prog 34 #[.int .i64 n] w (TPost (refT n) w) := by
  have hb : NmB n = false := by unfold NmB isB; simp; omega
  have i0 : 0 ≤ inOf n := by unfold inOf; omega
  have i1 : inOf n < 146097 := by unfold inOf; omega
  obtain ⟨y0, y1, k0, k1, _⟩ := era_day _ i0 i1
  have e0 : 0 ≤ eraOf n ∧ eraOf n ≤ 1000 := by unfold eraOf; omega
  have fin : ∀ I E Y K S N : Int, Hid (inOf n = I) → Hid (eraOf n = E) → Hid (yOf I = Y) → Hid (kOf I = K) → Hid (n + 11644473600 = N) → Hid (N % 86400 = S) →
      refT n = .tuple #[.agg #[.int .i64 (yE E Y ((5 * K + 2) / 153)), .int .i64 (mE ((5 * K + 2) / 153)), .int .i64 (K - (153 * ((5 * K + 2) / 153) + 2) / 5 + 1), .int .i64 (S / 3600), .int .i64 (S % 3600 / 60), .int .i64 (S % 60)], .int .i64 0] := by
    intro I E Y K S N a1 a2 a3 a4 a5 a6
    have a1 := a1.out; have a2 := a2.out; have a3 := a3.out; have a4 := a4.out; have a5 := a5.out; have a6 := a6.out
    subst a1 a2 a3 a4 a5 a6
    rfl
  have FIN := Lib.hid fin; clear fin
  go_enter Try.func34, Try.ntmps34
  go_upto_region 4 with (go_at_call 64; refine (noMoment_any _ _).mono ?_; rintro e w' ⟨rfl, rfl⟩)
  have n1 : 0 ≤ n + 11644473600 ∧ n + 11644473600 ≤ 265046774399 := by omega
  generalize hN : n + 11644473600 = N at n1 ⊢
  have HN := Lib.hid hN
  go_upto_region 6 with (fail)
  have hI : (N / 86400 - 134774 + 719468) % 146097 = inOf n := by rw [← hN]; rfl
  have hE : (N / 86400 - 134774 + 719468) / 146097 = eraOf n := by rw [← hN]; rfl
  clear hN
  have HI := Lib.hid hI; have HE := Lib.hid hE; clear hI hE
  go_upto_region 8 with (fail)
  rw [HI.out, HE.out]
  generalize hI : inOf n = I at i0 i1 y0 y1 k0 k1 ⊢
  generalize hE : eraOf n = E at e0 ⊢
  generalize hS : N % 86400 = S
  have s0 : 0 ≤ S ∧ S < 86400 := by omega
  clear HI HE
  have HI := Lib.hid hI; have HE := Lib.hid hE; have HS := Lib.hid hS; clear hI hE hS
  go_upto_region 9 with (fail)
  have hY : (I - I / 1460 + I / 36524 - I / 146096) / 365 = yOf I := rfl
  rw [hY]
  have hK0 : kOf I = I - (365 * yOf I + yOf I / 4 - yOf I / 100) := rfl
  generalize hY2 : yOf I = Y at y0 y1 hK0 ⊢
  generalize hK2 : kOf I = K at k0 k1 hK0
  have HK0 := Lib.hid hK0.symm; have HY := Lib.hid hY2; have HK := Lib.hid hK2
  clear hK0 hY2 hK2 hY
  go_upto_region 10 with (fail)
  rw [HK0.out]
  have F := FIN.out I E Y K S N HI HE HY HK HN HS
  have F2 := Lib.hid F
  have mm : 0 ≤ (5 * K + 2) / 153 ∧ (5 * K + 2) / 153 ≤ 11 := by omega
  clear F FIN HI HE HY HK HN HS HK0
  by_cases hm : 12 < (5 * K + 2) / 153 + 3
  · go_wp2_with fail
    refine bodyPost_ret (v := .tuple #[.agg #[.int .i64 (E * 400 + Y + 1), .int .i64 ((5 * K + 2) / 153 + 3 - 12), .int .i64 (K - (153 * ((5 * K + 2) / 153) + 2) / 5 + 1), .int .i64 (S / 3600), .int .i64 (S % 3600 / 60), .int .i64 (S % 60)], .int .i64 0]) (by simp [results, Try.results34, go_sem]) rfl ⟨by rw [F2.out, yE, mE, if_pos hm, if_pos hm], ?_⟩
    exact ((Below.refl _ _).alloc (Nat.le_refl _) _).alloc (by simp) _
  · go_wp2_with fail
    refine bodyPost_ret (v := .tuple #[.agg #[.int .i64 (E * 400 + Y), .int .i64 ((5 * K + 2) / 153 + 3), .int .i64 (K - (153 * ((5 * K + 2) / 153) + 2) / 5 + 1), .int .i64 (S / 3600), .int .i64 (S % 3600 / 60), .int .i64 (S % 60)], .int .i64 0]) (by simp [results, Try.results34, go_sem]) rfl ⟨by rw [F2.out, yE, mE, if_neg (by omega), if_neg (by omega)], ?_⟩
    exact ((Below.refl _ _).alloc (Nat.le_refl _) _).alloc (by simp) _
end Go.Proofs.Ytaojlikkaajpmaa.ClockT
