/- The document's numerals: printed, read. -/
import Derived.Test.YtdimidhacccdjaaDoorDiskC
import Derived.Test.YtdimidhacccdjaaDoorNumP
namespace Go.Proofs.YtdimidhacccdjaaDoor.DiskG
open Go.RowKit Mem Abs TreeW NumP WordS DiskP

abbrev dd (u : Nat) : List UInt8 := Lib.decDigits u
def dg (m : Nat) : UInt8 := UInt8.ofNat (48 + m % 10)
theorem dg_nat (m : Nat) : (dg m).toNat = 48 + m % 10 := digit_nat (Nat.mod_lt _ (by decide))
theorem dd_one {m : Nat} (h : m < 10) : dd m = [dg m] := by
  show Lib.decDigits m = _
  rw [Lib.decDigits, dif_pos h]
  unfold dg
  rw [Nat.mod_eq_of_lt h]
theorem dd_more {m : Nat} (h : ¬ m < 10) : dd m = dd (m / 10) ++ [dg m] := by
  show Lib.decDigits m = _
  rw [Lib.decDigits, dif_neg h]
  rfl
theorem dd_len20 {u : Nat} (h : u < 18446744073709551616) : (dd u).length ≤ 20 := by
  show (Lib.decDigits u).length ≤ 20
  rw [Lib.decDigits_length]
  have : ∀ k u, u < 10 ^ (k + 1) → Lib.nDigits u ≤ k + 1 := by
    intro k
    induction k with
    | zero => intro u hu; rw [Lib.nDigits_small (by simpa using hu)]; exact Nat.le_refl _
    | succ k ih =>
      intro u hu
      by_cases h : u < 10
      · rw [Lib.nDigits_small h]; omega
      · rw [Lib.nDigits_big h]
        have := ih (u / 10) (by rw [Nat.pow_succ] at hu; omega)
        omega
  exact this 19 u (by omega)
set_option maxRecDepth 100000 in
set_option maxHeartbeats 4000000 in
theorem oneByte_v {n : Int} {c : UInt8} (h : n = (c.toNat : Int)) : ACalls Tryd.prog 48 [.int .i64 n] (strT [c]) := by
  have hc := c.toNat_lt
  have hw : IntKind.u8.wrap n = (c.toNat : Int) := by
    rw [h]
    simp only [IntKind.wrap, IntKind.bits, IntKind.signed]
    simp
    omega
  have z1 : [c].length = 1 := rfl
  refine fun1 tb_ok Tryd.func48 rfl Tryd.ntmps48 Tryd.results48 rfl fun N => ?_
  repeat' (first
      | with_reducible first | refine awp_seq ?_ | refine awp_region ?_ | refine awp_draw mixed ?_ | refine then_n ?_ | refine awp_skip ?_ | refine awp_block ?_ | refine awp_exit ?_ | refine awp_ret ?_ | refine awp_label ?_ | refine then_exit ?_ | refine then_ret ?_ | refine blk_n ?_ | refine blk_ret ?_ | refine blk_exit ?_ | refine blk_other rfl ?_ | refine then_k ?_
      | refine awp_true rfl ?_
      | refine awp_false rfl ?_
      | refine awp_split rfl (fun hb => ?_) (fun hb => ?_)
      | (refine isR ?_; first | refine x_far [5] tb_ok rfl ?_ | refine r_nil ?_ | refine r_nild (by kernel_rfl) ?_ | refine x_cv .u8 tb_ok ?_ | refine x_bstr (p := [c]) tb_ok ?_ | refine x_bsO 5 tb_ok ?_ | refine x_bs tb_ok ?_ | refine x_bytes tb_ok ?_ | refine x_cv64 tb_ok ?_)
      | refine x_ret ?_
      | refine x_nor ?_
      | exact x_le)
  rfl
theorem digit_facts (m : Nat) : ((m : Int)).tmod 10 = ((m % 10 : Nat) : Int) ∧ InR .u64 ((m % 10 : Nat) : Int) ∧ IntKind.i64.wrap ((m % 10 : Nat) : Int) = ((m % 10 : Nat) : Int) ∧ ((m % 10 : Nat) : Int) + 48 = ((dg m).toNat : Int) := by
  have h : m % 10 < 10 := Nat.mod_lt _ (by decide)
  refine ⟨rfl, ?_, ?_, ?_⟩
  · generalize m % 10 = q at *
    exact ⟨by simp only [rng]; omega, by simp only [rng]; omega⟩
  · generalize m % 10 = q at *
    simp only [IntKind.wrap, IntKind.bits, IntKind.signed]
    simp
    omega
  · rw [dg_nat]; omega
set_option maxRecDepth 100000 in
set_option maxHeartbeats 4000000 in
theorem natural_v {n : Nat} (hn : n < 18446744073709551616) : ACalls Tryd.prog 43 [.int .u64 (n : Int)] (strT (dd n)) := by
  obtain ⟨a1, a2, a3, a4⟩ := digit_facts n
  have c1 := oneByte_v (c := dg n) rfl
  refine fun1 tb_ok Tryd.func43 rfl Tryd.ntmps43 Tryd.results43 rfl fun N => ?_
  repeat' (first
      | with_reducible first | refine awp_seq ?_ | refine awp_region ?_ | refine awp_draw mixed ?_ | refine then_n ?_ | refine awp_skip ?_ | refine awp_block ?_ | refine awp_exit ?_ | refine awp_ret ?_ | refine awp_label ?_ | refine then_exit ?_ | refine then_ret ?_ | refine blk_n ?_ | refine blk_ret ?_ | refine blk_exit ?_ | refine blk_other rfl ?_ | refine then_k ?_
      | refine awp_true rfl ?_
      | refine awp_false rfl ?_
      | refine awp_split rfl (fun hb => ?_) (fun hb => ?_)
      | (refine isR ?_; first | refine x_far [] tb_ok rfl ?_ | refine r_nil ?_ | refine r_nild (by kernel_rfl) ?_ | refine x_rem ?_ | refine x_cv .i64 tb_ok ?_ | refine x_call (c1 _) ?_ | refine x_call (c1) ?_ | refine x_addE ?_ | refine x_add ?_ | refine x_cat ?_ | refine x_geqT ?_ | refine x_geqF ?_ | refine x_geq (fun hc => ?_) (fun hc => ?_) | refine x_bytes tb_ok ?_ | refine x_cv64 tb_ok ?_)
      | refine x_ret ?_
      | refine x_nor ?_
      | exact x_le)
  refine awp_while (α := Nat × List UInt8) (fun x => ⟨[(0, .int .u64 (x.1 : Int)), (3, strT (dg x.1 :: x.2))], [], 0, 21⟩) (fun x => x.1 < 18446744073709551616 ∧ dd x.1 ++ x.2 = dd n) (fun x => x.1) (n, []) (by exact x_le) ⟨hn, by simp⟩ ?_
  rintro ⟨m, r⟩ ⟨h1, h2⟩
  dsimp only at h1 h2 ⊢
  have hr : r.length ≤ 20 := by
    have e1 := congrArg List.length h2
    have e2 := dd_len20 hn
    rw [List.length_append] at e1
    omega
  clear a1 a2 a3 a4 c1
  by_cases h : 10 ≤ m
  · obtain ⟨b1, b2, b3, b4⟩ := digit_facts (m / 10)
    have c2 := oneByte_v (c := dg (m / 10)) rfl
    have hq : IntKind.u64.wrap ((m : Int).tdiv 10) = ((m / 10 : Nat) : Int) := by
      have e : (m : Int).tdiv 10 = ((m / 10 : Nat) : Int) := rfl
      rw [e]
      have : m / 10 < 18446744073709551616 := by omega
      generalize m / 10 = q at *
      simp only [IntKind.wrap, IntKind.bits, IntKind.signed]
      simp
      omega
    repeat' (first
        | with_reducible first | refine awp_seq ?_ | refine awp_region ?_ | refine awp_draw mixed ?_ | refine then_n ?_ | refine awp_skip ?_ | refine awp_block ?_ | refine awp_exit ?_ | refine awp_ret ?_ | refine awp_label ?_ | refine then_exit ?_ | refine then_ret ?_ | refine blk_n ?_ | refine blk_ret ?_ | refine blk_exit ?_ | refine blk_other rfl ?_ | refine then_k ?_
        | refine awp_true rfl ?_
        | refine awp_false rfl ?_
        | refine awp_split rfl (fun hb => ?_) (fun hb => ?_)
        | (refine isR ?_; first | refine x_far [] tb_ok rfl ?_ | refine r_nil ?_ | refine r_nild (by kernel_rfl) ?_ | refine x_quo ?_ | refine x_rem ?_ | refine x_cv .i64 tb_ok ?_ | refine x_call (c2 _) ?_ | refine x_call (c2) ?_ | refine x_addE ?_ | refine x_add ?_ | refine x_cat ?_ | refine x_geqT ?_ | refine x_geqF ?_ | refine x_geq (fun hc => ?_) (fun hc => ?_) | refine x_bytes tb_ok ?_ | refine x_cv64 tb_ok ?_)
        | refine x_ret ?_
        | refine x_nor ?_
        | exact x_le)
    refine ⟨(m / 10, dg m :: r), ⟨by dsimp only; omega, ?_⟩, by dsimp only; omega, ?_⟩
    · dsimp only
      rw [← h2, dd_more (m := m) (by omega)]
      simp
    · exact (by exact x_le)
  · have e := dd_one (m := m) (by omega)
    rw [e] at h2
    repeat' (first
        | with_reducible first | refine awp_seq ?_ | refine awp_region ?_ | refine awp_draw mixed ?_ | refine then_n ?_ | refine awp_skip ?_ | refine awp_block ?_ | refine awp_exit ?_ | refine awp_ret ?_ | refine awp_label ?_ | refine then_exit ?_ | refine then_ret ?_ | refine blk_n ?_ | refine blk_ret ?_ | refine blk_exit ?_ | refine blk_other rfl ?_ | refine then_k ?_
        | refine awp_true rfl ?_
        | refine awp_false rfl ?_
        | refine awp_split rfl (fun hb => ?_) (fun hb => ?_)
        | (refine isR ?_; first | refine x_far [] tb_ok rfl ?_ | refine r_nil ?_ | refine r_nild (by kernel_rfl) ?_ | refine x_addE ?_ | refine x_add ?_ | refine x_cat ?_ | refine x_geqT ?_ | refine x_geqF ?_ | refine x_geq (fun hc => ?_) (fun hc => ?_) | refine x_bytes tb_ok ?_ | refine x_cv64 tb_ok ?_)
        | refine x_ret ?_
        | refine x_nor ?_
        | exact x_le)
    show strT (dg m :: r) = _
    rw [← h2]
    rfl
set_option maxRecDepth 100000 in
set_option maxHeartbeats 4000000 in
theorem decimal_v {x : Int} (hx : InR .i64 x) : ACalls Tryd.prog 37 [.int .i64 x] (strT (Lib.itoa x)) := by
  have hb : -9223372036854775808 ≤ x ∧ x ≤ 9223372036854775807 := hx
  by_cases h : x < 0
  · have e : Lib.itoa x = [45] ++ dd x.natAbs := by unfold Lib.itoa; rw [if_pos h]; rfl
    rw [e]
    have hw1 : IntKind.u64.wrap x = x + 18446744073709551616 := by
      simp only [IntKind.wrap, IntKind.bits, IntKind.signed]
      simp
      omega
    have hw2 : IntKind.u64.wrap (0 - (x + 18446744073709551616)) = (x.natAbs : Int) := by
      simp only [IntKind.wrap, IntKind.bits, IntKind.signed]
      simp
      omega
    have c1 := natural_v (n := x.natAbs) (by omega)
    have l := dd_len20 (u := x.natAbs) (by omega)
    generalize dd x.natAbs = w at *
    refine fun1 tb_ok Tryd.func37 rfl Tryd.ntmps37 Tryd.results37 rfl fun N => ?_
    repeat' (first
        | with_reducible first | refine awp_seq ?_ | refine awp_region ?_ | refine awp_draw mixed ?_ | refine then_n ?_ | refine awp_skip ?_ | refine awp_block ?_ | refine awp_exit ?_ | refine awp_ret ?_ | refine awp_label ?_ | refine then_exit ?_ | refine then_ret ?_ | refine blk_n ?_ | refine blk_ret ?_ | refine blk_exit ?_ | refine blk_other rfl ?_ | refine then_k ?_
        | refine awp_true rfl ?_
        | refine awp_false rfl ?_
        | refine awp_split rfl (fun hb => ?_) (fun hb => ?_)
        | (refine isR ?_; first | refine x_far [] tb_ok rfl ?_ | refine r_nil ?_ | refine r_nild (by kernel_rfl) ?_ | refine x_cv .u64 tb_ok ?_ | refine x_subK ?_ | refine x_call (c1 _) ?_ | refine x_call (c1) ?_ | refine x_addE ?_ | refine x_add ?_ | refine x_subE ?_ | refine x_sub ?_ | refine x_cat ?_ | refine x_lssT ?_ | refine x_lssF ?_ | refine x_lss (fun hc => ?_) (fun hc => ?_) | refine x_bytes tb_ok ?_ | refine x_cv64 tb_ok ?_)
        | refine x_ret ?_
        | refine x_nor ?_
        | exact x_le)
    rfl
  · have e : Lib.itoa x = dd x.toNat := by unfold Lib.itoa; rw [if_neg h]
    rw [e]
    have hw : IntKind.u64.wrap x = (x.toNat : Int) := by
      simp only [IntKind.wrap, IntKind.bits, IntKind.signed]
      simp
      omega
    have c1 := natural_v (n := x.toNat) (by omega)
    generalize dd x.toNat = w at *
    refine fun1 tb_ok Tryd.func37 rfl Tryd.ntmps37 Tryd.results37 rfl fun N => ?_
    repeat' (first
        | with_reducible first | refine awp_seq ?_ | refine awp_region ?_ | refine awp_draw mixed ?_ | refine then_n ?_ | refine awp_skip ?_ | refine awp_block ?_ | refine awp_exit ?_ | refine awp_ret ?_ | refine awp_label ?_ | refine then_exit ?_ | refine then_ret ?_ | refine blk_n ?_ | refine blk_ret ?_ | refine blk_exit ?_ | refine blk_other rfl ?_ | refine then_k ?_
        | refine awp_true rfl ?_
        | refine awp_false rfl ?_
        | refine awp_split rfl (fun hb => ?_) (fun hb => ?_)
        | (refine isR ?_; first | refine x_far [] tb_ok rfl ?_ | refine r_nil ?_ | refine r_nild (by kernel_rfl) ?_ | refine x_cv .u64 tb_ok ?_ | refine x_call (c1 _) ?_ | refine x_call (c1) ?_ | refine x_addE ?_ | refine x_add ?_ | refine x_subE ?_ | refine x_sub ?_ | refine x_cat ?_ | refine x_lssT ?_ | refine x_lssF ?_ | refine x_lss (fun hc => ?_) (fun hc => ?_) | refine x_bytes tb_ok ?_ | refine x_cv64 tb_ok ?_)
        | refine x_ret ?_
        | refine x_nor ?_
        | exact x_le)
    rfl
set_option maxRecDepth 100000 in
set_option maxHeartbeats 4000000 in
theorem isDigit_v {c : UInt8} : ACalls Tryd.prog 67 [byteT c] (.bool (digC c)) := by
  unfold digC
  by_cases h1 : 48 ≤ c.toNat
  · by_cases h2 : c.toNat ≤ 57
    · rw [decide_eq_true h1, decide_eq_true h2]
      refine fun1 tb_ok Tryd.func67 rfl Tryd.ntmps67 Tryd.results67 rfl fun N => ?_
      repeat' (first
          | with_reducible first | refine awp_seq ?_ | refine awp_region ?_ | refine awp_draw mixed ?_ | refine then_n ?_ | refine awp_skip ?_ | refine awp_block ?_ | refine awp_exit ?_ | refine awp_ret ?_ | refine awp_label ?_ | refine then_exit ?_ | refine then_ret ?_ | refine blk_n ?_ | refine blk_ret ?_ | refine blk_exit ?_ | refine blk_other rfl ?_ | refine then_k ?_
          | refine awp_true rfl ?_
          | refine awp_false rfl ?_
          | refine awp_split rfl (fun hb => ?_) (fun hb => ?_)
          | (refine isR ?_; first | refine x_far [] tb_ok rfl ?_ | refine r_nil ?_ | refine r_nild (by kernel_rfl) ?_ | refine x_leqT ?_ | refine x_leqF ?_ | refine x_leq (fun hc => ?_) (fun hc => ?_) | refine x_geqT ?_ | refine x_geqF ?_ | refine x_geq (fun hc => ?_) (fun hc => ?_))
          | refine x_ret ?_
          | refine x_nor ?_
          | exact x_le)
      rfl
    · rw [decide_eq_true h1, decide_eq_false h2]
      refine fun1 tb_ok Tryd.func67 rfl Tryd.ntmps67 Tryd.results67 rfl fun N => ?_
      repeat' (first
          | with_reducible first | refine awp_seq ?_ | refine awp_region ?_ | refine awp_draw mixed ?_ | refine then_n ?_ | refine awp_skip ?_ | refine awp_block ?_ | refine awp_exit ?_ | refine awp_ret ?_ | refine awp_label ?_ | refine then_exit ?_ | refine then_ret ?_ | refine blk_n ?_ | refine blk_ret ?_ | refine blk_exit ?_ | refine blk_other rfl ?_ | refine then_k ?_
          | refine awp_true rfl ?_
          | refine awp_false rfl ?_
          | refine awp_split rfl (fun hb => ?_) (fun hb => ?_)
          | (refine isR ?_; first | refine x_far [] tb_ok rfl ?_ | refine r_nil ?_ | refine r_nild (by kernel_rfl) ?_ | refine x_leqT ?_ | refine x_leqF ?_ | refine x_leq (fun hc => ?_) (fun hc => ?_) | refine x_geqT ?_ | refine x_geqF ?_ | refine x_geq (fun hc => ?_) (fun hc => ?_))
          | refine x_ret ?_
          | refine x_nor ?_
          | exact x_le)
      rfl
  · rw [decide_eq_false h1]
    refine fun1 tb_ok Tryd.func67 rfl Tryd.ntmps67 Tryd.results67 rfl fun N => ?_
    repeat' (first
        | with_reducible first | refine awp_seq ?_ | refine awp_region ?_ | refine awp_draw mixed ?_ | refine then_n ?_ | refine awp_skip ?_ | refine awp_block ?_ | refine awp_exit ?_ | refine awp_ret ?_ | refine awp_label ?_ | refine then_exit ?_ | refine then_ret ?_ | refine blk_n ?_ | refine blk_ret ?_ | refine blk_exit ?_ | refine blk_other rfl ?_ | refine then_k ?_
        | refine awp_true rfl ?_
        | refine awp_false rfl ?_
        | refine awp_split rfl (fun hb => ?_) (fun hb => ?_)
        | (refine isR ?_; first | refine x_far [] tb_ok rfl ?_ | refine r_nil ?_ | refine r_nild (by kernel_rfl) ?_ | refine x_leqT ?_ | refine x_leqF ?_ | refine x_leq (fun hc => ?_) (fun hc => ?_) | refine x_geqT ?_ | refine x_geqF ?_ | refine x_geq (fun hc => ?_) (fun hc => ?_))
        | refine x_ret ?_
        | refine x_nor ?_
        | exact x_le)
    rfl
end Go.Proofs.YtdimidhacccdjaaDoor.DiskG
