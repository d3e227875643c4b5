/- Dates: the document's own reading. -/
import Derived.Test.YtclekbkpcigkcaaDateC
namespace Go.Proofs.Ytclekbkpcigkcaa.StampJ
open Go.RowKit Mem Abs TreeW WordP WordS HostP HostO HostA PathT StampP StampA StampB StampC StampD StampE StampF StampG StampH StampI Lead ClockP ClockV

theorem awp_share {P : Program} {N : Env} {c : Code} {Q : Exit → S → Prop} {s1 : S} {G : Prop} (p : Prop) (main : (p → AWp P N c Q s1) → G) (k : p → AWp P N c Q s1) : G := main k
theorem awp_cutc {P : Program} {N : Env} {d : Nat} {x y : Code} {Q : Exit → S → Prop} {s s1 : S} (k : AWp P N (.cond (.tmp d) x y) Q s1) (h : LeI N.K s1 s) : AWp P N (.cond (.tmp d) x y) Q s := awp_lei h k
theorem day_same (w : List UInt8) (h mi s : Int) : (dayTimeF w h mi s).1 = (dayTimeF w 0 0 0).1 ∧ ((dayTimeF w 0 0 0).1 = true → dayTimeF w h mi s = dayTimeF w 0 0 0) := by
  unfold dayTimeF
  repeat' split
  all_goals exact ⟨rfl, fun h => by first | rfl | cases h⟩
theorem doc0 {r : RD} {w : List UInt8} (h : r.f0 = true ∨ (dayTimeF w 0 0 0).1 = false) : takeF r w = T1 r w := by
  rw [take_eq, (day_same w r.h r.mi r.s).1, if_neg]
  rcases h with h | h <;> simp [h]
theorem doc0' {r : RD} {w : List UInt8} {a b c : Int} (h : r.f0 = false) (hp : dayTimeF w 0 0 0 = (true, a, b, c)) : takeF r w = ⟨r.y, r.m, r.d, a, b, c, true, r.f1, r.f2, r.f3⟩ := by
  have h1 : (dayTimeF w 0 0 0).1 = true := by rw [hp]
  have h2 := (day_same w r.h r.mi r.s).2 h1
  rw [take_eq, h2, hp, if_pos (by rw [h]; rfl)]
theorem doc1 {r : RD} {w : List UInt8} (h : r.f1 = true ∨ (lead w).length < 1 ∨ 2 < (lead w).length) : T1 r w = T2 r w := by
  unfold T1
  rw [if_neg]
  rcases h with h | h
  · simp [h]
  · rcases dig_is (w := w) (lo := 1) (hi := 2) (by decide) with ⟨d1, d2, d3, d4⟩ | ⟨d1, d2⟩
    · omega
    · simp [d1]
theorem doc1' {r : RD} {w : List UInt8} (h : r.f1 = false) (h1 : 1 ≤ (lead w).length) (h2 : (lead w).length ≤ 2) : T1 r w = ⟨r.y, r.m, (leadN w : Nat), r.h, r.mi, r.s, r.f0, true, r.f2, r.f3⟩ := by
  unfold T1
  rcases dig_is (w := w) (lo := 1) (hi := 2) (by decide) with ⟨d1, d2, d3, d4⟩ | ⟨d1, d2⟩
  · rw [d4, if_pos (by rw [h]; rfl)]
  · omega
theorem doc2 {r : RD} {w : List UInt8} (h : r.f2 = true ∨ monthF w = 0) : T2 r w = T3 r w := by
  unfold T2
  rw [if_neg]
  rcases h with h | h <;> simp [h]
theorem doc2' {r : RD} {w : List UInt8} (h : r.f2 = false) (h1 : 0 < monthF w) : T2 r w = ⟨r.y, (monthF w : Nat), r.d, r.h, r.mi, r.s, r.f0, r.f1, true, r.f3⟩ := by
  unfold T2
  rw [if_pos (by simp [h, h1])]
theorem doc3 {r : RD} {w : List UInt8} (h : r.f3 = true ∨ (lead w).length < 2 ∨ 4 < (lead w).length) : T3 r w = r := by
  unfold T3
  rw [if_neg]
  rcases h with h | h
  · simp [h]
  · rcases dig_is (w := w) (lo := 2) (hi := 4) (by decide) with ⟨d1, d2, d3, d4⟩ | ⟨d1, d2⟩
    · omega
    · simp [d1]
theorem doc3' {r : RD} {w : List UInt8} (h : r.f3 = false) (h1 : 2 ≤ (lead w).length) (h2 : (lead w).length ≤ 4) : T3 r w = ⟨yearF (leadN w : Nat), r.m, r.d, r.h, r.mi, r.s, r.f0, r.f1, r.f2, true⟩ := by
  unfold T3
  rcases dig_is (w := w) (lo := 2) (hi := 4) (by decide) with ⟨d1, d2, d3, d4⟩ | ⟨d1, d2⟩
  · rw [d4, if_pos (by rw [h]; rfl)]
  · omega
theorem day_list {w : List UInt8} : ((dayTimeF w 0 0 0).1 = false) ∨ ∃ a b c, dayTimeF w 0 0 0 = (true, a, b, c) ∧ dayL w = [a, b, c] := by
  unfold dayL
  generalize dayTimeF w 0 0 0 = p
  obtain ⟨o, a, b, c⟩ := p
  cases o
  · exact .inl rfl
  · exact .inr ⟨a, b, c, rfl, rfl⟩
theorem month_le (w : List UInt8) : monthF w ≤ 12 := by
  unfold monthF
  split
  · omega
  · split
    · rename_i i h
      have := (List.findIdx?_eq_some_iff_getElem.1 h).1
      have h2 : months.length = 12 := rfl
      omega
    · omega
abbrev timeR (a b c d e f : Int) : Blk := .els 69 6 [timeT a b c d e f]
end Go.Proofs.Ytclekbkpcigkcaa.StampJ
namespace Go.Proofs.Ytclekbkpcigkcaa.StampK
open Go.RowKit Mem Abs TreeW WordP WordS HostP HostO HostA PathT StampP StampA StampB StampC StampD StampE StampF StampG StampH StampI StampJ Lead ClockP ClockV

end Go.Proofs.Ytclekbkpcigkcaa.StampK
namespace Go.Proofs.Ytclekbkpcigkcaa.StampL
open Go.RowKit Mem Abs TreeW WordP WordS HostP HostO HostA PathT StampP StampA StampB StampC StampD StampE StampF StampG StampH StampI StampJ StampK Lead ClockP ClockV

/-- The last digit of a number, as a byte. -/
def dgt (m : Nat) : UInt8 := UInt8.ofNat (48 + m % 10)
theorem dgt_nat (m : Nat) : (dgt m).toNat = 48 + m % 10 := by
  unfold dgt
  rw [UInt8.toNat_ofNat']
  omega
theorem dgt_int (m : Nat) : (48 + ((m % 10 : Nat) : Int)) = ((dgt m).toNat : Int) := by rw [dgt_nat]; omega
theorem dg (m : Nat) : (m : Int).tmod 10 = ((m % 10 : Nat) : Int) ∧ InR .i64 ((m % 10 : Nat) : Int) ∧ IntKind.u8.wrap (48 + ((m % 10 : Nat) : Int)) = ((dgt m).toNat : Int) := by
  refine ⟨by rw [Int.tmod_eq_emod_of_nonneg (by omega)]; omega, ⟨by simp only [rng]; omega, by simp only [rng]; omega⟩, ?_⟩
  rw [dgt_int]
  have := (dgt m).toNat_lt
  simp only [IntKind.wrap, IntKind.bits, IntKind.signed]
  simp
  omega
theorem dq (m : Nat) (hm : m < 1000000) : IntKind.i64.wrap ((m : Int).tdiv 10) = ((m / 10 : Nat) : Int) := by
  rw [Int.tdiv_eq_ediv_of_nonneg (by omega)]
  simp only [IntKind.wrap, IntKind.bits, IntKind.signed]
  simp
  omega
set_option maxRecDepth 100000 in
set_option maxHeartbeats 4000000 in
theorem oneByte_v {n : Int} {c : UInt8} (h : n = (c.toNat : Int)) : ACalls Try.prog 44 [.int .i64 n] (strT [c]) := by
  have hc := c.toNat_lt
  have hw : IntKind.u8.wrap n = (c.toNat : Int) := by
    rw [h]
    simp only [IntKind.wrap, IntKind.bits, IntKind.signed]
    simp
    omega
  have z1 : [c].length = 1 := rfl
  refine fun1 tb_ok Try.func44 rfl Try.ntmps44 Try.results44 rfl fun N => ?_
  repeat' (first
      | with_reducible first | refine awp_seq ?_ | refine awp_region ?_ | refine awp_draw mixed ?_ | refine then_n ?_ | refine awp_skip ?_ | refine awp_block ?_ | refine awp_exit ?_ | refine awp_ret ?_ | refine awp_label ?_ | refine then_exit ?_ | refine then_ret ?_ | refine blk_n ?_ | refine blk_ret ?_ | refine blk_exit ?_ | refine blk_other rfl ?_ | refine then_k ?_
      | refine awp_true rfl ?_
      | refine awp_false rfl ?_
      | refine awp_split rfl (fun hb => ?_) (fun hb => ?_)
      | (refine isR ?_; first | refine x_far [5] tb_ok rfl ?_ | refine r_nil ?_ | refine r_nild (by kernel_rfl) ?_ | refine x_cv .u8 tb_ok ?_ | refine x_bstr (p := [c]) tb_ok ?_ | refine x_bsO 5 tb_ok ?_ | refine x_bs tb_ok ?_ | refine x_bytes tb_ok ?_ | refine x_cv64 tb_ok ?_)
      | refine x_ret ?_
      | refine x_nor ?_
      | exact x_le)
  rfl
theorem padded2_v {m : Nat} (hm : m < 1000000) : ACalls Try.prog 38 [.int .i64 (m : Int), .int .i64 2] (strT [dgt (m / 10), dgt m]) := by
  obtain ⟨a1, a2, a3⟩ := dg m
  obtain ⟨b1, b2, b3⟩ := dg (m / 10)
  have q1 := dq m hm
  have q2 := dq (m / 10) (by omega)
  have l0 : (List.replicate 2 (0 : UInt8))[1]? = some 0 := rfl
  have z1 : [dgt (m / 10), dgt m].length = 2 := rfl
  have l1 : ((List.replicate 2 (0 : UInt8)).set 1 (dgt m))[0]? = some 0 := rfl
  refine fun2 tb_ok Try.func38 rfl Try.ntmps38 Try.results38 rfl fun N => ?_
  repeat' (first
      | with_reducible refine rounds_on ?_
      | with_reducible refine awp_rounds 3 ?_
      | with_reducible first | refine awp_seq ?_ | refine awp_region ?_ | refine awp_draw mixed ?_ | refine then_n ?_ | refine awp_skip ?_ | refine awp_block ?_ | refine awp_exit ?_ | refine awp_ret ?_ | refine awp_label ?_ | refine then_exit ?_ | refine then_ret ?_ | refine blk_n ?_ | refine blk_ret ?_ | refine blk_exit ?_ | refine blk_other rfl ?_ | refine then_k ?_
      | refine awp_true rfl ?_
      | refine awp_false rfl ?_
      | refine awp_split rfl (fun hb => ?_) (fun hb => ?_)
      | (refine isR ?_; first | refine x_far [] tb_ok rfl ?_ | refine r_nil ?_ | refine r_nild (by kernel_rfl) ?_ | refine x_mkN byteT 0 2 tb_ok ?_ | refine x_quo ?_ | refine x_rem ?_ | refine x_cv .u8 tb_ok ?_ | refine x_stI byteT (a1 := dgt m) 1 tb_ok ?_ | refine x_stI byteT (a1 := dgt (m / 10)) 0 tb_ok ?_ | refine x_bstr (p := [dgt (m / 10), dgt m]) tb_ok ?_ | refine x_addE ?_ | refine x_add ?_ | refine x_subE ?_ | refine x_sub ?_ | refine x_cat ?_ | refine x_lenF tb_ok ?_ | refine x_lenO tb_ok ?_ | refine x_lenN tb_ok ?_ | refine x_lenS ?_ | refine x_lssT ?_ | refine x_lssF ?_ | refine x_lss (fun hc => ?_) (fun hc => ?_) | refine x_iaF tb_ok ?_ | refine x_iaO tb_ok ?_ | refine x_iaA tb_ok ?_ | refine x_iaAF tb_ok ?_ | refine x_bytes tb_ok ?_ | refine x_cv64 tb_ok ?_)
      | refine x_ret ?_
      | refine x_nor ?_
      | exact x_le
      | fail)
  rfl
theorem padded4_v {m : Nat} (hm : m < 1000000) : ACalls Try.prog 38 [.int .i64 (m : Int), .int .i64 4] (strT [dgt (m / 10 / 10 / 10), dgt (m / 10 / 10), dgt (m / 10), dgt m]) := by
  obtain ⟨a1, a2, a3⟩ := dg m
  obtain ⟨b1, b2, b3⟩ := dg (m / 10)
  obtain ⟨d1, d2, d3⟩ := dg (m / 10 / 10)
  obtain ⟨e1, e2, e3⟩ := dg (m / 10 / 10 / 10)
  have q1 := dq m hm
  have q2 := dq (m / 10) (by omega)
  have q3 := dq (m / 10 / 10) (by omega)
  have q4 := dq (m / 10 / 10 / 10) (by omega)
  have l0 : (List.replicate 4 (0 : UInt8))[3]? = some 0 := rfl
  have z1 : [dgt (m / 10 / 10 / 10), dgt (m / 10 / 10), dgt (m / 10), dgt m].length = 4 := rfl
  have l1 : ((List.replicate 4 (0 : UInt8)).set 3 (dgt m))[2]? = some 0 := rfl
  have l2 : (((List.replicate 4 (0 : UInt8)).set 3 (dgt m)).set 2 (dgt (m / 10)))[1]? = some 0 := rfl
  have l3 : ((((List.replicate 4 (0 : UInt8)).set 3 (dgt m)).set 2 (dgt (m / 10))).set 1 (dgt (m / 10 / 10)))[0]? = some 0 := rfl
  refine fun2 tb_ok Try.func38 rfl Try.ntmps38 Try.results38 rfl fun N => ?_
  repeat' (first
      | with_reducible refine rounds_on ?_
      | with_reducible refine awp_rounds 5 ?_
      | with_reducible first | refine awp_seq ?_ | refine awp_region ?_ | refine awp_draw mixed ?_ | refine then_n ?_ | refine awp_skip ?_ | refine awp_block ?_ | refine awp_exit ?_ | refine awp_ret ?_ | refine awp_label ?_ | refine then_exit ?_ | refine then_ret ?_ | refine blk_n ?_ | refine blk_ret ?_ | refine blk_exit ?_ | refine blk_other rfl ?_ | refine then_k ?_
      | refine awp_true rfl ?_
      | refine awp_false rfl ?_
      | refine awp_split rfl (fun hb => ?_) (fun hb => ?_)
      | (refine isR ?_; first | refine x_far [] tb_ok rfl ?_ | refine r_nil ?_ | refine r_nild (by kernel_rfl) ?_ | refine x_mkN byteT 0 4 tb_ok ?_ | refine x_quo ?_ | refine x_rem ?_ | refine x_cv .u8 tb_ok ?_ | refine x_stI byteT (a1 := dgt m) 3 tb_ok ?_ | refine x_stI byteT (a1 := dgt (m / 10)) 2 tb_ok ?_ | refine x_stI byteT (a1 := dgt (m / 10 / 10)) 1 tb_ok ?_ | refine x_stI byteT (a1 := dgt (m / 10 / 10 / 10)) 0 tb_ok ?_ | refine x_bstr (p := [dgt (m / 10 / 10 / 10), dgt (m / 10 / 10), dgt (m / 10), dgt m]) tb_ok ?_ | refine x_addE ?_ | refine x_add ?_ | refine x_subE ?_ | refine x_sub ?_ | refine x_cat ?_ | refine x_lenF tb_ok ?_ | refine x_lenO tb_ok ?_ | refine x_lenN tb_ok ?_ | refine x_lenS ?_ | refine x_lssT ?_ | refine x_lssF ?_ | refine x_lss (fun hc => ?_) (fun hc => ?_) | refine x_iaF tb_ok ?_ | refine x_iaO tb_ok ?_ | refine x_iaA tb_ok ?_ | refine x_iaAF tb_ok ?_ | refine x_bytes tb_ok ?_ | refine x_cv64 tb_ok ?_)
      | refine x_ret ?_
      | refine x_nor ?_
      | exact x_le
      | fail)
  rfl
end Go.Proofs.Ytclekbkpcigkcaa.StampL
