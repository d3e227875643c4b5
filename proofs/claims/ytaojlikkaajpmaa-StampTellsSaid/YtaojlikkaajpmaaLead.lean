/- The digits that a text begins with: the walk. -/
import Derived.Test.YtaojlikkaajpmaaWk
import Derived.Test.YtaojlikkaajpmaaHostO
import Derived.Test.YtaojlikkaajpmaaHostA
import Derived.Test.YtaojlikkaajpmaaTreeW
namespace Go.Proofs.Ytaojlikkaajpmaa.Lead
open Go.RowKit Mem Abs HostP HostO HostA TreeW WordP WordS

theorem lead_at {l : List UInt8} {k : Nat} (hk : k ≤ l.length) (h : Upto digB l k) (he : ∀ c, l[k]? = some c → digB c = false) : lead l = l.take k := by
  induction l generalizing k with
  | nil => simp [lead]
  | cons c r ih =>
    unfold lead
    cases k with
    | zero =>
      rw [List.takeWhile_cons, if_neg (by rw [he c rfl]; simp)]
      rfl
    | succ k =>
      rw [List.takeWhile_cons, if_pos (h 0 c (by omega) rfl), List.take_succ_cons]
      congr 1
      exact ih (by simpa using hk) (fun j y hj hy => h (j + 1) y (by omega) (by simpa using hy)) (fun x hx => he x (by simpa using hx))
theorem value5 {l : List UInt8} {k : Nat} {c : UInt8} (h : l[k]? = some c) (hk : k < 5) : value ((l.take (k + 1)).take 5) = 10 * value ((l.take k).take 5) + (c.toNat - 48) := by
  have hl := (List.getElem?_eq_some_iff.1 h)
  rw [List.take_take, List.take_take, Nat.min_eq_right (by omega), Nat.min_eq_right (by omega), List.take_succ_eq_append_getElem hl.1, value_snoc, hl.2]
theorem value5_on {l : List UInt8} {k : Nat} (hk : ¬ k < 5) : value ((l.take (k + 1)).take 5) = value ((l.take k).take 5) := by
  rw [List.take_take, List.take_take, Nat.min_eq_left (by omega), Nat.min_eq_left (by omega)]
theorem upto_take {l : List UInt8} {k : Nat} (h : Upto digB l k) : (l.take k).all digB = true := List.all_eq_true.2 fun x hx => by
  obtain ⟨i, hi⟩ := List.mem_iff_getElem?.1 hx
  rw [List.getElem?_take] at hi
  split at hi
  · exact h i x (by assumption) hi
  · cases hi
theorem value5_le {l : List UInt8} {k : Nat} (h : Upto digB l k) : value ((l.take k).take 5) < 100000 := by
  have h1 := upto_take h
  have h2 : ((l.take k).take 5).all digB = true := List.all_eq_true.2 fun x hx => List.all_eq_true.1 h1 x (List.mem_of_mem_take hx)
  have h3 := value_le _ h2
  have h4 : ((l.take k).take 5).length ≤ 5 := by simp; omega
  have h5 : 10 ^ ((l.take k).take 5).length ≤ 10 ^ 5 := Nat.pow_le_pow_right (by decide) h4
  omega
theorem dig_nat {c : UInt8} (h : digB c = true) : 48 ≤ c.toNat ∧ c.toNat ≤ 57 := by
  unfold digB at h
  simpa using h
abbrev pairN (a b : Nat) : Abs.V := .tup [.int .i64 (a : Int), .int .i64 (b : Int)]
set_option maxRecDepth 100000 in
set_option maxHeartbeats 4000000 in
theorem leadDigits_v {l : List UInt8} : ACalls Try.prog 30 [strT l] (pairN (lead l).length (leadN l)) := ACalls.lim fun hl => by
  obtain ⟨hl, _⟩ := TreeW.str_lim hl
  refine fun1 tb_ok Try.func30 rfl Try.ntmps30 Try.results30 rfl fun N => ?_
  repeat' (first | refine zt ?_ | (refine isR ?_; first | refine zo ?_ | refine zA ?_ | refine zL ?_ | refine zc1 ?_ | refine zI ?_ | refine zB ?_ | (refine zs1 ?_ ?_ <;> intro hc)) | refine awp_split rfl (fun hb => ?_) (fun hb => ?_) | refine zr ?_ | exact x_le)
  refine awp_for (fun k => ⟨[(0, strT l), (4, .int .i64 (k : Int)), (5, .int .i64 ((value ((l.take k).take 5) : Nat) : Int))], [], 0, 30⟩) (fun k => k ≤ l.length ∧ Upto digB l k) l.length 0 ?_ ⟨Nat.zero_le _, upto0⟩ ?_
  · have e : value ((l.take 0).take 5) = 0 := rfl
    rw [e]
    exact (by exact x_le)
  · intro k ⟨hk, hq⟩
    have hv := value5_le hq
    have fin : (∀ c, l[k]? = some c → digB c = false) → pairN k (value ((l.take k).take 5)) = pairN (lead l).length (leadN l) := fun he => by
      unfold leadN
      rw [lead_at hk hq he, List.length_take, Nat.min_eq_left hk]
    by_cases hk2 : k < l.length
    · have e1 : l[k]? = some l[k] := by simp [hk2]
      generalize l[k] = c at e1
      have hd := isDigit_v (c := c)
      have hc := c.toNat_lt
      by_cases hdc : digB c = true
      · rw [hdc] at hd
        have hn := dig_nat hdc
        have e5 := value5 e1
        have e6 := value5_on (l := l) (k := k)
        generalize hm : value ((l.take k).take 5) = m at *
        by_cases h5 : k < 5
        · have e5 := e5 h5
          repeat' (first | refine zt ?_ | (refine isR ?_; first | refine zo ?_ | refine zk hd ?_ | refine zA ?_ | refine zL ?_ | refine zc1 ?_ | refine zI ?_ | refine zB ?_ | (refine zs1 ?_ ?_ <;> intro hc)) | refine awp_split rfl (fun hb => ?_) (fun hb => ?_) | refine zr ?_ | exact x_le)
          refine ⟨⟨by omega, hq.on e1 hdc⟩, hk2, ?_⟩
          rw [e5, show ((10 * m + (c.toNat - 48) : Nat) : Int) = (m : Int) * 10 + (c.toNat : Int) - 48 by omega]
          exact (by exact x_le)
        · have e6 := e6 h5
          repeat' (first | refine zt ?_ | (refine isR ?_; first | refine zo ?_ | refine zk hd ?_ | refine zA ?_ | refine zL ?_ | refine zc1 ?_ | refine zI ?_ | refine zB ?_ | (refine zs1 ?_ ?_ <;> intro hc)) | refine awp_split rfl (fun hb => ?_) (fun hb => ?_) | refine zr ?_ | exact x_le)
          refine ⟨⟨by omega, hq.on e1 hdc⟩, hk2, ?_⟩
          rw [e6]
          exact (by exact x_le)
      · simp only [Bool.not_eq_true] at hdc
        rw [hdc] at hd
        repeat' (first | refine zt ?_ | (refine isR ?_; first | refine zo ?_ | refine zk hd ?_ | refine zA ?_ | refine zL ?_ | refine zc1 ?_ | refine zI ?_ | refine zB ?_ | (refine zs1 ?_ ?_ <;> intro hc)) | refine awp_split rfl (fun hb => ?_) (fun hb => ?_) | refine zr ?_ | exact x_le)
        exact fin fun x hx => by rw [e1] at hx; cases hx; exact hdc
    · skip
      repeat' (first | refine zt ?_ | (refine isR ?_; first | refine zo ?_ | refine zA ?_ | refine zL ?_ | refine zc1 ?_ | refine zI ?_ | refine zB ?_ | (refine zs1 ?_ ?_ <;> intro hc)) | refine awp_split rfl (fun hb => ?_) (fun hb => ?_) | refine zr ?_ | exact x_le)
      exact fin fun x hx => by have := (List.getElem?_eq_some_iff.1 hx).1; omega
end Go.Proofs.Ytaojlikkaajpmaa.Lead
