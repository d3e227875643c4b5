/- Texts of the proof, joined: HostO, FnB, HostA, HostB, HostC, HostD. -/
import Derived.Test.YtpffdbplcgmilaaGreatDoorG10
import Derived.Lib.AtoiAll
import Derived.Lib.ItoaNum
import Derived.Test.YtpffdbplcgmilaaGreatDoorG9
import Derived.Test.YtpffdbplcgmilaaGreatDoorG8
import Derived.Test.YtpffdbplcgmilaaGreatDoorG7
section
namespace Go.Proofs.YtpffdbplcgmilaaGreatDoor.HostO
open WordP WordS HostP

def dig3 (n : Nat) : List UInt8 := if n < 10 then [UInt8.ofNat (48 + n)] else if n < 100 then [UInt8.ofNat (48 + n / 10), UInt8.ofNat (48 + n % 10)] else [UInt8.ofNat (48 + n / 100), UInt8.ofNat (48 + n / 10 % 10), UInt8.ofNat (48 + n % 10)]
theorem dec_dig3 {n : Nat} (h : n < 1000) : Lib.decDigits n = dig3 n := by
  unfold dig3
  split
  · exact Lib.decDigits_one (by assumption)
  · split
    · exact Lib.decDigits_two (by assumption) (by assumption)
    · rw [Lib.decDigits, dif_neg (by assumption), Lib.decDigits_two (by omega) (by omega)]
      simp only [List.cons_append, List.nil_append, Nat.div_div_eq_div_mul]
theorem oct_fin : ∀ n : Fin 256, octet (dig3 n.val) = true ∧ value (dig3 n.val) = n.val := by decide +kernel
theorem atoi_fin : ∀ n : Fin 256, Lib.parseMag (dig3 n.val) = .ok n.val ∧ (match dig3 n.val with | [] => false | c :: _ => decide (c.toNat ≠ 43) && decide (c.toNat ≠ 45)) = true := by decide +kernel
theorem atoi_dig3 {n : Nat} (h : n < 256) : Lib.atoiAll (dig3 n) = .ok (n : Int) := by
  obtain ⟨h1, h2⟩ := atoi_fin ⟨n, h⟩
  simp only at h1 h2
  revert h1 h2
  generalize dig3 n = l
  intro h1 h2
  cases l with
  | nil => cases h2
  | cons c r =>
    simp only [Bool.and_eq_true, decide_eq_true_eq] at h2
    unfold Lib.atoiAll
    simp only [h2.1, h2.2, or_self, if_false, h1]
    rw [if_neg (by omega), if_neg (by simp)]
theorem one_fin : ∀ a : Fin 10, octet [UInt8.ofNat (48 + a.val)] = true → [UInt8.ofNat (48 + a.val)] = dig3 (value [UInt8.ofNat (48 + a.val)]) := by decide +kernel
theorem two_fin : ∀ a b : Fin 10, octet [UInt8.ofNat (48 + a.val), UInt8.ofNat (48 + b.val)] = true → [UInt8.ofNat (48 + a.val), UInt8.ofNat (48 + b.val)] = dig3 (value [UInt8.ofNat (48 + a.val), UInt8.ofNat (48 + b.val)]) := by decide +kernel
theorem three_fin : ∀ a b c : Fin 10, octet [UInt8.ofNat (48 + a.val), UInt8.ofNat (48 + b.val), UInt8.ofNat (48 + c.val)] = true → [UInt8.ofNat (48 + a.val), UInt8.ofNat (48 + b.val), UInt8.ofNat (48 + c.val)] = dig3 (value [UInt8.ofNat (48 + a.val), UInt8.ofNat (48 + b.val), UInt8.ofNat (48 + c.val)]) := by decide +kernel
theorem dig_of {c : UInt8} (h : digB c = true) : ∃ a : Fin 10, c = UInt8.ofNat (48 + a.val) := by
  unfold digB at h
  simp only [Bool.and_eq_true, decide_eq_true_eq] at h
  refine ⟨⟨c.toNat - 48, by omega⟩, ?_⟩
  apply UInt8.toNat.inj
  rw [UInt8.toNat_ofNat_of_lt' (by have := c.toNat_lt; show 48 + (c.toNat - 48) < 256; omega)]
  show c.toNat = 48 + (c.toNat - 48)
  omega
theorem octet_parts {s : List UInt8} (h : octet s = true) : 1 ≤ s.length ∧ s.length ≤ 3 ∧ s.all digB = true ∧ value s ≤ 255 := by
  unfold octet at h
  simp only [Bool.and_eq_true, decide_eq_true_eq] at h
  exact ⟨h.1.1.1.1, h.1.1.1.2, h.1.1.2, h.1.2⟩
theorem octet_dig3 {s : List UInt8} (h : octet s = true) : s = dig3 (value s) := by
  obtain ⟨h1, h2, h3, _⟩ := octet_parts h
  match s, h1, h2 with
  | [a], _, _ =>
    simp at h3
    obtain ⟨a, rfl⟩ := dig_of h3
    exact one_fin a h
  | [a, b], _, _ =>
    simp at h3
    obtain ⟨a, rfl⟩ := dig_of h3.1
    obtain ⟨b, rfl⟩ := dig_of h3.2
    exact two_fin a b h
  | [a, b, c], _, _ =>
    simp at h3
    obtain ⟨a, rfl⟩ := dig_of h3.1
    obtain ⟨b, rfl⟩ := dig_of h3.2.1
    obtain ⟨c, rfl⟩ := dig_of h3.2.2
    exact three_fin a b c h
  | a :: b :: c :: d :: r, _, h => simp at h
/-- What strconv says of it. -/
theorem octet_iff (s : List UInt8) : octet s = true ↔ ∃ n : Int, Lib.atoiAll s = .ok n ∧ n ≤ 255 ∧ Lib.itoa n = s ∧ 0 ≤ n := by
  constructor
  · intro h
    have h1 := (octet_parts h).2.2.2
    have h2 := octet_dig3 h
    refine ⟨(value s : Nat), ?_, by omega, ?_, by omega⟩
    · have h3 := atoi_dig3 (n := value s) (by omega)
      rwa [← h2] at h3
    · unfold Lib.itoa
      rw [if_neg (by omega), Int.toNat_natCast, dec_dig3 (by omega), ← h2]
  · rintro ⟨n, h1, h2, h3, h4⟩
    obtain ⟨k, rfl⟩ := Int.eq_ofNat_of_zero_le h4
    unfold Lib.itoa at h3
    rw [if_neg (by omega), Int.toNat_natCast, dec_dig3 (by omega)] at h3
    rw [← h3]
    exact (oct_fin ⟨k, by omega⟩).1
/-! ### The digits that a text begins with -/
def lead (l : List UInt8) : List UInt8 := l.takeWhile digB
def leadN (l : List UInt8) : Nat := value ((lead l).take 5)
theorem snoc_ind {α : Type} {p : List α → Prop} (h0 : p []) (h1 : ∀ l b, p l → p (l ++ [b])) : ∀ l, p l := fun l => by
  have : ∀ r : List α, p r.reverse := fun r => by
    induction r with
    | nil => exact h0
    | cons b r ih => rw [List.reverse_cons]; exact h1 _ _ ih
  have h := this l.reverse
  rwa [List.reverse_reverse] at h
end Go.Proofs.YtpffdbplcgmilaaGreatDoor.HostO
end

section
namespace Go.Proofs.YtpffdbplcgmilaaGreatDoor.FnB
open Go.RowKit Mem Abs

set_option maxRecDepth 100000 in
set_option maxHeartbeats 4000000 in
theorem index_b {gl : Glob} {g : Nat} {caps : List V} {p : UInt8 → Bool} {l : List UInt8} (hg : hasBody Tryz.prog g = true) (hc : V.namesL caps = []) (hl : l.length ≤ LIM) (h : ∀ c ∈ l, ACallsG Tryz.prog gl g ([] ++ [byteT c] ++ caps) (.bool (p c))) : ACallsG Tryz.prog gl 197 [.fro (l.map byteT), .fn (.func g) [] caps] (.int .i64 (firstI p l)) := by
  refine funG2 tb_ok Tryz.func197 rfl Tryz.ntmps197 Tryz.results197 rfl fun N => ?_
  repeat' (first | refine zt ?_ | (refine isR ?_; first | refine zo ?_ | refine zA ?_ | refine zL ?_ | refine zc1 ?_ | refine zI ?_ | (refine zs1 ?_ ?_ <;> intro hc)) | refine awp_split rfl (fun hb => ?_) (fun hb => ?_) | refine zr ?_ | exact x_le)
  refine awp_for (fun k => ⟨[(0, .fro (l.map byteT)), (1, .fn (.func g) [] caps), (7, .int .i64 (l.map byteT).length), (8, .int .i64 (k : Int))], [], 0, 19⟩) (fun k => k ≤ l.length ∧ ∀ j y, j < k → l[j]? = some y → p y = false) l.length 0 ?_ ⟨Nat.zero_le _, fun j y h => absurd h (Nat.not_lt_zero _)⟩ ?_
  · exact (by exact x_le)
  · intro k ⟨hk, hp⟩
    simp only [LIM] at hl
    have e0 : ((l.map byteT).length : Int) = (l.length : Int) := by simp
    by_cases hk2 : k < l.length
    · have e1 : (l.map byteT)[k]? = some (byteT l[k]) := by simp [hk2]
      have h1 := h l[k] (List.getElem_mem hk2)
      repeat' (first | refine zt ?_ | (refine isR ?_; first | refine zo ?_ | refine r_splitB rfl rfl rfl (law_callv (vs := [_]) rfl (enters hg) (by rfl) h1 (by simp [V.namesL, V.names, hc])) (hT rfl (hT rfl Abs.h0)) (fun hb => ?_) (fun hb => ?_) | refine zA ?_ | refine zL ?_ | refine zc1 ?_ | refine zI ?_ | (refine zs1 ?_ ?_ <;> intro hc)) | refine awp_split rfl (fun hb => ?_) (fun hb => ?_) | refine zr ?_ | exact x_le)
      · show V.int .i64 _ = V.int .i64 _
        rw [firstI_at hp (List.getElem?_eq_getElem hk2) hb]
      · refine ⟨⟨by omega, fun j y hj hy => ?_⟩, by omega, ?_⟩
        · rcases Nat.lt_succ_iff_lt_or_eq.1 hj with h1 | rfl
          · exact hp j y h1 hy
          · rw [List.getElem?_eq_getElem hk2] at hy; cases hy; exact hb
        · exact (by exact x_le)
    · skip
      repeat' (first | refine zt ?_ | (refine isR ?_; first | refine zo ?_ | refine zA ?_ | refine zL ?_ | refine zc1 ?_ | refine zI ?_ | (refine zs1 ?_ ?_ <;> intro hc)) | refine awp_split rfl (fun hb => ?_) (fun hb => ?_) | refine zr ?_ | exact x_le)
      show V.int .i64 _ = V.int .i64 _
      rw [firstI_none fun x hx => ?_]
      obtain ⟨i, hi⟩ := List.mem_iff_getElem?.1 hx
      exact hp i x (by have := (List.getElem?_eq_some_iff.1 hi).1; omega) hi
set_option maxRecDepth 100000 in
set_option maxHeartbeats 4000000 in
theorem contains_b {gl : Glob} {g : Nat} {caps : List V} {p : UInt8 → Bool} {l : List UInt8} (hg : hasBody Tryz.prog g = true) (hc : V.namesL caps = []) (hl : l.length ≤ LIM) (h : ∀ c ∈ l, ACallsG Tryz.prog gl g ([] ++ [byteT c] ++ caps) (.bool (p c))) : ACallsG Tryz.prog gl 153 [.fro (l.map byteT), .fn (.func g) [] caps] (.bool (l.any p)) := by
  have hi := index_b hg hc hl h
  have hn : V.namesL [.fro (l.map byteT), .fn (.func g) [] caps] = [] := by simp [V.namesL, V.names, hc]
  refine funG2 tb_ok Tryz.func153 rfl Tryz.ntmps153 Tryz.results153 rfl fun N => ?_
  repeat' (first | refine zt ?_ | (refine isR ?_; first | refine zo ?_ | refine zc4 ?_ | (refine zs4 ?_ ?_ <;> intro hc)) | refine awp_split rfl (fun hb => ?_) (fun hb => ?_) | refine zr ?_ | exact x_le)
  refine r_val rfl rfl rfl (law_call rfl (enters (by kernel_rfl)) (by rfl) hi hn) (hT rfl (hT rfl Abs.h0)) ?_
  repeat' (first | refine zt ?_ | (refine isR ?_; first | refine zo ?_ | refine zc4 ?_ | (refine zs4 ?_ ?_ <;> intro hc)) | refine awp_split rfl (fun hb => ?_) (fun hb => ?_) | refine zr ?_ | exact x_le)
  · show V.bool _ = V.bool _
    rw [firstI_ge.1 (by assumption)]
  · show V.bool _ = V.bool _
    have : ¬ (l.any p = true) := fun h => by have := firstI_ge.2 h; contradiction
    simp only [Bool.not_eq_true] at this
    rw [this]
end Go.Proofs.YtpffdbplcgmilaaGreatDoor.FnB
end

section
namespace Go.Proofs.YtpffdbplcgmilaaGreatDoor.HostA
open Go.RowKit Mem Abs HostP

set_option maxRecDepth 100000 in
set_option maxHeartbeats 4000000 in
theorem outer_v {c : UInt8} : ACalls Tryz.prog 152 [byteT c] (.bool (outerB c)) := by
  refine fun1 tb_ok Tryz.func152 rfl Tryz.ntmps152 Tryz.results152 rfl fun N => ?_
  repeat' (first | refine zt ?_ | (refine isR ?_; first | refine zo ?_ | refine zc2 ?_ | refine zc4 ?_ | (refine zs2 ?_ ?_ <;> intro hc) | (refine zs4 ?_ ?_ <;> intro hc)) | refine awp_split rfl (fun hb => ?_) (fun hb => ?_) | refine zr ?_ | exact x_le)
  all_goals (show V.bool _ = V.bool _; congr 1; unfold outerB digB; simp; omega)
abbrev outerT : Abs.V := .fn (.func 152) [] []
set_option maxRecDepth 100000 in
set_option maxHeartbeats 4000000 in
theorem inner_v {c : UInt8} : ACalls Tryz.prog 154 [byteT c, .fp [outerT] 0] (.bool (!hostB c)) := by
  refine fun2 tb_ok Tryz.func154 rfl Tryz.ntmps154 Tryz.results154 rfl fun N => ?_
  have h1 := outer_v (c := c)
  repeat' (first | refine zt ?_ | (refine isR ?_; first | refine zo ?_ | refine x_callvS (h1 _) (fun hb => ?_) (fun hb => ?_) | refine x_callvS (h1) (fun hb => ?_) (fun hb => ?_) | refine zc6 ?_ | (refine zs6 ?_ ?_ <;> intro hc)) | refine awp_split rfl (fun hb => ?_) (fun hb => ?_) | refine zr ?_ | exact x_le)
  all_goals (show V.bool _ = V.bool _; congr 1; unfold hostB; simp [*])
  all_goals omega
theorem str_lim {l : List UInt8} {r : List Abs.V} (h : V.LimL (strT l :: r)) : l.length ≤ 4611686018427387904 ∧ V.LimL r := by
  have := h.1
  rw [V.Lim, str_size] at this
  exact ⟨this, h.2⟩
set_option maxRecDepth 100000 in
set_option maxHeartbeats 4000000 in
theorem label_v {l : List UInt8} : ACalls Tryz.prog 119 [strT l] (.bool (label l)) := ACalls.lim fun hl => by
  obtain ⟨hl, _⟩ := str_lim hl
  refine fun1 tb_ok Tryz.func119 rfl Tryz.ntmps119 Tryz.results119 rfl fun N => ?_
  by_cases h0 : l = []
  · subst h0
    repeat' (first | refine zt ?_ | (refine isR ?_; first | refine zo ?_ | refine zA ?_ | refine zL ?_ | refine zc3 ?_ | refine zc5 ?_ | refine zI ?_ | refine zB ?_ | (refine zs3 ?_ ?_ <;> intro hc) | (refine zs5 ?_ ?_ <;> intro hc)) | refine awp_split rfl (fun hb => ?_) (fun hb => ?_) | refine zr ?_ | exact x_le)
    rfl
  · have hp : 0 < l.length := List.length_pos_iff.2 h0
    have h1 : l[(0 : Int).toNat]? = some (l[0]) := by simp
    have h2 : l[((l.length : Int) - 1).toNat]? = some (l[l.length - 1]) := by
      rw [show ((l.length : Int) - 1).toNat = l.length - 1 by omega]; simp
    have e1 : l.getD 0 0 = l[0] := by rw [List.getD_eq_getElem?_getD, List.getElem?_eq_getElem hp]; rfl
    have e2 : l.getD (l.length - 1) 0 = l[l.length - 1] := by rw [List.getD_eq_getElem?_getD, List.getElem?_eq_getElem (by omega)]; rfl
    generalize l[0] = a at h1 e1
    generalize l[l.length - 1] = b at h2 e2
    have c1 := outer_v (c := a)
    have c2 := outer_v (c := b)
    by_cases hm : 63 < l.length
    · skip
      repeat' (first | refine zt ?_ | (refine isR ?_; first | refine zo ?_ | refine zA ?_ | refine zL ?_ | refine zc3 ?_ | refine zc5 ?_ | refine zI ?_ | refine zB ?_ | (refine zs3 ?_ ?_ <;> intro hc) | (refine zs5 ?_ ?_ <;> intro hc)) | refine awp_split rfl (fun hb => ?_) (fun hb => ?_) | refine zr ?_ | exact x_le)
      show V.bool _ = V.bool _
      congr 1; unfold label; simp; intros; omega
    · have c3 := fun gl => FnB.contains_b (gl := gl) (g := 154) (caps := [.fp [outerT] 0]) (p := fun c => !hostB c) (l := l) (by kernel_rfl) rfl (by simp only [LIM]; omega) (fun c _ => inner_v gl)
      repeat' (first | refine zt ?_ | (refine isR ?_; first | refine zo ?_ | refine x_callvS (c1 _) (fun hb => ?_) (fun hb => ?_) | refine x_callvS (c1) (fun hb => ?_) (fun hb => ?_) | refine x_callvS (c2 _) (fun hb => ?_) (fun hb => ?_) | refine x_callvS (c2) (fun hb => ?_) (fun hb => ?_) | refine x_callzS [0] (c3 _) (fun hb => ?_) (fun hb => ?_) | refine x_callzS [0] (c3) (fun hb => ?_) (fun hb => ?_) | refine zA ?_ | refine zL ?_ | refine zc3 ?_ | refine zc5 ?_ | refine zI ?_ | refine zB ?_ | (refine zs3 ?_ ?_ <;> intro hc) | (refine zs5 ?_ ?_ <;> intro hc)) | refine awp_split rfl (fun hb => ?_) (fun hb => ?_) | refine zr ?_ | exact x_le)
      all_goals
        show V.bool _ = V.bool _
        congr 1; unfold label; rw [e1, e2]
        have hq : l.length ≤ 63 := by omega
        simp_all
end Go.Proofs.YtpffdbplcgmilaaGreatDoor.HostA
end

section
namespace Go.Proofs.YtpffdbplcgmilaaGreatDoor.HostB
open Go.RowKit Mem Abs HostP HostA TreeW WordP WordS

abbrev pairT (p : List UInt8 × Nat) : Abs.V := .tup [strT p.1, .int .i64 ((p.2 : Nat) : Int)]
set_option maxRecDepth 100000 in
set_option maxHeartbeats 4000000 in
theorem canon_v {l : List UInt8} : ACalls Tryz.prog 92 [strT l] (pairT (canonF l)) := ACalls.lim fun hl => by
  obtain ⟨hl, _⟩ := TreeW.str_lim hl
  have c1 := fold_v (l := l)
  refine fun1 tb_ok Tryz.func92 rfl Tryz.ntmps92 Tryz.results92 rfl fun N => ?_
  by_cases h0 : 253 < l.length
  · skip
    repeat' (first | refine zt ?_ | (refine isR ?_; first | refine zo ?_ | refine zA ?_ | refine zL ?_ | refine zc1 ?_ | refine zc3 ?_ | refine zI ?_ | (refine zs1 ?_ ?_ <;> intro hc) | (refine zs3 ?_ ?_ <;> intro hc)) | refine awp_split rfl (fun hb => ?_) (fun hb => ?_) | refine zr ?_ | exact x_le)
    unfold canonF; rw [if_pos h0]; rfl
  · obtain ⟨m, hm⟩ : ∃ m, fold l = m := ⟨_, rfl⟩
    have hml : m.length = l.length := by rw [← hm, fold_len]
    have c2 : ACalls _ _ [strT m, .int .u8 46] _ := parts_v (l := m) (u := 46) (by omega)
    have hs := split_len 46 m
    have es : canonF l = if (split 46 m).all label then (m, 0) else ([], 1) := by unfold canonF; rw [if_neg h0, hm]
    rw [es]
    rw [hm] at c1
    clear es hm
    generalize split 46 m = xs at *
    have hx : ((xs.map strT).length : Int) = (xs.length : Int) := by simp
    repeat' (first | refine zt ?_ | (refine isR ?_; first | refine zo ?_ | refine zk c1 ?_ | refine zk c2 ?_ | refine zA ?_ | refine zL ?_ | refine zc1 ?_ | refine zc3 ?_ | refine zI ?_ | (refine zs1 ?_ ?_ <;> intro hc) | (refine zs3 ?_ ?_ <;> intro hc)) | refine awp_split rfl (fun hb => ?_) (fun hb => ?_) | refine zr ?_ | exact x_le)
    refine awp_for (fun k => ⟨[(0, strT m), (12, strsT xs), (13, .int .i64 (xs.map strT).length), (14, .int .i64 (k : Int))], [], 0, 23⟩) (fun k => k ≤ xs.length ∧ Upto label xs k) xs.length 0 (by exact x_le) ⟨Nat.zero_le _, upto0⟩ ?_
    intro k ⟨hk, hq⟩
    by_cases hk2 : k < xs.length
    · have e1 : (xs.map strT)[k]? = some (strT xs[k]) := by simp [hk2]
      have e2 : xs[k]? = some xs[k] := by simp [hk2]
      generalize xs[k] = x at e1 e2
      have c3 := label_v (l := x)
      repeat' (first | refine zt ?_ | (refine isR ?_; first | refine zo ?_ | refine x_callS (c3 _) (fun hb => ?_) (fun hb => ?_) | refine x_callS (c3) (fun hb => ?_) (fun hb => ?_) | refine zA ?_ | refine zL ?_ | refine zc1 ?_ | refine zc3 ?_ | refine zI ?_ | (refine zs1 ?_ ?_ <;> intro hc) | (refine zs3 ?_ ?_ <;> intro hc)) | refine awp_split rfl (fun hb => ?_) (fun hb => ?_) | refine zr ?_ | exact x_le)
      · exact ⟨⟨by omega, hq.on e2 (by assumption)⟩, by omega, (by exact x_le)⟩
      · rw [all_no e2 (by assumption)]; rfl
    · skip
      repeat' (first | refine zt ?_ | (refine isR ?_; first | refine zo ?_ | refine zA ?_ | refine zL ?_ | refine zc1 ?_ | refine zc3 ?_ | refine zI ?_ | (refine zs1 ?_ ?_ <;> intro hc) | (refine zs3 ?_ ?_ <;> intro hc)) | refine awp_split rfl (fun hb => ?_) (fun hb => ?_) | refine zr ?_ | exact x_le)
      rw [hq.all hk2]; rfl
end Go.Proofs.YtpffdbplcgmilaaGreatDoor.HostB
end

section
namespace Go.Proofs.YtpffdbplcgmilaaGreatDoor.HostC
open Go.RowKit Mem Abs HostP HostO HostA HostB TreeW WordP WordS Globs

abbrev pairN (a b : Nat) : Abs.V := .tup [.int .i64 (a : Int), .int .i64 (b : Int)]
theorem atoiF_ok {x : List UInt8} {n : Int} (h : Lib.atoiAll x = .ok n) : atoiF x = (n, true) := by unfold atoiF; rw [h]
theorem atoiF_no {x : List UInt8} (h : ∀ n, Lib.atoiAll x ≠ .ok n) : (atoiF x).2 = false := by
  unfold atoiF
  rcases he : Lib.atoiAll x with n | _ | _
  · exact absurd he (h n)
  · rfl
  · rfl
set_option maxRecDepth 100000 in
set_option maxHeartbeats 4000000 in
theorem address_v {l : List UInt8} (hl : l.length ≤ 4398046511104) : ACallsG Tryz.prog gStr 71 [strT l] (.bool (address l)) := by
  have c1 : ACalls _ _ [strT l, .int .u8 46] _ := parts_v (l := l) (u := 46) hl
  have hs := split_len 46 l
  have hin := split_in (u := 46) (l := l) (fun _ _ => trivial)
  have ea : address l = (decide ((split 46 l).length = 4) && (split 46 l).all octet) := rfl
  rw [ea]
  generalize split 46 l = xs at *
  clear ea
  have hx : ((xs.map strT).length : Int) = (xs.length : Int) := by simp
  refine funG1 tb_ok Tryz.func71 rfl Tryz.ntmps71 Tryz.results71 rfl fun N => ?_
  by_cases h4 : xs.length = 4
  · simp only [h4, decide_true, Bool.true_and]
    repeat' (first | refine zt ?_ | (refine isR ?_; first | refine zo ?_ | refine zk c1 ?_ | refine zA ?_ | refine zL ?_ | refine zc1 ?_ | refine zc3 ?_ | refine zc6 ?_ | refine zI ?_ | (refine zs1 ?_ ?_ <;> intro hc) | (refine zs3 ?_ ?_ <;> intro hc) | (refine zs6 ?_ ?_ <;> intro hc)) | refine awp_split rfl (fun hb => ?_) (fun hb => ?_) | refine zr ?_ | exact x_le)
    refine awp_for (fun k => ⟨[(0, strT l), (13, strsT xs), (14, .int .i64 (xs.map strT).length), (15, .int .i64 (k : Int))], [], 0, 41⟩) (fun k => k ≤ xs.length ∧ Upto octet xs k) xs.length 0 (by exact x_le) ⟨Nat.zero_le _, upto0⟩ ?_
    intro k ⟨hk, hq⟩
    by_cases hk2 : k < xs.length
    · have e1 : (xs.map strT)[k]? = some (strT xs[k]) := by simp [hk2]
      have e2 : xs[k]? = some xs[k] := by simp [hk2]
      generalize xs[k] = x at e1 e2
      have hxl := hin x (List.mem_of_getElem? e2)
      have a1 := atoi_v (l := x) (by omega)
      by_cases ho : octet x = true
      · obtain ⟨n, n1, n2, n3, n4⟩ := (octet_iff x).1 ho
        rw [atoiF_ok n1] at a1
        dsimp only [errT] at a1
        have a2 := itoa_v (n := n)
        unfold digits at a2
        rw [n3] at a2
        repeat' (first | refine zt ?_ | (refine isR ?_; first | refine zo ?_ | refine zk a1 ?_ | refine zk a2 ?_ | refine zA ?_ | refine zL ?_ | refine zc1 ?_ | refine zc3 ?_ | refine zc6 ?_ | refine zI ?_ | (refine zs1 ?_ ?_ <;> intro hc) | (refine zs3 ?_ ?_ <;> intro hc) | (refine zs6 ?_ ?_ <;> intro hc)) | refine awp_split rfl (fun hb => ?_) (fun hb => ?_) | refine zr ?_ | exact x_le)
        exact ⟨⟨by omega, hq.on e2 ho⟩, hk2, (by exact x_le)⟩
      · have hall := all_no e2 (p := octet) (by simpa using ho)
        rw [hall]
        by_cases hn : ∃ n, Lib.atoiAll x = .ok n
        · obtain ⟨n, n1⟩ := hn
          rw [atoiF_ok n1] at a1
          dsimp only [errT] at a1
          have a2 := itoa_v (n := n)
          unfold digits at a2
          by_cases n2 : n ≤ 255
          · by_cases n3 : Lib.itoa n = x
            · rw [n3] at a2
              have n4 : n < 0 := by
                rcases Int.lt_or_le n 0 with h | h
                · exact h
                · exact absurd ((octet_iff x).2 ⟨n, n1, n2, n3, h⟩) ho
              repeat' (first | refine zt ?_ | (refine isR ?_; first | refine zo ?_ | refine zk a1 ?_ | refine zk a2 ?_ | refine zA ?_ | refine zL ?_ | refine zc1 ?_ | refine zc3 ?_ | refine zc6 ?_ | refine zI ?_ | (refine zs1 ?_ ?_ <;> intro hc) | (refine zs3 ?_ ?_ <;> intro hc) | (refine zs6 ?_ ?_ <;> intro hc)) | refine awp_split rfl (fun hb => ?_) (fun hb => ?_) | refine zr ?_ | exact x_le)
              rfl
            · skip
              repeat' (first | refine zt ?_ | (refine isR ?_; first | refine zo ?_ | refine zk a1 ?_ | refine zk a2 ?_ | refine zA ?_ | refine zL ?_ | refine zc1 ?_ | refine zc3 ?_ | refine zc6 ?_ | refine zI ?_ | (refine zs1 ?_ ?_ <;> intro hc) | (refine zs3 ?_ ?_ <;> intro hc) | (refine zs6 ?_ ?_ <;> intro hc)) | refine awp_split rfl (fun hb => ?_) (fun hb => ?_) | refine zr ?_ | exact x_le)
              rfl
          · skip
            repeat' (first | refine zt ?_ | (refine isR ?_; first | refine zo ?_ | refine zk a1 ?_ | refine zk a2 ?_ | refine zA ?_ | refine zL ?_ | refine zc1 ?_ | refine zc3 ?_ | refine zc6 ?_ | refine zI ?_ | (refine zs1 ?_ ?_ <;> intro hc) | (refine zs3 ?_ ?_ <;> intro hc) | (refine zs6 ?_ ?_ <;> intro hc)) | refine awp_split rfl (fun hb => ?_) (fun hb => ?_) | refine zr ?_ | exact x_le)
            rfl
        · have a0 := atoiF_no fun n h => hn ⟨n, h⟩
          rw [a0] at a1
          dsimp only [errT] at a1
          repeat' (first | refine zt ?_ | (refine isR ?_; first | refine zo ?_ | refine zk a1 ?_ | refine zA ?_ | refine zL ?_ | refine zc1 ?_ | refine zc3 ?_ | refine zc6 ?_ | refine zI ?_ | (refine zs1 ?_ ?_ <;> intro hc) | (refine zs3 ?_ ?_ <;> intro hc) | (refine zs6 ?_ ?_ <;> intro hc)) | refine awp_split rfl (fun hb => ?_) (fun hb => ?_) | refine zr ?_ | exact x_le)
          rfl
    · skip
      repeat' (first | refine zt ?_ | (refine isR ?_; first | refine zo ?_ | refine zA ?_ | refine zL ?_ | refine zc1 ?_ | refine zc3 ?_ | refine zc6 ?_ | refine zI ?_ | (refine zs1 ?_ ?_ <;> intro hc) | (refine zs3 ?_ ?_ <;> intro hc) | (refine zs6 ?_ ?_ <;> intro hc)) | refine awp_split rfl (fun hb => ?_) (fun hb => ?_) | refine zr ?_ | exact x_le)
      rw [hq.all hk2]; rfl
  · simp only [h4, decide_false, Bool.false_and]
    repeat' (first | refine zt ?_ | (refine isR ?_; first | refine zo ?_ | refine zk c1 ?_ | refine zA ?_ | refine zL ?_ | refine zc1 ?_ | refine zc3 ?_ | refine zc6 ?_ | refine zI ?_ | (refine zs1 ?_ ?_ <;> intro hc) | (refine zs3 ?_ ?_ <;> intro hc) | (refine zs6 ?_ ?_ <;> intro hc)) | refine awp_split rfl (fun hb => ?_) (fun hb => ?_) | refine zr ?_ | exact x_le)
    rfl
theorem hasSuffix_v {l m : List UInt8} : ACalls Tryz.prog 100 [strT l, strT m] (.bool (endsB l m)) := fun g N w vs hG hN hlen hv => by
  obtain ⟨vs⟩ := vs
  match vs, hlen with
  | [x0, x1], _ =>
    obtain ⟨rfl, h0⟩ := fz_str (hv 0 _ x0 rfl rfl)
    obtain ⟨rfl, h1⟩ := fz_str (hv 1 _ x1 rfl rfl)
    simp only [SLIM] at h0
    refine (Tryz.strings_HasSuffix (str l) (str m) w (by omega)).mono fun e w' ⟨h2, h3⟩ => ⟨_, h2, by rw [h3]; exact Below.refl _ _, ?_⟩
    have : Lib.hasSuffix (str l).data.toList (str m).data.toList = endsB l m := by
      rw [str_toList, str_toList, Bool.eq_iff_iff, endsB_iff]
      unfold Lib.hasSuffix
      rw [List.isSuffixOf_iff_suffix]
      exact ⟨fun ⟨x, hx⟩ => ⟨x, hx.symm⟩, fun ⟨x, hx⟩ => ⟨x, hx.symm⟩⟩
    rw [this]; exact .bool
set_option maxRecDepth 100000 in
set_option maxHeartbeats 4000000 in
theorem match_v {l m : List UInt8} (hl : l.length ≤ 4398046511104) (hm : m.length ≤ 140737488355327) : ACallsG Tryz.prog gStr 65 [strT l, strT m] (.bool (matchF l m)) := by
  have c1 := address_v hl
  have c2 := hasSuffix_v (l := l) (m := [46] ++ m)
  have em : matchF l m = (l == m || (!address l && endsB l ([46] ++ m))) := rfl
  rw [em]
  refine funG2 tb_ok Tryz.func65 rfl Tryz.ntmps65 Tryz.results65 rfl fun N => ?_
  repeat' (first | refine zt ?_ | (refine isR ?_; first | refine zo ?_ | refine x_callS (c1 _) (fun hb => ?_) (fun hb => ?_) | refine x_callS (c1) (fun hb => ?_) (fun hb => ?_) | refine x_callS (c2 _) (fun hb => ?_) (fun hb => ?_) | refine x_callS (c2) (fun hb => ?_) (fun hb => ?_) | refine zA ?_ | refine zc5 ?_ | (refine zs5 ?_ ?_ <;> intro hc)) | refine awp_split rfl (fun hb => ?_) (fun hb => ?_) | refine zr ?_ | exact x_le)
  all_goals (show V.bool _ = V.bool _; simp_all)
end Go.Proofs.YtpffdbplcgmilaaGreatDoor.HostC
end

section
namespace Go.Proofs.YtpffdbplcgmilaaGreatDoor.HostD
open Go.RowKit Mem Abs HostP HostO HostA HostB HostC TreeW WordP WordS Globs

/-- The ends behind the dots among the first k. -/
def behind (l : List UInt8) (k : Nat) : List (List UInt8) := ((List.range k).filter fun i => l[i]? == some 46).map fun i => l.drop (i + 1)
end Go.Proofs.YtpffdbplcgmilaaGreatDoor.HostD
end
