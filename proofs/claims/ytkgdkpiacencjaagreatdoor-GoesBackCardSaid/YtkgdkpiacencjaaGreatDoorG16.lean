/- Texts of the proof, joined: HostC, HostD, HostE, HostF, HostG. -/
import Derived.Test.YtkgdkpiacencjaaGreatDoorG9
import Derived.Test.YtkgdkpiacencjaaGreatDoorG15
import Derived.Test.YtkgdkpiacencjaaGreatDoorG11
section
namespace Go.Proofs.YtkgdkpiacencjaaGreatDoor.HostC
open Go.RowKit Mem Abs HostP HostO HostA HostB TreeW WordP WordS Globs

theorem lead_at {l : List UInt8} {k : Nat} (hk : k ≤ l.length) (h : Upto digB l k) (he : ∀ c, l[k]? = some c → digB c = false) : lead l = l.take k := by
  induction l generalizing k with
  | nil => simp [lead]
  | cons c r ih =>
    unfold lead
    cases k with
    | zero =>
      rw [List.takeWhile_cons, if_neg (by rw [he c rfl]; simp)]
      rfl
    | succ k =>
      rw [List.takeWhile_cons, if_pos (h 0 c (by omega) rfl), List.take_succ_cons]
      congr 1
      exact ih (by simpa using hk) (fun j y hj hy => h (j + 1) y (by omega) (by simpa using hy)) (fun x hx => he x (by simpa using hx))
theorem value5 {l : List UInt8} {k : Nat} {c : UInt8} (h : l[k]? = some c) (hk : k < 5) : value ((l.take (k + 1)).take 5) = 10 * value ((l.take k).take 5) + (c.toNat - 48) := by
  have hl := (List.getElem?_eq_some_iff.1 h)
  rw [List.take_take, List.take_take, Nat.min_eq_right (by omega), Nat.min_eq_right (by omega), List.take_succ_eq_append_getElem hl.1, value_snoc, hl.2]
theorem value5_on {l : List UInt8} {k : Nat} (hk : ¬ k < 5) : value ((l.take (k + 1)).take 5) = value ((l.take k).take 5) := by
  rw [List.take_take, List.take_take, Nat.min_eq_left (by omega), Nat.min_eq_left (by omega)]
theorem upto_take {l : List UInt8} {k : Nat} (h : Upto digB l k) : (l.take k).all digB = true := List.all_eq_true.2 fun x hx => by
  obtain ⟨i, hi⟩ := List.mem_iff_getElem?.1 hx
  rw [List.getElem?_take] at hi
  split at hi
  · exact h i x (by assumption) hi
  · cases hi
theorem value5_le {l : List UInt8} {k : Nat} (h : Upto digB l k) : value ((l.take k).take 5) < 100000 := by
  have h1 := upto_take h
  have h2 : ((l.take k).take 5).all digB = true := List.all_eq_true.2 fun x hx => List.all_eq_true.1 h1 x (List.mem_of_mem_take hx)
  have h3 := value_le _ h2
  have h4 : ((l.take k).take 5).length ≤ 5 := by simp; omega
  have h5 : 10 ^ ((l.take k).take 5).length ≤ 10 ^ 5 := Nat.pow_le_pow_right (by decide) h4
  omega
theorem dig_nat {c : UInt8} (h : digB c = true) : 48 ≤ c.toNat ∧ c.toNat ≤ 57 := by
  unfold digB at h
  simpa using h
abbrev pairN (a b : Nat) : Abs.V := .tup [.int .i64 (a : Int), .int .i64 (b : Int)]
set_option maxRecDepth 100000 in
set_option maxHeartbeats 4000000 in
theorem leadDigits_v {l : List UInt8} : ACalls Tryz.prog 89 [strT l] (pairN (lead l).length (leadN l)) := ACalls.lim fun hl => by
  obtain ⟨hl, _⟩ := TreeW.str_lim hl
  refine fun1 tb_ok Tryz.func89 rfl Tryz.ntmps89 Tryz.results89 rfl fun N => ?_
  repeat' (first | refine zt ?_ | (refine isR ?_; first | refine zo ?_ | refine zA ?_ | refine zL ?_ | refine zc1 ?_ | refine zI ?_ | refine zB ?_ | (refine zs1 ?_ ?_ <;> intro hc)) | refine awp_split rfl (fun hb => ?_) (fun hb => ?_) | refine zr ?_ | exact x_le)
  refine awp_for (fun k => ⟨[(0, strT l), (4, .int .i64 (k : Int)), (5, .int .i64 ((value ((l.take k).take 5) : Nat) : Int))], [], 0, 30⟩) (fun k => k ≤ l.length ∧ Upto digB l k) l.length 0 ?_ ⟨Nat.zero_le _, upto0⟩ ?_
  · have e : value ((l.take 0).take 5) = 0 := rfl
    rw [e]
    exact (by exact x_le)
  · intro k ⟨hk, hq⟩
    have hv := value5_le hq
    have fin : (∀ c, l[k]? = some c → digB c = false) → pairN k (value ((l.take k).take 5)) = pairN (lead l).length (leadN l) := fun he => by
      unfold leadN
      rw [lead_at hk hq he, List.length_take, Nat.min_eq_left hk]
    by_cases hk2 : k < l.length
    · have e1 : l[k]? = some l[k] := by simp [hk2]
      generalize l[k] = c at e1
      have hd := isDigit_v (c := c)
      have hc := c.toNat_lt
      by_cases hdc : digB c = true
      · rw [hdc] at hd
        have hn := dig_nat hdc
        have e5 := value5 e1
        have e6 := value5_on (l := l) (k := k)
        generalize hm : value ((l.take k).take 5) = m at *
        by_cases h5 : k < 5
        · have e5 := e5 h5
          repeat' (first | refine zt ?_ | (refine isR ?_; first | refine zo ?_ | refine zk hd ?_ | refine zA ?_ | refine zL ?_ | refine zc1 ?_ | refine zI ?_ | refine zB ?_ | (refine zs1 ?_ ?_ <;> intro hc)) | refine awp_split rfl (fun hb => ?_) (fun hb => ?_) | refine zr ?_ | exact x_le)
          refine ⟨⟨by omega, hq.on e1 hdc⟩, hk2, ?_⟩
          rw [e5, show ((10 * m + (c.toNat - 48) : Nat) : Int) = (m : Int) * 10 + (c.toNat : Int) - 48 by omega]
          exact (by exact x_le)
        · have e6 := e6 h5
          repeat' (first | refine zt ?_ | (refine isR ?_; first | refine zo ?_ | refine zk hd ?_ | refine zA ?_ | refine zL ?_ | refine zc1 ?_ | refine zI ?_ | refine zB ?_ | (refine zs1 ?_ ?_ <;> intro hc)) | refine awp_split rfl (fun hb => ?_) (fun hb => ?_) | refine zr ?_ | exact x_le)
          refine ⟨⟨by omega, hq.on e1 hdc⟩, hk2, ?_⟩
          rw [e6]
          exact (by exact x_le)
      · simp only [Bool.not_eq_true] at hdc
        rw [hdc] at hd
        repeat' (first | refine zt ?_ | (refine isR ?_; first | refine zo ?_ | refine zk hd ?_ | refine zA ?_ | refine zL ?_ | refine zc1 ?_ | refine zI ?_ | refine zB ?_ | (refine zs1 ?_ ?_ <;> intro hc)) | refine awp_split rfl (fun hb => ?_) (fun hb => ?_) | refine zr ?_ | exact x_le)
        exact fin fun x hx => by rw [e1] at hx; cases hx; exact hdc
    · skip
      repeat' (first | refine zt ?_ | (refine isR ?_; first | refine zo ?_ | refine zA ?_ | refine zL ?_ | refine zc1 ?_ | refine zI ?_ | refine zB ?_ | (refine zs1 ?_ ?_ <;> intro hc)) | refine awp_split rfl (fun hb => ?_) (fun hb => ?_) | refine zr ?_ | exact x_le)
      exact fin fun x hx => by have := (List.getElem?_eq_some_iff.1 hx).1; omega
theorem atoiF_ok {x : List UInt8} {n : Int} (h : Lib.atoiAll x = .ok n) : atoiF x = (n, true) := by unfold atoiF; rw [h]
theorem atoiF_no {x : List UInt8} (h : ∀ n, Lib.atoiAll x ≠ .ok n) : (atoiF x).2 = false := by
  unfold atoiF
  rcases he : Lib.atoiAll x with n | _ | _
  · exact absurd he (h n)
  · rfl
  · rfl
set_option maxRecDepth 100000 in
set_option maxHeartbeats 4000000 in
theorem address_v {l : List UInt8} (hl : l.length ≤ 4398046511104) : ACallsG Tryz.prog gStr 61 [strT l] (.bool (address l)) := by
  have c1 : ACalls _ _ [strT l, .int .u8 46] _ := parts_v (l := l) (u := 46) hl
  have hs := split_len 46 l
  have hin := split_in (u := 46) (l := l) (fun _ _ => trivial)
  have ea : address l = (decide ((split 46 l).length = 4) && (split 46 l).all octet) := rfl
  rw [ea]
  generalize split 46 l = xs at *
  clear ea
  have hx : ((xs.map strT).length : Int) = (xs.length : Int) := by simp
  refine funG1 tb_ok Tryz.func61 rfl Tryz.ntmps61 Tryz.results61 rfl fun N => ?_
  by_cases h4 : xs.length = 4
  · simp only [h4, decide_true, Bool.true_and]
    repeat' (first | refine zt ?_ | (refine isR ?_; first | refine zo ?_ | refine zk c1 ?_ | refine zA ?_ | refine zL ?_ | refine zc1 ?_ | refine zc3 ?_ | refine zc6 ?_ | refine zI ?_ | (refine zs1 ?_ ?_ <;> intro hc) | (refine zs3 ?_ ?_ <;> intro hc) | (refine zs6 ?_ ?_ <;> intro hc)) | refine awp_split rfl (fun hb => ?_) (fun hb => ?_) | refine zr ?_ | exact x_le)
    refine awp_for (fun k => ⟨[(0, strT l), (13, strsT xs), (14, .int .i64 (xs.map strT).length), (15, .int .i64 (k : Int))], [], 0, 41⟩) (fun k => k ≤ xs.length ∧ Upto octet xs k) xs.length 0 (by exact x_le) ⟨Nat.zero_le _, upto0⟩ ?_
    intro k ⟨hk, hq⟩
    by_cases hk2 : k < xs.length
    · have e1 : (xs.map strT)[k]? = some (strT xs[k]) := by simp [hk2]
      have e2 : xs[k]? = some xs[k] := by simp [hk2]
      generalize xs[k] = x at e1 e2
      have hxl := hin x (List.mem_of_getElem? e2)
      have a1 := atoi_v (l := x) (by omega)
      by_cases ho : octet x = true
      · obtain ⟨n, n1, n2, n3, n4⟩ := (octet_iff x).1 ho
        rw [atoiF_ok n1] at a1
        dsimp only [errT] at a1
        have a2 := itoa_v (n := n)
        unfold digits at a2
        rw [n3] at a2
        repeat' (first | refine zt ?_ | (refine isR ?_; first | refine zo ?_ | refine zk a1 ?_ | refine zk a2 ?_ | refine zA ?_ | refine zL ?_ | refine zc1 ?_ | refine zc3 ?_ | refine zc6 ?_ | refine zI ?_ | (refine zs1 ?_ ?_ <;> intro hc) | (refine zs3 ?_ ?_ <;> intro hc) | (refine zs6 ?_ ?_ <;> intro hc)) | refine awp_split rfl (fun hb => ?_) (fun hb => ?_) | refine zr ?_ | exact x_le)
        exact ⟨⟨by omega, hq.on e2 ho⟩, hk2, (by exact x_le)⟩
      · have hall := all_no e2 (p := octet) (by simpa using ho)
        rw [hall]
        by_cases hn : ∃ n, Lib.atoiAll x = .ok n
        · obtain ⟨n, n1⟩ := hn
          rw [atoiF_ok n1] at a1
          dsimp only [errT] at a1
          have a2 := itoa_v (n := n)
          unfold digits at a2
          by_cases n2 : n ≤ 255
          · by_cases n3 : Lib.itoa n = x
            · rw [n3] at a2
              have n4 : n < 0 := by
                rcases Int.lt_or_le n 0 with h | h
                · exact h
                · exact absurd ((octet_iff x).2 ⟨n, n1, n2, n3, h⟩) ho
              repeat' (first | refine zt ?_ | (refine isR ?_; first | refine zo ?_ | refine zk a1 ?_ | refine zk a2 ?_ | refine zA ?_ | refine zL ?_ | refine zc1 ?_ | refine zc3 ?_ | refine zc6 ?_ | refine zI ?_ | (refine zs1 ?_ ?_ <;> intro hc) | (refine zs3 ?_ ?_ <;> intro hc) | (refine zs6 ?_ ?_ <;> intro hc)) | refine awp_split rfl (fun hb => ?_) (fun hb => ?_) | refine zr ?_ | exact x_le)
              rfl
            · skip
              repeat' (first | refine zt ?_ | (refine isR ?_; first | refine zo ?_ | refine zk a1 ?_ | refine zk a2 ?_ | refine zA ?_ | refine zL ?_ | refine zc1 ?_ | refine zc3 ?_ | refine zc6 ?_ | refine zI ?_ | (refine zs1 ?_ ?_ <;> intro hc) | (refine zs3 ?_ ?_ <;> intro hc) | (refine zs6 ?_ ?_ <;> intro hc)) | refine awp_split rfl (fun hb => ?_) (fun hb => ?_) | refine zr ?_ | exact x_le)
              rfl
          · skip
            repeat' (first | refine zt ?_ | (refine isR ?_; first | refine zo ?_ | refine zk a1 ?_ | refine zk a2 ?_ | refine zA ?_ | refine zL ?_ | refine zc1 ?_ | refine zc3 ?_ | refine zc6 ?_ | refine zI ?_ | (refine zs1 ?_ ?_ <;> intro hc) | (refine zs3 ?_ ?_ <;> intro hc) | (refine zs6 ?_ ?_ <;> intro hc)) | refine awp_split rfl (fun hb => ?_) (fun hb => ?_) | refine zr ?_ | exact x_le)
            rfl
        · have a0 := atoiF_no fun n h => hn ⟨n, h⟩
          rw [a0] at a1
          dsimp only [errT] at a1
          repeat' (first | refine zt ?_ | (refine isR ?_; first | refine zo ?_ | refine zk a1 ?_ | refine zA ?_ | refine zL ?_ | refine zc1 ?_ | refine zc3 ?_ | refine zc6 ?_ | refine zI ?_ | (refine zs1 ?_ ?_ <;> intro hc) | (refine zs3 ?_ ?_ <;> intro hc) | (refine zs6 ?_ ?_ <;> intro hc)) | refine awp_split rfl (fun hb => ?_) (fun hb => ?_) | refine zr ?_ | exact x_le)
          rfl
    · skip
      repeat' (first | refine zt ?_ | (refine isR ?_; first | refine zo ?_ | refine zA ?_ | refine zL ?_ | refine zc1 ?_ | refine zc3 ?_ | refine zc6 ?_ | refine zI ?_ | (refine zs1 ?_ ?_ <;> intro hc) | (refine zs3 ?_ ?_ <;> intro hc) | (refine zs6 ?_ ?_ <;> intro hc)) | refine awp_split rfl (fun hb => ?_) (fun hb => ?_) | refine zr ?_ | exact x_le)
      rw [hq.all hk2]; rfl
  · simp only [h4, decide_false, Bool.false_and]
    repeat' (first | refine zt ?_ | (refine isR ?_; first | refine zo ?_ | refine zk c1 ?_ | refine zA ?_ | refine zL ?_ | refine zc1 ?_ | refine zc3 ?_ | refine zc6 ?_ | refine zI ?_ | (refine zs1 ?_ ?_ <;> intro hc) | (refine zs3 ?_ ?_ <;> intro hc) | (refine zs6 ?_ ?_ <;> intro hc)) | refine awp_split rfl (fun hb => ?_) (fun hb => ?_) | refine zr ?_ | exact x_le)
    rfl
set_option maxRecDepth 100000 in
set_option maxHeartbeats 4000000 in
theorem isAddress_v {l : List UInt8} (hl : l.length ≤ 4398046511104) : ACalls Tryz.prog 54 [strT l] (.bool (address l)) := by
  have c1 : ACalls _ _ [strT l, .int .u8 46] _ := partsOf_v (l := l) (u := 46) hl
  have hs := split_len 46 l
  have hin := split_in (u := 46) (l := l) (fun _ _ => trivial)
  have ea : address l = (decide ((split 46 l).length = 4) && (split 46 l).all octet) := rfl
  rw [ea]
  generalize split 46 l = xs at *
  clear ea
  have hx : ((xs.map strT).length : Int) = (xs.length : Int) := by simp
  refine fun1 tb_ok Tryz.func54 rfl Tryz.ntmps54 Tryz.results54 rfl fun N => ?_
  by_cases h4 : xs.length = 4
  · simp only [h4, decide_true, Bool.true_and]
    repeat' (first | refine zt ?_ | (refine isR ?_; first | refine zo ?_ | refine zk c1 ?_ | refine zA ?_ | refine zL ?_ | refine zc1 ?_ | refine zc3 ?_ | refine zc5 ?_ | refine zc6 ?_ | refine zI ?_ | (refine zs1 ?_ ?_ <;> intro hc) | (refine zs3 ?_ ?_ <;> intro hc) | (refine zs5 ?_ ?_ <;> intro hc) | (refine zs6 ?_ ?_ <;> intro hc)) | refine awp_split rfl (fun hb => ?_) (fun hb => ?_) | refine zr ?_ | exact x_le)
    refine awp_for (fun k => ⟨[(0, strT l), (3, strsT xs), (4, .int .i64 (k : Int))], [], 0, 55⟩) (fun k => k ≤ xs.length ∧ Upto octet xs k) xs.length 0 (by exact x_le) ⟨Nat.zero_le _, upto0⟩ ?_
    intro k ⟨hk, hq⟩
    by_cases hk2 : k < xs.length
    · have e1 : (xs.map strT)[k]? = some (strT xs[k]) := by simp [hk2]
      have e2 : xs[k]? = some xs[k] := by simp [hk2]
      generalize xs[k] = x at e1 e2
      have hxl := hin x (List.mem_of_getElem? e2)
      have a1 := leadDigits_v (l := x)
      have eo := octet_lead x
      have hle : (lead x).length ≤ x.length := (List.takeWhile_prefix digB (l := x)).length_le
      have hvl : leadN x < 100000 := by
        have h1 : ((lead x).take 5).all digB = true := List.all_eq_true.2 fun y hy => List.all_eq_true.1 (lead_all x) y (List.mem_of_mem_take hy)
        have h2 := value_le _ h1
        have h3 : ((lead x).take 5).length ≤ 5 := by simp; omega
        have h4 : 10 ^ ((lead x).take 5).length ≤ 10 ^ 5 := Nat.pow_le_pow_right (by decide) h3
        unfold leadN; omega
      generalize (lead x).length = a at a1 eo hle
      generalize leadN x = b at a1 eo hvl
      cases x with
      | nil =>
        have hz : a = 0 := by simp at hle; exact hle
        subst hz
        rw [all_no e2 (p := octet) (by rfl)]
        repeat' (first | refine zt ?_ | (refine isR ?_; first | refine zo ?_ | refine zk a1 ?_ | refine zA ?_ | refine zL ?_ | refine zc1 ?_ | refine zc3 ?_ | refine zc5 ?_ | refine zc6 ?_ | refine zI ?_ | (refine zs1 ?_ ?_ <;> intro hc) | (refine zs3 ?_ ?_ <;> intro hc) | (refine zs5 ?_ ?_ <;> intro hc) | (refine zs6 ?_ ?_ <;> intro hc)) | refine awp_split rfl (fun hb => ?_) (fun hb => ?_) | refine zr ?_ | exact x_le)
        rfl
      | cons c r =>
        have e3 : (c :: r)[(0 : Int).toNat]? = some c := rfl
        have hc := c.toNat_lt
        have eg : (c :: r).getD 0 0 = c := rfl
        rw [eg] at eo
        have e48 : (c == 48) = decide ((c.toNat : Int) = 48) := by
          by_cases h : c = 48
          · subst h; rfl
          · have : ¬ ((c.toNat : Int) = 48) := fun e => h (UInt8.toNat.inj (by simpa using Int.ofNat.inj e))
            simp [h, this]
        rw [e48] at eo
        have hcr : (c :: r).length = r.length + 1 := List.length_cons
        rw [hcr] at eo
        repeat' (first | refine zt ?_ | (refine isR ?_; first | refine zo ?_ | refine zk a1 ?_ | refine zA ?_ | refine zL ?_ | refine zc1 ?_ | refine zc3 ?_ | refine zc5 ?_ | refine zc6 ?_ | refine zI ?_ | (refine zs1 ?_ ?_ <;> intro hc) | (refine zs3 ?_ ?_ <;> intro hc) | (refine zs5 ?_ ?_ <;> intro hc) | (refine zs6 ?_ ?_ <;> intro hc)) | refine awp_split rfl (fun hb => ?_) (fun hb => ?_) | refine zr ?_ | exact x_le)
        all_goals first
          | (rw [all_no e2 (p := octet) (by rw [eo]; simp; try omega)]
             rfl)
          | exact ⟨⟨by omega, hq.on e2 (by rw [eo]; simp; try omega)⟩, hk2, (by exact x_le)⟩
    · skip
      repeat' (first | refine zt ?_ | (refine isR ?_; first | refine zo ?_ | refine zA ?_ | refine zL ?_ | refine zc1 ?_ | refine zc3 ?_ | refine zc5 ?_ | refine zc6 ?_ | refine zI ?_ | (refine zs1 ?_ ?_ <;> intro hc) | (refine zs3 ?_ ?_ <;> intro hc) | (refine zs5 ?_ ?_ <;> intro hc) | (refine zs6 ?_ ?_ <;> intro hc)) | refine awp_split rfl (fun hb => ?_) (fun hb => ?_) | refine zr ?_ | exact x_le)
      rw [hq.all hk2]; rfl
  · simp only [h4, decide_false, Bool.false_and]
    repeat' (first | refine zt ?_ | (refine isR ?_; first | refine zo ?_ | refine zk c1 ?_ | refine zA ?_ | refine zL ?_ | refine zc1 ?_ | refine zc3 ?_ | refine zc5 ?_ | refine zc6 ?_ | refine zI ?_ | (refine zs1 ?_ ?_ <;> intro hc) | (refine zs3 ?_ ?_ <;> intro hc) | (refine zs5 ?_ ?_ <;> intro hc) | (refine zs6 ?_ ?_ <;> intro hc)) | refine awp_split rfl (fun hb => ?_) (fun hb => ?_) | refine zr ?_ | exact x_le)
    rfl
theorem hasSuffix_v {l m : List UInt8} : ACalls Tryz.prog 107 [strT l, strT m] (.bool (endsB l m)) := fun g N w vs hG hN hlen hv => by
  obtain ⟨vs⟩ := vs
  match vs, hlen with
  | [x0, x1], _ =>
    obtain ⟨rfl, h0⟩ := fz_str (hv 0 _ x0 rfl rfl)
    obtain ⟨rfl, h1⟩ := fz_str (hv 1 _ x1 rfl rfl)
    simp only [SLIM] at h0
    refine (Tryz.strings_HasSuffix (str l) (str m) w (by omega)).mono fun e w' ⟨h2, h3⟩ => ⟨_, h2, by rw [h3]; exact Below.refl _ _, ?_⟩
    have : Lib.hasSuffix (str l).data.toList (str m).data.toList = endsB l m := by
      rw [str_toList, str_toList, Bool.eq_iff_iff, endsB_iff]
      unfold Lib.hasSuffix
      rw [List.isSuffixOf_iff_suffix]
      exact ⟨fun ⟨x, hx⟩ => ⟨x, hx.symm⟩, fun ⟨x, hx⟩ => ⟨x, hx.symm⟩⟩
    rw [this]; exact .bool
set_option maxRecDepth 100000 in
set_option maxHeartbeats 4000000 in
theorem match_v {l m : List UInt8} (hl : l.length ≤ 4398046511104) (hm : m.length ≤ 4398046511104) : ACallsG Tryz.prog gStr 74 [strT l, strT m] (.bool (matchF l m)) := by
  have c1 := address_v hl
  have c2 := hasSuffix_v (l := l) (m := [46] ++ m)
  have em : matchF l m = (l == m || (!address l && endsB l ([46] ++ m))) := rfl
  rw [em]
  refine funG2 tb_ok Tryz.func74 rfl Tryz.ntmps74 Tryz.results74 rfl fun N => ?_
  repeat' (first | refine zt ?_ | (refine isR ?_; first | refine zo ?_ | refine x_callS (c1 _) (fun hb => ?_) (fun hb => ?_) | refine x_callS (c1) (fun hb => ?_) (fun hb => ?_) | refine x_callS (c2 _) (fun hb => ?_) (fun hb => ?_) | refine x_callS (c2) (fun hb => ?_) (fun hb => ?_) | refine zA ?_ | refine zc5 ?_ | (refine zs5 ?_ ?_ <;> intro hc)) | refine awp_split rfl (fun hb => ?_) (fun hb => ?_) | refine zr ?_ | exact x_le)
  all_goals (show V.bool _ = V.bool _; simp_all)
theorem match_short {l m : List UInt8} (h : l.length < m.length) : matchF l m = false := by
  unfold matchF endsB
  have h1 : (l == m) = false := by
    simp only [beq_eq_false_iff_ne]
    intro e; rw [e] at h; omega
  have h2 : decide ((46 :: m).length ≤ l.length) = false := by simp; omega
  rw [h1, h2]; simp
theorem match_drop {l m : List UInt8} {d : Nat} (h : m.length + d = l.length) : matchF l m = (decide (l.drop d = m) && (decide (d = 0) || (!address l && decide (l[d - 1]? = some 46)))) := by
  rcases Nat.eq_zero_or_pos d with rfl | hd
  · have hl : m.length = l.length := by omega
    unfold matchF endsB
    have h2 : decide ((46 :: m).length ≤ l.length) = false := by simp; omega
    rw [h2]
    simp only [List.drop_zero, decide_true, Bool.true_or, Bool.and_true, Bool.false_and, Bool.and_false, Bool.or_false]
    by_cases e : l = m <;> simp [e]
  · have e1 : (l == m) = false := by
      simp only [beq_eq_false_iff_ne]
      intro e; rw [e] at h; omega
    have h2 : decide ((46 :: m).length ≤ l.length) = true := by simp; omega
    have hlt : d - 1 < l.length := by omega
    have h3 : l.length - (46 :: m).length = d - 1 := by simp; omega
    have h4 : l.drop (d - 1) = l[d - 1] :: l.drop d := by
      have := List.drop_eq_getElem_cons hlt
      rw [this, show d - 1 + 1 = d by omega]
    unfold matchF endsB
    rw [e1, h2, h3, h4, List.getElem?_eq_getElem hlt]
    have hd0 : decide (d = 0) = false := by simp; omega
    rw [hd0]
    by_cases k1 : l.drop d = m <;> by_cases k2 : l[d - 1] = 46 <;> simp [k1, k2]
set_option maxRecDepth 100000 in
set_option maxHeartbeats 4000000 in
theorem isMatch_v {l m : List UInt8} (hl : l.length ≤ 4398046511104) (hm : m.length ≤ 4398046511104) : ACalls Tryz.prog 17 [strT l, strT m] (.bool (matchF l m)) := by
  have c1 := isAddress_v hl
  refine fun2 tb_ok Tryz.func17 rfl Tryz.ntmps17 Tryz.results17 rfl fun N => ?_
  by_cases hlt : l.length < m.length
  · rw [match_short hlt]
    repeat' (first | refine zt ?_ | (refine isR ?_; first | refine zo ?_ | refine zA ?_ | refine zL ?_ | refine zc1 ?_ | refine zc5 ?_ | refine zc6 ?_ | refine zI ?_ | refine zS ?_ | (refine zs1 ?_ ?_ <;> intro hc) | (refine zs5 ?_ ?_ <;> intro hc) | (refine zs6 ?_ ?_ <;> intro hc)) | refine awp_split rfl (fun hb => ?_) (fun hb => ?_) | refine zr ?_ | exact x_le)
    rfl
  · obtain ⟨d, hd⟩ : ∃ d, m.length + d = l.length := ⟨l.length - m.length, by omega⟩
    rw [match_drop hd]
    have ed : (l.length : Int) - (m.length : Int) = (d : Int) := by omega
    have hdr : List.drop ((d : Int)).toNat l = l.drop d := rfl
    by_cases h1 : l.drop d = m
    · have h1' : List.drop ((d : Int)).toNat l = m := h1
      rcases Nat.eq_zero_or_pos d with rfl | hp
      · skip
        repeat' (first | refine zt ?_ | (refine isR ?_; first | refine zo ?_ | refine zA ?_ | refine zL ?_ | refine zc1 ?_ | refine zc5 ?_ | refine zc6 ?_ | refine zI ?_ | refine zS ?_ | (refine zs1 ?_ ?_ <;> intro hc) | (refine zs5 ?_ ?_ <;> intro hc) | (refine zs6 ?_ ?_ <;> intro hc)) | refine awp_split rfl (fun hb => ?_) (fun hb => ?_) | refine zr ?_ | exact x_le)
        simp [h1]; rfl
      · have e1 : l[d - 1]? = some (l[d - 1]'(by omega)) := by simp
        generalize l[d - 1]'(by omega) = c at e1
        have e2 : l[((d : Int) - 1).toNat]? = some c := by rw [show ((d : Int) - 1).toNat = d - 1 by omega]; exact e1
        have e46 : decide (l[d - 1]? = some 46) = decide ((c.toNat : Int) = 46) := by
          rw [e1]
          by_cases h : c = 46
          · subst h; rfl
          · have : ¬ ((c.toNat : Int) = 46) := fun e => h (UInt8.toNat.inj (by simpa using Int.ofNat.inj e))
            simp [h, this]
        rw [e46]
        have hd0 : decide (d = 0) = false := by simp; omega
        rw [hd0]
        repeat' (first | refine zt ?_ | (refine isR ?_; first | refine zo ?_ | refine x_callS (c1 _) (fun hb => ?_) (fun hb => ?_) | refine x_callS (c1) (fun hb => ?_) (fun hb => ?_) | refine zA ?_ | refine zL ?_ | refine zc1 ?_ | refine zc5 ?_ | refine zc6 ?_ | refine zI ?_ | refine zS ?_ | (refine zs1 ?_ ?_ <;> intro hc) | (refine zs5 ?_ ?_ <;> intro hc) | (refine zs6 ?_ ?_ <;> intro hc)) | refine awp_split rfl (fun hb => ?_) (fun hb => ?_) | refine zr ?_ | exact x_le)
        all_goals (show V.bool _ = V.bool _; simp [*])
    · have h1' : ¬ List.drop ((d : Int)).toNat l = m := h1
      repeat' (first | refine zt ?_ | (refine isR ?_; first | refine zo ?_ | refine zA ?_ | refine zL ?_ | refine zc1 ?_ | refine zc5 ?_ | refine zc6 ?_ | refine zI ?_ | refine zS ?_ | (refine zs1 ?_ ?_ <;> intro hc) | (refine zs5 ?_ ?_ <;> intro hc) | (refine zs6 ?_ ?_ <;> intro hc)) | refine awp_split rfl (fun hb => ?_) (fun hb => ?_) | refine zr ?_ | exact x_le)
      simp [h1]; rfl
end Go.Proofs.YtkgdkpiacencjaaGreatDoor.HostC
end

section
namespace Go.Proofs.YtkgdkpiacencjaaGreatDoor.HostD
open Go.RowKit Mem Abs HostP HostO HostA HostB HostC TreeW WordP WordS Globs

/-- The ends behind the dots among the first k. -/
def behind (l : List UInt8) (k : Nat) : List (List UInt8) := ((List.range k).filter fun i => l[i]? == some 46).map fun i => l.drop (i + 1)
theorem behind_on {l : List UInt8} {k : Nat} {c : UInt8} (h : l[k]? = some c) : behind l (k + 1) = if c = 46 then behind l k ++ [l.drop (k + 1)] else behind l k := by
  unfold behind
  rw [List.range_succ, List.filter_append, List.map_append]
  by_cases hc : c = 46
  · subst hc; simp [h]
  · have : (l[k]? == some 46) = false := by rw [h]; simpa using hc
    simp [this, hc]
theorem behind_all (l : List UInt8) : behind l l.length = after l := by
  induction l with
  | nil => rfl
  | cons c r ih =>
    unfold behind at *
    rw [List.length_cons, List.range_succ_eq_map, List.filter_cons, List.filter_map]
    have e : ((fun i => (c :: r)[i]? == some 46) ∘ Nat.succ) = fun i => r[i]? == some 46 := by funext i; rfl
    rw [e]
    unfold after
    by_cases hc : c = 46
    · subst hc
      simp only [List.getElem?_cons_zero, beq_self_eq_true, if_true, List.map_cons, List.map_map]
      rw [← ih]; rfl
    · have h : ((c :: r)[0]? == some 46) = false := by simpa using hc
      rw [h, if_neg hc]
      simp only [Bool.false_eq_true, if_false, List.map_map]
      rw [← ih]; rfl
set_option maxRecDepth 100000 in
set_option maxHeartbeats 4000000 in
theorem upsOf_v {l : List UInt8} (hl : l.length ≤ 4398046511104) : ACalls Tryz.prog 86 [strT l] (match upsF l with | [] => .nils | x => strsT x) := by
  have c1 := isAddress_v hl
  have hb : ∀ k, (behind l k).length ≤ k := fun k => by unfold behind; simp; exact Nat.le_trans (List.length_filter_le _ _) (by simp)
  refine fun1 tb_ok Tryz.func86 rfl Tryz.ntmps86 Tryz.results86 rfl fun N => ?_
  by_cases h0 : l = []
  · subst h0
    repeat' (first | refine zt ?_ | (refine isR ?_; first | refine zo ?_ | refine x_bs tb_ok ?_ | refine zA ?_ | refine zL ?_ | refine zc1 ?_ | refine zc5 ?_ | refine zI ?_ | refine zS ?_ | (refine zs1 ?_ ?_ <;> intro hc) | (refine zs5 ?_ ?_ <;> intro hc)) | refine awp_split rfl (fun hb => ?_) (fun hb => ?_) | refine zr ?_ | exact x_le)
    rfl
  · by_cases ha : address l = true
    · rw [ha] at c1
      have e : upsF l = [l] := by unfold upsF; rw [if_neg h0, if_pos ha]
      rw [e]
      repeat' (first | refine zt ?_ | (refine isR ?_; first | refine zo ?_ | refine zk c1 ?_ | refine x_bs tb_ok ?_ | refine zA ?_ | refine zL ?_ | refine zc1 ?_ | refine zc5 ?_ | refine zI ?_ | refine zS ?_ | (refine zs1 ?_ ?_ <;> intro hc) | (refine zs5 ?_ ?_ <;> intro hc)) | refine awp_split rfl (fun hb => ?_) (fun hb => ?_) | refine zr ?_ | exact x_le)
      rfl
    · simp only [Bool.not_eq_true] at ha
      rw [ha] at c1
      have e : upsF l = l :: after l := by unfold upsF; rw [if_neg h0, ha]; simp
      rw [e]
      repeat' (first | refine zt ?_ | (refine isR ?_; first | refine zo ?_ | refine zk c1 ?_ | refine r_new rfl rfl rfl rfl (law_buildSlice_own (vs := [_]) tb_ok rfl rfl rfl rfl rfl rfl rfl rfl rfl rfl rfl rfl rfl) (hT rfl Abs.h0) ?_ | refine x_bs tb_ok ?_ | refine zA ?_ | refine zL ?_ | refine zc1 ?_ | refine zc5 ?_ | refine zI ?_ | refine zS ?_ | (refine zs1 ?_ ?_ <;> intro hc) | (refine zs5 ?_ ?_ <;> intro hc)) | refine awp_split rfl (fun hb => ?_) (fun hb => ?_) | refine zr ?_ | exact x_le)
      refine awp_forN (fun k => ⟨[(0, strT l), (3, .own 0 0 (l :: behind l k).length), (4, .int .i64 (k : Int))], [(0, some (.els 9 1 ((l :: behind l k).map strT)))], 1, 31⟩) (fun k => k ≤ l.length) l.length 0 (by exact x_le) (Nat.zero_le _) ?_
      intro k hk
      by_cases hk2 : k < l.length
      · have e1 : l[k]? = some l[k] := by simp [hk2]
        generalize l[k] = c at e1
        have hbk := hb k
        have eb := behind_on e1
        have hlen : (l :: behind l k).length = (behind l k).length + 1 := List.length_cons
        have hc46 : c = 46 ↔ (c.toNat : Int) = 46 := byte_eq
        repeat' (first | refine zt ?_ | (refine isR ?_; first | refine zo ?_ | refine x_app strT tb_ok ?_ | refine x_bs tb_ok ?_ | refine zA ?_ | refine zL ?_ | refine zc1 ?_ | refine zc5 ?_ | refine zI ?_ | refine zS ?_ | (refine zs1 ?_ ?_ <;> intro hc) | (refine zs5 ?_ ?_ <;> intro hc)) | refine awp_split rfl (fun hb => ?_) (fun hb => ?_) | refine zr ?_ | exact x_le)
        · rw [eb, if_pos (hc46.2 (by assumption))]
          exact ⟨by omega, hk2, (by exact x_len [1])⟩
        · rw [eb, if_neg (fun h => absurd (hc46.1 h) (by assumption))]
          exact ⟨by omega, hk2, (by exact x_len [0])⟩
      · skip
        repeat' (first | refine zt ?_ | (refine isR ?_; first | refine zo ?_ | refine x_bs tb_ok ?_ | refine zA ?_ | refine zL ?_ | refine zc1 ?_ | refine zc5 ?_ | refine zI ?_ | refine zS ?_ | (refine zs1 ?_ ?_ <;> intro hc) | (refine zs5 ?_ ?_ <;> intro hc)) | refine awp_split rfl (fun hb => ?_) (fun hb => ?_) | refine zr ?_ | exact x_le)
        rw [show k = l.length by omega, behind_all]
        exact fro_whole
end Go.Proofs.YtkgdkpiacencjaaGreatDoor.HostD
end

section
namespace Go.Proofs.YtkgdkpiacencjaaGreatDoor.HostE
open Go.RowKit Go.Shelf Mem WordP OneB WordS Range HostP Globs
open WordR (grown_of_below box_same boxLen boxLen_of)
open WordC (cut cut_none cut_at cut_any)
open WordW (str str_size mkB)
attribute [local go_sem] Oper.semAt_some

/-- The variables of the package, whatever else turns. -/
def Same (W w : World) : Prop := ∀ k, k < gN → W.heap[k]? = w.heap[k]?
theorem glob_same {W w : World} (h : Abs.GlOk gStr (fun _ => False) w) (hs : Same W w) (hz : w.heap.size ≤ W.heap.size) : Abs.GlOk gStr (fun _ => False) W := by
  refine ⟨Nat.le_trans h.1 hz, fun b hb => hb.elim, ?_⟩
  have e : (fun i => if i < gStr.n then W.heap[i]? else none) = fun i => if i < gStr.n then w.heap[i]? else none := by
    funext i
    by_cases hi : i < gStr.n
    · rw [if_pos hi, if_pos hi]; exact hs i hi
    · rw [if_neg hi, if_neg hi]
  rw [e]; exact h.2.2
/-- Address, on values. -/
theorem address_any (s : ByteArray) (hs : s.size ≤ 4398046511104) (w : World) (hG : Abs.GlOk gStr (fun _ => False) w) : Calls Tryz.prog 61 #[.string s] w (Gives (.bool (address s.data.toList)) w) := by
  have h := HostC.address_v (l := s.data.toList) (by simpa using hs)
  refine (h (fun _ => False) w #[.string s] hG (fun _ h => h.elim) rfl fun i v x hv hx => ?_).mono fun e w' ⟨x, h1, h2, h3⟩ => ⟨by rw [h1, Abs.fz_bool h3], h2⟩
  rcases i with _ | i
  · cases hv; cases hx
    rw [Abs.strT, Abs.str_data]
    exact .str (by simp only [Abs.SLIM]; omega)
  · simp at hv
/-- What is handed out still. -/
def rest (alone : Bool) (cur : List UInt8) (more : Bool) : List (List UInt8) := bif more then (bif alone then [cur] else cur :: after cur) else []
theorem rest_none {cur : List UInt8} (h : cur.contains 46 = false) : rest false cur true = cur :: rest false [] false := by
  unfold rest
  simp [after_none cur h]
theorem rest_at {a r : List UInt8} (h : a.contains 46 = false) : rest false (a ++ 46 :: r) true = (a ++ 46 :: r) :: rest false r true := by
  unfold rest
  simp [after_at a r h]
theorem rest_ups (l : List UInt8) : rest (address l) l (decide (l ≠ [])) = upsF l := by
  unfold rest upsF
  by_cases h : l = []
  · simp [h]
  · cases address l <;> simp [h]
def mu (b : Nat) (v : Value) (W : World) : Nat := match v with
  | .bool true => boxLen b W + 1
  | _ => 0
set_option maxRecDepth 100000 in
set_option maxHeartbeats 4000000 in
theorem iter_hands (b : Nat) (_hb8 : gN ≤ b) (s : ByteArray) (w : World) (hs : s.size ≤ 4398046511104) (hG : Abs.GlOk gStr (fun _ => False) w) (n : Nat) (hn : 1 ≤ n) (hb : Boxed w b 9 (.string s)) :
    Hands Fence.wide n Tryz.prog 160 #[.pointer (some ⟨b, 0, none⟩)] (fun x : ByteArray => #[Value.string x]) b (fun k => k = b ∨ k < gN) (fun xs => xs = (upsF s.data.toList).map str) (s.size + 1) w := by
  intro l J W hW hz hJ hY h0
  have hbW : Boxed W b 9 (.string s) := box_same hb (hW b (.inl rfl))
  have hGW : Abs.GlOk gStr (fun _ => False) W := glob_same hG (fun k hk => hW k (.inr hk)) hz
  have cb := hbW.cell
  have AD := address_any s hs
  have hR := rest_ups s.data.toList
  have hdn : (decide (s.data.toList ≠ [])) = !s.toList.isEmpty := by
    rw [ByteArray.toList_eq]
    cases s.data.toList <;> simp
  rw [hdn] at hR
  have hR := Lib.hid hR
  clear hdn
  generalize address s.data.toList = al at AD hR
  generalize upsF s.data.toList = U at hR ⊢
  refine callsIn_of_wp Tryz.func160 rfl trivial ?_ rfl
  simp only [Tryz.ntmps160, List.size_toArray, List.length_cons, List.length_nil, Nat.reduceAdd, Nat.reduceSub, Array.replicate_succ, Array.replicate_zero, List.push_toArray, List.append_toArray, List.nil_append, List.cons_append]
  gi_wp2
  refine ⟨trivial, ?_⟩
  refine (callsIn_wide.2 (AD _ hGW)).mono ?_
  rintro e w2 ⟨rfl, hb2⟩
  have g2 := grown_of_below hb2 none
  have hb' := hbW.kept g2 (by simp)
  have hj' := hJ _ _ _ none h0 g2 (.inl rfl)
  have cb := hb'.cell
  clear AD hGW hbW
  gi_wp2
  have hfirst : (U.map str) = ([] : List ByteArray) ++ (rest al s.data.toList (!s.toList.isEmpty)).map str := by rw [hR.out]; rfl
  have HF := Lib.hid hfirst
  clear hfirst hR cb
  generalize (!s.toList.isEmpty) = em at HF
  gi_loopw [4] (fun v wr => ∃ (pre : List ByteArray) (cur : ByteArray) (more : Bool), v = .bool more ∧ Boxed wr b 9 (.string cur) ∧ RowKit.Hid (U.map str = pre ++ (rest al cur.data.toList more).map str) ∧ (more = true → pre.length + cur.size ≤ s.size) ∧ J pre wr) (fun v wr => mu b v wr)
  case atStart => exact ⟨[], s, em, rfl, hb', HF, fun _ => by simp, hj'⟩
  case round =>
    clear hb' hj' HF hb2 g2 hb hG h0
    obtain ⟨pre, cur, more, rfl, hb, hsp, hlen, hj⟩ := hrel
    have cb := hb.cell
    cases more with
    | false =>
      have hfin : pre = U.map str := by rw [hsp.out]; simp [rest]
      clear hsp
      gi_wp2
      refine bodyPost_end (results_none rfl _ _ _) rfl ?_
      exact ⟨⟨_, rfl⟩, pre, hfin, hj⟩
    | true =>
      have hlen := hlen rfl
      have hbl := boxLen_of hb
      obtain ⟨fn, tmps, assign, body, hy, hRn⟩ := hY pre cur wr hj (by omega)
      cases al with
      | true =>
        have hfin : pre ++ [cur] = U.map str := by rw [hsp.out]; simp only [rest, cond_true, List.map_cons, List.map_nil]; rw [show str cur.data.toList = cur from mkB cur]
        clear hsp
        gi_wp2
        refine hRn.mono ?_
        rintro e W3 ⟨rfl, hj3, hk3, hz3⟩
        gi_wp2
        refine bodyPost_ret (results_none rfl _ _ _) rfl ?_
        exact ⟨⟨_, rfl⟩, pre ++ [cur], hfin, hj3⟩
      | false =>
        have CUT := fun w' => cut_any cur 46 w' (by omega)
        rcases first_at 46 cur.data.toList with h | ⟨a, r, hl, h⟩
        · rw [cut_none h] at CUT
          have hnext : U.map str = (pre ++ [cur]) ++ (rest false (str []).data.toList false).map str := by
            rw [hsp.out, rest_none h]; simp only [List.map_cons, rest, cond_false, List.map_nil, List.append_assoc, List.cons_append, List.nil_append]
            rw [show str cur.data.toList = cur from mkB cur]
          have HF := Lib.hid hnext
          have CUT := Lib.hid CUT
          clear h hnext hsp
          gi_wp2
          refine hRn.mono ?_
          rintro e W3 ⟨rfl, hj3, hk3, hz3⟩
          have hb3 := box_same hb (hk3 b (.inl rfl))
          have cb := hb3.cell
          gi_wp2
          refine ⟨trivial, ?_⟩
          refine (callsIn_wide.2 (CUT.out _)).mono ?_
          rintro e w4 ⟨rfl, hb4⟩
          have g4 := grown_of_below hb4 none
          have hb5 := hb3.kept g4 (by simp)
          have hj5 := hJ _ _ _ none hj3 g4 (.inl rfl)
          have cb := hb5.cell
          have fb := hb5.frozen
          gi_wp2
          go_roundw
          case rel => exact ⟨pre ++ [cur], str [], false, rfl, hb5.set _, HF, fun h => (by cases h), hJ _ _ _ (some b) hj5 (grownBy_setCell' _ _ _) (.inr rfl)⟩
          case measure => simp [mu]
        · have hcut : cut 46 cur.data.toList = (a, r, true) := by rw [hl]; exact cut_at h
          have hz : a.length + 1 + r.length = cur.size := by
            have : cur.data.toList.length = cur.size := by simp
            rw [hl] at this; simp at this; omega
          rw [hcut] at CUT
          have hnext : U.map str = (pre ++ [cur]) ++ (rest false (str r).data.toList true).map str := by
            rw [hsp.out, hl, rest_at h, ← hl]
            simp only [List.map_cons, List.append_assoc, List.cons_append, List.nil_append]
            rw [show str cur.data.toList = cur from mkB cur, show (str r).data.toList = r from by simp [str]]
          have HF := Lib.hid hnext
          have CUT := Lib.hid CUT
          clear h hnext hsp hl hcut
          gi_wp2
          refine hRn.mono ?_
          rintro e W3 ⟨rfl, hj3, hk3, hz3⟩
          have hb3 := box_same hb (hk3 b (.inl rfl))
          have cb := hb3.cell
          gi_wp2
          refine ⟨trivial, ?_⟩
          refine (callsIn_wide.2 (CUT.out _)).mono ?_
          rintro e w4 ⟨rfl, hb4⟩
          have g4 := grown_of_below hb4 none
          have hb5 := hb3.kept g4 (by simp)
          have hj5 := hJ _ _ _ none hj3 g4 (.inl rfl)
          have cb := hb5.cell
          have fb := hb5.frozen
          gi_wp2
          go_roundw
          case rel => exact ⟨pre ++ [cur], str r, true, rfl, hb5.set _, HF, fun _ => by rw [str_size]; simp; omega, hJ _ _ _ (some b) hj5 (grownBy_setCell' _ _ _) (.inr rfl)⟩
          case measure => simp only [mu]; rw [boxLen_of (hb5.set _), hbl, str_size]; simp; omega
set_option maxHeartbeats 1000000 in
theorem made_any (s : ByteArray) (w : World) :
    Calls Tryz.prog 130 #[.string s] w (fun e w' => e = .returned (.func (.func 160) #[] #[.pointer (some ⟨w.heap.size, 0, none⟩)]) ∧ w' = w.alloc (.cells #[.string s] 9)) := by
  go_enter Tryz.func130, Tryz.ntmps130
  go_wp2_with fail
  go_ret
  exact ⟨rfl, rfl⟩
open WordR (own_lower own_far info_str) in
set_option maxRecDepth 100000 in
set_option maxHeartbeats 4000000 in
/-- What an iterator hands out, collected. -/
theorem appendSeq_any (gf : Nat) (lb : Array Value) (b : Nat) (K : Nat → Prop) (L : List ByteArray) (m : Nat) (w : World) (hb : K b) (hK : ∀ k, K k → k < w.heap.size) (hm : m ≤ 4398046511105) (eg : ∀ args w, (callFunc gf args).run Tryz.prog w = .ok (.enter gf args) w)
    (hseq : ∀ n, 1 ≤ n → ∀ W : World, (∀ k, K k → W.heap[k]? = w.heap[k]?) → w.heap.size ≤ W.heap.size → Hands Fence.wide n Tryz.prog gf lb (fun x : ByteArray => #[Value.string x]) b K (fun xs => xs = L) m W) :
    Calls Tryz.prog 159 #[.slice none 0 0, .func (.func gf) #[] lb] w (fun e w' => ∃ v, e = .returned v ∧ w'.ownsRow w.heap.size 9 1 v L.length (L.map Value.string) ∧ (∀ k, k < w.heap.size → k ≠ b → w'.heap[k]? = w.heap[k]?) ∧ w'.os = w.os ∧ w'.tape = w.tape ∧ w'.output = w.output ∧ w.heap.size ≤ w'.heap.size) := by
  refine (callsIn_wide (n := 3)).1 ?_
  obtain ⟨i0, hi, hz0, hz1, hz2⟩ := info_parts info_str
  refine callsIn_of_wp_marks Tryz.func159 rfl trivial ?_ rfl
  simp only [Tryz.ntmps159, List.size_toArray, List.length_cons, List.length_nil, Nat.reduceAdd, Nat.reduceSub, Array.replicate_succ, Array.replicate_zero, List.push_toArray, List.append_toArray, List.nil_append, List.cons_append]
  have bO := Boxed.new w 63 (.slice none 0 0)
  have hB0 : w.grownBy (w.alloc (.cells #[.slice none 0 0] 63)) (some b) := World.grownBy_alloc w _ _
  have hz : (w.alloc (.cells #[.slice none 0 0] 63)).heap.size = w.heap.size + 1 := by simp
  gi_wp2
  have hKW : ∀ k, K k → (w.alloc (.cells #[.slice none 0 0] 63)).heap[k]? = w.heap[k]? := fun k hk => Below.heap_alloc _ _ _ (hK k hk)
  generalize (w.alloc (.cells #[.slice none 0 0] 63)) = W0 at bO hB0 hz hKW ⊢
  have hbz := hK b hb
  refine range_hands rfl (by omega) (gf := gf) (lb := lb) rfl trivial eg (K := K) hb (fun k hk => by have := hK k hk; omega)
    (hseq _ (by omega) W0 hKW hB0.size) (fun _ => rfl)
    (fun pre W => (∃ v, Boxed W w.heap.size 63 v ∧ W.ownsRow (w.heap.size + 1) 9 1 v pre.length (pre.map Value.string)) ∧ w.grownBy W (some b)) ?hI ?h0
    (fun x => { tmps := #[.slice none 0 0, .func (.func gf) #[] lb, .pointer (some ⟨w.heap.size, 0, none⟩), undef, .slice none 0 0, .string x, .func (.func gf) #[] lb, .string x, undef, undef, undef, undef, undef], defers := [] }) ?assign ?body ?done
  case hI =>
    rintro xs W W' row ⟨⟨v, hv, hr⟩, hB⟩ hg hrow
    refine ⟨⟨v, hv.kept hg (fun e => ?_), hr.kept hg ?_⟩, ?_⟩
    · rcases hrow _ e.symm with h | ⟨h, _⟩ <;> omega
    · cases row with
      | none =>
        by_cases h : v.ownBlock = none
        · exact .inl h
        · exact .inr h
      | some r =>
        refine .inr (fun e => ?_)
        rcases hrow r rfl with h | ⟨h, o, ho, hc⟩
        · exact own_far hr (by omega) e
        · rcases hr.2 with ⟨rfl, _⟩ | ⟨g, cap, cur, rfl, e2, e3, _⟩
          · simp [Value.ownBlock] at e
          · obtain rfl : g = r := by simpa [Value.ownBlock] using e
            rw [e3] at ho; cases ho; cases hc
    · refine ⟨hg.os.trans hB.os, hg.tape.trans hB.tape, hg.output.trans hB.output, Nat.le_trans hB.size hg.size, fun k hk hne => (hg.block k (Nat.lt_of_lt_of_le hk hB.size) fun e => ?_).trans (hB.block k hk hne)⟩
      rcases hrow k e.symm with h | ⟨h, _⟩
      · exact hne (by rw [h])
      · omega
  case h0 => exact ⟨⟨_, bO, World.ownsRow_nil _ _ _ _⟩, hB0⟩
  case assign =>
    intro l x W K hK
    gi_wp2
    exact hK
  case body =>
    rintro l pre x W ⟨⟨v, hv, hrow⟩, hB⟩ hlt hsz
    have hc := hv.cell
    have hw := hB.size
    have hml : pre.length + 1 ≤ maxLen := by unfold maxLen; omega
    have hbd : (pre.length + 1) * 16 ≤ 140737488355328 := by omega
    gi_wp2_with (gi_at_builtin; refine wpListIn_append_own _ rfl _ _ 63 rfl (w.heap.size + 1) 9 i0 (.string ⟨#[]⟩) 1 16 Tryz.underlying63 hi hz0 hz1 hz2 rfl (by decide) _ _ _ rfl (hrow.alloc _) ⟨W.heap.size, 0, none⟩ 1 1 [.string x] rfl rfl (cell_one_new _ _ _) (by simp [Value.oneCell']) hml hbd (by simp; omega) ?_; intro v' w1 hown' hgrow _; obtain ⟨g', cap', rfl⟩ := ownsRow_succ hown'; obtain ⟨hv1, hv2, hr2, hk2, hb2⟩ := hv.appended (by decide) (own_lower (a := w.heap.size) hrow (by omega)) hB.size (Nat.le_refl _) (own_lower hown' (by omega)) hgrow; have hc1 := hv1.cell; have hf1 := hv1.frozen)
    exact ⟨hk2, fun k hk => hb2.block k (hK k hk), ⟨_, hv2, by simpa using hown'.kept (grownBy_setCell' w1 _ _) (.inr (hv1.not_row (by decide) hown').symm)⟩, ⟨hb2.os.trans hB.os, hb2.tape.trans hB.tape, hb2.output.trans hB.output, Nat.le_trans hw hb2.size, fun k hk hne => (hb2.block k hk).trans (hB.block k hk hne)⟩⟩
  case done =>
    rintro D ys W hD hys ⟨⟨v, hv, hrow⟩, hB⟩ hK
    have hc := hv.cell
    gi_wp2
    refine ⟨by simp, .inl ⟨_, _, rfl, run_takeDeferred hK, ?_⟩⟩
    refine ⟨_, results_tmp rfl _ _ _, v, rfl, ?_, ?_⟩
    · have hr := ownsRow_putObj (own_lower (a := w.heap.size) hrow (by omega)) (.deferred none) hK rfl
      rw [hys] at hr
      simpa using hr
    · exact ⟨fun k hk hne => (World.putObj_heap_other (by omega)).trans (hB.block k hk (fun e => hne (by simpa using e))), hB.os, hB.tape, hB.output, by simpa using hB.size⟩
set_option maxRecDepth 100000 in
set_option maxHeartbeats 1000000 in
theorem collect_any (gf : Nat) (lb : Array Value) (b : Nat) (K : Nat → Prop) (L : List ByteArray) (m : Nat) (w : World) (hb : K b) (hK : ∀ k, K k → k < w.heap.size) (hm : m ≤ 4398046511105) (eg : ∀ args w, (callFunc gf args).run Tryz.prog w = .ok (.enter gf args) w)
    (hseq : ∀ n, 1 ≤ n → ∀ W : World, (∀ k, K k → W.heap[k]? = w.heap[k]?) → w.heap.size ≤ W.heap.size → Hands Fence.wide n Tryz.prog gf lb (fun x : ByteArray => #[Value.string x]) b K (fun xs => xs = L) m W) :
    Calls Tryz.prog 129 #[.func (.func gf) #[] lb] w (fun e w' => ∃ v, e = .returned v ∧ w'.ownsRow w.heap.size 9 1 v L.length (L.map Value.string) ∧ (∀ k, k < w.heap.size → k ≠ b → w'.heap[k]? = w.heap[k]?) ∧ w'.os = w.os ∧ w'.tape = w.tape ∧ w'.output = w.output ∧ w.heap.size ≤ w'.heap.size) := by
  have AS := appendSeq_any gf lb b K L m w hb hK hm eg hseq
  clear hseq
  go_enter Tryz.func129, Tryz.ntmps129
  go_wp2_with fail
  with_reducible refine AS.mono ?_
  rintro e w' ⟨v, rfl, h2⟩
  go_wp2_with fail
  go_ret
  exact ⟨_, rfl, h2⟩
set_option maxRecDepth 100000 in
set_option maxHeartbeats 1000000 in
theorem ups_any (s : ByteArray) (hs : s.size ≤ 4398046511104) (w : World) (hG : Abs.GlOk gStr (fun _ => False) w) : Calls Tryz.prog 105 #[.string s] w (GivesRow w.heap.size 9 (upsF s.data.toList).length (((upsF s.data.toList).map str).map Value.string) w) := by
  have hgn : gN ≤ w.heap.size := hG.1
  have hi : ∀ n, 1 ≤ n → ∀ W : World, (∀ k, (k = w.heap.size ∨ k < gN) → W.heap[k]? = (w.alloc (.cells #[.string s] 9)).heap[k]?) → (w.alloc (.cells #[.string s] 9)).heap.size ≤ W.heap.size → Hands Fence.wide n Tryz.prog 160 #[.pointer (some ⟨w.heap.size, 0, none⟩)] (fun x : ByteArray => #[Value.string x]) w.heap.size (fun k => k = w.heap.size ∨ k < gN) (fun xs => xs = (upsF s.data.toList).map str) (s.size + 1) W := fun n hn W hW hz => by
    refine iter_hands w.heap.size hgn s W hs ?_ n hn ?_
    · refine glob_same hG (fun k hk => (hW k (.inr hk)).trans (Below.heap_alloc _ _ _ (by omega))) (by simp at hz; omega)
    · exact box_same (Boxed.new w 9 (.string s)) (hW _ (.inl rfl))
  have CO := collect_any 160 #[.pointer (some ⟨w.heap.size, 0, none⟩)] w.heap.size (fun k => k = w.heap.size ∨ k < gN) ((upsF s.data.toList).map str) (s.size + 1) (w.alloc (.cells #[.string s] 9)) (.inl rfl) (fun k hk => by simp; omega) (by omega) (enters_of Tryz.func160 (by kernel_rfl) rfl) hi
  clear hi
  go_enter Tryz.func105, Tryz.ntmps105
  go_wp2_with fail
  with_reducible refine (made_any s _).mono ?_
  rintro e w1 ⟨rfl, rfl⟩
  go_wp2_with fail
  with_reducible refine CO.mono ?_
  rintro e w' ⟨v, rfl, h2, h3, h4, h5, h6, h7⟩
  go_wp2_with fail
  go_ret
  have hz : (w.alloc (.cells #[.string s] 9)).heap.size = w.heap.size + 1 := by simp
  rw [hz] at h2 h3 h7
  refine ⟨_, rfl, WordR.own_lower (a := w.heap.size) (by simpa using h2) (by omega), ⟨h4, h5, h6, by omega, fun k hk => (h3 k (by omega) (by omega)).trans (Below.heap_alloc _ _ _ hk)⟩⟩
open Abs TreeW in
theorem ups_v {l : List UInt8} (hl : l.length ≤ 4398046511104) : ACallsG Tryz.prog gStr 105 [strT l] (strsT (upsF l)) := fun N w vs hG hN hlen hv => by
  obtain ⟨vs⟩ := vs
  match vs, hlen with
  | [x0], _ =>
    obtain ⟨rfl, h0⟩ := fz_str (hv 0 _ x0 rfl rfl)
    refine (ups_any _ (by rw [Abs.str_size]; exact hl) w (hG.sub fun _ h => h.elim)).mono fun e w' ⟨v, h1, h2, h3⟩ => ⟨_, h1, h3, ?_⟩
    rw [str_toList, List.map_map] at h2
    have hle := after_len l
    have hml : ∀ x ∈ upsF l, x.length ≤ l.length := fun x hx => by
      unfold upsF at hx
      split at hx
      · cases hx
      · split at hx
        · rw [List.mem_singleton] at hx; rw [hx]; exact Nat.le_refl _
        · rcases List.mem_cons.1 hx with rfl | hx
          · exact Nat.le_refl _
          · obtain ⟨y, rfl⟩ := (mem_after x l).1 hx
            simp; omega
    refine fz_strs hN ?_ (fun x hx => ?_) h2
    · unfold upsF
      split
      · simp [LIM]
      · split
        · simp [LIM]
        · simp only [List.length_cons, LIM]; omega
    · have := hml x hx; simp only [SLIM]; omega
end Go.Proofs.YtkgdkpiacencjaaGreatDoor.HostE
end

section
namespace Go.Proofs.YtkgdkpiacencjaaGreatDoor.HostF
open Go.RowKit Mem Abs HostP HostO HostA HostB HostC HostD HostE TreeW WordP WordS Globs

theorem b1 : canonF ([87, 87, 87, 46, 69, 120, 97, 109, 112, 108, 101, 46, 67, 79, 77] : List UInt8) = (([119, 119, 119, 46, 101, 120, 97, 109, 112, 108, 101, 46, 99, 111, 109] : List UInt8), 0) := by decide +kernel
theorem b2 : canonF ([97, 46, 46, 98] : List UInt8) = ([], 1) := by decide +kernel
theorem b3 : address ([49, 48, 46, 48, 46, 48, 46, 50, 53, 53] : List UInt8) = true := by decide +kernel
theorem b4 : address ([49, 48, 46, 48, 46, 48, 46, 50, 53, 54] : List UInt8) = false := by decide +kernel
theorem b5 : matchF ([119, 119, 119, 46, 101, 120, 97, 109, 112, 108, 101, 46, 99, 111, 109] : List UInt8) ([101, 120, 97, 109, 112, 108, 101, 46, 99, 111, 109] : List UInt8) = true := by decide +kernel
theorem b6 : matchF ([119, 119, 119, 101, 120, 97, 109, 112, 108, 101, 46, 99, 111, 109] : List UInt8) ([101, 120, 97, 109, 112, 108, 101, 46, 99, 111, 109] : List UInt8) = false := by decide +kernel
end Go.Proofs.YtkgdkpiacencjaaGreatDoor.HostF
end

section
namespace Go.Proofs.YtkgdkpiacencjaaGreatDoor.HostG
open Go.RowKit Mem Abs HostP HostO HostA HostB HostC HostD HostE HostF TreeW WordP WordS Globs

theorem upsOf_v' {l : List UInt8} (hl : l.length ≤ 4398046511104) : ACalls Tryz.prog 86 [strT l] (strsT (upsF l)) := by
  have h := upsOf_v hl
  cases hu : upsF l with
  | nil => rw [hu] at h; exact h.nfr
  | cons a r => rw [hu] at h; exact h
end Go.Proofs.YtkgdkpiacencjaaGreatDoor.HostG
end
