/- Texts of the proof, joined: HostC, HostD, PathT, Rune, Rdy. -/
import Derived.Test.YtoehdmbogdpncaaGreatDoorG8
import Derived.Test.YtoehdmbogdpncaaGreatDoorG16
import Derived.Lib.SpaceUEq
import Derived.Lib.MapLaws
import Derived.Test.YtoehdmbogdpncaaGreatDoorG15
import Derived.Test.YtoehdmbogdpncaaGreatDoorG9
section
namespace Go.Proofs.YtoehdmbogdpncaaGreatDoor.HostC
open Go.RowKit Mem Abs HostP HostO HostA HostB TreeW WordP WordS Globs

theorem lead_at {l : List UInt8} {k : Nat} (hk : k ≤ l.length) (h : Upto digB l k) (he : ∀ c, l[k]? = some c → digB c = false) : lead l = l.take k := by
  induction l generalizing k with
  | nil => simp [lead]
  | cons c r ih =>
    unfold lead
    cases k with
    | zero =>
      rw [List.takeWhile_cons, if_neg (by rw [he c rfl]; simp)]
      rfl
    | succ k =>
      rw [List.takeWhile_cons, if_pos (h 0 c (by omega) rfl), List.take_succ_cons]
      congr 1
      exact ih (by simpa using hk) (fun j y hj hy => h (j + 1) y (by omega) (by simpa using hy)) (fun x hx => he x (by simpa using hx))
theorem value5 {l : List UInt8} {k : Nat} {c : UInt8} (h : l[k]? = some c) (hk : k < 5) : value ((l.take (k + 1)).take 5) = 10 * value ((l.take k).take 5) + (c.toNat - 48) := by
  have hl := (List.getElem?_eq_some_iff.1 h)
  rw [List.take_take, List.take_take, Nat.min_eq_right (by omega), Nat.min_eq_right (by omega), List.take_succ_eq_append_getElem hl.1, value_snoc, hl.2]
theorem value5_on {l : List UInt8} {k : Nat} (hk : ¬ k < 5) : value ((l.take (k + 1)).take 5) = value ((l.take k).take 5) := by
  rw [List.take_take, List.take_take, Nat.min_eq_left (by omega), Nat.min_eq_left (by omega)]
theorem upto_take {l : List UInt8} {k : Nat} (h : Upto digB l k) : (l.take k).all digB = true := List.all_eq_true.2 fun x hx => by
  obtain ⟨i, hi⟩ := List.mem_iff_getElem?.1 hx
  rw [List.getElem?_take] at hi
  split at hi
  · exact h i x (by assumption) hi
  · cases hi
theorem value5_le {l : List UInt8} {k : Nat} (h : Upto digB l k) : value ((l.take k).take 5) < 100000 := by
  have h1 := upto_take h
  have h2 : ((l.take k).take 5).all digB = true := List.all_eq_true.2 fun x hx => List.all_eq_true.1 h1 x (List.mem_of_mem_take hx)
  have h3 := value_le _ h2
  have h4 : ((l.take k).take 5).length ≤ 5 := by simp; omega
  have h5 : 10 ^ ((l.take k).take 5).length ≤ 10 ^ 5 := Nat.pow_le_pow_right (by decide) h4
  omega
theorem dig_nat {c : UInt8} (h : digB c = true) : 48 ≤ c.toNat ∧ c.toNat ≤ 57 := by
  unfold digB at h
  simpa using h
abbrev pairN (a b : Nat) : Abs.V := .tup [.int .i64 (a : Int), .int .i64 (b : Int)]
set_option maxRecDepth 100000 in
set_option maxHeartbeats 4000000 in
theorem leadDigits_v {l : List UInt8} : ACalls Tryz.prog 94 [strT l] (pairN (lead l).length (leadN l)) := ACalls.lim fun hl => by
  obtain ⟨hl, _⟩ := TreeW.str_lim hl
  refine fun1 tb_ok Tryz.func94 rfl Tryz.ntmps94 Tryz.results94 rfl fun N => ?_
  repeat' (first | refine zt ?_ | (refine isR ?_; first | refine zo ?_ | refine zA ?_ | refine zL ?_ | refine zc1 ?_ | refine zI ?_ | refine zB ?_ | (refine zs1 ?_ ?_ <;> intro hc)) | refine awp_split rfl (fun hb => ?_) (fun hb => ?_) | refine zr ?_ | exact x_le)
  refine awp_for (fun k => ⟨[(0, strT l), (4, .int .i64 (k : Int)), (5, .int .i64 ((value ((l.take k).take 5) : Nat) : Int))], [], 0, 30⟩) (fun k => k ≤ l.length ∧ Upto digB l k) l.length 0 ?_ ⟨Nat.zero_le _, upto0⟩ ?_
  · have e : value ((l.take 0).take 5) = 0 := rfl
    rw [e]
    exact (by exact x_le)
  · intro k ⟨hk, hq⟩
    have hv := value5_le hq
    have fin : (∀ c, l[k]? = some c → digB c = false) → pairN k (value ((l.take k).take 5)) = pairN (lead l).length (leadN l) := fun he => by
      unfold leadN
      rw [lead_at hk hq he, List.length_take, Nat.min_eq_left hk]
    by_cases hk2 : k < l.length
    · have e1 : l[k]? = some l[k] := by simp [hk2]
      generalize l[k] = c at e1
      have hd := isDigit_v (c := c)
      have hc := c.toNat_lt
      by_cases hdc : digB c = true
      · rw [hdc] at hd
        have hn := dig_nat hdc
        have e5 := value5 e1
        have e6 := value5_on (l := l) (k := k)
        generalize hm : value ((l.take k).take 5) = m at *
        by_cases h5 : k < 5
        · have e5 := e5 h5
          repeat' (first | refine zt ?_ | (refine isR ?_; first | refine zo ?_ | refine zk hd ?_ | refine zA ?_ | refine zL ?_ | refine zc1 ?_ | refine zI ?_ | refine zB ?_ | (refine zs1 ?_ ?_ <;> intro hc)) | refine awp_split rfl (fun hb => ?_) (fun hb => ?_) | refine zr ?_ | exact x_le)
          refine ⟨⟨by omega, hq.on e1 hdc⟩, hk2, ?_⟩
          rw [e5, show ((10 * m + (c.toNat - 48) : Nat) : Int) = (m : Int) * 10 + (c.toNat : Int) - 48 by omega]
          exact (by exact x_le)
        · have e6 := e6 h5
          repeat' (first | refine zt ?_ | (refine isR ?_; first | refine zo ?_ | refine zk hd ?_ | refine zA ?_ | refine zL ?_ | refine zc1 ?_ | refine zI ?_ | refine zB ?_ | (refine zs1 ?_ ?_ <;> intro hc)) | refine awp_split rfl (fun hb => ?_) (fun hb => ?_) | refine zr ?_ | exact x_le)
          refine ⟨⟨by omega, hq.on e1 hdc⟩, hk2, ?_⟩
          rw [e6]
          exact (by exact x_le)
      · simp only [Bool.not_eq_true] at hdc
        rw [hdc] at hd
        repeat' (first | refine zt ?_ | (refine isR ?_; first | refine zo ?_ | refine zk hd ?_ | refine zA ?_ | refine zL ?_ | refine zc1 ?_ | refine zI ?_ | refine zB ?_ | (refine zs1 ?_ ?_ <;> intro hc)) | refine awp_split rfl (fun hb => ?_) (fun hb => ?_) | refine zr ?_ | exact x_le)
        exact fin fun x hx => by rw [e1] at hx; cases hx; exact hdc
    · skip
      repeat' (first | refine zt ?_ | (refine isR ?_; first | refine zo ?_ | refine zA ?_ | refine zL ?_ | refine zc1 ?_ | refine zI ?_ | refine zB ?_ | (refine zs1 ?_ ?_ <;> intro hc)) | refine awp_split rfl (fun hb => ?_) (fun hb => ?_) | refine zr ?_ | exact x_le)
      exact fin fun x hx => by have := (List.getElem?_eq_some_iff.1 hx).1; omega
theorem atoiF_ok {x : List UInt8} {n : Int} (h : Lib.atoiAll x = .ok n) : atoiF x = (n, true) := by unfold atoiF; rw [h]
theorem atoiF_no {x : List UInt8} (h : ∀ n, Lib.atoiAll x ≠ .ok n) : (atoiF x).2 = false := by
  unfold atoiF
  rcases he : Lib.atoiAll x with n | _ | _
  · exact absurd he (h n)
  · rfl
  · rfl
set_option maxRecDepth 100000 in
set_option maxHeartbeats 4000000 in
theorem address_v {l : List UInt8} (hl : l.length ≤ 4398046511104) : ACallsG Tryz.prog gStr 81 [strT l] (.bool (address l)) := by
  have c1 : ACalls _ _ [strT l, .int .u8 46] _ := parts_v (l := l) (u := 46) hl
  have hs := split_len 46 l
  have hin := split_in (u := 46) (l := l) (fun _ _ => trivial)
  have ea : address l = (decide ((split 46 l).length = 4) && (split 46 l).all octet) := rfl
  rw [ea]
  generalize split 46 l = xs at *
  clear ea
  have hx : ((xs.map strT).length : Int) = (xs.length : Int) := by simp
  refine funG1 tb_ok Tryz.func81 rfl Tryz.ntmps81 Tryz.results81 rfl fun N => ?_
  by_cases h4 : xs.length = 4
  · simp only [h4, decide_true, Bool.true_and]
    repeat' (first | refine zt ?_ | (refine isR ?_; first | refine zo ?_ | refine zk c1 ?_ | refine zA ?_ | refine zL ?_ | refine zc1 ?_ | refine zc3 ?_ | refine zc6 ?_ | refine zI ?_ | (refine zs1 ?_ ?_ <;> intro hc) | (refine zs3 ?_ ?_ <;> intro hc) | (refine zs6 ?_ ?_ <;> intro hc)) | refine awp_split rfl (fun hb => ?_) (fun hb => ?_) | refine zr ?_ | exact x_le)
    refine awp_for (fun k => ⟨[(0, strT l), (13, strsT xs), (14, .int .i64 (xs.map strT).length), (15, .int .i64 (k : Int))], [], 0, 41⟩) (fun k => k ≤ xs.length ∧ Upto octet xs k) xs.length 0 (by exact x_le) ⟨Nat.zero_le _, upto0⟩ ?_
    intro k ⟨hk, hq⟩
    by_cases hk2 : k < xs.length
    · have e1 : (xs.map strT)[k]? = some (strT xs[k]) := by simp [hk2]
      have e2 : xs[k]? = some xs[k] := by simp [hk2]
      generalize xs[k] = x at e1 e2
      have hxl := hin x (List.mem_of_getElem? e2)
      have a1 := atoi_v (l := x) (by omega)
      by_cases ho : octet x = true
      · obtain ⟨n, n1, n2, n3, n4⟩ := (octet_iff x).1 ho
        rw [atoiF_ok n1] at a1
        dsimp only [errT] at a1
        have a2 := itoa_v (n := n)
        unfold digits at a2
        rw [n3] at a2
        repeat' (first | refine zt ?_ | (refine isR ?_; first | refine zo ?_ | refine zk a1 ?_ | refine zk a2 ?_ | refine zA ?_ | refine zL ?_ | refine zc1 ?_ | refine zc3 ?_ | refine zc6 ?_ | refine zI ?_ | (refine zs1 ?_ ?_ <;> intro hc) | (refine zs3 ?_ ?_ <;> intro hc) | (refine zs6 ?_ ?_ <;> intro hc)) | refine awp_split rfl (fun hb => ?_) (fun hb => ?_) | refine zr ?_ | exact x_le)
        exact ⟨⟨by omega, hq.on e2 ho⟩, hk2, (by exact x_le)⟩
      · have hall := all_no e2 (p := octet) (by simpa using ho)
        rw [hall]
        by_cases hn : ∃ n, Lib.atoiAll x = .ok n
        · obtain ⟨n, n1⟩ := hn
          rw [atoiF_ok n1] at a1
          dsimp only [errT] at a1
          have a2 := itoa_v (n := n)
          unfold digits at a2
          by_cases n2 : n ≤ 255
          · by_cases n3 : Lib.itoa n = x
            · rw [n3] at a2
              have n4 : n < 0 := by
                rcases Int.lt_or_le n 0 with h | h
                · exact h
                · exact absurd ((octet_iff x).2 ⟨n, n1, n2, n3, h⟩) ho
              repeat' (first | refine zt ?_ | (refine isR ?_; first | refine zo ?_ | refine zk a1 ?_ | refine zk a2 ?_ | refine zA ?_ | refine zL ?_ | refine zc1 ?_ | refine zc3 ?_ | refine zc6 ?_ | refine zI ?_ | (refine zs1 ?_ ?_ <;> intro hc) | (refine zs3 ?_ ?_ <;> intro hc) | (refine zs6 ?_ ?_ <;> intro hc)) | refine awp_split rfl (fun hb => ?_) (fun hb => ?_) | refine zr ?_ | exact x_le)
              rfl
            · skip
              repeat' (first | refine zt ?_ | (refine isR ?_; first | refine zo ?_ | refine zk a1 ?_ | refine zk a2 ?_ | refine zA ?_ | refine zL ?_ | refine zc1 ?_ | refine zc3 ?_ | refine zc6 ?_ | refine zI ?_ | (refine zs1 ?_ ?_ <;> intro hc) | (refine zs3 ?_ ?_ <;> intro hc) | (refine zs6 ?_ ?_ <;> intro hc)) | refine awp_split rfl (fun hb => ?_) (fun hb => ?_) | refine zr ?_ | exact x_le)
              rfl
          · skip
            repeat' (first | refine zt ?_ | (refine isR ?_; first | refine zo ?_ | refine zk a1 ?_ | refine zk a2 ?_ | refine zA ?_ | refine zL ?_ | refine zc1 ?_ | refine zc3 ?_ | refine zc6 ?_ | refine zI ?_ | (refine zs1 ?_ ?_ <;> intro hc) | (refine zs3 ?_ ?_ <;> intro hc) | (refine zs6 ?_ ?_ <;> intro hc)) | refine awp_split rfl (fun hb => ?_) (fun hb => ?_) | refine zr ?_ | exact x_le)
            rfl
        · have a0 := atoiF_no fun n h => hn ⟨n, h⟩
          rw [a0] at a1
          dsimp only [errT] at a1
          repeat' (first | refine zt ?_ | (refine isR ?_; first | refine zo ?_ | refine zk a1 ?_ | refine zA ?_ | refine zL ?_ | refine zc1 ?_ | refine zc3 ?_ | refine zc6 ?_ | refine zI ?_ | (refine zs1 ?_ ?_ <;> intro hc) | (refine zs3 ?_ ?_ <;> intro hc) | (refine zs6 ?_ ?_ <;> intro hc)) | refine awp_split rfl (fun hb => ?_) (fun hb => ?_) | refine zr ?_ | exact x_le)
          rfl
    · skip
      repeat' (first | refine zt ?_ | (refine isR ?_; first | refine zo ?_ | refine zA ?_ | refine zL ?_ | refine zc1 ?_ | refine zc3 ?_ | refine zc6 ?_ | refine zI ?_ | (refine zs1 ?_ ?_ <;> intro hc) | (refine zs3 ?_ ?_ <;> intro hc) | (refine zs6 ?_ ?_ <;> intro hc)) | refine awp_split rfl (fun hb => ?_) (fun hb => ?_) | refine zr ?_ | exact x_le)
      rw [hq.all hk2]; rfl
  · simp only [h4, decide_false, Bool.false_and]
    repeat' (first | refine zt ?_ | (refine isR ?_; first | refine zo ?_ | refine zk c1 ?_ | refine zA ?_ | refine zL ?_ | refine zc1 ?_ | refine zc3 ?_ | refine zc6 ?_ | refine zI ?_ | (refine zs1 ?_ ?_ <;> intro hc) | (refine zs3 ?_ ?_ <;> intro hc) | (refine zs6 ?_ ?_ <;> intro hc)) | refine awp_split rfl (fun hb => ?_) (fun hb => ?_) | refine zr ?_ | exact x_le)
    rfl
set_option maxRecDepth 100000 in
set_option maxHeartbeats 4000000 in
theorem isAddress_v {l : List UInt8} (hl : l.length ≤ 4398046511104) : ACalls Tryz.prog 80 [strT l] (.bool (address l)) := by
  have c1 : ACalls _ _ [strT l, .int .u8 46] _ := partsOf_v (l := l) (u := 46) hl
  have hs := split_len 46 l
  have hin := split_in (u := 46) (l := l) (fun _ _ => trivial)
  have ea : address l = (decide ((split 46 l).length = 4) && (split 46 l).all octet) := rfl
  rw [ea]
  generalize split 46 l = xs at *
  clear ea
  have hx : ((xs.map strT).length : Int) = (xs.length : Int) := by simp
  refine fun1 tb_ok Tryz.func80 rfl Tryz.ntmps80 Tryz.results80 rfl fun N => ?_
  by_cases h4 : xs.length = 4
  · simp only [h4, decide_true, Bool.true_and]
    repeat' (first | refine zt ?_ | (refine isR ?_; first | refine zo ?_ | refine zk c1 ?_ | refine zA ?_ | refine zL ?_ | refine zc1 ?_ | refine zc3 ?_ | refine zc5 ?_ | refine zc6 ?_ | refine zI ?_ | (refine zs1 ?_ ?_ <;> intro hc) | (refine zs3 ?_ ?_ <;> intro hc) | (refine zs5 ?_ ?_ <;> intro hc) | (refine zs6 ?_ ?_ <;> intro hc)) | refine awp_split rfl (fun hb => ?_) (fun hb => ?_) | refine zr ?_ | exact x_le)
    refine awp_for (fun k => ⟨[(0, strT l), (3, strsT xs), (4, .int .i64 (k : Int))], [], 0, 55⟩) (fun k => k ≤ xs.length ∧ Upto octet xs k) xs.length 0 (by exact x_le) ⟨Nat.zero_le _, upto0⟩ ?_
    intro k ⟨hk, hq⟩
    by_cases hk2 : k < xs.length
    · have e1 : (xs.map strT)[k]? = some (strT xs[k]) := by simp [hk2]
      have e2 : xs[k]? = some xs[k] := by simp [hk2]
      generalize xs[k] = x at e1 e2
      have hxl := hin x (List.mem_of_getElem? e2)
      have a1 := leadDigits_v (l := x)
      have eo := octet_lead x
      have hle : (lead x).length ≤ x.length := (List.takeWhile_prefix digB (l := x)).length_le
      have hvl : leadN x < 100000 := by
        have h1 : ((lead x).take 5).all digB = true := List.all_eq_true.2 fun y hy => List.all_eq_true.1 (lead_all x) y (List.mem_of_mem_take hy)
        have h2 := value_le _ h1
        have h3 : ((lead x).take 5).length ≤ 5 := by simp; omega
        have h4 : 10 ^ ((lead x).take 5).length ≤ 10 ^ 5 := Nat.pow_le_pow_right (by decide) h3
        unfold leadN; omega
      generalize (lead x).length = a at a1 eo hle
      generalize leadN x = b at a1 eo hvl
      cases x with
      | nil =>
        have hz : a = 0 := by simp at hle; exact hle
        subst hz
        rw [all_no e2 (p := octet) (by rfl)]
        repeat' (first | refine zt ?_ | (refine isR ?_; first | refine zo ?_ | refine zk a1 ?_ | refine zA ?_ | refine zL ?_ | refine zc1 ?_ | refine zc3 ?_ | refine zc5 ?_ | refine zc6 ?_ | refine zI ?_ | (refine zs1 ?_ ?_ <;> intro hc) | (refine zs3 ?_ ?_ <;> intro hc) | (refine zs5 ?_ ?_ <;> intro hc) | (refine zs6 ?_ ?_ <;> intro hc)) | refine awp_split rfl (fun hb => ?_) (fun hb => ?_) | refine zr ?_ | exact x_le)
        rfl
      | cons c r =>
        have e3 : (c :: r)[(0 : Int).toNat]? = some c := rfl
        have hc := c.toNat_lt
        have eg : (c :: r).getD 0 0 = c := rfl
        rw [eg] at eo
        have e48 : (c == 48) = decide ((c.toNat : Int) = 48) := by
          by_cases h : c = 48
          · subst h; rfl
          · have : ¬ ((c.toNat : Int) = 48) := fun e => h (UInt8.toNat.inj (by simpa using Int.ofNat.inj e))
            simp [h, this]
        rw [e48] at eo
        have hcr : (c :: r).length = r.length + 1 := List.length_cons
        rw [hcr] at eo
        repeat' (first | refine zt ?_ | (refine isR ?_; first | refine zo ?_ | refine zk a1 ?_ | refine zA ?_ | refine zL ?_ | refine zc1 ?_ | refine zc3 ?_ | refine zc5 ?_ | refine zc6 ?_ | refine zI ?_ | (refine zs1 ?_ ?_ <;> intro hc) | (refine zs3 ?_ ?_ <;> intro hc) | (refine zs5 ?_ ?_ <;> intro hc) | (refine zs6 ?_ ?_ <;> intro hc)) | refine awp_split rfl (fun hb => ?_) (fun hb => ?_) | refine zr ?_ | exact x_le)
        all_goals first
          | (rw [all_no e2 (p := octet) (by rw [eo]; simp; try omega)]
             rfl)
          | exact ⟨⟨by omega, hq.on e2 (by rw [eo]; simp; try omega)⟩, hk2, (by exact x_le)⟩
    · skip
      repeat' (first | refine zt ?_ | (refine isR ?_; first | refine zo ?_ | refine zA ?_ | refine zL ?_ | refine zc1 ?_ | refine zc3 ?_ | refine zc5 ?_ | refine zc6 ?_ | refine zI ?_ | (refine zs1 ?_ ?_ <;> intro hc) | (refine zs3 ?_ ?_ <;> intro hc) | (refine zs5 ?_ ?_ <;> intro hc) | (refine zs6 ?_ ?_ <;> intro hc)) | refine awp_split rfl (fun hb => ?_) (fun hb => ?_) | refine zr ?_ | exact x_le)
      rw [hq.all hk2]; rfl
  · simp only [h4, decide_false, Bool.false_and]
    repeat' (first | refine zt ?_ | (refine isR ?_; first | refine zo ?_ | refine zk c1 ?_ | refine zA ?_ | refine zL ?_ | refine zc1 ?_ | refine zc3 ?_ | refine zc5 ?_ | refine zc6 ?_ | refine zI ?_ | (refine zs1 ?_ ?_ <;> intro hc) | (refine zs3 ?_ ?_ <;> intro hc) | (refine zs5 ?_ ?_ <;> intro hc) | (refine zs6 ?_ ?_ <;> intro hc)) | refine awp_split rfl (fun hb => ?_) (fun hb => ?_) | refine zr ?_ | exact x_le)
    rfl
theorem hasSuffix_v {l m : List UInt8} : ACalls Tryz.prog 82 [strT l, strT m] (.bool (endsB l m)) := fun g N w vs hG hN hlen hv => by
  obtain ⟨vs⟩ := vs
  match vs, hlen with
  | [x0, x1], _ =>
    obtain ⟨rfl, h0⟩ := fz_str (hv 0 _ x0 rfl rfl)
    obtain ⟨rfl, h1⟩ := fz_str (hv 1 _ x1 rfl rfl)
    simp only [SLIM] at h0
    refine (Tryz.strings_HasSuffix (str l) (str m) w (by omega)).mono fun e w' ⟨h2, h3⟩ => ⟨_, h2, by rw [h3]; exact Below.refl _ _, ?_⟩
    have : Lib.hasSuffix (str l).data.toList (str m).data.toList = endsB l m := by
      rw [str_toList, str_toList, Bool.eq_iff_iff, endsB_iff]
      unfold Lib.hasSuffix
      rw [List.isSuffixOf_iff_suffix]
      exact ⟨fun ⟨x, hx⟩ => ⟨x, hx.symm⟩, fun ⟨x, hx⟩ => ⟨x, hx.symm⟩⟩
    rw [this]; exact .bool
set_option maxRecDepth 100000 in
set_option maxHeartbeats 4000000 in
theorem match_v {l m : List UInt8} (hl : l.length ≤ 4398046511104) (hm : m.length ≤ 140737488355327) : ACallsG Tryz.prog gStr 70 [strT l, strT m] (.bool (matchF l m)) := by
  have c1 := address_v hl
  have c2 := hasSuffix_v (l := l) (m := [46] ++ m)
  have em : matchF l m = (l == m || (!address l && endsB l ([46] ++ m))) := rfl
  rw [em]
  refine funG2 tb_ok Tryz.func70 rfl Tryz.ntmps70 Tryz.results70 rfl fun N => ?_
  repeat' (first | refine zt ?_ | (refine isR ?_; first | refine zo ?_ | refine x_callS (c1 _) (fun hb => ?_) (fun hb => ?_) | refine x_callS (c1) (fun hb => ?_) (fun hb => ?_) | refine x_callS (c2 _) (fun hb => ?_) (fun hb => ?_) | refine x_callS (c2) (fun hb => ?_) (fun hb => ?_) | refine zA ?_ | refine zc5 ?_ | (refine zs5 ?_ ?_ <;> intro hc)) | refine awp_split rfl (fun hb => ?_) (fun hb => ?_) | refine zr ?_ | exact x_le)
  all_goals (show V.bool _ = V.bool _; simp_all)
theorem match_short {l m : List UInt8} (h : l.length < m.length) : matchF l m = false := by
  unfold matchF endsB
  have h1 : (l == m) = false := by
    simp only [beq_eq_false_iff_ne]
    intro e; rw [e] at h; omega
  have h2 : decide ((46 :: m).length ≤ l.length) = false := by simp; omega
  rw [h1, h2]; simp
theorem match_drop {l m : List UInt8} {d : Nat} (h : m.length + d = l.length) : matchF l m = (decide (l.drop d = m) && (decide (d = 0) || (!address l && decide (l[d - 1]? = some 46)))) := by
  rcases Nat.eq_zero_or_pos d with rfl | hd
  · have hl : m.length = l.length := by omega
    unfold matchF endsB
    have h2 : decide ((46 :: m).length ≤ l.length) = false := by simp; omega
    rw [h2]
    simp only [List.drop_zero, decide_true, Bool.true_or, Bool.and_true, Bool.false_and, Bool.and_false, Bool.or_false]
    by_cases e : l = m <;> simp [e]
  · have e1 : (l == m) = false := by
      simp only [beq_eq_false_iff_ne]
      intro e; rw [e] at h; omega
    have h2 : decide ((46 :: m).length ≤ l.length) = true := by simp; omega
    have hlt : d - 1 < l.length := by omega
    have h3 : l.length - (46 :: m).length = d - 1 := by simp; omega
    have h4 : l.drop (d - 1) = l[d - 1] :: l.drop d := by
      have := List.drop_eq_getElem_cons hlt
      rw [this, show d - 1 + 1 = d by omega]
    unfold matchF endsB
    rw [e1, h2, h3, h4, List.getElem?_eq_getElem hlt]
    have hd0 : decide (d = 0) = false := by simp; omega
    rw [hd0]
    by_cases k1 : l.drop d = m <;> by_cases k2 : l[d - 1] = 46 <;> simp [k1, k2]
set_option maxRecDepth 100000 in
set_option maxHeartbeats 4000000 in
theorem isMatch_v {l m : List UInt8} (hl : l.length ≤ 4398046511104) (hm : m.length ≤ 140737488355327) : ACalls Tryz.prog 68 [strT l, strT m] (.bool (matchF l m)) := by
  have c1 := isAddress_v hl
  refine fun2 tb_ok Tryz.func68 rfl Tryz.ntmps68 Tryz.results68 rfl fun N => ?_
  by_cases hlt : l.length < m.length
  · rw [match_short hlt]
    repeat' (first | refine zt ?_ | (refine isR ?_; first | refine zo ?_ | refine zA ?_ | refine zL ?_ | refine zc1 ?_ | refine zc5 ?_ | refine zc6 ?_ | refine zI ?_ | refine zS ?_ | (refine zs1 ?_ ?_ <;> intro hc) | (refine zs5 ?_ ?_ <;> intro hc) | (refine zs6 ?_ ?_ <;> intro hc)) | refine awp_split rfl (fun hb => ?_) (fun hb => ?_) | refine zr ?_ | exact x_le)
    rfl
  · obtain ⟨d, hd⟩ : ∃ d, m.length + d = l.length := ⟨l.length - m.length, by omega⟩
    rw [match_drop hd]
    have ed : (l.length : Int) - (m.length : Int) = (d : Int) := by omega
    have hdr : List.drop ((d : Int)).toNat l = l.drop d := rfl
    by_cases h1 : l.drop d = m
    · have h1' : List.drop ((d : Int)).toNat l = m := h1
      rcases Nat.eq_zero_or_pos d with rfl | hp
      · skip
        repeat' (first | refine zt ?_ | (refine isR ?_; first | refine zo ?_ | refine zA ?_ | refine zL ?_ | refine zc1 ?_ | refine zc5 ?_ | refine zc6 ?_ | refine zI ?_ | refine zS ?_ | (refine zs1 ?_ ?_ <;> intro hc) | (refine zs5 ?_ ?_ <;> intro hc) | (refine zs6 ?_ ?_ <;> intro hc)) | refine awp_split rfl (fun hb => ?_) (fun hb => ?_) | refine zr ?_ | exact x_le)
        simp [h1]; rfl
      · have e1 : l[d - 1]? = some (l[d - 1]'(by omega)) := by simp
        generalize l[d - 1]'(by omega) = c at e1
        have e2 : l[((d : Int) - 1).toNat]? = some c := by rw [show ((d : Int) - 1).toNat = d - 1 by omega]; exact e1
        have e46 : decide (l[d - 1]? = some 46) = decide ((c.toNat : Int) = 46) := by
          rw [e1]
          by_cases h : c = 46
          · subst h; rfl
          · have : ¬ ((c.toNat : Int) = 46) := fun e => h (UInt8.toNat.inj (by simpa using Int.ofNat.inj e))
            simp [h, this]
        rw [e46]
        have hd0 : decide (d = 0) = false := by simp; omega
        rw [hd0]
        repeat' (first | refine zt ?_ | (refine isR ?_; first | refine zo ?_ | refine x_callS (c1 _) (fun hb => ?_) (fun hb => ?_) | refine x_callS (c1) (fun hb => ?_) (fun hb => ?_) | refine zA ?_ | refine zL ?_ | refine zc1 ?_ | refine zc5 ?_ | refine zc6 ?_ | refine zI ?_ | refine zS ?_ | (refine zs1 ?_ ?_ <;> intro hc) | (refine zs5 ?_ ?_ <;> intro hc) | (refine zs6 ?_ ?_ <;> intro hc)) | refine awp_split rfl (fun hb => ?_) (fun hb => ?_) | refine zr ?_ | exact x_le)
        all_goals (show V.bool _ = V.bool _; simp [*])
    · have h1' : ¬ List.drop ((d : Int)).toNat l = m := h1
      repeat' (first | refine zt ?_ | (refine isR ?_; first | refine zo ?_ | refine zA ?_ | refine zL ?_ | refine zc1 ?_ | refine zc5 ?_ | refine zc6 ?_ | refine zI ?_ | refine zS ?_ | (refine zs1 ?_ ?_ <;> intro hc) | (refine zs5 ?_ ?_ <;> intro hc) | (refine zs6 ?_ ?_ <;> intro hc)) | refine awp_split rfl (fun hb => ?_) (fun hb => ?_) | refine zr ?_ | exact x_le)
      simp [h1]; rfl
end Go.Proofs.YtoehdmbogdpncaaGreatDoor.HostC
end

section
namespace Go.Proofs.YtoehdmbogdpncaaGreatDoor.HostD
open Go.RowKit Mem Abs HostP HostO HostA HostB HostC TreeW WordP WordS Globs

/-- The ends behind the dots among the first k. -/
def behind (l : List UInt8) (k : Nat) : List (List UInt8) := ((List.range k).filter fun i => l[i]? == some 46).map fun i => l.drop (i + 1)
end Go.Proofs.YtoehdmbogdpncaaGreatDoor.HostD
end

section
namespace Go.Proofs.YtoehdmbogdpncaaGreatDoor.PathT
open Go.RowKit Mem Abs TreeW

/-! ### Beginnings -/
def pre (l m : List UInt8) : Bool := decide (l.take m.length = m)
theorem pre_iff (l m : List UInt8) : pre l m = true ↔ ∃ x, l = m ++ x := by
  unfold pre
  rw [decide_eq_true_eq]
  constructor
  · intro h
    exact ⟨l.drop m.length, by conv => { lhs; rw [← List.take_append_drop m.length l, h] }⟩
  · rintro ⟨x, rfl⟩
    simp
theorem pre_len {l m : List UInt8} (h : pre l m = true) : m.length ≤ l.length := by
  obtain ⟨x, rfl⟩ := (pre_iff l m).1 h
  simp
set_option maxRecDepth 100000 in
set_option maxHeartbeats 4000000 in
theorem hasPrefixL_v {l m : List UInt8} : ACalls Tryz.prog 74 [strT l, strT m] (.bool (pre l m)) := by
  refine fun2 tb_ok Tryz.func74 rfl Tryz.ntmps74 Tryz.results74 rfl fun N => ?_
  by_cases h0 : m.length ≤ l.length
  · have e : l.take ((m.length : Int)).toNat = l.take m.length := rfl
    by_cases h1 : l.take ((m.length : Int)).toNat = m
    · skip
      repeat' (first | refine zt ?_ | (refine isR ?_; first | refine zo ?_ | refine zL ?_ | refine zc4 ?_ | refine zc5 ?_ | refine zS ?_ | (refine zs4 ?_ ?_ <;> intro hc) | (refine zs5 ?_ ?_ <;> intro hc)) | refine awp_split rfl (fun hb => ?_) (fun hb => ?_) | refine zr ?_ | exact x_le)
      rw [show pre l m = true from decide_eq_true h1]; rfl
    · skip
      repeat' (first | refine zt ?_ | (refine isR ?_; first | refine zo ?_ | refine zL ?_ | refine zc4 ?_ | refine zc5 ?_ | refine zS ?_ | (refine zs4 ?_ ?_ <;> intro hc) | (refine zs5 ?_ ?_ <;> intro hc)) | refine awp_split rfl (fun hb => ?_) (fun hb => ?_) | refine zr ?_ | exact x_le)
      rw [show pre l m = false from decide_eq_false h1]; rfl
  · skip
    repeat' (first | refine zt ?_ | (refine isR ?_; first | refine zo ?_ | refine zL ?_ | refine zc4 ?_ | refine zc5 ?_ | refine zS ?_ | (refine zs4 ?_ ?_ <;> intro hc) | (refine zs5 ?_ ?_ <;> intro hc)) | refine awp_split rfl (fun hb => ?_) (fun hb => ?_) | refine zr ?_ | exact x_le)
    have : pre l m = false := by
      cases h : pre l m with
      | false => rfl
      | true => exact absurd (pre_len h) h0
    rw [this]; rfl
set_option maxRecDepth 100000 in
set_option maxHeartbeats 4000000 in
theorem hasPrefix_v {l m : List UInt8} : ACalls Tryz.prog 59 [strT l, strT m] (.bool (pre l m)) := by
  have c1 := hasPrefixL_v (l := l) (m := m)
  refine fun2 tb_ok Tryz.func59 rfl Tryz.ntmps59 Tryz.results59 rfl fun N => ?_
  repeat' (first | refine zt ?_ | (refine isR ?_; first | refine zo ?_ | refine zk c1 ?_) | refine awp_split rfl (fun hb => ?_) (fun hb => ?_) | refine zr ?_ | exact x_le)
  rfl
def cutP (l m : List UInt8) : List UInt8 × Bool := if pre l m then (l.drop m.length, true) else (l, false)
set_option maxRecDepth 100000 in
set_option maxHeartbeats 4000000 in
theorem cutPrefixL_v {l m : List UInt8} : ACalls Tryz.prog 98 [strT l, strT m] (.tup [strT (cutP l m).1, .bool (cutP l m).2]) := by
  have c1 := hasPrefixL_v (l := l) (m := m)
  cases hp : pre l m with
  | true =>
    have := pre_len hp
    have e : cutP l m = (l.drop m.length, true) := by unfold cutP; rw [hp]; rfl
    rw [e]
    rw [hp] at c1
    refine fun2 tb_ok Tryz.func98 rfl Tryz.ntmps98 Tryz.results98 rfl fun N => ?_
    repeat' (first | refine zt ?_ | (refine isR ?_; first | refine zo ?_ | refine zk c1 ?_ | refine zL ?_ | refine zS ?_) | refine awp_split rfl (fun hb => ?_) (fun hb => ?_) | refine zr ?_ | exact x_le)
    rfl
  | false =>
    have e : cutP l m = (l, false) := by unfold cutP; rw [hp]; rfl
    rw [e]
    rw [hp] at c1
    refine fun2 tb_ok Tryz.func98 rfl Tryz.ntmps98 Tryz.results98 rfl fun N => ?_
    repeat' (first | refine zt ?_ | (refine isR ?_; first | refine zo ?_ | refine zk c1 ?_ | refine zL ?_ | refine zS ?_) | refine awp_split rfl (fun hb => ?_) (fun hb => ?_) | refine zr ?_ | exact x_le)
    rfl
set_option maxRecDepth 100000 in
set_option maxHeartbeats 4000000 in
theorem cutPrefix_v {l m : List UInt8} : ACalls Tryz.prog 83 [strT l, strT m] (.tup [strT (cutP l m).1, .bool (cutP l m).2]) := by
  have c1 := cutPrefixL_v (l := l) (m := m)
  generalize cutP l m = p at *
  refine fun2 tb_ok Tryz.func83 rfl Tryz.ntmps83 Tryz.results83 rfl fun N => ?_
  repeat' (first | refine zt ?_ | (refine isR ?_; first | refine zo ?_ | refine zk c1 ?_) | refine awp_split rfl (fun hb => ?_) (fun hb => ?_) | refine zr ?_ | exact x_le)
  rfl
/-! ### Paths -/
def pathF (p o : List UInt8) : Bool := pre p o && (decide (p.drop o.length = []) || decide (o.getLast? = some 47) || decide ((p.drop o.length).head? = some 47))
end Go.Proofs.YtoehdmbogdpncaaGreatDoor.PathT
end

section
namespace Go.Proofs.YtoehdmbogdpncaaGreatDoor.Rune
open Abs
theorem get_str (l : List UInt8) (i : Nat) : (str l).get! i = l.getD i 0 := by
  show l.toArray[i]! = _
  rw [List.getElem!_toArray, List.getD_eq_getElem?_getD, List.getElem!_eq_getElem?_getD]
  rfl
theorem getD_some {l : List UInt8} {i : Nat} (h : i < l.length) : l[i]? = some (l.getD i 0) := by
  rw [List.getD_eq_getElem?_getD, List.getElem?_eq_getElem h]; rfl
theorem rune_at (l : List UInt8) (pos : Nat) (h : pos < l.length) : ∃ c wd, Utf8.decode (str l) pos = (c, wd) ∧ 1 ≤ wd ∧ pos + wd ≤ l.length ∧ c ≤ 1114111 ∧
    ((∃ b, l[pos]? = some b ∧ b.toNat < 128 ∧ c = b.toNat ∧ wd = 1) ∨ (128 ≤ c ∧ ∀ j, pos ≤ j → j < pos + wd → ∃ b, l[j]? = some b ∧ 128 ≤ b.toNat)) := by
  have hr := Lib.rune_le (str l) pos
  have hd := Lib.decode_at (str l) pos
  rw [get_str, get_str, get_str, get_str, str_size] at hd
  have h0 := getD_some h
  have hb := (l.getD pos 0).toNat_lt
  have hs := Lib.decodeN_shape (l.length - pos) (l.getD pos 0).toNat (l.getD (pos + 1) 0).toNat (l.getD (pos + 2) 0).toNat (l.getD (pos + 3) 0).toNat
  rcases hs with ⟨g1, g2⟩ | ⟨g1, g2, g3, g4, g5⟩ | ⟨g1, g2, g3, g4, g5, g6, g7⟩ | ⟨g1, g2, g3, g4, g5, g6, g7, g8⟩ | g1
  · rw [g2] at hd
    exact ⟨_, _, hd, by omega, by omega, by omega, .inl ⟨_, h0, g1, rfl, rfl⟩⟩
  · rw [g5] at hd
    refine ⟨_, _, hd, by omega, by omega, by rw [hd] at hr; exact hr, .inr ⟨g4, fun j h1 h2 => ?_⟩⟩
    refine ⟨_, getD_some (by omega), ?_⟩
    rcases (show j = pos ∨ j = pos + 1 by omega) with rfl | rfl <;> omega
  · rw [g7] at hd
    refine ⟨_, _, hd, by omega, by omega, by rw [hd] at hr; exact hr, .inr ⟨by omega, fun j h1 h2 => ?_⟩⟩
    refine ⟨_, getD_some (by omega), ?_⟩
    rcases (show j = pos ∨ j = pos + 1 ∨ j = pos + 2 by omega) with rfl | rfl | rfl <;> omega
  · rw [g8] at hd
    refine ⟨_, _, hd, by omega, by omega, by rw [hd] at hr; exact hr, .inr ⟨by omega, fun j h1 h2 => ?_⟩⟩
    refine ⟨_, getD_some (by omega), ?_⟩
    rcases (show j = pos ∨ j = pos + 1 ∨ j = pos + 2 ∨ j = pos + 3 by omega) with rfl | rfl | rfl | rfl <;> omega
  · rw [g1] at hd
    by_cases h1 : (l.getD pos 0).toNat < 128
    · exfalso
      have : Lib.decodeN (l.length - pos) (l.getD pos 0).toNat (l.getD (pos + 1) 0).toNat (l.getD (pos + 2) 0).toNat (l.getD (pos + 3) 0).toNat = ((l.getD pos 0).toNat, 1) := by unfold Lib.decodeN; rw [if_pos h1]
      rw [g1] at this
      have := congrArg Prod.fst this
      dsimp only at this; omega
    · refine ⟨_, _, hd, by omega, by omega, by omega, .inr ⟨by omega, fun j h2 h3 => ?_⟩⟩
      obtain rfl : j = pos := by omega
      exact ⟨_, h0, by omega⟩
end Go.Proofs.YtoehdmbogdpncaaGreatDoor.Rune
end

section
namespace Go.Proofs.YtoehdmbogdpncaaGreatDoor.Rdy
open Go.RowKit Mem Abs TreeW HostP HostO HostA HostB HostC HostD PathT WordP WordS Rune JarP JarQ JarA

def hostOk (l : List UInt8) : Bool := decide (canonF l = (l, 0))
def badI (c : Int) : Bool := (decide (c < 32) && !decide (c = 9)) || decide (c = 127)
def badB (b : UInt8) : Bool := badI (b.toNat : Int)
def letF (s : List UInt8) : Bool := s.all fun b => !badB b
theorem hostOk_eq (l : List UInt8) : hostOk l = (decide ((canonF l).2 = 0) && decide ((canonF l).1 = l)) := by
  unfold hostOk
  obtain ⟨a, b⟩ := canonF l
  simp [Bool.and_comm, Prod.mk.injEq, Bool.decide_and]
set_option maxRecDepth 100000 in
set_option maxHeartbeats 4000000 in
theorem host_v {l : List UInt8} : ACalls Tryz.prog 58 [strT l] (.bool (hostOk l)) := by
  have c1 := canon_v (l := l)
  rw [hostOk_eq]
  generalize canonF l = p at *
  obtain ⟨h, n⟩ := p
  dsimp only [pairT] at c1
  refine fun1 tb_ok Tryz.func58 rfl Tryz.ntmps58 Tryz.results58 rfl fun N => ?_
  by_cases h0 : n = 0
  · subst h0
    by_cases h1 : h = l
    · subst h1
      repeat' (first | refine zt ?_ | (refine isR ?_; first | refine zo ?_ | refine zk c1 ?_ | refine zc5 ?_ | (refine zs5 ?_ ?_ <;> intro hc)) | refine awp_split rfl (fun hb => ?_) (fun hb => ?_) | refine zr ?_ | exact x_le)
      simp; rfl
    · skip
      repeat' (first | refine zt ?_ | (refine isR ?_; first | refine zo ?_ | refine zk c1 ?_ | refine zc5 ?_ | (refine zs5 ?_ ?_ <;> intro hc)) | refine awp_split rfl (fun hb => ?_) (fun hb => ?_) | refine zr ?_ | exact x_le)
      simp [h1]; rfl
  · skip
    repeat' (first | refine zt ?_ | (refine isR ?_; first | refine zo ?_ | refine zk c1 ?_ | refine zc5 ?_ | (refine zs5 ?_ ?_ <;> intro hc)) | refine awp_split rfl (fun hb => ?_) (fun hb => ?_) | refine zr ?_ | exact x_le)
    simp [h0]; rfl
set_option maxRecDepth 100000 in
set_option maxHeartbeats 4000000 in
theorem isHost_v {l : List UInt8} : ACalls Tryz.prog 64 [strT l] (.bool (hostOk l)) := by
  have c1 := hostOf_v (l := l)
  rw [hostOk_eq]
  generalize canonF l = p at *
  obtain ⟨h, n⟩ := p
  dsimp only [pairT] at c1
  refine fun1 tb_ok Tryz.func64 rfl Tryz.ntmps64 Tryz.results64 rfl fun N => ?_
  by_cases h0 : n = 0
  · subst h0
    by_cases h1 : h = l
    · subst h1
      repeat' (first | refine zt ?_ | (refine isR ?_; first | refine zo ?_ | refine zk c1 ?_ | refine zc5 ?_ | (refine zs5 ?_ ?_ <;> intro hc)) | refine awp_split rfl (fun hb => ?_) (fun hb => ?_) | refine zr ?_ | exact x_le)
      simp; rfl
    · skip
      repeat' (first | refine zt ?_ | (refine isR ?_; first | refine zo ?_ | refine zk c1 ?_ | refine zc5 ?_ | (refine zs5 ?_ ?_ <;> intro hc)) | refine awp_split rfl (fun hb => ?_) (fun hb => ?_) | refine zr ?_ | exact x_le)
      simp [h1]; rfl
  · skip
    repeat' (first | refine zt ?_ | (refine isR ?_; first | refine zo ?_ | refine zk c1 ?_ | refine zc5 ?_ | (refine zs5 ?_ ?_ <;> intro hc)) | refine awp_split rfl (fun hb => ?_) (fun hb => ?_) | refine zr ?_ | exact x_le)
    simp [h0]; rfl
set_option maxRecDepth 100000 in
set_option maxHeartbeats 4000000 in
theorem let1_v {c : Int} : ACalls Tryz.prog 76 [.int .i32 c] (.bool (badI c)) := by
  refine fun1 tb_ok Tryz.func76 rfl Tryz.ntmps76 Tryz.results76 rfl fun N => ?_
  unfold badI
  repeat' (first | refine zt ?_ | (refine isR ?_; first | refine zo ?_ | refine zc1 ?_ | refine zc5 ?_ | refine zc6 ?_ | (refine zs1 ?_ ?_ <;> intro hc) | (refine zs5 ?_ ?_ <;> intro hc) | (refine zs6 ?_ ?_ <;> intro hc)) | refine awp_split rfl (fun hb => ?_) (fun hb => ?_) | refine zr ?_ | exact x_le)
  all_goals (show V.bool _ = V.bool _; first | (simp [*]; done) | (simp [*]; omega))
set_option maxRecDepth 100000 in
set_option maxHeartbeats 4000000 in
theorem idx_v {s : List UInt8} : ACalls Tryz.prog 87 [strT s, .fn (.func 76) [] [], .bool true] (.int .i64 (firstI badB s)) := ACalls.lim fun hl => by
  have hlim := (TreeW.str_lim hl).1
  refine fun3 tb_ok Tryz.func87 rfl Tryz.ntmps87 Tryz.results87 rfl fun N => ?_
  repeat' (first | refine zt ?_ | (refine isR ?_; first | refine zo ?_ | refine x_range tb_ok ?_ | refine zc5 ?_ | (refine zs5 ?_ ?_ <;> intro hc)) | refine awp_split rfl (fun hb => ?_) (fun hb => ?_) | refine zr ?_ | exact x_le)
  refine awp_while (fun k => ⟨[(0, strT s), (1, .fn (.func 76) [] []), (2, .bool true), (10, .loc 0 0 0)], [(0, some (.sit (str s) k))], 1, 21⟩) (fun k => k ≤ s.length ∧ ∀ j y, j < k → s[j]? = some y → badB y = false) (fun k => s.length - k) 0 (by exact x_le) ⟨Nat.zero_le _, fun j y h => absurd h (Nat.not_lt_zero _)⟩ ?_
  intro k ⟨hk, hp⟩
  have hsz : (str s).size = s.length := str_size s
  by_cases hk2 : k < s.length
  · obtain ⟨c, wd, hdec, h1, h2, h3, hcase⟩ := rune_at s k hk2
    have hps : k < (str s).size := by rw [hsz]; exact hk2
    have hw : k + wd ≤ SLIM := by simp only [SLIM]; omega
    have c1 := let1_v (c := (c : Int))
    rcases hcase with ⟨b, g1, g2, g3, g4⟩ | ⟨g1, g2⟩
    · cases hb : badI (c : Int) with
      | true =>
        rw [hb] at c1
        repeat' (first | refine zt ?_ | (refine isR ?_; first | refine zo ?_ | refine x_next _ _ ?_ | refine x_callv (c1 _) ?_ | refine x_callv (c1) ?_ | refine zc5 ?_ | (refine zs5 ?_ ?_ <;> intro hc)) | refine awp_split rfl (fun hb => ?_) (fun hb => ?_) | refine zr ?_ | exact x_le)
        show V.int .i64 _ = V.int .i64 _
        rw [firstI_at hp g1 (by unfold badB; rw [← g3]; exact hb)]
      | false =>
        rw [hb] at c1
        repeat' (first | refine zt ?_ | (refine isR ?_; first | refine zo ?_ | refine x_next _ _ ?_ | refine x_callv (c1 _) ?_ | refine x_callv (c1) ?_ | refine zc5 ?_ | (refine zs5 ?_ ?_ <;> intro hc)) | refine awp_split rfl (fun hb => ?_) (fun hb => ?_) | refine zr ?_ | exact x_le)
        refine ⟨k + wd, ⟨h2, fun j y hj hy => ?_⟩, by omega, (by exact x_le)⟩
        by_cases e : j < k
        · exact hp j y e hy
        · obtain rfl : j = k := by omega
          rw [g1] at hy; cases hy
          unfold badB; rw [← g3]; exact hb
    · have hb : badI (c : Int) = false := by
        unfold badI
        rw [decide_eq_false (by omega), decide_eq_false (by omega), decide_eq_false (by omega)]; rfl
      rw [hb] at c1
      repeat' (first | refine zt ?_ | (refine isR ?_; first | refine zo ?_ | refine x_next _ _ ?_ | refine x_callv (c1 _) ?_ | refine x_callv (c1) ?_ | refine zc5 ?_ | (refine zs5 ?_ ?_ <;> intro hc)) | refine awp_split rfl (fun hb => ?_) (fun hb => ?_) | refine zr ?_ | exact x_le)
      refine ⟨k + wd, ⟨h2, fun j y hj hy => ?_⟩, by omega, (by exact x_le)⟩
      by_cases e : j < k
      · exact hp j y e hy
      · obtain ⟨b, f1, f2⟩ := g2 j (by omega) (by omega)
        rw [f1] at hy; cases hy
        unfold badB badI
        rw [decide_eq_false (by omega), decide_eq_false (by omega), decide_eq_false (by omega)]; rfl
  · have hps : ¬ k < (str s).size := by rw [hsz]; exact hk2
    repeat' (first | refine zt ?_ | (refine isR ?_; first | refine zo ?_ | refine x_nextE ?_ | refine zc5 ?_ | (refine zs5 ?_ ?_ <;> intro hc)) | refine awp_split rfl (fun hb => ?_) (fun hb => ?_) | refine zr ?_ | exact x_le)
    show V.int .i64 _ = V.int .i64 _
    rw [firstI_none fun x hx => ?_]
    obtain ⟨i, hi⟩ := List.mem_iff_getElem?.1 hx
    exact hp i x (by have := (List.getElem?_eq_some_iff.1 hi).1; omega) hi
set_option maxRecDepth 100000 in
set_option maxHeartbeats 4000000 in
theorem index_v {s : List UInt8} : ACalls Tryz.prog 75 [strT s, .fn (.func 76) [] []] (.int .i64 (firstI badB s)) := by
  have c1 := idx_v (s := s)
  refine fun2 tb_ok Tryz.func75 rfl Tryz.ntmps75 Tryz.results75 rfl fun N => ?_
  repeat' (first | refine zt ?_ | (refine isR ?_; first | refine zo ?_ | refine zk c1 ?_) | refine awp_split rfl (fun hb => ?_) (fun hb => ?_) | refine zr ?_ | exact x_le)
  rfl
theorem first_let (s : List UInt8) : letF s = decide (firstI badB s < 0) := by
  have h := firstI_ge (p := badB) (l := s)
  have e : letF s = !s.any badB := by unfold letF; rw [List.not_any_eq_all_not]
  rw [e]
  cases ha : s.any badB with
  | true => rw [ha] at h; rw [decide_eq_false (by have := h.2 rfl; omega)]; rfl
  | false =>
    have : ¬ (0 ≤ firstI badB s) := fun g => by rw [h.1 g] at ha; cases ha
    rw [decide_eq_true (by omega)]; rfl
set_option maxRecDepth 100000 in
set_option maxHeartbeats 4000000 in
theorem let_v {s : List UInt8} : ACalls Tryz.prog 60 [strT s] (.bool (letF s)) := by
  have c1 := index_v (s := s)
  rw [first_let]
  generalize firstI badB s = n at *
  refine fun1 tb_ok Tryz.func60 rfl Tryz.ntmps60 Tryz.results60 rfl fun N => ?_
  repeat' (first | refine zt ?_ | (refine isR ?_; first | refine zo ?_ | refine zk c1 ?_ | refine zc1 ?_ | (refine zs1 ?_ ?_ <;> intro hc)) | refine awp_split rfl (fun hb => ?_) (fun hb => ?_) | refine zr ?_ | exact x_le)
  all_goals (show V.bool _ = V.bool _; simp [*])
set_option maxRecDepth 100000 in
set_option maxHeartbeats 4000000 in
theorem letOf_v {s : List UInt8} : ACalls Tryz.prog 65 [strT s] (.bool (letF s)) := ACalls.lim fun hl => by
  have hlim := (TreeW.str_lim hl).1
  refine fun1 tb_ok Tryz.func65 rfl Tryz.ntmps65 Tryz.results65 rfl fun N => ?_
  repeat' (first | refine zt ?_ | (refine isR ?_; first | refine zo ?_ | refine zA ?_ | refine zL ?_ | refine zc1 ?_ | refine zc2 ?_ | refine zc4 ?_ | refine zc5 ?_ | refine zI ?_ | (refine zs1 ?_ ?_ <;> intro hc) | (refine zs2 ?_ ?_ <;> intro hc) | (refine zs4 ?_ ?_ <;> intro hc) | (refine zs5 ?_ ?_ <;> intro hc)) | refine awp_split rfl (fun hb => ?_) (fun hb => ?_) | refine zr ?_ | exact x_le)
  refine awp_for (fun k => ⟨[(0, strT s), (3, .int .i64 (k : Int))], [], 0, 32⟩) (fun k => k ≤ s.length ∧ Upto (fun b => !badB b) s k) s.length 0 (by exact x_le) ⟨Nat.zero_le _, upto0⟩ ?_
  intro k ⟨hk, hq⟩
  by_cases hk2 : k < s.length
  · have e1 : s[((k : Int)).toNat]? = some s[k] := by simp [hk2]
    have e2 : s[k]? = some s[k] := by simp [hk2]
    generalize s[k] = b at e1 e2
    have hb := b.toNat_lt
    cases hbad : badB b with
    | true =>
      have hno := all_no (p := fun b => !badB b) e2 (by simp [hbad])
      unfold letF
      rw [hno]
      unfold badB badI at hbad
      simp only [Bool.or_eq_true, Bool.and_eq_true, Bool.not_eq_true', decide_eq_true_eq, decide_eq_false_iff_not] at hbad
      repeat' (first | refine zt ?_ | (refine isR ?_; first | refine zo ?_ | refine zA ?_ | refine zL ?_ | refine zc1 ?_ | refine zc2 ?_ | refine zc4 ?_ | refine zc5 ?_ | refine zI ?_ | (refine zs1 ?_ ?_ <;> intro hc) | (refine zs2 ?_ ?_ <;> intro hc) | (refine zs4 ?_ ?_ <;> intro hc) | (refine zs5 ?_ ?_ <;> intro hc)) | refine awp_split rfl (fun hb => ?_) (fun hb => ?_) | refine zr ?_ | exact x_le)
      all_goals first | rfl | (exfalso; omega)
    | false =>
      have hon := hq.on e2 (by simp [hbad])
      unfold badB badI at hbad
      simp only [Bool.or_eq_false_iff, Bool.and_eq_false_iff, Bool.not_eq_false', decide_eq_true_eq, decide_eq_false_iff_not] at hbad
      obtain ⟨hb1, hb2⟩ := hbad
      repeat' (first | refine zt ?_ | (refine isR ?_; first | refine zo ?_ | refine zA ?_ | refine zL ?_ | refine zc1 ?_ | refine zc2 ?_ | refine zc4 ?_ | refine zc5 ?_ | refine zI ?_ | (refine zs1 ?_ ?_ <;> intro hc) | (refine zs2 ?_ ?_ <;> intro hc) | (refine zs4 ?_ ?_ <;> intro hc) | (refine zs5 ?_ ?_ <;> intro hc)) | refine awp_split rfl (fun hb => ?_) (fun hb => ?_) | refine zr ?_ | exact x_le)
      all_goals first
        | (exfalso; omega)
        | (refine ⟨⟨by omega, hon⟩, by omega, ?_⟩
           exact (by exact x_le))
  · unfold letF
    rw [hq.all hk2]
    repeat' (first | refine zt ?_ | (refine isR ?_; first | refine zo ?_ | refine zA ?_ | refine zL ?_ | refine zc1 ?_ | refine zc2 ?_ | refine zc4 ?_ | refine zc5 ?_ | refine zI ?_ | (refine zs1 ?_ ?_ <;> intro hc) | (refine zs2 ?_ ?_ <;> intro hc) | (refine zs4 ?_ ?_ <;> intro hc) | (refine zs5 ?_ ?_ <;> intro hc)) | refine awp_split rfl (fun hb => ?_) (fun hb => ?_) | refine zr ?_ | exact x_le)
    rfl
set_option maxRecDepth 100000 in
set_option maxHeartbeats 4000000 in
theorem contains_v {s : List UInt8} {c : UInt8} : ACalls Tryz.prog 61 [strT s, strT [c]] (.bool (s.contains c)) := fun g N w vs hG hN hlen hv => by
  obtain ⟨vs⟩ := vs
  match vs, hlen with
  | [x0, x1], _ =>
    obtain ⟨rfl, h0⟩ := fz_str (hv 0 _ x0 rfl rfl)
    obtain ⟨rfl, _⟩ := fz_str (hv 1 _ x1 rfl rfl)
    refine (Tryz.strings_Contains_one (str s) c w).mono fun e w' ⟨h1, h2⟩ => ⟨_, h1, h2 ▸ Below.refl _ _, ?_⟩
    rw [str_toList, index_ge]
    exact .bool
def readyF (f : From) (now : Int) : Int := if hostOk f.host = true ∧ pre f.path [47] = true ∧ letF f.path = true ∧ f.path.contains 59 = false ∧ f.path.length ≤ 400 then (if isJ now then 0 else 3) else 1
set_option maxRecDepth 100000 in
set_option maxHeartbeats 4000000 in
theorem ready_v {f : From} {now : Int} : ACalls Tryz.prog 38 [f.v, .int .i64 now] (.int .i64 (readyF f now)) := by
  have c1 := host_v (l := f.host)
  have c2 := hasPrefix_v (l := f.path) (m := [47])
  have c3 := let_v (s := f.path)
  have c4 := contains_v (s := f.path) (c := 59)
  have c5 := is_v (n := now)
  unfold readyF
  obtain ⟨f1, f2, f3, f4, f5⟩ := f
  dsimp only at *
  generalize hostOk f1 = x1 at *
  generalize pre f2 [47] = x2 at *
  generalize letF f2 = x3 at *
  generalize f2.contains 59 = x4 at *
  generalize isJ now = x5 at *
  show ACalls _ _ [.agg [strT f1, strT f2, .bool f3, .bool f4, .bool f5], .int .i64 now] _
  have z : ∀ {p : Prop} [Decidable p] {a b : Int}, ¬ p → (if p then a else b) = b := fun h => if_neg h
  cases x1
  · rw [z (by simp)]
    refine fun2 tb_ok Tryz.func38 rfl Tryz.ntmps38 Tryz.results38 rfl fun N => ?_
    repeat' (first | refine zt ?_ | (refine isR ?_; first | refine zo ?_ | refine zk c1 ?_ | refine zL ?_ | refine zc3 ?_ | (refine zs3 ?_ ?_ <;> intro hc)) | refine awp_split rfl (fun hb => ?_) (fun hb => ?_) | refine zr ?_ | exact x_le)
    rfl
  cases x2
  · rw [z (by simp)]
    refine fun2 tb_ok Tryz.func38 rfl Tryz.ntmps38 Tryz.results38 rfl fun N => ?_
    repeat' (first | refine zt ?_ | (refine isR ?_; first | refine zo ?_ | refine zk c1 ?_ | refine zk c2 ?_ | refine zL ?_ | refine zc3 ?_ | (refine zs3 ?_ ?_ <;> intro hc)) | refine awp_split rfl (fun hb => ?_) (fun hb => ?_) | refine zr ?_ | exact x_le)
    rfl
  cases x3
  · rw [z (by simp)]
    refine fun2 tb_ok Tryz.func38 rfl Tryz.ntmps38 Tryz.results38 rfl fun N => ?_
    repeat' (first | refine zt ?_ | (refine isR ?_; first | refine zo ?_ | refine zk c1 ?_ | refine zk c2 ?_ | refine zk c3 ?_ | refine zL ?_ | refine zc3 ?_ | (refine zs3 ?_ ?_ <;> intro hc)) | refine awp_split rfl (fun hb => ?_) (fun hb => ?_) | refine zr ?_ | exact x_le)
    rfl
  cases x4
  · by_cases h : f2.length ≤ 400
    · rw [if_pos ⟨rfl, rfl, rfl, rfl, h⟩]
      cases x5
      · skip
        refine fun2 tb_ok Tryz.func38 rfl Tryz.ntmps38 Tryz.results38 rfl fun N => ?_
        repeat' (first | refine zt ?_ | (refine isR ?_; first | refine zo ?_ | refine zk c1 ?_ | refine zk c2 ?_ | refine zk c3 ?_ | refine zk c4 ?_ | refine zk c5 ?_ | refine zL ?_ | refine zc3 ?_ | (refine zs3 ?_ ?_ <;> intro hc)) | refine awp_split rfl (fun hb => ?_) (fun hb => ?_) | refine zr ?_ | exact x_le)
        rfl
      · skip
        refine fun2 tb_ok Tryz.func38 rfl Tryz.ntmps38 Tryz.results38 rfl fun N => ?_
        repeat' (first | refine zt ?_ | (refine isR ?_; first | refine zo ?_ | refine zk c1 ?_ | refine zk c2 ?_ | refine zk c3 ?_ | refine zk c4 ?_ | refine zk c5 ?_ | refine zL ?_ | refine zc3 ?_ | (refine zs3 ?_ ?_ <;> intro hc)) | refine awp_split rfl (fun hb => ?_) (fun hb => ?_) | refine zr ?_ | exact x_le)
        rfl
    · rw [z (by simp [h])]
      refine fun2 tb_ok Tryz.func38 rfl Tryz.ntmps38 Tryz.results38 rfl fun N => ?_
      repeat' (first | refine zt ?_ | (refine isR ?_; first | refine zo ?_ | refine zk c1 ?_ | refine zk c2 ?_ | refine zk c3 ?_ | refine zk c4 ?_ | refine zL ?_ | refine zc3 ?_ | (refine zs3 ?_ ?_ <;> intro hc)) | refine awp_split rfl (fun hb => ?_) (fun hb => ?_) | refine zr ?_ | exact x_le)
      rfl
  · rw [z (by simp)]
    refine fun2 tb_ok Tryz.func38 rfl Tryz.ntmps38 Tryz.results38 rfl fun N => ?_
    repeat' (first | refine zt ?_ | (refine isR ?_; first | refine zo ?_ | refine zk c1 ?_ | refine zk c2 ?_ | refine zk c3 ?_ | refine zk c4 ?_ | refine zL ?_ | refine zc3 ?_ | (refine zs3 ?_ ?_ <;> intro hc)) | refine awp_split rfl (fun hb => ?_) (fun hb => ?_) | refine zr ?_ | exact x_le)
    rfl
set_option maxRecDepth 100000 in
set_option maxHeartbeats 4000000 in
theorem readyOf_v {f : From} {now : Int} : ACalls Tryz.prog 40 [f.v, .int .i64 now] (.int .i64 (readyF f now)) := ACalls.lim fun hl => by
  have c1 := isHost_v (l := f.host)
  have c2 := letOf_v (s := f.path)
  have c3 := placeOf_v (c := 59) (l := f.path)
  have hp := pos_none (c := 59) (l := f.path)
  have c4 := noMoment_v (n := now)
  unfold readyF
  obtain ⟨f1, f2, f3, f4, f5⟩ := f
  dsimp only at *
  generalize hostOk f1 = x1 at *
  generalize letF f2 = x3 at *
  generalize posB 59 f2 = n at *
  generalize f2.contains 59 = x4 at *
  generalize isJ now = x5 at *
  show ACalls _ _ [.agg [strT f1, strT f2, .bool f3, .bool f4, .bool f5], .int .i64 now] _
  have z : ∀ {p : Prop} [Decidable p] {a b : Int}, ¬ p → (if p then a else b) = b := fun h => if_neg h
  cases x1
  · rw [z (by simp)]
    refine fun2 tb_ok Tryz.func40 rfl Tryz.ntmps40 Tryz.results40 rfl fun N => ?_
    repeat' (first | refine zt ?_ | (refine isR ?_; first | refine zo ?_ | refine zk c1 ?_ | refine zL ?_ | refine zc3 ?_ | refine zc4 ?_ | refine zc5 ?_ | refine zc6 ?_ | refine zI ?_ | (refine zs3 ?_ ?_ <;> intro hc) | (refine zs4 ?_ ?_ <;> intro hc) | (refine zs5 ?_ ?_ <;> intro hc) | (refine zs6 ?_ ?_ <;> intro hc)) | refine awp_split rfl (fun hb => ?_) (fun hb => ?_) | refine zr ?_ | exact x_le)
    rfl
  match f2 with
  | [] =>
    have h0 : ([] : List UInt8).length = 0 := rfl
    rw [z (by simp [pre])]
    refine fun2 tb_ok Tryz.func40 rfl Tryz.ntmps40 Tryz.results40 rfl fun N => ?_
    repeat' (first | refine zt ?_ | (refine isR ?_; first | refine zo ?_ | refine zk c1 ?_ | refine zL ?_ | refine zc3 ?_ | refine zc4 ?_ | refine zc5 ?_ | refine zc6 ?_ | refine zI ?_ | (refine zs3 ?_ ?_ <;> intro hc) | (refine zs4 ?_ ?_ <;> intro hc) | (refine zs5 ?_ ?_ <;> intro hc) | (refine zs6 ?_ ?_ <;> intro hc)) | refine awp_split rfl (fun hb => ?_) (fun hb => ?_) | refine zr ?_ | exact x_le)
    rfl
  | b :: t =>
    have e0 : (b :: t)[(0 : Int).toNat]? = some b := rfl
    have hb := b.toNat_lt
    have hlt : 0 < (b :: t).length := by simp
    by_cases hl4 : (b :: t).length ≤ 400
    · have hpre : pre (b :: t) [47] = decide (b = 47) := by unfold pre; simp
      have hbe : b = 47 ↔ (b.toNat : Int) = 47 := byte_eq
      by_cases h47 : b = 47
      · have h47' := hbe.1 h47
        rw [hpre, decide_eq_true h47]
        generalize b :: t = w at *
        cases x3
        · rw [z (by simp)]
          refine fun2 tb_ok Tryz.func40 rfl Tryz.ntmps40 Tryz.results40 rfl fun N => ?_
          repeat' (first | refine zt ?_ | (refine isR ?_; first | refine zo ?_ | refine zk c1 ?_ | refine zk c2 ?_ | refine zL ?_ | refine zc3 ?_ | refine zc4 ?_ | refine zc5 ?_ | refine zc6 ?_ | refine zI ?_ | (refine zs3 ?_ ?_ <;> intro hc) | (refine zs4 ?_ ?_ <;> intro hc) | (refine zs5 ?_ ?_ <;> intro hc) | (refine zs6 ?_ ?_ <;> intro hc)) | refine awp_split rfl (fun hb => ?_) (fun hb => ?_) | refine zr ?_ | exact x_le)
          rfl
        cases x4
        · have hn := hp.2 rfl
          rw [if_pos ⟨rfl, rfl, rfl, rfl, hl4⟩]
          cases x5
          · skip
            refine fun2 tb_ok Tryz.func40 rfl Tryz.ntmps40 Tryz.results40 rfl fun N => ?_
            repeat' (first | refine zt ?_ | (refine isR ?_; first | refine zo ?_ | refine zk c1 ?_ | refine zk c2 ?_ | refine zk c3 ?_ | refine zk c4 ?_ | refine zL ?_ | refine zc3 ?_ | refine zc4 ?_ | refine zc5 ?_ | refine zc6 ?_ | refine zI ?_ | (refine zs3 ?_ ?_ <;> intro hc) | (refine zs4 ?_ ?_ <;> intro hc) | (refine zs5 ?_ ?_ <;> intro hc) | (refine zs6 ?_ ?_ <;> intro hc)) | refine awp_split rfl (fun hb => ?_) (fun hb => ?_) | refine zr ?_ | exact x_le)
            rfl
          · skip
            refine fun2 tb_ok Tryz.func40 rfl Tryz.ntmps40 Tryz.results40 rfl fun N => ?_
            repeat' (first | refine zt ?_ | (refine isR ?_; first | refine zo ?_ | refine zk c1 ?_ | refine zk c2 ?_ | refine zk c3 ?_ | refine zk c4 ?_ | refine zL ?_ | refine zc3 ?_ | refine zc4 ?_ | refine zc5 ?_ | refine zc6 ?_ | refine zI ?_ | (refine zs3 ?_ ?_ <;> intro hc) | (refine zs4 ?_ ?_ <;> intro hc) | (refine zs5 ?_ ?_ <;> intro hc) | (refine zs6 ?_ ?_ <;> intro hc)) | refine awp_split rfl (fun hb => ?_) (fun hb => ?_) | refine zr ?_ | exact x_le)
            rfl
        · have hn : ¬ n < 0 := fun h => by cases hp.1 h
          rw [z (by simp)]
          refine fun2 tb_ok Tryz.func40 rfl Tryz.ntmps40 Tryz.results40 rfl fun N => ?_
          repeat' (first | refine zt ?_ | (refine isR ?_; first | refine zo ?_ | refine zk c1 ?_ | refine zk c2 ?_ | refine zk c3 ?_ | refine zL ?_ | refine zc3 ?_ | refine zc4 ?_ | refine zc5 ?_ | refine zc6 ?_ | refine zI ?_ | (refine zs3 ?_ ?_ <;> intro hc) | (refine zs4 ?_ ?_ <;> intro hc) | (refine zs5 ?_ ?_ <;> intro hc) | (refine zs6 ?_ ?_ <;> intro hc)) | refine awp_split rfl (fun hb => ?_) (fun hb => ?_) | refine zr ?_ | exact x_le)
          rfl
      · have h47' : ¬ (b.toNat : Int) = 47 := fun h => h47 (hbe.2 h)
        rw [hpre, decide_eq_false h47, z (by simp)]
        generalize b :: t = w at *
        refine fun2 tb_ok Tryz.func40 rfl Tryz.ntmps40 Tryz.results40 rfl fun N => ?_
        repeat' (first | refine zt ?_ | (refine isR ?_; first | refine zo ?_ | refine zk c1 ?_ | refine zL ?_ | refine zc3 ?_ | refine zc4 ?_ | refine zc5 ?_ | refine zc6 ?_ | refine zI ?_ | (refine zs3 ?_ ?_ <;> intro hc) | (refine zs4 ?_ ?_ <;> intro hc) | (refine zs5 ?_ ?_ <;> intro hc) | (refine zs6 ?_ ?_ <;> intro hc)) | refine awp_split rfl (fun hb => ?_) (fun hb => ?_) | refine zr ?_ | exact x_le)
        rfl
    · rw [z (fun h => hl4 h.2.2.2.2)]
      generalize b :: t = w at *
      refine fun2 tb_ok Tryz.func40 rfl Tryz.ntmps40 Tryz.results40 rfl fun N => ?_
      repeat' (first | refine zt ?_ | (refine isR ?_; first | refine zo ?_ | refine zk c1 ?_ | refine zL ?_ | refine zc3 ?_ | refine zc4 ?_ | refine zc5 ?_ | refine zc6 ?_ | refine zI ?_ | (refine zs3 ?_ ?_ <;> intro hc) | (refine zs4 ?_ ?_ <;> intro hc) | (refine zs5 ?_ ?_ <;> intro hc) | (refine zs6 ?_ ?_ <;> intro hc)) | refine awp_split rfl (fun hb => ?_) (fun hb => ?_) | refine zr ?_ | exact x_le)
      rfl
end Go.Proofs.YtoehdmbogdpncaaGreatDoor.Rdy
end
