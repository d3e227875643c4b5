/- Texts of the proof, joined: DateC, DateD. -/
import Derived.Test.YtkgdkpiacencjaaGreatDoorG9
import Derived.Test.YtkgdkpiacencjaaGreatDoorG14
section
namespace Go.Proofs.YtkgdkpiacencjaaGreatDoor.StampH
open Go.RowKit Mem Abs TreeW WordP WordS HostP HostO HostA PathT StampP StampA StampB StampC StampD StampE StampF StampG Lead ClockP ClockV

set_option maxRecDepth 100000 in
set_option maxHeartbeats 4000000 in
theorem stampWords_v {s : List UInt8} (hl : s.length ≤ 400) : ACalls Tryz.prog 109 [strT s] (strsT (wordsF s)) := by
  refine fun1 tb_ok Tryz.func109 rfl Tryz.ntmps109 Tryz.results109 rfl fun N => ?_
  repeat' (first | refine zt ?_ | (refine isR ?_; first | refine zo ?_ | refine x_bs tb_ok ?_ | refine zA ?_ | refine zL ?_ | refine zc1 ?_ | refine zc2 ?_ | refine zc6 ?_ | refine zI ?_ | refine zS ?_ | (refine zs1 ?_ ?_ <;> intro hc) | (refine zs2 ?_ ?_ <;> intro hc) | (refine zs6 ?_ ?_ <;> intro hc)) | refine awp_split rfl (fun hb => ?_) (fun hb => ?_) | refine zr ?_ | exact x_le)
  refine awp_name (t := 3) 9 1 (by decide) rfl rfl ?_
  refine awp_whileN (α := Nat × List (List UInt8) × List UInt8) (fun x => ⟨[(0, strT s), (3, .own 0 0 x.2.1.length), (4, strT x.2.2), (5, .int .i64 (x.1 : Int))], [(0, some (.els 9 1 (x.2.1.map strT)))], 1, 37⟩) (fun x => x.1 ≤ s.length + 1 ∧ x.2.1.length ≤ x.1 ∧ x.2.2.length ≤ x.1 ∧ ((x.1 ≤ s.length ∧ wordsF s = x.2.1 ++ wordsG x.2.2 (s.drop x.1)) ∨ (x.1 = s.length + 1 ∧ wordsF s = x.2.1))) (fun x => s.length + 1 - x.1) (0, [], []) ?h0 ⟨by omega, Nat.le_refl _, Nat.le_refl _, .inl ⟨Nat.zero_le _, rfl⟩⟩ ?_
  case h0 => exact (by exact x_le)
  rintro ⟨k, out, w⟩ ⟨h1, h2, h3, hcase⟩
  dsimp only at h1 h2 h3 hcase ⊢
  by_cases hk : k ≤ s.length
  · rcases hcase with ⟨_, hw⟩ | ⟨h4, _⟩
    · by_cases hk2 : k < s.length
      · have e1 : s[((k : Int)).toNat]? = some s[k] := by show s[k]? = _; simp [hk2]
        have e2 : s[k]? = some s[k] := e1
        have he : (s.take ((k : Int) + 1).toNat).drop ((k : Int)).toNat = [s[k]] := by
          rw [show ((k : Int) + 1).toNat = k + 1 by omega]
          show (s.take (k + 1)).drop k = _
          rw [List.take_succ_eq_append_getElem hk2, List.drop_append_of_le_length (by simp; omega), List.drop_eq_nil_of_le (by simp; omega)]; rfl
        have hd := drop_cons e2
        generalize s[k] = c at *
        have c1 := partsWords_v (c := c)
        have hlen1 : ((s.take ((k : Int) + 1).toNat).drop ((k : Int)).toNat).length = 1 := by rw [he]; rfl
        cases hs : sepB c with
        | false =>
          rw [hs] at c1
          repeat' (first | refine zt ?_ | (refine isR ?_; first | refine zo ?_ | refine zk c1 ?_ | refine x_bs tb_ok ?_ | refine zA ?_ | refine zL ?_ | refine zc1 ?_ | refine zc2 ?_ | refine zc6 ?_ | refine zI ?_ | refine zS ?_ | (refine zs1 ?_ ?_ <;> intro hc) | (refine zs2 ?_ ?_ <;> intro hc) | (refine zs6 ?_ ?_ <;> intro hc)) | refine awp_split rfl (fun hb => ?_) (fun hb => ?_) | refine zr ?_ | exact x_le)
          refine ⟨(k + 1, out, w ++ (s.take ((k : Int) + 1).toNat).drop ((k : Int)).toNat), ⟨by show k + 1 ≤ s.length + 1; omega, by show out.length ≤ k + 1; omega, by rw [he]; simp; omega, .inl ⟨by show k + 1 ≤ s.length; omega, ?_⟩⟩, by show s.length + 1 - (k + 1) < s.length + 1 - k; omega, ?_⟩
          · show wordsF s = out ++ wordsG (w ++ (s.take ((k : Int) + 1).toNat).drop ((k : Int)).toNat) (s.drop (k + 1))
            rw [he, hw, hd, wordsG, if_neg (by simp [hs])]
          · exact (by exact x_len [0])
        | true =>
          rw [hs] at c1
          by_cases hn : w = []
          · skip
            repeat' (first | refine zt ?_ | (refine isR ?_; first | refine zo ?_ | refine zk c1 ?_ | refine x_bs tb_ok ?_ | refine zA ?_ | refine zL ?_ | refine zc1 ?_ | refine zc2 ?_ | refine zc6 ?_ | refine zI ?_ | refine zS ?_ | (refine zs1 ?_ ?_ <;> intro hc) | (refine zs2 ?_ ?_ <;> intro hc) | (refine zs6 ?_ ?_ <;> intro hc)) | refine awp_split rfl (fun hb => ?_) (fun hb => ?_) | refine zr ?_ | exact x_le)
            refine ⟨(k + 1, out, []), ⟨by show k + 1 ≤ s.length + 1; omega, by show out.length ≤ k + 1; omega, Nat.zero_le _, .inl ⟨by show k + 1 ≤ s.length; omega, ?_⟩⟩, by show s.length + 1 - (k + 1) < s.length + 1 - k; omega, ?_⟩
            · show wordsF s = out ++ wordsG [] (s.drop (k + 1))
              rw [hw, hd, wordsG, if_pos hs, if_pos hn]
            · exact (by exact x_len [0])
          · skip
            repeat' (first | refine zt ?_ | (refine isR ?_; first | refine zo ?_ | refine zk c1 ?_ | refine x_app strT (a1 := (w)) tb_ok ?_ | refine x_bs tb_ok ?_ | refine zA ?_ | refine zL ?_ | refine zc1 ?_ | refine zc2 ?_ | refine zc6 ?_ | refine zI ?_ | refine zS ?_ | (refine zs1 ?_ ?_ <;> intro hc) | (refine zs2 ?_ ?_ <;> intro hc) | (refine zs6 ?_ ?_ <;> intro hc)) | refine awp_split rfl (fun hb => ?_) (fun hb => ?_) | refine zr ?_ | exact x_le)
            refine ⟨(k + 1, out ++ [w], []), ⟨by show k + 1 ≤ s.length + 1; omega, by simp; omega, Nat.zero_le _, .inl ⟨by show k + 1 ≤ s.length; omega, ?_⟩⟩, by show s.length + 1 - (k + 1) < s.length + 1 - k; omega, ?_⟩
            · show wordsF s = (out ++ [w]) ++ wordsG [] (s.drop (k + 1))
              rw [hw, hd, wordsG, if_pos hs, if_neg hn, List.append_assoc]; rfl
            · exact (by exact x_len [1])
      · obtain rfl : k = s.length := by omega
        rw [List.drop_length, wordsG] at hw
        by_cases hn : w = []
        · rw [if_pos hn, List.append_nil] at hw
          repeat' (first | refine zt ?_ | (refine isR ?_; first | refine zo ?_ | refine x_bs tb_ok ?_ | refine zA ?_ | refine zL ?_ | refine zc1 ?_ | refine zc2 ?_ | refine zc6 ?_ | refine zI ?_ | refine zS ?_ | (refine zs1 ?_ ?_ <;> intro hc) | (refine zs2 ?_ ?_ <;> intro hc) | (refine zs6 ?_ ?_ <;> intro hc)) | refine awp_split rfl (fun hb => ?_) (fun hb => ?_) | refine zr ?_ | exact x_le)
          refine ⟨(s.length + 1, out, []), ⟨Nat.le_refl _, by show out.length ≤ s.length + 1; omega, Nat.zero_le _, .inr ⟨rfl, hw⟩⟩, by show s.length + 1 - (s.length + 1) < s.length + 1 - s.length; omega, ?_⟩
          exact (by exact x_len [0])
        · rw [if_neg hn] at hw
          repeat' (first | refine zt ?_ | (refine isR ?_; first | refine zo ?_ | refine x_app strT (a1 := (w)) tb_ok ?_ | refine x_bs tb_ok ?_ | refine zA ?_ | refine zL ?_ | refine zc1 ?_ | refine zc2 ?_ | refine zc6 ?_ | refine zI ?_ | refine zS ?_ | (refine zs1 ?_ ?_ <;> intro hc) | (refine zs2 ?_ ?_ <;> intro hc) | (refine zs6 ?_ ?_ <;> intro hc)) | refine awp_split rfl (fun hb => ?_) (fun hb => ?_) | refine zr ?_ | exact x_le)
          refine ⟨(s.length + 1, out ++ [w], []), ⟨Nat.le_refl _, by simp; omega, Nat.zero_le _, .inr ⟨rfl, hw⟩⟩, by show s.length + 1 - (s.length + 1) < s.length + 1 - s.length; omega, ?_⟩
          exact (by exact x_len [1])
    · omega
  · rcases hcase with ⟨h4, _⟩ | ⟨h4, hw⟩
    · omega
    · subst h4
      rw [hw]
      repeat' (first | refine zt ?_ | (refine isR ?_; first | refine zo ?_ | refine x_bs tb_ok ?_ | refine zA ?_ | refine zL ?_ | refine zc1 ?_ | refine zc2 ?_ | refine zc6 ?_ | refine zI ?_ | refine zS ?_ | (refine zs1 ?_ ?_ <;> intro hc) | (refine zs2 ?_ ?_ <;> intro hc) | (refine zs6 ?_ ?_ <;> intro hc)) | refine awp_split rfl (fun hb => ?_) (fun hb => ?_) | refine zr ?_ | exact x_le)
      show V.fro (List.take out.length (List.drop 0 (out.map strT))) = _
      rw [List.drop_zero, List.take_of_length_le (by simp)]
set_option maxRecDepth 100000 in
set_option maxHeartbeats 4000000 in
theorem monthOf_v {w : List UInt8} : ACalls Tryz.prog 111 [strT w] (.int .i64 (monthF w : Nat)) := by
  by_cases h3 : w.length < 3
  · have e : monthF w = 0 := by unfold monthF; rw [if_pos h3]
    rw [e]
    refine fun1 tb_ok Tryz.func111 rfl Tryz.ntmps111 Tryz.results111 rfl fun N => ?_
    repeat' (first | refine zt ?_ | (refine isR ?_; first | refine zo ?_ | refine x_bs tb_ok ?_ | refine zA ?_ | refine zL ?_ | refine zc1 ?_ | refine zc4 ?_ | refine zc5 ?_ | refine zI ?_ | refine zS ?_ | (refine zs1 ?_ ?_ <;> intro hc) | (refine zs4 ?_ ?_ <;> intro hc) | (refine zs5 ?_ ?_ <;> intro hc)) | refine awp_split rfl (fun hb => ?_) (fun hb => ?_) | refine zr ?_ | exact x_le)
    refine awp_for (fun k => ⟨[(0, strT w), (3, strsT months), (4, .int .i64 (k : Int))], [], 0, 25⟩) (fun k => k ≤ 12) 12 0 (by exact x_le) (Nat.zero_le _) ?_
    intro k hk
    by_cases hk2 : k < 12
    · skip
      repeat' (first | refine zt ?_ | (refine isR ?_; first | refine zo ?_ | refine x_bs tb_ok ?_ | refine zA ?_ | refine zL ?_ | refine zc1 ?_ | refine zc4 ?_ | refine zc5 ?_ | refine zI ?_ | refine zS ?_ | (refine zs1 ?_ ?_ <;> intro hc) | (refine zs4 ?_ ?_ <;> intro hc) | (refine zs5 ?_ ?_ <;> intro hc)) | refine awp_split rfl (fun hb => ?_) (fun hb => ?_) | refine zr ?_ | exact x_le)
      refine ⟨by omega, hk2, ?_⟩
      exact (by exact x_le)
    · skip
      repeat' (first | refine zt ?_ | (refine isR ?_; first | refine zo ?_ | refine x_bs tb_ok ?_ | refine zA ?_ | refine zL ?_ | refine zc1 ?_ | refine zc4 ?_ | refine zc5 ?_ | refine zI ?_ | refine zS ?_ | (refine zs1 ?_ ?_ <;> intro hc) | (refine zs4 ?_ ?_ <;> intro hc) | (refine zs5 ?_ ?_ <;> intro hc)) | refine awp_split rfl (fun hb => ?_) (fun hb => ?_) | refine zr ?_ | exact x_le)
      rfl
  · have c1 := foldOf_v (l := w.take 3)
    have he : monthF w = match months.findIdx? (fun m => fold (w.take 3) == m) with
        | some i => i + 1
        | none => 0 := by unfold monthF; rw [if_neg h3]; try rfl
    rw [he]
    generalize fold (w.take 3) = t at *
    refine fun1 tb_ok Tryz.func111 rfl Tryz.ntmps111 Tryz.results111 rfl fun N => ?_
    repeat' (first | refine zt ?_ | (refine isR ?_; first | refine zo ?_ | refine x_bs tb_ok ?_ | refine zA ?_ | refine zL ?_ | refine zc1 ?_ | refine zc4 ?_ | refine zc5 ?_ | refine zI ?_ | refine zS ?_ | (refine zs1 ?_ ?_ <;> intro hc) | (refine zs4 ?_ ?_ <;> intro hc) | (refine zs5 ?_ ?_ <;> intro hc)) | refine awp_split rfl (fun hb => ?_) (fun hb => ?_) | refine zr ?_ | exact x_le)
    refine awp_for (fun k => ⟨[(0, strT w), (3, strsT months), (4, .int .i64 (k : Int))], [], 0, 25⟩) (fun k => k ≤ 12 ∧ ∀ (j : Nat) m, j < k → months[j]? = some m → t ≠ m) 12 0 (by exact x_le) ⟨Nat.zero_le _, fun j m h => absurd h (Nat.not_lt_zero _)⟩ ?_
    intro k ⟨hk, hq⟩
    by_cases hk2 : k < 12
    · have hk3 : k < months.length := hk2
      have e1 : (months.map strT)[((k : Int)).toNat]? = some (strT months[k]) := by show (months.map strT)[k]? = _; simp [hk3]
      have e2 : months[k]? = some months[k] := by simp [hk3]
      generalize months[k] = m at e1 e2
      by_cases hm : t = m
      · have hfi : months.findIdx? (fun m => t == m) = some k := List.findIdx?_eq_some_iff_getElem.2 ⟨hk3, by rw [List.getElem?_eq_getElem hk3] at e2; cases e2; simpa using hm, fun j hj => by
          have := hq j months[j] hj (by simp)
          simpa using this⟩
        rw [hfi]
        repeat' (first | refine zt ?_ | (refine isR ?_; first | refine zo ?_ | refine zk c1 ?_ | refine x_bs tb_ok ?_ | refine zA ?_ | refine zL ?_ | refine zc1 ?_ | refine zc4 ?_ | refine zc5 ?_ | refine zI ?_ | refine zS ?_ | (refine zs1 ?_ ?_ <;> intro hc) | (refine zs4 ?_ ?_ <;> intro hc) | (refine zs5 ?_ ?_ <;> intro hc)) | refine awp_split rfl (fun hb => ?_) (fun hb => ?_) | refine zr ?_ | exact x_le)
        rfl
      · skip
        repeat' (first | refine zt ?_ | (refine isR ?_; first | refine zo ?_ | refine zk c1 ?_ | refine x_bs tb_ok ?_ | refine zA ?_ | refine zL ?_ | refine zc1 ?_ | refine zc4 ?_ | refine zc5 ?_ | refine zI ?_ | refine zS ?_ | (refine zs1 ?_ ?_ <;> intro hc) | (refine zs4 ?_ ?_ <;> intro hc) | (refine zs5 ?_ ?_ <;> intro hc)) | refine awp_split rfl (fun hb => ?_) (fun hb => ?_) | refine zr ?_ | exact x_le)
        refine ⟨⟨by omega, fun j x hj hx => ?_⟩, by omega, ?_⟩
        · rcases Nat.lt_succ_iff_lt_or_eq.1 hj with h | rfl
          · exact hq j x h hx
          · rw [e2] at hx; cases hx; exact hm
        · exact (by exact x_le)
    · have hfi : months.findIdx? (fun m => t == m) = none := List.findIdx?_eq_none_iff.2 fun m hm => by
        obtain ⟨j, hj⟩ := List.mem_iff_getElem?.1 hm
        have hjl := (List.getElem?_eq_some_iff.1 hj).1
        have := hq j m (by have : months.length = 12 := rfl; omega) hj
        simpa using this
      rw [hfi]
      repeat' (first | refine zt ?_ | (refine isR ?_; first | refine zo ?_ | refine x_bs tb_ok ?_ | refine zA ?_ | refine zL ?_ | refine zc1 ?_ | refine zc4 ?_ | refine zc5 ?_ | refine zI ?_ | refine zS ?_ | (refine zs1 ?_ ?_ <;> intro hc) | (refine zs4 ?_ ?_ <;> intro hc) | (refine zs5 ?_ ?_ <;> intro hc)) | refine awp_split rfl (fun hb => ?_) (fun hb => ?_) | refine zr ?_ | exact x_le)
      rfl
end Go.Proofs.YtkgdkpiacencjaaGreatDoor.StampH
namespace Go.Proofs.YtkgdkpiacencjaaGreatDoor.StampI
open Go.RowKit Mem Abs TreeW WordP WordS HostP HostO HostA PathT StampP StampA StampB StampC StampD StampE StampF StampG StampH Lead ClockP ClockV

theorem lead5 {w : List UInt8} (h : (lead w).length ≤ 5) : leadN w = value (lead w) := by
  unfold leadN
  rw [List.take_of_length_le h]
theorem dig_is {w : List UInt8} {lo hi : Nat} (hh : hi ≤ 5) : ((digF w lo hi).2.2 = true ∧ lo ≤ (lead w).length ∧ (lead w).length ≤ hi ∧ digF w lo hi = ((leadN w : Int), w.drop (lead w).length, true)) ∨ ((digF w lo hi).2.2 = false ∧ ((lead w).length < lo ∨ hi < (lead w).length)) := by
  unfold digF
  by_cases h : hi < (lead w).length
  · rw [if_pos h]; exact .inr ⟨rfl, .inr h⟩
  · rw [if_neg h]
    by_cases h2 : lo ≤ (lead w).length
    · rw [decide_eq_true h2]
      exact .inl ⟨rfl, h2, by omega, by rw [lead5 (by omega)]⟩
    · rw [decide_eq_false h2]
      exact .inr ⟨rfl, .inl (by omega)⟩
theorem cut58 (w : List UInt8) : ((cutP w [58]).2 = true ∧ ∃ r, w = 58 :: r ∧ cutP w [58] = (r, true)) ∨ ((cutP w [58]).2 = false ∧ (w = [] ∨ ∃ b r, w = b :: r ∧ b ≠ 58)) := by
  unfold cutP
  cases w with
  | nil => exact .inr ⟨rfl, .inl rfl⟩
  | cons b r =>
    by_cases hb : b = 58
    · subst hb
      have : pre (58 :: r) [58] = true := by unfold pre; exact decide_eq_true rfl
      rw [if_pos this]
      exact .inl ⟨rfl, r, rfl, rfl⟩
    · have : pre (b :: r) [58] = false := by
        unfold pre
        exact decide_eq_false (fun e => hb (by simpa using e))
      rw [if_neg (by simp [this])]
      exact .inr ⟨rfl, .inr ⟨b, r, rfl, hb⟩⟩
/-- What dayTime gives: three numbers, or none. -/
def dayL (w : List UInt8) : List Int := if (dayTimeF w 0 0 0).1 then [(dayTimeF w 0 0 0).2.1, (dayTimeF w 0 0 0).2.2.1, (dayTimeF w 0 0 0).2.2.2] else []
abbrev intT (n : Int) : Abs.V := .int .i64 n
abbrev intsT (L : List Int) : Abs.V := .fro (L.map intT)
theorem lead_int (w : List UInt8) : (lead w).length ≤ w.length := lead_len w
theorem leadN_lt (w : List UInt8) : leadN w < 100000 := by
  unfold leadN
  have h1 : ((lead w).take 5).all digB = true := List.all_eq_true.2 fun x hx => List.all_eq_true.1 (lead_all w) x (List.mem_of_mem_take hx)
  have h2 := value_le _ h1
  have h3 : 10 ^ ((lead w).take 5).length ≤ 10 ^ 5 := Nat.pow_le_pow_right (by decide) (by simp; omega)
  omega
theorem end3 (a b c : Int) : Abs.V.fro (List.take ([] ++ [a] ++ [b] ++ [c] : List Int).length (List.drop 0 (([] ++ [a] ++ [b] ++ [c] : List Int).map intT))) = intsT [a, b, c] := rfl
set_option maxRecDepth 100000 in
set_option maxHeartbeats 4000000 in
theorem dayTime_v {w : List UInt8} : ACalls Tryz.prog 110 [strT w] (.tup [intsT (dayL w), .bool (dayTimeF w 0 0 0).1]) := ACalls.lim fun hl => by
  obtain ⟨hl, _⟩ := TreeW.str_lim hl
  have bad : (dayTimeF w 0 0 0).1 = false → ACalls Tryz.prog 110 [strT w] (.tup [.nils, .bool false]) → ACalls Tryz.prog 110 [strT w] (.tup [intsT (dayL w), .bool (dayTimeF w 0 0 0).1]) := fun h k => by
    unfold dayL
    rw [h]
    exact ACalls.nfd k rfl
  have c1 := leadDigits_v (l := w)
  have k1 := lead_int w
  have z0 : ([] : List Int).length = 0 := rfl
  have z1 : ∀ a : Int, ([] ++ [a] : List Int).length = 1 := fun _ => rfl
  have z2 : ∀ a b : Int, ([] ++ [a] ++ [b] : List Int).length = 2 := fun _ _ => rfl
  rcases (dig_is (w := w) (lo := 1) (hi := 2) (by decide)).symm with ⟨d1, d2⟩ | ⟨d1, d2, d3, d4⟩
  · refine bad (by unfold dayTimeF; rw [if_pos d1]) ?_
    generalize (lead w).length = k0 at *
    generalize leadN w = n0 at *
    have z1 := z1 (n0 : Int)
    rcases d2 with d2 | d2
    · skip
      refine fun1 tb_ok Tryz.func110 rfl Tryz.ntmps110 Tryz.results110 rfl fun N => ?_
      repeat' (first | refine zt ?_ | (refine isR ?_; first | refine zo ?_ | refine x_bs tb_ok ?_ | refine zL ?_ | refine zc1 ?_ | refine zc3 ?_ | refine zc5 ?_ | refine zc6 ?_ | refine zI ?_ | refine zS ?_ | (refine zs1 ?_ ?_ <;> intro hc) | (refine zs3 ?_ ?_ <;> intro hc) | (refine zs5 ?_ ?_ <;> intro hc) | (refine zs6 ?_ ?_ <;> intro hc)) | refine awp_split rfl (fun hb => ?_) (fun hb => ?_) | refine zr ?_ | exact x_le)
      refine awp_name (t := 4) 3 1 (by decide) rfl rfl ?_
      repeat' (first | with_reducible refine rounds_on ?_ | with_reducible refine awp_rounds 4 ?_ | refine zt ?_ | (refine isR ?_; first | refine zo ?_ | refine zk c1 ?_ | refine x_bs tb_ok ?_ | refine zL ?_ | refine zc1 ?_ | refine zc3 ?_ | refine zc5 ?_ | refine zc6 ?_ | refine zI ?_ | refine zS ?_ | (refine zs1 ?_ ?_ <;> intro hc) | (refine zs3 ?_ ?_ <;> intro hc) | (refine zs5 ?_ ?_ <;> intro hc) | (refine zs6 ?_ ?_ <;> intro hc)) | refine awp_split rfl (fun hb => ?_) (fun hb => ?_) | refine zr ?_ | exact x_le)
      all_goals first | rfl | (exfalso; omega)
    · skip
      refine fun1 tb_ok Tryz.func110 rfl Tryz.ntmps110 Tryz.results110 rfl fun N => ?_
      repeat' (first | refine zt ?_ | (refine isR ?_; first | refine zo ?_ | refine x_bs tb_ok ?_ | refine zL ?_ | refine zc1 ?_ | refine zc3 ?_ | refine zc5 ?_ | refine zc6 ?_ | refine zI ?_ | refine zS ?_ | (refine zs1 ?_ ?_ <;> intro hc) | (refine zs3 ?_ ?_ <;> intro hc) | (refine zs5 ?_ ?_ <;> intro hc) | (refine zs6 ?_ ?_ <;> intro hc)) | refine awp_split rfl (fun hb => ?_) (fun hb => ?_) | refine zr ?_ | exact x_le)
      refine awp_name (t := 4) 3 1 (by decide) rfl rfl ?_
      repeat' (first | with_reducible refine rounds_on ?_ | with_reducible refine awp_rounds 4 ?_ | refine zt ?_ | (refine isR ?_; first | refine zo ?_ | refine zk c1 ?_ | refine x_bs tb_ok ?_ | refine zL ?_ | refine zc1 ?_ | refine zc3 ?_ | refine zc5 ?_ | refine zc6 ?_ | refine zI ?_ | refine zS ?_ | (refine zs1 ?_ ?_ <;> intro hc) | (refine zs3 ?_ ?_ <;> intro hc) | (refine zs5 ?_ ?_ <;> intro hc) | (refine zs6 ?_ ?_ <;> intro hc)) | refine awp_split rfl (fun hb => ?_) (fun hb => ?_) | refine zr ?_ | exact x_le)
      all_goals first | rfl | (exfalso; omega)
  have e1 : w.drop (((lead w).length : Nat) : Int).toNat = w.drop (lead w).length := rfl
  rcases (cut58 (w.drop (lead w).length)).symm with ⟨f1, f2⟩ | ⟨f1, r1, f2, f3⟩
  · refine bad (by unfold dayTimeF; rw [if_neg (by simp [d1]), d4, if_pos f1]) ?_
    generalize (lead w).length = k0 at *
    generalize leadN w = n0 at *
    have z1 := z1 (n0 : Int)
    rcases f2 with f2 | ⟨b, r, f2, f4⟩
    · have g1 : (w.drop ((k0 : Int)).toNat).length = 0 := by rw [e1, f2]; rfl
      refine fun1 tb_ok Tryz.func110 rfl Tryz.ntmps110 Tryz.results110 rfl fun N => ?_
      repeat' (first | refine zt ?_ | (refine isR ?_; first | refine zo ?_ | refine x_bs tb_ok ?_ | refine zL ?_ | refine zc1 ?_ | refine zc3 ?_ | refine zc5 ?_ | refine zc6 ?_ | refine zI ?_ | refine zS ?_ | (refine zs1 ?_ ?_ <;> intro hc) | (refine zs3 ?_ ?_ <;> intro hc) | (refine zs5 ?_ ?_ <;> intro hc) | (refine zs6 ?_ ?_ <;> intro hc)) | refine awp_split rfl (fun hb => ?_) (fun hb => ?_) | refine zr ?_ | exact x_le)
      refine awp_name (t := 4) 3 1 (by decide) rfl rfl ?_
      repeat' (first | with_reducible refine rounds_on ?_ | with_reducible refine awp_rounds 4 ?_ | refine zt ?_ | (refine isR ?_; first | refine zo ?_ | refine zk c1 ?_ | refine x_app intT (L := []) (a1 := (n0 : Int)) (hby := by show _ * (_ : Nat) ≤ _; simp) tb_ok ?_ | refine x_bs tb_ok ?_ | refine zL ?_ | refine zc1 ?_ | refine zc3 ?_ | refine zc5 ?_ | refine zc6 ?_ | refine zI ?_ | refine zS ?_ | (refine zs1 ?_ ?_ <;> intro hc) | (refine zs3 ?_ ?_ <;> intro hc) | (refine zs5 ?_ ?_ <;> intro hc) | (refine zs6 ?_ ?_ <;> intro hc)) | refine awp_split rfl (fun hb => ?_) (fun hb => ?_) | refine zr ?_ | exact x_le)
      all_goals first | rfl | (exfalso; omega)
    · have g1 : (w.drop ((k0 : Int)).toNat).length = r.length + 1 := by rw [e1, f2]; rfl
      have g2 : (w.drop ((k0 : Int)).toNat)[((0 : Int)).toNat]? = some b := by rw [e1, f2]; rfl
      have g3 : ¬ ((b.toNat : Int) = 58) := fun e => f4 (byte_eq.2 e)
      refine fun1 tb_ok Tryz.func110 rfl Tryz.ntmps110 Tryz.results110 rfl fun N => ?_
      repeat' (first | refine zt ?_ | (refine isR ?_; first | refine zo ?_ | refine x_bs tb_ok ?_ | refine zL ?_ | refine zc1 ?_ | refine zc3 ?_ | refine zc5 ?_ | refine zc6 ?_ | refine zI ?_ | refine zS ?_ | (refine zs1 ?_ ?_ <;> intro hc) | (refine zs3 ?_ ?_ <;> intro hc) | (refine zs5 ?_ ?_ <;> intro hc) | (refine zs6 ?_ ?_ <;> intro hc)) | refine awp_split rfl (fun hb => ?_) (fun hb => ?_) | refine zr ?_ | exact x_le)
      refine awp_name (t := 4) 3 1 (by decide) rfl rfl ?_
      repeat' (first | with_reducible refine rounds_on ?_ | with_reducible refine awp_rounds 4 ?_ | refine zt ?_ | (refine isR ?_; first | refine zo ?_ | refine zk c1 ?_ | refine x_app intT (L := []) (a1 := (n0 : Int)) (hby := by show _ * (_ : Nat) ≤ _; simp) tb_ok ?_ | refine x_bs tb_ok ?_ | refine zL ?_ | refine zc1 ?_ | refine zc3 ?_ | refine zc5 ?_ | refine zc6 ?_ | refine zI ?_ | refine zS ?_ | (refine zs1 ?_ ?_ <;> intro hc) | (refine zs3 ?_ ?_ <;> intro hc) | (refine zs5 ?_ ?_ <;> intro hc) | (refine zs6 ?_ ?_ <;> intro hc)) | refine awp_split rfl (fun hb => ?_) (fun hb => ?_) | refine zr ?_ | exact x_le)
      all_goals first | rfl | (exfalso; omega)
  have g1 : (w.drop (((lead w).length : Nat) : Int).toNat).length = r1.length + 1 := by rw [e1, f2]; rfl
  have g2 : (w.drop (((lead w).length : Nat) : Int).toNat)[((0 : Int)).toNat]? = some 58 := by rw [e1, f2]; rfl
  have x1 : (w.drop (((lead w).length : Nat) : Int).toNat).drop ((1 : Int)).toNat = r1 := by rw [e1, f2]; rfl
  have c2 : ACalls Tryz.prog 89 [strT ((w.drop (((lead w).length : Nat) : Int).toNat).drop ((1 : Int)).toNat)] (pairN (lead r1).length (leadN r1)) := by rw [x1]; exact leadDigits_v
  have k2 := lead_int r1
  have l1 : ((w.drop (((lead w).length : Nat) : Int).toNat).drop ((1 : Int)).toNat).length = r1.length := by rw [x1]
  rcases (dig_is (w := r1) (lo := 1) (hi := 2) (by decide)).symm with ⟨d5, d6⟩ | ⟨d5, d6, d7, d8⟩
  · refine bad (by unfold dayTimeF; rw [if_neg (by simp [d1]), d4, if_neg (by simp [f1]), f3, if_pos d5]) ?_
    generalize (lead w).length = k0 at *
    generalize leadN w = n0 at *
    have z1 := z1 (n0 : Int)
    generalize (lead r1).length = k1 at *
    generalize leadN r1 = n1 at *
    have z2 := z2 (n0 : Int) (n1 : Int)
    rcases d6 with d6 | d6
    · skip
      refine fun1 tb_ok Tryz.func110 rfl Tryz.ntmps110 Tryz.results110 rfl fun N => ?_
      repeat' (first | refine zt ?_ | (refine isR ?_; first | refine zo ?_ | refine x_bs tb_ok ?_ | refine zL ?_ | refine zc1 ?_ | refine zc3 ?_ | refine zc5 ?_ | refine zc6 ?_ | refine zI ?_ | refine zS ?_ | (refine zs1 ?_ ?_ <;> intro hc) | (refine zs3 ?_ ?_ <;> intro hc) | (refine zs5 ?_ ?_ <;> intro hc) | (refine zs6 ?_ ?_ <;> intro hc)) | refine awp_split rfl (fun hb => ?_) (fun hb => ?_) | refine zr ?_ | exact x_le)
      refine awp_name (t := 4) 3 1 (by decide) rfl rfl ?_
      repeat' (first | with_reducible refine rounds_on ?_ | with_reducible refine awp_rounds 4 ?_ | refine zt ?_ | (refine isR ?_; first | refine zo ?_ | refine zk c1 ?_ | refine zk c2 ?_ | refine x_app intT (L := []) (a1 := (n0 : Int)) (hby := by show _ * (_ : Nat) ≤ _; simp) tb_ok ?_ | refine x_bs tb_ok ?_ | refine zL ?_ | refine zc1 ?_ | refine zc3 ?_ | refine zc5 ?_ | refine zc6 ?_ | refine zI ?_ | refine zS ?_ | (refine zs1 ?_ ?_ <;> intro hc) | (refine zs3 ?_ ?_ <;> intro hc) | (refine zs5 ?_ ?_ <;> intro hc) | (refine zs6 ?_ ?_ <;> intro hc)) | refine awp_split rfl (fun hb => ?_) (fun hb => ?_) | refine zr ?_ | exact x_le)
      all_goals first | rfl | (exfalso; omega)
    · skip
      refine fun1 tb_ok Tryz.func110 rfl Tryz.ntmps110 Tryz.results110 rfl fun N => ?_
      repeat' (first | refine zt ?_ | (refine isR ?_; first | refine zo ?_ | refine x_bs tb_ok ?_ | refine zL ?_ | refine zc1 ?_ | refine zc3 ?_ | refine zc5 ?_ | refine zc6 ?_ | refine zI ?_ | refine zS ?_ | (refine zs1 ?_ ?_ <;> intro hc) | (refine zs3 ?_ ?_ <;> intro hc) | (refine zs5 ?_ ?_ <;> intro hc) | (refine zs6 ?_ ?_ <;> intro hc)) | refine awp_split rfl (fun hb => ?_) (fun hb => ?_) | refine zr ?_ | exact x_le)
      refine awp_name (t := 4) 3 1 (by decide) rfl rfl ?_
      repeat' (first | with_reducible refine rounds_on ?_ | with_reducible refine awp_rounds 4 ?_ | refine zt ?_ | (refine isR ?_; first | refine zo ?_ | refine zk c1 ?_ | refine zk c2 ?_ | refine x_app intT (L := []) (a1 := (n0 : Int)) (hby := by show _ * (_ : Nat) ≤ _; simp) tb_ok ?_ | refine x_bs tb_ok ?_ | refine zL ?_ | refine zc1 ?_ | refine zc3 ?_ | refine zc5 ?_ | refine zc6 ?_ | refine zI ?_ | refine zS ?_ | (refine zs1 ?_ ?_ <;> intro hc) | (refine zs3 ?_ ?_ <;> intro hc) | (refine zs5 ?_ ?_ <;> intro hc) | (refine zs6 ?_ ?_ <;> intro hc)) | refine awp_split rfl (fun hb => ?_) (fun hb => ?_) | refine zr ?_ | exact x_le)
      all_goals first | rfl | (exfalso; omega)
  have e2 : ((w.drop (((lead w).length : Nat) : Int).toNat).drop ((1 : Int)).toNat).drop (((lead r1).length : Nat) : Int).toNat = r1.drop (lead r1).length := by rw [x1]; rfl
  rcases (cut58 (r1.drop (lead r1).length)).symm with ⟨f4, f5⟩ | ⟨f4, r2, f5, f6⟩
  · refine bad (by unfold dayTimeF; rw [if_neg (by simp [d1]), d4, if_neg (by simp [f1]), f3, if_neg (by simp [d5]), d8, if_pos f4]) ?_
    generalize (lead w).length = k0 at *
    generalize leadN w = n0 at *
    have z1 := z1 (n0 : Int)
    generalize (lead r1).length = k1 at *
    generalize leadN r1 = n1 at *
    have z2 := z2 (n0 : Int) (n1 : Int)
    rcases f5 with f5 | ⟨b, r, f5, f7⟩
    · have g3 : (((w.drop ((k0 : Int)).toNat).drop ((1 : Int)).toNat).drop ((k1 : Int)).toNat).length = 0 := by rw [e2, f5]; rfl
      refine fun1 tb_ok Tryz.func110 rfl Tryz.ntmps110 Tryz.results110 rfl fun N => ?_
      repeat' (first | refine zt ?_ | (refine isR ?_; first | refine zo ?_ | refine x_bs tb_ok ?_ | refine zL ?_ | refine zc1 ?_ | refine zc3 ?_ | refine zc5 ?_ | refine zc6 ?_ | refine zI ?_ | refine zS ?_ | (refine zs1 ?_ ?_ <;> intro hc) | (refine zs3 ?_ ?_ <;> intro hc) | (refine zs5 ?_ ?_ <;> intro hc) | (refine zs6 ?_ ?_ <;> intro hc)) | refine awp_split rfl (fun hb => ?_) (fun hb => ?_) | refine zr ?_ | exact x_le)
      refine awp_name (t := 4) 3 1 (by decide) rfl rfl ?_
      repeat' (first | with_reducible refine rounds_on ?_ | with_reducible refine awp_rounds 4 ?_ | refine zt ?_ | (refine isR ?_; first | refine zo ?_ | refine zk c1 ?_ | refine zk c2 ?_ | refine x_app intT (L := []) (a1 := (n0 : Int)) (hby := by show _ * (_ : Nat) ≤ _; simp) tb_ok ?_ | refine x_app intT (a1 := (n1 : Int)) (hby := by show _ * (_ : Nat) ≤ _; simp) tb_ok ?_ | refine x_bs tb_ok ?_ | refine zL ?_ | refine zc1 ?_ | refine zc3 ?_ | refine zc5 ?_ | refine zc6 ?_ | refine zI ?_ | refine zS ?_ | (refine zs1 ?_ ?_ <;> intro hc) | (refine zs3 ?_ ?_ <;> intro hc) | (refine zs5 ?_ ?_ <;> intro hc) | (refine zs6 ?_ ?_ <;> intro hc)) | refine awp_split rfl (fun hb => ?_) (fun hb => ?_) | refine zr ?_ | exact x_le)
      all_goals first | rfl | (exfalso; omega)
    · have g3 : (((w.drop ((k0 : Int)).toNat).drop ((1 : Int)).toNat).drop ((k1 : Int)).toNat).length = r.length + 1 := by rw [e2, f5]; rfl
      have g4 : (((w.drop ((k0 : Int)).toNat).drop ((1 : Int)).toNat).drop ((k1 : Int)).toNat)[((0 : Int)).toNat]? = some b := by rw [e2, f5]; rfl
      have g5 : ¬ ((b.toNat : Int) = 58) := fun e => f7 (byte_eq.2 e)
      refine fun1 tb_ok Tryz.func110 rfl Tryz.ntmps110 Tryz.results110 rfl fun N => ?_
      repeat' (first | refine zt ?_ | (refine isR ?_; first | refine zo ?_ | refine x_bs tb_ok ?_ | refine zL ?_ | refine zc1 ?_ | refine zc3 ?_ | refine zc5 ?_ | refine zc6 ?_ | refine zI ?_ | refine zS ?_ | (refine zs1 ?_ ?_ <;> intro hc) | (refine zs3 ?_ ?_ <;> intro hc) | (refine zs5 ?_ ?_ <;> intro hc) | (refine zs6 ?_ ?_ <;> intro hc)) | refine awp_split rfl (fun hb => ?_) (fun hb => ?_) | refine zr ?_ | exact x_le)
      refine awp_name (t := 4) 3 1 (by decide) rfl rfl ?_
      repeat' (first | with_reducible refine rounds_on ?_ | with_reducible refine awp_rounds 4 ?_ | refine zt ?_ | (refine isR ?_; first | refine zo ?_ | refine zk c1 ?_ | refine zk c2 ?_ | refine x_app intT (L := []) (a1 := (n0 : Int)) (hby := by show _ * (_ : Nat) ≤ _; simp) tb_ok ?_ | refine x_app intT (a1 := (n1 : Int)) (hby := by show _ * (_ : Nat) ≤ _; simp) tb_ok ?_ | refine x_bs tb_ok ?_ | refine zL ?_ | refine zc1 ?_ | refine zc3 ?_ | refine zc5 ?_ | refine zc6 ?_ | refine zI ?_ | refine zS ?_ | (refine zs1 ?_ ?_ <;> intro hc) | (refine zs3 ?_ ?_ <;> intro hc) | (refine zs5 ?_ ?_ <;> intro hc) | (refine zs6 ?_ ?_ <;> intro hc)) | refine awp_split rfl (fun hb => ?_) (fun hb => ?_) | refine zr ?_ | exact x_le)
      all_goals first | rfl | (exfalso; omega)
  have g3 : (((w.drop (((lead w).length : Nat) : Int).toNat).drop ((1 : Int)).toNat).drop (((lead r1).length : Nat) : Int).toNat).length = r2.length + 1 := by rw [e2, f5]; rfl
  have g4 : (((w.drop (((lead w).length : Nat) : Int).toNat).drop ((1 : Int)).toNat).drop (((lead r1).length : Nat) : Int).toNat)[((0 : Int)).toNat]? = some 58 := by rw [e2, f5]; rfl
  have x2 : (((w.drop (((lead w).length : Nat) : Int).toNat).drop ((1 : Int)).toNat).drop (((lead r1).length : Nat) : Int).toNat).drop ((1 : Int)).toNat = r2 := by rw [e2, f5]; rfl
  have c3 : ACalls Tryz.prog 89 [strT ((((w.drop (((lead w).length : Nat) : Int).toNat).drop ((1 : Int)).toNat).drop (((lead r1).length : Nat) : Int).toNat).drop ((1 : Int)).toNat)] (pairN (lead r2).length (leadN r2)) := by rw [x2]; exact leadDigits_v
  have k3 := lead_int r2
  have l2 : ((((w.drop (((lead w).length : Nat) : Int).toNat).drop ((1 : Int)).toNat).drop (((lead r1).length : Nat) : Int).toNat).drop ((1 : Int)).toNat).length = r2.length := by rw [x2]
  rcases (dig_is (w := r2) (lo := 1) (hi := 2) (by decide)).symm with ⟨d9, d10⟩ | ⟨d9, d10, d11, d12⟩
  · refine bad (by unfold dayTimeF; rw [if_neg (by simp [d1]), d4, if_neg (by simp [f1]), f3, if_neg (by simp [d5]), d8, if_neg (by simp [f4]), f6, if_pos d9]) ?_
    generalize (lead w).length = k0 at *
    generalize leadN w = n0 at *
    have z1 := z1 (n0 : Int)
    generalize (lead r1).length = k1 at *
    generalize leadN r1 = n1 at *
    have z2 := z2 (n0 : Int) (n1 : Int)
    generalize (lead r2).length = k2 at *
    generalize leadN r2 = n2 at *
    rcases d10 with d10 | d10
    · skip
      refine fun1 tb_ok Tryz.func110 rfl Tryz.ntmps110 Tryz.results110 rfl fun N => ?_
      repeat' (first | refine zt ?_ | (refine isR ?_; first | refine zo ?_ | refine x_bs tb_ok ?_ | refine zL ?_ | refine zc1 ?_ | refine zc3 ?_ | refine zc5 ?_ | refine zc6 ?_ | refine zI ?_ | refine zS ?_ | (refine zs1 ?_ ?_ <;> intro hc) | (refine zs3 ?_ ?_ <;> intro hc) | (refine zs5 ?_ ?_ <;> intro hc) | (refine zs6 ?_ ?_ <;> intro hc)) | refine awp_split rfl (fun hb => ?_) (fun hb => ?_) | refine zr ?_ | exact x_le)
      refine awp_name (t := 4) 3 1 (by decide) rfl rfl ?_
      repeat' (first | with_reducible refine rounds_on ?_ | with_reducible refine awp_rounds 4 ?_ | refine zt ?_ | (refine isR ?_; first | refine zo ?_ | refine zk c1 ?_ | refine zk c2 ?_ | refine zk c3 ?_ | refine x_app intT (L := []) (a1 := (n0 : Int)) (hby := by show _ * (_ : Nat) ≤ _; simp) tb_ok ?_ | refine x_app intT (a1 := (n1 : Int)) (hby := by show _ * (_ : Nat) ≤ _; simp) tb_ok ?_ | refine x_bs tb_ok ?_ | refine zL ?_ | refine zc1 ?_ | refine zc3 ?_ | refine zc5 ?_ | refine zc6 ?_ | refine zI ?_ | refine zS ?_ | (refine zs1 ?_ ?_ <;> intro hc) | (refine zs3 ?_ ?_ <;> intro hc) | (refine zs5 ?_ ?_ <;> intro hc) | (refine zs6 ?_ ?_ <;> intro hc)) | refine awp_split rfl (fun hb => ?_) (fun hb => ?_) | refine zr ?_ | exact x_le)
      all_goals first | rfl | (exfalso; omega)
    · skip
      refine fun1 tb_ok Tryz.func110 rfl Tryz.ntmps110 Tryz.results110 rfl fun N => ?_
      repeat' (first | refine zt ?_ | (refine isR ?_; first | refine zo ?_ | refine x_bs tb_ok ?_ | refine zL ?_ | refine zc1 ?_ | refine zc3 ?_ | refine zc5 ?_ | refine zc6 ?_ | refine zI ?_ | refine zS ?_ | (refine zs1 ?_ ?_ <;> intro hc) | (refine zs3 ?_ ?_ <;> intro hc) | (refine zs5 ?_ ?_ <;> intro hc) | (refine zs6 ?_ ?_ <;> intro hc)) | refine awp_split rfl (fun hb => ?_) (fun hb => ?_) | refine zr ?_ | exact x_le)
      refine awp_name (t := 4) 3 1 (by decide) rfl rfl ?_
      repeat' (first | with_reducible refine rounds_on ?_ | with_reducible refine awp_rounds 4 ?_ | refine zt ?_ | (refine isR ?_; first | refine zo ?_ | refine zk c1 ?_ | refine zk c2 ?_ | refine zk c3 ?_ | refine x_app intT (L := []) (a1 := (n0 : Int)) (hby := by show _ * (_ : Nat) ≤ _; simp) tb_ok ?_ | refine x_app intT (a1 := (n1 : Int)) (hby := by show _ * (_ : Nat) ≤ _; simp) tb_ok ?_ | refine x_bs tb_ok ?_ | refine zL ?_ | refine zc1 ?_ | refine zc3 ?_ | refine zc5 ?_ | refine zc6 ?_ | refine zI ?_ | refine zS ?_ | (refine zs1 ?_ ?_ <;> intro hc) | (refine zs3 ?_ ?_ <;> intro hc) | (refine zs5 ?_ ?_ <;> intro hc) | (refine zs6 ?_ ?_ <;> intro hc)) | refine awp_split rfl (fun hb => ?_) (fun hb => ?_) | refine zr ?_ | exact x_le)
      all_goals first | rfl | (exfalso; omega)
  have hok : dayTimeF w 0 0 0 = (true, (leadN w : Int), (leadN r1 : Int), (leadN r2 : Int)) := by
    unfold dayTimeF; rw [if_neg (by simp [d1]), d4, if_neg (by simp [f1]), f3, if_neg (by simp [d5]), d8, if_neg (by simp [f4]), f6, if_neg (by simp [d9]), d12]
  have hL : dayL w = [(leadN w : Int), (leadN r1 : Int), (leadN r2 : Int)] := by unfold dayL; rw [hok]; rfl
  rw [hL, hok]
  clear bad hL hok
  generalize (lead w).length = k0 at *
  generalize leadN w = n0 at *
  have z1 := z1 (n0 : Int)
  generalize (lead r1).length = k1 at *
  generalize leadN r1 = n1 at *
  have z2 := z2 (n0 : Int) (n1 : Int)
  generalize (lead r2).length = k2 at *
  generalize leadN r2 = n2 at *
  have g0 : (((58 : UInt8).toNat : Int)) = 58 := rfl
  have z3 : ([] ++ [(n0 : Int)] ++ [(n1 : Int)] ++ [(n2 : Int)] : List Int).length = 3 := rfl
  refine fun1 tb_ok Tryz.func110 rfl Tryz.ntmps110 Tryz.results110 rfl fun N => ?_
  repeat' (first | refine zt ?_ | (refine isR ?_; first | refine zo ?_ | refine x_bs tb_ok ?_ | refine zL ?_ | refine zc1 ?_ | refine zc3 ?_ | refine zc5 ?_ | refine zc6 ?_ | refine zI ?_ | refine zS ?_ | (refine zs1 ?_ ?_ <;> intro hc) | (refine zs3 ?_ ?_ <;> intro hc) | (refine zs5 ?_ ?_ <;> intro hc) | (refine zs6 ?_ ?_ <;> intro hc)) | refine awp_split rfl (fun hb => ?_) (fun hb => ?_) | refine zr ?_ | exact x_le)
  refine awp_name (t := 4) 3 1 (by decide) rfl rfl ?_
  repeat' (first | with_reducible refine rounds_on ?_ | with_reducible refine awp_rounds 4 ?_ | refine zt ?_ | (refine isR ?_; first | refine zo ?_ | refine zk c1 ?_ | refine zk c2 ?_ | refine zk c3 ?_ | refine x_app intT (L := []) (a1 := (n0 : Int)) (hby := by show _ * (_ : Nat) ≤ _; simp) tb_ok ?_ | refine x_app intT (a1 := (n1 : Int)) (hby := by show _ * (_ : Nat) ≤ _; simp) tb_ok ?_ | refine x_app intT (a1 := (n2 : Int)) (hby := by show _ * (_ : Nat) ≤ _; simp) tb_ok ?_ | refine x_bs tb_ok ?_ | refine zL ?_ | refine zc1 ?_ | refine zc3 ?_ | refine zc5 ?_ | refine zc6 ?_ | refine zI ?_ | refine zS ?_ | (refine zs1 ?_ ?_ <;> intro hc) | (refine zs3 ?_ ?_ <;> intro hc) | (refine zs5 ?_ ?_ <;> intro hc) | (refine zs6 ?_ ?_ <;> intro hc)) | refine awp_split rfl (fun hb => ?_) (fun hb => ?_) | refine zr ?_ | exact x_le)
  all_goals first | rfl | (exfalso; omega) | exact end3 _ _ _
end Go.Proofs.YtkgdkpiacencjaaGreatDoor.StampI
end

section
namespace Go.Proofs.YtkgdkpiacencjaaGreatDoor.StampJ
open Go.RowKit Mem Abs TreeW WordP WordS HostP HostO HostA PathT StampP StampA StampB StampC StampD StampE StampF StampG StampH StampI Lead ClockP ClockV

theorem awp_share {P : Program} {N : Env} {c : Code} {Q : Exit → S → Prop} {s1 : S} {G : Prop} (p : Prop) (main : (p → AWp P N c Q s1) → G) (k : p → AWp P N c Q s1) : G := main k
theorem awp_cutc {P : Program} {N : Env} {d : Nat} {x y : Code} {Q : Exit → S → Prop} {s s1 : S} (k : AWp P N (.cond (.tmp d) x y) Q s1) (h : LeI N.K s1 s) : AWp P N (.cond (.tmp d) x y) Q s := awp_lei h k
theorem day_same (w : List UInt8) (h mi s : Int) : (dayTimeF w h mi s).1 = (dayTimeF w 0 0 0).1 ∧ ((dayTimeF w 0 0 0).1 = true → dayTimeF w h mi s = dayTimeF w 0 0 0) := by
  unfold dayTimeF
  repeat' split
  all_goals exact ⟨rfl, fun h => by first | rfl | cases h⟩
theorem doc0 {r : RD} {w : List UInt8} (h : r.f0 = true ∨ (dayTimeF w 0 0 0).1 = false) : takeF r w = T1 r w := by
  rw [take_eq, (day_same w r.h r.mi r.s).1, if_neg]
  rcases h with h | h <;> simp [h]
theorem doc0' {r : RD} {w : List UInt8} {a b c : Int} (h : r.f0 = false) (hp : dayTimeF w 0 0 0 = (true, a, b, c)) : takeF r w = ⟨r.y, r.m, r.d, a, b, c, true, r.f1, r.f2, r.f3⟩ := by
  have h1 : (dayTimeF w 0 0 0).1 = true := by rw [hp]
  have h2 := (day_same w r.h r.mi r.s).2 h1
  rw [take_eq, h2, hp, if_pos (by rw [h]; rfl)]
theorem doc1 {r : RD} {w : List UInt8} (h : r.f1 = true ∨ (lead w).length < 1 ∨ 2 < (lead w).length) : T1 r w = T2 r w := by
  unfold T1
  rw [if_neg]
  rcases h with h | h
  · simp [h]
  · rcases dig_is (w := w) (lo := 1) (hi := 2) (by decide) with ⟨d1, d2, d3, d4⟩ | ⟨d1, d2⟩
    · omega
    · simp [d1]
theorem doc1' {r : RD} {w : List UInt8} (h : r.f1 = false) (h1 : 1 ≤ (lead w).length) (h2 : (lead w).length ≤ 2) : T1 r w = ⟨r.y, r.m, (leadN w : Nat), r.h, r.mi, r.s, r.f0, true, r.f2, r.f3⟩ := by
  unfold T1
  rcases dig_is (w := w) (lo := 1) (hi := 2) (by decide) with ⟨d1, d2, d3, d4⟩ | ⟨d1, d2⟩
  · rw [d4, if_pos (by rw [h]; rfl)]
  · omega
theorem doc2 {r : RD} {w : List UInt8} (h : r.f2 = true ∨ monthF w = 0) : T2 r w = T3 r w := by
  unfold T2
  rw [if_neg]
  rcases h with h | h <;> simp [h]
theorem doc2' {r : RD} {w : List UInt8} (h : r.f2 = false) (h1 : 0 < monthF w) : T2 r w = ⟨r.y, (monthF w : Nat), r.d, r.h, r.mi, r.s, r.f0, r.f1, true, r.f3⟩ := by
  unfold T2
  rw [if_pos (by simp [h, h1])]
theorem doc3 {r : RD} {w : List UInt8} (h : r.f3 = true ∨ (lead w).length < 2 ∨ 4 < (lead w).length) : T3 r w = r := by
  unfold T3
  rw [if_neg]
  rcases h with h | h
  · simp [h]
  · rcases dig_is (w := w) (lo := 2) (hi := 4) (by decide) with ⟨d1, d2, d3, d4⟩ | ⟨d1, d2⟩
    · omega
    · simp [d1]
theorem doc3' {r : RD} {w : List UInt8} (h : r.f3 = false) (h1 : 2 ≤ (lead w).length) (h2 : (lead w).length ≤ 4) : T3 r w = ⟨yearF (leadN w : Nat), r.m, r.d, r.h, r.mi, r.s, r.f0, r.f1, r.f2, true⟩ := by
  unfold T3
  rcases dig_is (w := w) (lo := 2) (hi := 4) (by decide) with ⟨d1, d2, d3, d4⟩ | ⟨d1, d2⟩
  · rw [d4, if_pos (by rw [h]; rfl)]
  · omega
theorem day_list {w : List UInt8} : ((dayTimeF w 0 0 0).1 = false) ∨ ∃ a b c, dayTimeF w 0 0 0 = (true, a, b, c) ∧ dayL w = [a, b, c] := by
  unfold dayL
  generalize dayTimeF w 0 0 0 = p
  obtain ⟨o, a, b, c⟩ := p
  cases o
  · exact .inl rfl
  · exact .inr ⟨a, b, c, rfl, rfl⟩
theorem month_le (w : List UInt8) : monthF w ≤ 12 := by
  unfold monthF
  split
  · omega
  · split
    · rename_i i h
      have := (List.findIdx?_eq_some_iff_getElem.1 h).1
      have h2 : months.length = 12 := rfl
      omega
    · omega
abbrev timeR (a b c d e f : Int) : Blk := .els 106 6 [timeT a b c d e f]
end Go.Proofs.YtkgdkpiacencjaaGreatDoor.StampJ
namespace Go.Proofs.YtkgdkpiacencjaaGreatDoor.StampK
open Go.RowKit Mem Abs TreeW WordP WordS HostP HostO HostA PathT StampP StampA StampB StampC StampD StampE StampF StampG StampH StampI StampJ Lead ClockP ClockV

set_option maxRecDepth 100000 in
set_option maxHeartbeats 4000000 in
theorem stampOf_v {s : List UInt8} : ACalls Tryz.prog 78 [strT s] (.tup [.int .i64 (readF s).1, .int .i64 (readF s).2]) := by
  by_cases hl : 400 < s.length
  · have e : readF s = (0, 2) := by unfold readF; rw [if_pos hl]
    rw [e]
    refine fun1 tb_ok Tryz.func78 rfl Tryz.ntmps78 Tryz.results78 rfl fun N => ?_
    repeat' (first | refine zt ?_ | (refine isR ?_; first | refine zo ?_ | refine zA ?_ | refine zL ?_ | refine zc1 ?_ | refine zc2 ?_ | refine zc3 ?_ | refine zc4 ?_ | refine zI ?_ | (refine zs1 ?_ ?_ <;> intro hc) | (refine zs2 ?_ ?_ <;> intro hc) | (refine zs3 ?_ ?_ <;> intro hc) | (refine zs4 ?_ ?_ <;> intro hc)) | refine awp_split rfl (fun hb => ?_) (fun hb => ?_) | refine zr ?_ | exact x_le)
    rfl
  · have e : readF s = if (foundF s).f0 && ((foundF s).f1 && ((foundF s).f2 && (foundF s).f3)) then ofF (foundF s).y (foundF s).m (foundF s).d (foundF s).h (foundF s).mi (foundF s).s else (0, 1) := by unfold readF; rw [if_neg hl]
    have c1 := stampWords_v (s := s) (by omega)
    have hf : (wordsF s).foldl takeF rd0 = foundF s := rfl
    have hwl : (wordsF s).length ≤ s.length + 1 := words_len s []
    generalize wordsF s = ws at *
    have hx : ((ws.map strT).length : Int) = (ws.length : Int) := by simp
    refine fun1 tb_ok Tryz.func78 rfl Tryz.ntmps78 Tryz.results78 rfl fun N => ?_
    repeat' (first | refine zt ?_ | (refine isR ?_; first | refine zo ?_ | refine zk c1 ?_ | refine zA ?_ | refine zL ?_ | refine zc1 ?_ | refine zc2 ?_ | refine zc3 ?_ | refine zc4 ?_ | refine zI ?_ | (refine zs1 ?_ ?_ <;> intro hc) | (refine zs2 ?_ ?_ <;> intro hc) | (refine zs3 ?_ ?_ <;> intro hc) | (refine zs4 ?_ ?_ <;> intro hc)) | refine awp_split rfl (fun hb => ?_) (fun hb => ?_) | refine zr ?_ | exact x_le)
    refine awp_for (fun k => ⟨[(4, strsT ws), (5, .loc 0 0 0), (6, .bool ((ws.take k).foldl takeF rd0).f0), (7, .bool ((ws.take k).foldl takeF rd0).f1), (8, .bool ((ws.take k).foldl takeF rd0).f2), (9, .bool ((ws.take k).foldl takeF rd0).f3), (10, .int .i64 (k : Int))], [(0, some (timeR ((ws.take k).foldl takeF rd0).y ((ws.take k).foldl takeF rd0).m ((ws.take k).foldl takeF rd0).d ((ws.take k).foldl takeF rd0).h ((ws.take k).foldl takeF rd0).mi ((ws.take k).foldl takeF rd0).s))], 1, 129⟩) (fun k => k ≤ ws.length) ws.length 0 (by exact x_le) (Nat.zero_le _) ?_
    intro k hk
    by_cases hk2 : k < ws.length
    · have e1 : (ws.map strT)[((k : Int)).toNat]? = some (strT ws[k]) := by show (ws.map strT)[k]? = _; simp [hk2]
      have e2 : (ws.take (k + 1)).foldl takeF rd0 = takeF ((ws.take k).foldl takeF rd0) ws[k] := by rw [List.take_succ_eq_append_getElem hk2, List.foldl_append]; rfl
      simp only [e2]
      generalize ws[k] = w at *
      generalize (ws.take k).foldl takeF rd0 = r at *
      clear e e2 hf
      have c2 := leadDigits_v (l := w)
      have c3 := dayTime_v (w := w)
      have c4 := monthOf_v (w := w)
      have hn := leadN_lt w
      have hm := month_le w
      have hd := day_list (w := w)
      have d0 := @doc0 r w
      have d0' := @doc0' r w
      have d1 := @doc1 r w
      have d1' := @doc1' r w
      have d2 := @doc2 r w
      have d2' := @doc2' r w
      have d3 := @doc3 r w
      have d3' := @doc3' r w
      generalize takeF r w = z at *
      generalize T1 r w = z1 at *
      generalize T2 r w = z2 at *
      generalize T3 r w = z3 at *
      generalize dayTimeF w 0 0 0 = p at *
      generalize dayL w = L at *
      generalize (lead w).length = kk at *
      generalize leadN w = n at *
      generalize monthF w = mo at *
      obtain ⟨r1, r2, r3, r4, r5, r6, r7, r8, r9, r10⟩ := r
      obtain ⟨ok, pa, pb, pc⟩ := p
      dsimp only at *
      apply awp_share (s1 := ⟨[(4, strsT ws), (5, .loc 0 0 0), (6, .bool r7), (7, .bool r8), (8, .bool r9), (9, .bool r10), (10, .int .i64 (k : Int)), (11, .int .i64 (kk : Int)), (12, .int .i64 (n : Int)), (46, .bool false)], [(0, some (timeR r1 r2 r3 r4 r5 r6))], 1, 129⟩) (z = z1)
      case main =>
        intro H
        cases h7 : r7 with
        | true =>
          rw [h7] at H
          have H := H (d0 (.inl h7))
          repeat' (first | ((with_reducible refine awp_cutc (d := 46) H ?_); exact x_le) | refine zt ?_ | (refine isR ?_; first | refine zo ?_ | refine zk c2 ?_ | refine zk c3 ?_ | refine zA ?_ | refine zL ?_ | refine zc1 ?_ | refine zc2 ?_ | refine zc3 ?_ | refine zc4 ?_ | refine zI ?_ | (refine zs1 ?_ ?_ <;> intro hc) | (refine zs2 ?_ ?_ <;> intro hc) | (refine zs3 ?_ ?_ <;> intro hc) | (refine zs4 ?_ ?_ <;> intro hc)) | refine awp_split rfl (fun hb => ?_) (fun hb => ?_) | refine zr ?_ | exact x_le)
        | false =>
          rw [h7] at H
          rcases hd with hd | ⟨a, b, c, hp, hL⟩
          · subst hd
            have H := H (d0 (.inr rfl))
            repeat' (first | ((with_reducible refine awp_cutc (d := 46) H ?_); exact x_le) | refine zt ?_ | (refine isR ?_; first | refine zo ?_ | refine zk c2 ?_ | refine zk c3 ?_ | refine zA ?_ | refine zL ?_ | refine zc1 ?_ | refine zc2 ?_ | refine zc3 ?_ | refine zc4 ?_ | refine zI ?_ | (refine zs1 ?_ ?_ <;> intro hc) | (refine zs2 ?_ ?_ <;> intro hc) | (refine zs3 ?_ ?_ <;> intro hc) | (refine zs4 ?_ ?_ <;> intro hc)) | refine awp_split rfl (fun hb => ?_) (fun hb => ?_) | refine zr ?_ | exact x_le)
          · subst hL
            cases hp
            rw [d0' h7 rfl]
            have q0 : ([pa, pb, pc].map intT)[((0 : Int)).toNat]? = some (intT pa) := rfl
            have q1 : ([pa, pb, pc].map intT)[((1 : Int)).toNat]? = some (intT pb) := rfl
            have q2 : ([pa, pb, pc].map intT)[((2 : Int)).toNat]? = some (intT pc) := rfl
            have q3 : ([pa, pb, pc].map intT).length = 3 := rfl
            repeat' (first | refine zt ?_ | (refine isR ?_; first | refine zo ?_ | refine zk c2 ?_ | refine zk c3 ?_ | refine zA ?_ | refine zL ?_ | refine zc1 ?_ | refine zc2 ?_ | refine zc3 ?_ | refine zc4 ?_ | refine zI ?_ | (refine zs1 ?_ ?_ <;> intro hc) | (refine zs2 ?_ ?_ <;> intro hc) | (refine zs3 ?_ ?_ <;> intro hc) | (refine zs4 ?_ ?_ <;> intro hc)) | refine awp_split rfl (fun hb => ?_) (fun hb => ?_) | refine zr ?_ | exact x_le)
            refine ⟨by omega, hk2, ?_⟩
            exact (by exact x_le)
      case k =>
        intro hz
        apply awp_share (s1 := ⟨[(4, strsT ws), (5, .loc 0 0 0), (6, .bool r7), (7, .bool r8), (8, .bool r9), (9, .bool r10), (10, .int .i64 (k : Int)), (11, .int .i64 (kk : Int)), (12, .int .i64 (n : Int)), (68, .bool false)], [(0, some (timeR r1 r2 r3 r4 r5 r6))], 1, 129⟩) (z = z2)
        case main =>
          intro H
          cases h8 : r8 with
          | true =>
            rw [h8] at H
            have H := H (hz.trans (d1 (.inl h8)))
            repeat' (first | ((with_reducible refine awp_cutc (d := 68) H ?_); exact x_le) | refine zt ?_ | (refine isR ?_; first | refine zo ?_ | refine zA ?_ | refine zL ?_ | refine zc1 ?_ | refine zc2 ?_ | refine zc3 ?_ | refine zc4 ?_ | refine zI ?_ | (refine zs1 ?_ ?_ <;> intro hc) | (refine zs2 ?_ ?_ <;> intro hc) | (refine zs3 ?_ ?_ <;> intro hc) | (refine zs4 ?_ ?_ <;> intro hc)) | refine awp_split rfl (fun hb => ?_) (fun hb => ?_) | refine zr ?_ | exact x_le)
          | false =>
            rw [h8] at H
            by_cases k1 : 1 ≤ kk
            · by_cases k2 : kk ≤ 2
              · rw [hz, d1' h8 k1 k2]
                repeat' (first | refine zt ?_ | (refine isR ?_; first | refine zo ?_ | refine zA ?_ | refine zL ?_ | refine zc1 ?_ | refine zc2 ?_ | refine zc3 ?_ | refine zc4 ?_ | refine zI ?_ | (refine zs1 ?_ ?_ <;> intro hc) | (refine zs2 ?_ ?_ <;> intro hc) | (refine zs3 ?_ ?_ <;> intro hc) | (refine zs4 ?_ ?_ <;> intro hc)) | refine awp_split rfl (fun hb => ?_) (fun hb => ?_) | refine zr ?_ | exact x_le)
                refine ⟨by omega, hk2, ?_⟩
                exact (by exact x_le)
              · have H := H (hz.trans (d1 (.inr (.inr (by omega)))))
                repeat' (first | ((with_reducible refine awp_cutc (d := 68) H ?_); exact x_le) | refine zt ?_ | (refine isR ?_; first | refine zo ?_ | refine zA ?_ | refine zL ?_ | refine zc1 ?_ | refine zc2 ?_ | refine zc3 ?_ | refine zc4 ?_ | refine zI ?_ | (refine zs1 ?_ ?_ <;> intro hc) | (refine zs2 ?_ ?_ <;> intro hc) | (refine zs3 ?_ ?_ <;> intro hc) | (refine zs4 ?_ ?_ <;> intro hc)) | refine awp_split rfl (fun hb => ?_) (fun hb => ?_) | refine zr ?_ | exact x_le)
            · have H := H (hz.trans (d1 (.inr (.inl (by omega)))))
              repeat' (first | ((with_reducible refine awp_cutc (d := 68) H ?_); exact x_le) | refine zt ?_ | (refine isR ?_; first | refine zo ?_ | refine zA ?_ | refine zL ?_ | refine zc1 ?_ | refine zc2 ?_ | refine zc3 ?_ | refine zc4 ?_ | refine zI ?_ | (refine zs1 ?_ ?_ <;> intro hc) | (refine zs2 ?_ ?_ <;> intro hc) | (refine zs3 ?_ ?_ <;> intro hc) | (refine zs4 ?_ ?_ <;> intro hc)) | refine awp_split rfl (fun hb => ?_) (fun hb => ?_) | refine zr ?_ | exact x_le)
        case k =>
          intro hz
          apply awp_share (s1 := ⟨[(4, strsT ws), (5, .loc 0 0 0), (6, .bool r7), (7, .bool r8), (8, .bool r9), (9, .bool r10), (10, .int .i64 (k : Int)), (11, .int .i64 (kk : Int)), (12, .int .i64 (n : Int)), (80, .bool false)], [(0, some (timeR r1 r2 r3 r4 r5 r6))], 1, 129⟩) (z = z3)
          case main =>
            intro H
            cases h9 : r9 with
            | true =>
              rw [h9] at H
              have H := H (hz.trans (d2 (.inl h9)))
              repeat' (first | ((with_reducible refine awp_cutc (d := 80) H ?_); exact x_le) | refine zt ?_ | (refine isR ?_; first | refine zo ?_ | refine zA ?_ | refine zL ?_ | refine zc1 ?_ | refine zc2 ?_ | refine zc3 ?_ | refine zc4 ?_ | refine zI ?_ | (refine zs1 ?_ ?_ <;> intro hc) | (refine zs2 ?_ ?_ <;> intro hc) | (refine zs3 ?_ ?_ <;> intro hc) | (refine zs4 ?_ ?_ <;> intro hc)) | refine awp_split rfl (fun hb => ?_) (fun hb => ?_) | refine zr ?_ | exact x_le)
            | false =>
              rw [h9] at H
              by_cases k1 : 0 < mo
              · rw [hz, d2' h9 k1]
                repeat' (first | refine zt ?_ | (refine isR ?_; first | refine zo ?_ | refine zk c4 ?_ | refine zA ?_ | refine zL ?_ | refine zc1 ?_ | refine zc2 ?_ | refine zc3 ?_ | refine zc4 ?_ | refine zI ?_ | (refine zs1 ?_ ?_ <;> intro hc) | (refine zs2 ?_ ?_ <;> intro hc) | (refine zs3 ?_ ?_ <;> intro hc) | (refine zs4 ?_ ?_ <;> intro hc)) | refine awp_split rfl (fun hb => ?_) (fun hb => ?_) | refine zr ?_ | exact x_le)
                refine ⟨by omega, hk2, ?_⟩
                exact (by exact x_le)
              · have H := H (hz.trans (d2 (.inr (by omega))))
                repeat' (first | ((with_reducible refine awp_cutc (d := 80) H ?_); exact x_le) | refine zt ?_ | (refine isR ?_; first | refine zo ?_ | refine zk c4 ?_ | refine zA ?_ | refine zL ?_ | refine zc1 ?_ | refine zc2 ?_ | refine zc3 ?_ | refine zc4 ?_ | refine zI ?_ | (refine zs1 ?_ ?_ <;> intro hc) | (refine zs2 ?_ ?_ <;> intro hc) | (refine zs3 ?_ ?_ <;> intro hc) | (refine zs4 ?_ ?_ <;> intro hc)) | refine awp_split rfl (fun hb => ?_) (fun hb => ?_) | refine zr ?_ | exact x_le)
          case k =>
            intro hz
            cases h10 : r10 with
            | true =>
              rw [hz, d3 (.inl h10), h10]
              repeat' (first | refine zt ?_ | (refine isR ?_; first | refine zo ?_ | refine zA ?_ | refine zL ?_ | refine zc1 ?_ | refine zc2 ?_ | refine zc3 ?_ | refine zc4 ?_ | refine zI ?_ | (refine zs1 ?_ ?_ <;> intro hc) | (refine zs2 ?_ ?_ <;> intro hc) | (refine zs3 ?_ ?_ <;> intro hc) | (refine zs4 ?_ ?_ <;> intro hc)) | refine awp_split rfl (fun hb => ?_) (fun hb => ?_) | refine zr ?_ | exact x_le)
              refine ⟨by omega, hk2, ?_⟩
              exact (by exact x_le)
            | false =>
              by_cases k1 : 2 ≤ kk
              · by_cases k2 : kk ≤ 4
                · rw [hz, d3' h10 k1 k2]
                  by_cases y1 : n < 70
                  · have ey : yearF (n : Nat) = (n : Int) + 2000 := by unfold yearF; rw [if_pos (by omega)]
                    rw [ey]
                    repeat' (first | refine zt ?_ | (refine isR ?_; first | refine zo ?_ | refine zA ?_ | refine zL ?_ | refine zc1 ?_ | refine zc2 ?_ | refine zc3 ?_ | refine zc4 ?_ | refine zI ?_ | (refine zs1 ?_ ?_ <;> intro hc) | (refine zs2 ?_ ?_ <;> intro hc) | (refine zs3 ?_ ?_ <;> intro hc) | (refine zs4 ?_ ?_ <;> intro hc)) | refine awp_split rfl (fun hb => ?_) (fun hb => ?_) | refine zr ?_ | exact x_le)
                    refine ⟨by omega, hk2, ?_⟩
                    exact (by exact x_le)
                  · by_cases y2 : n < 100
                    · have ey : yearF (n : Nat) = (n : Int) + 1900 := by unfold yearF; rw [if_neg (by omega), if_pos (by omega)]
                      rw [ey]
                      repeat' (first | refine zt ?_ | (refine isR ?_; first | refine zo ?_ | refine zA ?_ | refine zL ?_ | refine zc1 ?_ | refine zc2 ?_ | refine zc3 ?_ | refine zc4 ?_ | refine zI ?_ | (refine zs1 ?_ ?_ <;> intro hc) | (refine zs2 ?_ ?_ <;> intro hc) | (refine zs3 ?_ ?_ <;> intro hc) | (refine zs4 ?_ ?_ <;> intro hc)) | refine awp_split rfl (fun hb => ?_) (fun hb => ?_) | refine zr ?_ | exact x_le)
                      refine ⟨by omega, hk2, ?_⟩
                      exact (by exact x_le)
                    · have ey : yearF (n : Nat) = (n : Int) := by unfold yearF; rw [if_neg (by omega), if_neg (by omega)]
                      rw [ey]
                      repeat' (first | refine zt ?_ | (refine isR ?_; first | refine zo ?_ | refine zA ?_ | refine zL ?_ | refine zc1 ?_ | refine zc2 ?_ | refine zc3 ?_ | refine zc4 ?_ | refine zI ?_ | (refine zs1 ?_ ?_ <;> intro hc) | (refine zs2 ?_ ?_ <;> intro hc) | (refine zs3 ?_ ?_ <;> intro hc) | (refine zs4 ?_ ?_ <;> intro hc)) | refine awp_split rfl (fun hb => ?_) (fun hb => ?_) | refine zr ?_ | exact x_le)
                      refine ⟨by omega, hk2, ?_⟩
                      exact (by exact x_le)
                · rw [hz, d3 (.inr (.inr (by omega))), h10]
                  repeat' (first | refine zt ?_ | (refine isR ?_; first | refine zo ?_ | refine zA ?_ | refine zL ?_ | refine zc1 ?_ | refine zc2 ?_ | refine zc3 ?_ | refine zc4 ?_ | refine zI ?_ | (refine zs1 ?_ ?_ <;> intro hc) | (refine zs2 ?_ ?_ <;> intro hc) | (refine zs3 ?_ ?_ <;> intro hc) | (refine zs4 ?_ ?_ <;> intro hc)) | refine awp_split rfl (fun hb => ?_) (fun hb => ?_) | refine zr ?_ | exact x_le)
                  refine ⟨by omega, hk2, ?_⟩
                  exact (by exact x_le)
              · rw [hz, d3 (.inr (.inl (by omega))), h10]
                repeat' (first | refine zt ?_ | (refine isR ?_; first | refine zo ?_ | refine zA ?_ | refine zL ?_ | refine zc1 ?_ | refine zc2 ?_ | refine zc3 ?_ | refine zc4 ?_ | refine zI ?_ | (refine zs1 ?_ ?_ <;> intro hc) | (refine zs2 ?_ ?_ <;> intro hc) | (refine zs3 ?_ ?_ <;> intro hc) | (refine zs4 ?_ ?_ <;> intro hc)) | refine awp_split rfl (fun hb => ?_) (fun hb => ?_) | refine zr ?_ | exact x_le)
                refine ⟨by omega, hk2, ?_⟩
                exact (by exact x_le)
    · obtain rfl : k = ws.length := by omega
      rw [List.take_length, hf]
      rw [e]
      clear e hf
      generalize foundF s = r at *
      obtain ⟨r1, r2, r3, r4, r5, r6, r7, r8, r9, r10⟩ := r
      dsimp only
      have c4 := momentOf_v (y := r1) (m := r2) (d := r3) (h := r4) (mi := r5) (s := r6)
      generalize ofF r1 r2 r3 r4 r5 r6 = o at *
      cases r7
      · skip
        repeat' (first | refine zt ?_ | (refine isR ?_; first | refine zo ?_ | refine zk c4 ?_ | refine zA ?_ | refine zL ?_ | refine zc1 ?_ | refine zc2 ?_ | refine zc3 ?_ | refine zc4 ?_ | refine zI ?_ | (refine zs1 ?_ ?_ <;> intro hc) | (refine zs2 ?_ ?_ <;> intro hc) | (refine zs3 ?_ ?_ <;> intro hc) | (refine zs4 ?_ ?_ <;> intro hc)) | refine awp_split rfl (fun hb => ?_) (fun hb => ?_) | refine zr ?_ | exact x_le)
        rfl
      · cases r8
        · skip
          repeat' (first | refine zt ?_ | (refine isR ?_; first | refine zo ?_ | refine zk c4 ?_ | refine zA ?_ | refine zL ?_ | refine zc1 ?_ | refine zc2 ?_ | refine zc3 ?_ | refine zc4 ?_ | refine zI ?_ | (refine zs1 ?_ ?_ <;> intro hc) | (refine zs2 ?_ ?_ <;> intro hc) | (refine zs3 ?_ ?_ <;> intro hc) | (refine zs4 ?_ ?_ <;> intro hc)) | refine awp_split rfl (fun hb => ?_) (fun hb => ?_) | refine zr ?_ | exact x_le)
          rfl
        · cases r9
          · skip
            repeat' (first | refine zt ?_ | (refine isR ?_; first | refine zo ?_ | refine zk c4 ?_ | refine zA ?_ | refine zL ?_ | refine zc1 ?_ | refine zc2 ?_ | refine zc3 ?_ | refine zc4 ?_ | refine zI ?_ | (refine zs1 ?_ ?_ <;> intro hc) | (refine zs2 ?_ ?_ <;> intro hc) | (refine zs3 ?_ ?_ <;> intro hc) | (refine zs4 ?_ ?_ <;> intro hc)) | refine awp_split rfl (fun hb => ?_) (fun hb => ?_) | refine zr ?_ | exact x_le)
            rfl
          · cases r10
            · skip
              repeat' (first | refine zt ?_ | (refine isR ?_; first | refine zo ?_ | refine zk c4 ?_ | refine zA ?_ | refine zL ?_ | refine zc1 ?_ | refine zc2 ?_ | refine zc3 ?_ | refine zc4 ?_ | refine zI ?_ | (refine zs1 ?_ ?_ <;> intro hc) | (refine zs2 ?_ ?_ <;> intro hc) | (refine zs3 ?_ ?_ <;> intro hc) | (refine zs4 ?_ ?_ <;> intro hc)) | refine awp_split rfl (fun hb => ?_) (fun hb => ?_) | refine zr ?_ | exact x_le)
              rfl
            · skip
              repeat' (first | refine zt ?_ | (refine isR ?_; first | refine zo ?_ | refine zk c4 ?_ | refine zA ?_ | refine zL ?_ | refine zc1 ?_ | refine zc2 ?_ | refine zc3 ?_ | refine zc4 ?_ | refine zI ?_ | (refine zs1 ?_ ?_ <;> intro hc) | (refine zs2 ?_ ?_ <;> intro hc) | (refine zs3 ?_ ?_ <;> intro hc) | (refine zs4 ?_ ?_ <;> intro hc)) | refine awp_split rfl (fun hb => ?_) (fun hb => ?_) | refine zr ?_ | exact x_le)
              rfl
end Go.Proofs.YtkgdkpiacencjaaGreatDoor.StampK
namespace Go.Proofs.YtkgdkpiacencjaaGreatDoor.StampL
open Go.RowKit Mem Abs TreeW WordP WordS HostP HostO HostA PathT StampP StampA StampB StampC StampD StampE StampF StampG StampH StampI StampJ StampK Lead ClockP ClockV

/-- The last digit of a number, as a byte. -/
def dgt (m : Nat) : UInt8 := UInt8.ofNat (48 + m % 10)
theorem dgt_nat (m : Nat) : (dgt m).toNat = 48 + m % 10 := by
  unfold dgt
  rw [UInt8.toNat_ofNat']
  omega
theorem dgt_int (m : Nat) : (48 + ((m % 10 : Nat) : Int)) = ((dgt m).toNat : Int) := by rw [dgt_nat]; omega
theorem dg (m : Nat) : (m : Int).tmod 10 = ((m % 10 : Nat) : Int) ∧ InR .i64 ((m % 10 : Nat) : Int) ∧ IntKind.u8.wrap (48 + ((m % 10 : Nat) : Int)) = ((dgt m).toNat : Int) := by
  refine ⟨by rw [Int.tmod_eq_emod_of_nonneg (by omega)]; omega, ⟨by simp only [rng]; omega, by simp only [rng]; omega⟩, ?_⟩
  rw [dgt_int]
  have := (dgt m).toNat_lt
  simp only [IntKind.wrap, IntKind.bits, IntKind.signed]
  simp
  omega
theorem dq (m : Nat) (hm : m < 1000000) : IntKind.i64.wrap ((m : Int).tdiv 10) = ((m / 10 : Nat) : Int) := by
  rw [Int.tdiv_eq_ediv_of_nonneg (by omega)]
  simp only [IntKind.wrap, IntKind.bits, IntKind.signed]
  simp
  omega
end Go.Proofs.YtkgdkpiacencjaaGreatDoor.StampL
end
