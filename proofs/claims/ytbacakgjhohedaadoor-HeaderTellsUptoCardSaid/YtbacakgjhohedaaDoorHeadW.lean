/- Headers: the walks of the parts. -/
import Derived.Test.YtbacakgjhohedaaDoorWk
import Derived.Test.YtbacakgjhohedaaDoorHeadP
import Derived.Test.YtbacakgjhohedaaDoorRune
import Derived.Test.YtbacakgjhohedaaDoorBld
import Derived.Test.YtbacakgjhohedaaDoorAbsD
import Derived.Test.YtbacakgjhohedaaDoorShelf
namespace Go.Proofs.YtbacakgjhohedaaDoor.HeadW
open Go.RowKit Mem Abs TreeW WordP WordS HeadP Rune Bld

set_option maxRecDepth 100000 in
set_option maxHeartbeats 4000000 in
theorem let1_v {c : Int} : ACalls Tryd.prog 34 [.int .i32 c] (.bool (badI c)) := by
  refine fun1 tb_ok Tryd.func34 rfl Tryd.ntmps34 Tryd.results34 rfl fun N => ?_
  unfold badI
  repeat' (first | refine zt ?_ | (refine isR ?_; first | refine zo ?_ | refine zc1 ?_ | refine zc5 ?_ | refine zc6 ?_ | (refine zs1 ?_ ?_ <;> intro hc) | (refine zs5 ?_ ?_ <;> intro hc) | (refine zs6 ?_ ?_ <;> intro hc)) | refine awp_split rfl (fun hb => ?_) (fun hb => ?_) | refine zr ?_ | exact x_le)
  all_goals (show V.bool _ = V.bool _; first | (simp [*]; done) | (simp [*]; omega))
set_option maxRecDepth 100000 in
set_option maxHeartbeats 4000000 in
theorem idx_v {s : List UInt8} : ACalls Tryd.prog 43 [strT s, .fn (.func 34) [] [], .bool true] (.int .i64 (firstI badB s)) := ACalls.lim fun hl => by
  have hlim := (str_lim hl).1
  refine fun3 tb_ok Tryd.func43 rfl Tryd.ntmps43 Tryd.results43 rfl fun N => ?_
  repeat' (first | refine zt ?_ | (refine isR ?_; first | refine zo ?_ | refine x_range tb_ok ?_ | refine zc5 ?_ | (refine zs5 ?_ ?_ <;> intro hc)) | refine awp_split rfl (fun hb => ?_) (fun hb => ?_) | refine zr ?_ | exact x_le)
  refine awp_while (fun k => ⟨[(0, strT s), (1, .fn (.func 34) [] []), (2, .bool true), (10, .loc 0 0 0)], [(0, some (.sit (str s) k))], 1, 21⟩) (fun k => k ≤ s.length ∧ ∀ j y, j < k → s[j]? = some y → badB y = false) (fun k => s.length - k) 0 (by exact x_le) ⟨Nat.zero_le _, fun j y h => absurd h (Nat.not_lt_zero _)⟩ ?_
  intro k ⟨hk, hp⟩
  have hsz : (str s).size = s.length := str_size s
  by_cases hk2 : k < s.length
  · obtain ⟨c, wd, hdec, h1, h2, h3, hcase⟩ := rune_at s k hk2
    have hps : k < (str s).size := by rw [hsz]; exact hk2
    have hw : k + wd ≤ SLIM := by simp only [SLIM]; omega
    have c1 := let1_v (c := (c : Int))
    rcases hcase with ⟨b, g1, g2, g3, g4⟩ | ⟨g1, g2⟩
    · cases hb : badI (c : Int) with
      | true =>
        rw [hb] at c1
        repeat' (first | refine zt ?_ | (refine isR ?_; first | refine zo ?_ | refine x_next _ _ ?_ | refine x_callv (c1 _) ?_ | refine x_callv (c1) ?_ | refine zc5 ?_ | (refine zs5 ?_ ?_ <;> intro hc)) | refine awp_split rfl (fun hb => ?_) (fun hb => ?_) | refine zr ?_ | exact x_le)
        show V.int .i64 _ = V.int .i64 _
        rw [firstI_at hp g1 (by unfold badB; rw [← g3]; exact hb)]
      | false =>
        rw [hb] at c1
        repeat' (first | refine zt ?_ | (refine isR ?_; first | refine zo ?_ | refine x_next _ _ ?_ | refine x_callv (c1 _) ?_ | refine x_callv (c1) ?_ | refine zc5 ?_ | (refine zs5 ?_ ?_ <;> intro hc)) | refine awp_split rfl (fun hb => ?_) (fun hb => ?_) | refine zr ?_ | exact x_le)
        refine ⟨k + wd, ⟨h2, fun j y hj hy => ?_⟩, by omega, (by exact x_le)⟩
        by_cases e : j < k
        · exact hp j y e hy
        · obtain rfl : j = k := by omega
          rw [g1] at hy; cases hy
          unfold badB; rw [← g3]; exact hb
    · have hb : badI (c : Int) = false := by
        unfold badI
        rw [decide_eq_false (by omega), decide_eq_false (by omega), decide_eq_false (by omega)]; rfl
      rw [hb] at c1
      repeat' (first | refine zt ?_ | (refine isR ?_; first | refine zo ?_ | refine x_next _ _ ?_ | refine x_callv (c1 _) ?_ | refine x_callv (c1) ?_ | refine zc5 ?_ | (refine zs5 ?_ ?_ <;> intro hc)) | refine awp_split rfl (fun hb => ?_) (fun hb => ?_) | refine zr ?_ | exact x_le)
      refine ⟨k + wd, ⟨h2, fun j y hj hy => ?_⟩, by omega, (by exact x_le)⟩
      by_cases e : j < k
      · exact hp j y e hy
      · obtain ⟨b, f1, f2⟩ := g2 j (by omega) (by omega)
        rw [f1] at hy; cases hy
        unfold badB badI
        rw [decide_eq_false (by omega), decide_eq_false (by omega), decide_eq_false (by omega)]; rfl
  · have hps : ¬ k < (str s).size := by rw [hsz]; exact hk2
    repeat' (first | refine zt ?_ | (refine isR ?_; first | refine zo ?_ | refine x_nextE ?_ | refine zc5 ?_ | (refine zs5 ?_ ?_ <;> intro hc)) | refine awp_split rfl (fun hb => ?_) (fun hb => ?_) | refine zr ?_ | exact x_le)
    show V.int .i64 _ = V.int .i64 _
    rw [firstI_none fun x hx => ?_]
    obtain ⟨i, hi⟩ := List.mem_iff_getElem?.1 hx
    exact hp i x (by have := (List.getElem?_eq_some_iff.1 hi).1; omega) hi
set_option maxRecDepth 100000 in
set_option maxHeartbeats 4000000 in
theorem index_v {s : List UInt8} : ACalls Tryd.prog 33 [strT s, .fn (.func 34) [] []] (.int .i64 (firstI badB s)) := by
  have c1 := idx_v (s := s)
  refine fun2 tb_ok Tryd.func33 rfl Tryd.ntmps33 Tryd.results33 rfl fun N => ?_
  repeat' (first | refine zt ?_ | (refine isR ?_; first | refine zo ?_ | refine zk c1 ?_) | refine awp_split rfl (fun hb => ?_) (fun hb => ?_) | refine zr ?_ | exact x_le)
  rfl
theorem first_let (s : List UInt8) : letF s = decide (firstI badB s < 0) := by
  have h := firstI_ge (p := badB) (l := s)
  have e : letF s = !s.any badB := by unfold letF; rw [List.not_any_eq_all_not]
  rw [e]
  cases ha : s.any badB with
  | true => rw [ha] at h; rw [decide_eq_false (by have := h.2 rfl; omega)]; rfl
  | false =>
    have : ¬ (0 ≤ firstI badB s) := fun g => by rw [h.1 g] at ha; cases ha
    rw [decide_eq_true (by omega)]; rfl
set_option maxRecDepth 100000 in
set_option maxHeartbeats 4000000 in
theorem let_v {s : List UInt8} : ACalls Tryd.prog 15 [strT s] (.bool (letF s)) := by
  have c1 := index_v (s := s)
  rw [first_let]
  generalize firstI badB s = n at *
  refine fun1 tb_ok Tryd.func15 rfl Tryd.ntmps15 Tryd.results15 rfl fun N => ?_
  repeat' (first | refine zt ?_ | (refine isR ?_; first | refine zo ?_ | refine zk c1 ?_ | refine zc1 ?_ | (refine zs1 ?_ ?_ <;> intro hc)) | refine awp_split rfl (fun hb => ?_) (fun hb => ?_) | refine zr ?_ | exact x_le)
  all_goals (show V.bool _ = V.bool _; simp [*])
set_option maxRecDepth 100000 in
set_option maxHeartbeats 4000000 in
theorem letOf_v {s : List UInt8} : ACalls Tryd.prog 23 [strT s] (.bool (letF s)) := ACalls.lim fun hl => by
  have hlim := (str_lim hl).1
  refine fun1 tb_ok Tryd.func23 rfl Tryd.ntmps23 Tryd.results23 rfl fun N => ?_
  repeat' (first | refine zt ?_ | (refine isR ?_; first | refine zo ?_ | refine zA ?_ | refine zL ?_ | refine zc1 ?_ | refine zc2 ?_ | refine zc4 ?_ | refine zc5 ?_ | refine zI ?_ | (refine zs1 ?_ ?_ <;> intro hc) | (refine zs2 ?_ ?_ <;> intro hc) | (refine zs4 ?_ ?_ <;> intro hc) | (refine zs5 ?_ ?_ <;> intro hc)) | refine awp_split rfl (fun hb => ?_) (fun hb => ?_) | refine zr ?_ | exact x_le)
  refine awp_for (fun k => ⟨[(0, strT s), (3, .int .i64 (k : Int))], [], 0, 32⟩) (fun k => k ≤ s.length ∧ Upto (fun b => !badB b) s k) s.length 0 (by exact x_le) ⟨Nat.zero_le _, upto0⟩ ?_
  intro k ⟨hk, hq⟩
  by_cases hk2 : k < s.length
  · have e1 : s[((k : Int)).toNat]? = some s[k] := by simp [hk2]
    have e2 : s[k]? = some s[k] := by simp [hk2]
    generalize s[k] = b at e1 e2
    have hb := b.toNat_lt
    cases hbad : badB b with
    | true =>
      have hno := all_no (p := fun b => !badB b) e2 (by simp [hbad])
      unfold letF
      rw [hno]
      unfold badB badI at hbad
      simp only [Bool.or_eq_true, Bool.and_eq_true, Bool.not_eq_true', decide_eq_true_eq, decide_eq_false_iff_not] at hbad
      repeat' (first | refine zt ?_ | (refine isR ?_; first | refine zo ?_ | refine zA ?_ | refine zL ?_ | refine zc1 ?_ | refine zc2 ?_ | refine zc4 ?_ | refine zc5 ?_ | refine zI ?_ | (refine zs1 ?_ ?_ <;> intro hc) | (refine zs2 ?_ ?_ <;> intro hc) | (refine zs4 ?_ ?_ <;> intro hc) | (refine zs5 ?_ ?_ <;> intro hc)) | refine awp_split rfl (fun hb => ?_) (fun hb => ?_) | refine zr ?_ | exact x_le)
      all_goals first | rfl | (exfalso; omega)
    | false =>
      have hon := hq.on e2 (by simp [hbad])
      unfold badB badI at hbad
      simp only [Bool.or_eq_false_iff, Bool.and_eq_false_iff, Bool.not_eq_false', decide_eq_true_eq, decide_eq_false_iff_not] at hbad
      obtain ⟨hb1, hb2⟩ := hbad
      repeat' (first | refine zt ?_ | (refine isR ?_; first | refine zo ?_ | refine zA ?_ | refine zL ?_ | refine zc1 ?_ | refine zc2 ?_ | refine zc4 ?_ | refine zc5 ?_ | refine zI ?_ | (refine zs1 ?_ ?_ <;> intro hc) | (refine zs2 ?_ ?_ <;> intro hc) | (refine zs4 ?_ ?_ <;> intro hc) | (refine zs5 ?_ ?_ <;> intro hc)) | refine awp_split rfl (fun hb => ?_) (fun hb => ?_) | refine zr ?_ | exact x_le)
      all_goals first
        | (exfalso; omega)
        | (refine ⟨⟨by omega, hon⟩, by omega, ?_⟩
           exact (by exact x_le))
  · unfold letF
    rw [hq.all hk2]
    repeat' (first | refine zt ?_ | (refine isR ?_; first | refine zo ?_ | refine zA ?_ | refine zL ?_ | refine zc1 ?_ | refine zc2 ?_ | refine zc4 ?_ | refine zc5 ?_ | refine zI ?_ | (refine zs1 ?_ ?_ <;> intro hc) | (refine zs2 ?_ ?_ <;> intro hc) | (refine zs4 ?_ ?_ <;> intro hc) | (refine zs5 ?_ ?_ <;> intro hc)) | refine awp_split rfl (fun hb => ?_) (fun hb => ?_) | refine zr ?_ | exact x_le)
    rfl
set_option maxRecDepth 100000 in
set_option maxHeartbeats 4000000 in
theorem contains_v {s : List UInt8} {c : UInt8} : ACalls Tryd.prog 41 [strT s, strT [c]] (.bool (s.contains c)) := fun g N w vs hG hN hlen hv => by
  obtain ⟨vs⟩ := vs
  match vs, hlen with
  | [x0, x1], _ =>
    obtain ⟨rfl, h0⟩ := fz_str (hv 0 _ x0 rfl rfl)
    obtain ⟨rfl, _⟩ := fz_str (hv 1 _ x1 rfl rfl)
    refine (Tryd.strings_Contains_one (str s) c w).mono fun e w' ⟨h1, h2⟩ => ⟨_, h1, h2 ▸ Below.refl _ _, ?_⟩
    rw [str_toList, index_ge]
    exact .bool
set_option maxRecDepth 100000 in
set_option maxHeartbeats 4000000 in
theorem pairOf_v {p : List UInt8} : ACalls Tryd.prog 25 [strT p] (.tup [strT (pairF p).1, strT (pairF p).2.1, .bool (pairF p).2.2]) := ACalls.lim fun hl => by
  have hlim := (str_lim hl).1
  have c1 := placeOf_v (c := 61) (l := p)
  have hin := pos_in 61 p
  unfold pairF
  cases hc : p.contains 61 with
  | false =>
    have c2 := trimOf_v (l := p)
    have hneg := pos_none.2 hc
    rw [cutF_none hc]
    have e : trim [] = [] := rfl
    generalize posB 61 p = n at *
    generalize trim p = q at *
    refine fun1 tb_ok Tryd.func25 rfl Tryd.ntmps25 Tryd.results25 rfl fun N => ?_
    repeat' (first | refine zt ?_ | (refine isR ?_; first | refine zo ?_ | refine zk c1 ?_ | refine zk c2 ?_ | refine zA ?_ | refine zc1 ?_ | refine zS ?_ | (refine zs1 ?_ ?_ <;> intro hc)) | refine awp_split rfl (fun hb => ?_) (fun hb => ?_) | refine zr ?_ | exact x_le)
    rw [e]; rfl
  | true =>
    have hpos : ¬ posB 61 p < 0 := fun h => by rw [pos_none.1 h] at hc; cases hc
    have hcut : cutF 61 p = (p.take (posB 61 p).toNat, p.drop ((posB 61 p).toNat + 1), true) := by unfold cutF; rw [hc]; rfl
    rw [hcut]
    generalize posB 61 p = n at *
    have c2 := trimOf_v (l := p.take n.toNat)
    have c3 := trimOf_v (l := p.drop (n + 1).toNat)
    have e : (n + 1).toNat = n.toNat + 1 := by omega
    rw [e] at c3
    dsimp only
    generalize hq1 : trim (p.take n.toNat) = q1 at *
    generalize hq2 : trim (p.drop (n.toNat + 1)) = q2 at *
    rw [← e] at c3
    refine fun1 tb_ok Tryd.func25 rfl Tryd.ntmps25 Tryd.results25 rfl fun N => ?_
    repeat' (first | refine zt ?_ | (refine isR ?_; first | refine zo ?_ | refine zk c1 ?_ | refine zk c2 ?_ | refine zk c3 ?_ | refine zA ?_ | refine zc1 ?_ | refine zS ?_ | (refine zs1 ?_ ?_ <;> intro hc)) | refine awp_split rfl (fun hb => ?_) (fun hb => ?_) | refine zr ?_ | exact x_le)
    rfl
set_option maxRecDepth 100000 in
set_option maxHeartbeats 4000000 in
theorem plain_v {s : List UInt8} : ACalls Tryd.prog 29 [strT s] (.bool (plainF s)) := by
  have c1 := trim_v (l := s)
  have c2 := let_v (s := s)
  have c3 := contains_v (s := s) (c := 59)
  unfold plainF
  generalize trim s = t at *
  generalize letF s = x at *
  generalize s.contains 59 = y at *
  by_cases h : t = s
  · rw [decide_eq_true h]
    cases x
    · skip
      refine fun1 tb_ok Tryd.func29 rfl Tryd.ntmps29 Tryd.results29 rfl fun N => ?_
      repeat' (first | refine zt ?_ | (refine isR ?_; first | refine zo ?_ | refine zk c1 ?_ | refine zk c2 ?_ | refine zc5 ?_ | (refine zs5 ?_ ?_ <;> intro hc)) | refine awp_split rfl (fun hb => ?_) (fun hb => ?_) | refine zr ?_ | exact x_le)
      rfl
    · skip
      refine fun1 tb_ok Tryd.func29 rfl Tryd.ntmps29 Tryd.results29 rfl fun N => ?_
      repeat' (first | refine zt ?_ | (refine isR ?_; first | refine zo ?_ | refine zk c1 ?_ | refine zk c2 ?_ | refine zk c3 ?_ | refine zc5 ?_ | (refine zs5 ?_ ?_ <;> intro hc)) | refine awp_split rfl (fun hb => ?_) (fun hb => ?_) | refine zr ?_ | exact x_le)
      rfl
  · rw [decide_eq_false h]
    refine fun1 tb_ok Tryd.func29 rfl Tryd.ntmps29 Tryd.results29 rfl fun N => ?_
    repeat' (first | refine zt ?_ | (refine isR ?_; first | refine zo ?_ | refine zk c1 ?_ | refine zc5 ?_ | (refine zs5 ?_ ?_ <;> intro hc)) | refine awp_split rfl (fun hb => ?_) (fun hb => ?_) | refine zr ?_ | exact x_le)
    rfl
set_option maxRecDepth 100000 in
set_option maxHeartbeats 4000000 in
theorem plainText_v {s : List UInt8} : ACalls Tryd.prog 31 [strT s] (.bool (plainF s)) := by
  have c1 := trimOf_v (l := s)
  have c2 := letOf_v (s := s)
  have c3 := placeOf_v (c := 59) (l := s)
  have hp := pos_none (c := 59) (l := s)
  unfold plainF
  generalize trim s = t at *
  generalize letF s = x at *
  generalize posB 59 s = n at *
  generalize s.contains 59 = y at *
  by_cases h : t = s
  · rw [decide_eq_true h]
    cases x
    · skip
      refine fun1 tb_ok Tryd.func31 rfl Tryd.ntmps31 Tryd.results31 rfl fun N => ?_
      repeat' (first | refine zt ?_ | (refine isR ?_; first | refine zo ?_ | refine zk c1 ?_ | refine zk c2 ?_ | refine zc1 ?_ | refine zc5 ?_ | (refine zs1 ?_ ?_ <;> intro hc) | (refine zs5 ?_ ?_ <;> intro hc)) | refine awp_split rfl (fun hb => ?_) (fun hb => ?_) | refine zr ?_ | exact x_le)
      rfl
    · cases y
      · have hn := hp.2 rfl
        refine fun1 tb_ok Tryd.func31 rfl Tryd.ntmps31 Tryd.results31 rfl fun N => ?_
        repeat' (first | refine zt ?_ | (refine isR ?_; first | refine zo ?_ | refine zk c1 ?_ | refine zk c2 ?_ | refine zk c3 ?_ | refine zc1 ?_ | refine zc5 ?_ | (refine zs1 ?_ ?_ <;> intro hc) | (refine zs5 ?_ ?_ <;> intro hc)) | refine awp_split rfl (fun hb => ?_) (fun hb => ?_) | refine zr ?_ | exact x_le)
        rfl
      · have hn : ¬ n < 0 := fun h => by cases hp.1 h
        refine fun1 tb_ok Tryd.func31 rfl Tryd.ntmps31 Tryd.results31 rfl fun N => ?_
        repeat' (first | refine zt ?_ | (refine isR ?_; first | refine zo ?_ | refine zk c1 ?_ | refine zk c2 ?_ | refine zk c3 ?_ | refine zc1 ?_ | refine zc5 ?_ | (refine zs1 ?_ ?_ <;> intro hc) | (refine zs5 ?_ ?_ <;> intro hc)) | refine awp_split rfl (fun hb => ?_) (fun hb => ?_) | refine zr ?_ | exact x_le)
        rfl
  · rw [decide_eq_false h]
    refine fun1 tb_ok Tryd.func31 rfl Tryd.ntmps31 Tryd.results31 rfl fun N => ?_
    repeat' (first | refine zt ?_ | (refine isR ?_; first | refine zo ?_ | refine zk c1 ?_ | refine zc1 ?_ | refine zc5 ?_ | (refine zs1 ?_ ?_ <;> intro hc) | (refine zs5 ?_ ?_ <;> intro hc)) | refine awp_split rfl (fun hb => ?_) (fun hb => ?_) | refine zr ?_ | exact x_le)
    rfl
set_option maxRecDepth 100000 in
set_option maxHeartbeats 4000000 in
theorem named_v {s : List UInt8} : ACalls Tryd.prog 28 [strT s] (.bool (namedF s)) := by
  have c1 := plain_v (s := s)
  have c2 := contains_v (s := s) (c := 61)
  unfold namedF
  generalize plainF s = x at *
  generalize s.contains 61 = y at *
  by_cases h : s = []
  · rw [decide_eq_true h]
    refine fun1 tb_ok Tryd.func28 rfl Tryd.ntmps28 Tryd.results28 rfl fun N => ?_
    repeat' (first | refine zt ?_ | (refine isR ?_; first | refine zo ?_ | refine zc6 ?_ | (refine zs6 ?_ ?_ <;> intro hc)) | refine awp_split rfl (fun hb => ?_) (fun hb => ?_) | refine zr ?_ | exact x_le)
    rfl
  · rw [decide_eq_false h]
    cases x
    · skip
      refine fun1 tb_ok Tryd.func28 rfl Tryd.ntmps28 Tryd.results28 rfl fun N => ?_
      repeat' (first | refine zt ?_ | (refine isR ?_; first | refine zo ?_ | refine zk c1 ?_ | refine zc6 ?_ | (refine zs6 ?_ ?_ <;> intro hc)) | refine awp_split rfl (fun hb => ?_) (fun hb => ?_) | refine zr ?_ | exact x_le)
      rfl
    · skip
      refine fun1 tb_ok Tryd.func28 rfl Tryd.ntmps28 Tryd.results28 rfl fun N => ?_
      repeat' (first | refine zt ?_ | (refine isR ?_; first | refine zo ?_ | refine zk c1 ?_ | refine zk c2 ?_ | refine zc6 ?_ | (refine zs6 ?_ ?_ <;> intro hc)) | refine awp_split rfl (fun hb => ?_) (fun hb => ?_) | refine zr ?_ | exact x_le)
      rfl
set_option maxRecDepth 100000 in
set_option maxHeartbeats 4000000 in
theorem okA_v {a : Attr} : ACalls Tryd.prog 27 [a.v] (.bool (!okA a)) := by
  have c1 := named_v (s := a.name)
  have c2 := fold_v (l := a.name)
  have c3 := plain_v (s := a.value)
  unfold okA
  obtain ⟨n, v⟩ := a
  dsimp only at *
  generalize namedF n = x at *
  generalize plainF v = y at *
  generalize fold n = m at *
  cases x
  · skip
    refine fun1 tb_ok Tryd.func27 rfl Tryd.ntmps27 Tryd.results27 rfl fun N => ?_
    repeat' (first | refine zt ?_ | (refine isR ?_; first | refine zo ?_ | refine zk c1 ?_ | refine zc6 ?_ | (refine zs6 ?_ ?_ <;> intro hc)) | refine awp_split rfl (fun hb => ?_) (fun hb => ?_) | refine zr ?_ | exact x_le)
    rfl
  · by_cases h : m = n
    · rw [decide_eq_true h]
      refine fun1 tb_ok Tryd.func27 rfl Tryd.ntmps27 Tryd.results27 rfl fun N => ?_
      repeat' (first | refine zt ?_ | (refine isR ?_; first | refine zo ?_ | refine zk c1 ?_ | refine zk c2 ?_ | refine zk c3 ?_ | refine zc6 ?_ | (refine zs6 ?_ ?_ <;> intro hc)) | refine awp_split rfl (fun hb => ?_) (fun hb => ?_) | refine zr ?_ | exact x_le)
      rfl
    · rw [decide_eq_false h]
      refine fun1 tb_ok Tryd.func27 rfl Tryd.ntmps27 Tryd.results27 rfl fun N => ?_
      repeat' (first | refine zt ?_ | (refine isR ?_; first | refine zo ?_ | refine zk c1 ?_ | refine zk c2 ?_ | refine zc6 ?_ | (refine zs6 ?_ ?_ <;> intro hc)) | refine awp_split rfl (fun hb => ?_) (fun hb => ?_) | refine zr ?_ | exact x_le)
      rfl
end Go.Proofs.YtbacakgjhohedaaDoor.HeadW
