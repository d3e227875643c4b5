/- The walks of the laws WordTells, FoldTwice, TokenParts. -/
import Derived.Test.YtagijlfjdknhpaaDoorWordV
import Derived.Test.YtagijlfjdknhpaaDoorWordB
namespace Go.Proofs.YtagijlfjdknhpaaDoor.WordL
open Go.RowKit Mem WordP OneB WordW WordS WordB
open WordC (trim_any wtoken_any ne_toList)
open WordV (foldOf_any trimOf_any tokenOf_any)

theorem beq_self (b : ByteArray) : (b.toList == b.toList) = true := by simp
set_option maxRecDepth 100000 in
set_option maxHeartbeats 4000000 in
theorem wordTells_any (s : ByteArray) (w : World) (hs : s.size ≤ 140737488351232) : Calls Tryd.prog 6 #[.string s] w (Gives (.bool true) w) := by
  have C1 := Lib.hid (fun w' => fold_any s w' (by omega))
  have C2 := Lib.hid (fun w' => foldOf_any s w' (by omega))
  have C3 := Lib.hid (fun w' => trim_any s w' (by omega))
  have C4 := Lib.hid (fun w' => trimOf_any s w' (by omega))
  have C5 := Lib.hid (fun w' => wtoken_any s w' (by omega))
  have C6 := Lib.hid (fun w' => tokenOf_any s w' (by omega))
  generalize str (fold s.data.toList) = f at C1 C2
  generalize str (trim s.data.toList) = t at C3 C4
  generalize token s.data.toList = k at C5 C6
  have q1 := beq_self f
  have q2 := beq_self t
  go_enter Tryd.func6, Tryd.ntmps6
  go_wp2_with fail
  refine (wordBegun_any _).mono ?_
  rintro e w1 ⟨rfl, b1⟩
  go_wp2_with fail
  refine (C1.out _).mono ?_
  rintro e w2 ⟨rfl, b2⟩
  go_wp2_with fail
  refine (C2.out _).mono ?_
  rintro e w3 ⟨rfl, b3⟩
  go_wp2_with fail
  refine (C3.out _).mono ?_
  rintro e w4 ⟨rfl, b4⟩
  go_wp2_with fail
  refine (C4.out _).mono ?_
  rintro e w5 ⟨rfl, rfl⟩
  go_wp2_with fail
  refine (C5.out _).mono ?_
  rintro e w6 ⟨rfl, b6⟩
  go_wp2_with fail
  refine (C6.out _).mono ?_
  rintro e w7 ⟨rfl, b7⟩
  have hb := below_cat (below_cat (below_cat (below_cat (below_cat b1 b2) b3) b4) b6) b7
  cases k
  all_goals (go_wp2_with fail)
  all_goals (go_ret)
  all_goals (exact ⟨rfl, hb⟩)
theorem fold_size (l : List UInt8) : (fold l).length = l.length := by simp [fold]
set_option maxRecDepth 100000 in
set_option maxHeartbeats 4000000 in
theorem foldTwice_any (s t : ByteArray) (w : World) (hs : s.size ≤ 140737488351232) (ht : t.size ≤ 140737488351232) : Calls Tryd.prog 9 #[.string s, .string t] w (Gives (.bool true) w) := by
  have C1 := fun w' => fold_any s w' (by omega)
  have C2 := fun w' => trim_any s w' (by omega)
  have hf : (str (fold s.data.toList)).size = s.size := by rw [str_size, fold_size]; simp
  have hm : (str (trim s.data.toList)).size ≤ s.size := by rw [str_size]; have := trim_len s.data.toList; simpa using this
  have hg : (str (fold t.data.toList)).size = t.size := by rw [str_size, fold_size]; simp
  have C3 := fun w' => fold_any (str (fold s.data.toList)) w' (by omega)
  have C4 := fun w' => trim_any (str (trim s.data.toList)) w' (by omega)
  have C5 := fun w' => fold_any (str (trim s.data.toList)) w' (by omega)
  have C6 := fun w' => trim_any (str (fold s.data.toList)) w' (by omega)
  have C7 := fun w' => fold_any (s ++ t) w' (by simp; omega)
  have C8 := fun w' => fold_any t w' (by omega)
  have e3 : str (fold (str (fold s.data.toList)).data.toList) = str (fold s.data.toList) := by simp [str, fold_twice]
  have e4 : str (trim (str (trim s.data.toList)).data.toList) = str (trim s.data.toList) := by simp [str, trim_twice]
  have e5 : str (fold (str (trim s.data.toList)).data.toList) = str (trim (fold s.data.toList)) := by simp [str, trim_fold]
  have e6 : str (trim (str (fold s.data.toList)).data.toList) = str (trim (fold s.data.toList)) := by simp [str]
  have e7 : str (fold (s ++ t).data.toList) = str (fold s.data.toList) ++ str (fold t.data.toList) := by
    rw [WordJ.str_cat, ← fold_app]; simp [ByteArray.data_append]
  rw [e3] at C3
  rw [e4] at C4
  rw [e5] at C5
  rw [e6] at C6
  rw [e7] at C7
  have C1 := Lib.hid C1; have C2 := Lib.hid C2; have C3 := Lib.hid C3; have C4 := Lib.hid C4
  have C5 := Lib.hid C5; have C6 := Lib.hid C6; have C7 := Lib.hid C7; have C8 := Lib.hid C8
  clear e3 e4 e5 e6 e7
  generalize str (trim (fold s.data.toList)) = mf at C5 C6
  generalize str (fold s.data.toList) = f at C1 C3 C6 C7 hf
  generalize str (trim s.data.toList) = m at C2 C4 C5 hm
  generalize str (fold t.data.toList) = g at C7 C8 hg
  have q1 := beq_self f
  have q2 := beq_self m
  have q3 := beq_self mf
  have q4 := beq_self (f ++ g)
  have q5 : ((f.size : Int) == (s.size : Int)) = true := by rw [hf]; simp
  have q6 : (m.size : Int) ≤ (s.size : Int) := by omega
  go_enter Tryd.func9, Tryd.ntmps9
  go_wp2_with fail
  refine (C1.out _).mono ?_
  rintro e w1 ⟨rfl, b1⟩
  go_wp2_with fail
  refine (C2.out _).mono ?_
  rintro e w2 ⟨rfl, b2⟩
  go_wp2_with fail
  refine (wordBegun_any _).mono ?_
  rintro e w3 ⟨rfl, b3⟩
  go_wp2_with fail
  refine (C3.out _).mono ?_
  rintro e w4 ⟨rfl, b4⟩
  go_wp2_with fail
  refine (C4.out _).mono ?_
  rintro e w5 ⟨rfl, b5⟩
  go_wp2_with fail
  refine (C5.out _).mono ?_
  rintro e w6 ⟨rfl, b6⟩
  go_wp2_with fail
  refine (C6.out _).mono ?_
  rintro e w7 ⟨rfl, b7⟩
  go_wp2_with fail
  refine (C7.out _).mono ?_
  rintro e w8 ⟨rfl, b8⟩
  go_wp2_with fail
  refine (C8.out _).mono ?_
  rintro e w9 ⟨rfl, b9⟩
  have hb := below_cat (below_cat (below_cat (below_cat (below_cat (below_cat (below_cat (below_cat b1 b2) b3) b4) b5) b6) b7) b8) b9
  go_wp2_with fail
  go_ret
  exact ⟨rfl, hb⟩
theorem isEmpty_of (s : ByteArray) : s.toList.isEmpty = decide (s.size = 0) := by
  rw [ByteArray.toList_eq]
  by_cases h : s.size = 0
  · rw [decide_eq_true h, WordC.len0 s h]; rfl
  · rw [decide_eq_false h, List.isEmpty_eq_false_iff]
    intro e; exact h (by rw [← mkB s, e]; rfl)
theorem tok_cat (s t : ByteArray) (hs : s.size ≠ 0) (ht : t.size ≠ 0) : token (s ++ t).data.toList = (token s.data.toList && token t.data.toList) := by
  have e : (s ++ t).data.toList = s.data.toList ++ t.data.toList := by simp [ByteArray.data_append]
  rw [e]
  exact token_app _ _ (fun h => hs (by rw [← mkB s, h]; rfl)) (fun h => ht (by rw [← mkB t, h]; rfl))
set_option maxRecDepth 100000 in
set_option maxHeartbeats 4000000 in
theorem tokenParts_any (s t : ByteArray) (w : World) (hs : s.size ≤ 140737488351232) (ht : t.size ≤ 140737488351232) : Calls Tryd.prog 10 #[.string s, .string t] w (Gives (.bool true) w) := by
  have C1 := fun w' => wtoken_any s w' (by omega)
  have C2 := Lib.hid (fun w' => wtoken_any t w' (by omega))
  have C3 := fun w' => trim_any s w' (by omega)
  have C4 := fun w' => fold_any s w' (by omega)
  have hf : (str (fold s.data.toList)).size = s.size := by rw [str_size, fold_size]; simp
  have C5 := fun w' => wtoken_any (str (fold s.data.toList)) w' (by omega)
  have C6 := Lib.hid (fun w' => wtoken_any (s ++ t) w' (by simp; omega))
  have i1 := isEmpty_of s
  have i2 := isEmpty_of t
  have htc := tok_cat s t
  generalize token (s ++ t).data.toList = ab at C6 htc
  generalize token t.data.toList = b at C2 htc
  have q0 := beq_self s
  have h12 : (s.size ≠ 0 ∧ t.size ≠ 0 ∧ ab = (token s.data.toList && b)) ∨ s.size = 0 ∨ t.size = 0 := by
    by_cases h1 : s.size = 0
    · exact .inr (.inl h1)
    · by_cases h2 : t.size = 0
      · exact .inr (.inr h2)
      · exact .inl ⟨h1, h2, htc h1 h2⟩
  clear htc
  cases ha : token s.data.toList with
  | true =>
    have e3 : str (trim s.data.toList) = s := by rw [token_trim _ ha]; exact mkB s
    have e5 : token (str (fold s.data.toList)).data.toList = true := by
      have : (str (fold s.data.toList)).data.toList = fold s.data.toList := by simp [str]
      rw [this]; exact token_fold _ ha
    rw [ha] at C1 h12
    rw [e3] at C3
    rw [e5] at C5
    have C1 := Lib.hid C1; have C3 := Lib.hid C3; have C4 := Lib.hid C4; have C5 := Lib.hid C5
    clear e3 e5 hf ha
    generalize str (fold s.data.toList) = f at C4 C5
    go_enter Tryd.func10, Tryd.ntmps10
    go_wp2_with fail
    refine (C1.out _).mono ?_
    rintro e w1 ⟨rfl, b1⟩
    go_wp2_with fail
    refine (C2.out _).mono ?_
    rintro e w2 ⟨rfl, b2⟩
    go_wp2_with fail
    refine (wordBegun_any _).mono ?_
    rintro e w3 ⟨rfl, b3⟩
    go_wp2_with fail
    refine (C3.out _).mono ?_
    rintro e w4 ⟨rfl, b4⟩
    go_wp2_with fail
    refine (C4.out _).mono ?_
    rintro e w5 ⟨rfl, b5⟩
    go_wp2_with fail
    refine (C5.out _).mono ?_
    rintro e w6 ⟨rfl, b6⟩
    go_wp2_with fail
    refine (C6.out _).mono ?_
    rintro e w7 ⟨rfl, b7⟩
    have hb := below_cat (below_cat (below_cat (below_cat (below_cat (below_cat b1 b2) b3) b4) b5) b6) b7
    rcases h12 with ⟨h1, h2, hab⟩ | h1 | h1
    · cases b
      all_goals (cases ab)
      all_goals (first | (exfalso; revert hab; decide) | (clear hab; go_wp2_with fail; go_ret; exact ⟨rfl, hb⟩))
    · rw [decide_eq_true h1] at i1
      cases b
      all_goals (cases ab)
      all_goals (go_wp2_with fail)
      all_goals (go_ret)
      all_goals (exact ⟨rfl, hb⟩)
    · rw [decide_eq_true h1] at i2
      generalize s.toList.isEmpty = se at i1
      clear i1
      cases se
      all_goals (cases b)
      all_goals (cases ab)
      all_goals (go_wp2_with fail)
      all_goals (go_ret)
      all_goals (exact ⟨rfl, hb⟩)
  | false =>
    rw [ha] at C1 h12
    have C1 := Lib.hid C1
    clear C3 C4 C5 hf ha
    go_enter Tryd.func10, Tryd.ntmps10
    go_wp2_with fail
    refine (C1.out _).mono ?_
    rintro e w1 ⟨rfl, b1⟩
    go_wp2_with fail
    refine (C2.out _).mono ?_
    rintro e w2 ⟨rfl, b2⟩
    go_wp2_with fail
    refine (wordBegun_any _).mono ?_
    rintro e w3 ⟨rfl, b3⟩
    go_wp2_with fail
    refine (C6.out _).mono ?_
    rintro e w7 ⟨rfl, b7⟩
    have hb := below_cat (below_cat (below_cat b1 b2) b3) b7
    rcases h12 with ⟨h1, h2, hab⟩ | h1 | h1
    · cases b
      all_goals (cases ab)
      all_goals (first | (exfalso; revert hab; decide) | (clear hab; go_wp2_with fail; go_ret; exact ⟨rfl, hb⟩))
    · rw [decide_eq_true h1] at i1
      cases b
      all_goals (cases ab)
      all_goals (go_wp2_with fail)
      all_goals (go_ret)
      all_goals (exact ⟨rfl, hb⟩)
    · rw [decide_eq_true h1] at i2
      generalize s.toList.isEmpty = se at i1
      clear i1
      cases se
      all_goals (cases b)
      all_goals (cases ab)
      all_goals (go_wp2_with fail)
      all_goals (go_ret)
      all_goals (exact ⟨rfl, hb⟩)
end Go.Proofs.YtagijlfjdknhpaaDoor.WordL
