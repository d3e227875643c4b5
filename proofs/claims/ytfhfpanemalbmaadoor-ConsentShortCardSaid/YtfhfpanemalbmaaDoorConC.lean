/- Consents over named trees: Check; are two one?; is one of a list? -/
import Derived.Test.YtfhfpanemalbmaaDoorCoP
import Derived.Test.YtfhfpanemalbmaaDoorEld
import Derived.Test.YtfhfpanemalbmaaDoorTy
import Derived.Test.YtfhfpanemalbmaaDoorWk
namespace Go.Proofs.YtfhfpanemalbmaaDoor.ConC
open Go.RowKit Mem Abs Scan BitsP ConP ConQ

abbrev natV (n : Nat) : V := .int .i64 (n : Int)
abbrev natsV (l : List Nat) : V := .fro (l.map natV)
abbrev intsV (L : List Int) : V := .fro (L.map (V.int .i64))
abbrev purV (P : Nat → Bool) : List V := [.bool (P 0), .bool (P 1), .bool (P 2), .bool (P 3), .bool (P 4), .bool (P 5), .bool (P 6), .bool (P 7), .bool (P 8), .bool (P 9)]
abbrev conI (g : Int) (P : Nat → Bool) (L : List Int) : V := .agg [.int .i64 g, .bool (P 0), .bool (P 1), .bool (P 2), .bool (P 3), .bool (P 4), .bool (P 5), .bool (P 6), .bool (P 7), .bool (P 8), .bool (P 9), intsV L]
abbrev conN (g : Nat) (P : Nat → Bool) (U : List Nat) : V := .agg [.int .i64 (g : Int), .bool (P 0), .bool (P 1), .bool (P 2), .bool (P 3), .bool (P 4), .bool (P 5), .bool (P 6), .bool (P 7), .bool (P 8), .bool (P 9), natsV U]
theorem natsV_int (U : List Nat) : natsV U = intsV (toI U) := by unfold natsV intsV toI; rw [List.map_map]; rfl
theorem conN_int (g : Nat) (P : Nat → Bool) (U : List Nat) : conN g P U = conI (g : Int) P (toI U) := by rw [conN, conI, natsV_int]
theorem ints_len {L : List Int} (h : (intsV L).Lim) : L.length ≤ 140737488355328 := by
  rw [intsV, V.Lim, List.length_map] at h
  exact h.1
theorem con_len {g : Int} {P : Nat → Bool} {L : List Int} (h : (conI g P L).Lim) : L.length ≤ 140737488355328 := by
  rw [conI, V.Lim] at h
  exact ints_len h.2.2.2.2.2.2.2.2.2.2.2.1
theorem at_map {α : Type} {f : α → V} {L : List α} {k : Nat} {x : α} (h : L[k]? = some x) : (L.map f)[k]? = some (f x) := by rw [List.getElem?_map, h]; rfl
theorem getD_at {L : List Int} {k : Nat} {x : Int} (h : L[k]? = some x) : L.getD k 0 = x := by rw [List.getD_eq_getElem?_getD, h]; rfl
set_option maxRecDepth 100000 in
set_option maxHeartbeats 4000000 in
theorem check_v {g : Int} {P : Nat → Bool} {L : List Int} : ACalls Tryd.prog 12 [conI g P L] (.int .i64 ((GrantP.check g L : Nat) : Int)) := ACalls.lim fun hl => by
  have hlen := con_len hl.1
  clear hl
  have hml : (L.map (V.int .i64)).length = L.length := List.length_map _
  unfold GrantP.check GrantP.codeG
  by_cases hg : g < 0 ∨ 68719476735 < g
  · rw [if_pos hg, if_neg (by decide)]
    refine fun1 tb_ok Tryd.func12 rfl Tryd.ntmps12 Tryd.results12 rfl fun N => ?_
    repeat' (first | refine zt ?_ | (refine isR ?_; first | refine zo ?_ | refine zA ?_ | refine zL ?_ | refine zc1 ?_ | refine zc2 ?_ | refine zc3 ?_ | refine zI ?_ | (refine zs1 ?_ ?_ <;> intro hc) | (refine zs2 ?_ ?_ <;> intro hc) | (refine zs3 ?_ ?_ <;> intro hc)) | refine awp_split rfl (fun hb => ?_) (fun hb => ?_) | refine zr ?_ | exact x_le)
    all_goals first | rfl | (exfalso; omega)
  · rw [if_neg hg, if_pos rfl]
    have hg1 : ¬ g < 0 := by omega
    have hg2 : ¬ 68719476735 < g := by omega
    refine fun1 tb_ok Tryd.func12 rfl Tryd.ntmps12 Tryd.results12 rfl fun N => ?_
    repeat' (first | refine zt ?_ | (refine isR ?_; first | refine zo ?_ | refine zA ?_ | refine zL ?_ | refine zc1 ?_ | refine zc2 ?_ | refine zc3 ?_ | refine zI ?_ | (refine zs1 ?_ ?_ <;> intro hc) | (refine zs2 ?_ ?_ <;> intro hc) | (refine zs3 ?_ ?_ <;> intro hc)) | refine awp_split rfl (fun hb => ?_) (fun hb => ?_) | refine zr ?_ | exact x_le)
    refine awp_for (fun k => ⟨[(1, .fp (V.cells (conI g P L)) 0), (14, intsV L), (15, .int .i64 ((L.map (V.int .i64)).length : Int)), (16, .int .i64 (k : Int))], [], 0, 42⟩) (fun k => k ≤ L.length ∧ scan (GrantP.codeV L) k = 0) L.length 0 (by exact x_le) ⟨Nat.zero_le _, rfl⟩ ?_
    rintro k ⟨hk, hs⟩
    by_cases hk2 : k < L.length
    · have hx : L[k]? = some L[k] := by simp [hk2]
      have hd := getD_at hx
      have hst := scan_stop (f := GrantP.codeV L) (k := k) (n := L.length) hs
      have hnx := scan_next (f := GrantP.codeV L) (k := k) hs
      generalize L[k] = x at *
      have hm := at_map (f := V.int .i64) hx
      by_cases h1 : x < 1 ∨ 40 < x
      · have hc : GrantP.codeV L k = 3 := by unfold GrantP.codeV; rw [hd, if_pos h1]
        rw [hst (by rw [hc]; decide) hk2, hc]
        repeat' (first | refine zt ?_ | (refine isR ?_; first | refine zo ?_ | refine zA ?_ | refine zL ?_ | refine zc1 ?_ | refine zc2 ?_ | refine zc3 ?_ | refine zI ?_ | (refine zs1 ?_ ?_ <;> intro hc) | (refine zs2 ?_ ?_ <;> intro hc) | (refine zs3 ?_ ?_ <;> intro hc)) | refine awp_split rfl (fun hb => ?_) (fun hb => ?_) | refine zr ?_ | exact x_le)
        all_goals first | rfl | (exfalso; omega)
      · have h2 : ¬ x < 1 := by omega
        have h3 : ¬ 40 < x := by omega
        rcases Nat.eq_zero_or_pos k with rfl | hk0
        · have hc : GrantP.codeV L 0 = 0 := by unfold GrantP.codeV; rw [hd, if_neg h1, if_neg (by omega)]
          have hn0 := hnx hc
          repeat' (first | refine zt ?_ | (refine isR ?_; first | refine zo ?_ | refine zA ?_ | refine zL ?_ | refine zc1 ?_ | refine zc2 ?_ | refine zc3 ?_ | refine zI ?_ | (refine zs1 ?_ ?_ <;> intro hc) | (refine zs2 ?_ ?_ <;> intro hc) | (refine zs3 ?_ ?_ <;> intro hc)) | refine awp_split rfl (fun hb => ?_) (fun hb => ?_) | refine zr ?_ | exact x_le)
          exact ⟨⟨by omega, hn0⟩, hk2, (by exact x_le)⟩
        · have hk1 : ((k : Int) - 1) = ((k - 1 : Nat) : Int) := by omega
          have hx' : L[k - 1]? = some (L[k - 1]'(by omega)) := by simp [show k - 1 < L.length by omega]
          have hd' := getD_at hx'
          generalize L[k - 1]'(by omega) = y at *
          have hm' := at_map (f := V.int .i64) hx'
          by_cases h4 : x ≤ y
          · have hc : GrantP.codeV L k = 4 := by unfold GrantP.codeV; rw [hd, hd', if_neg h1, if_pos ⟨hk0, h4⟩]
            rw [hst (by rw [hc]; decide) hk2, hc]
            repeat' (first | refine zt ?_ | (refine isR ?_; first | refine zo ?_ | refine zA ?_ | refine zL ?_ | refine zc1 ?_ | refine zc2 ?_ | refine zc3 ?_ | refine zI ?_ | (refine zs1 ?_ ?_ <;> intro hc) | (refine zs2 ?_ ?_ <;> intro hc) | (refine zs3 ?_ ?_ <;> intro hc)) | refine awp_split rfl (fun hb => ?_) (fun hb => ?_) | refine zr ?_ | exact x_le)
            all_goals first | rfl | (exfalso; omega)
          · have hc : GrantP.codeV L k = 0 := by unfold GrantP.codeV; rw [hd, hd', if_neg h1, if_neg (fun h => h4 h.2)]
            have hn0 := hnx hc
            repeat' (first | refine zt ?_ | (refine isR ?_; first | refine zo ?_ | refine zA ?_ | refine zL ?_ | refine zc1 ?_ | refine zc2 ?_ | refine zc3 ?_ | refine zI ?_ | (refine zs1 ?_ ?_ <;> intro hc) | (refine zs2 ?_ ?_ <;> intro hc) | (refine zs3 ?_ ?_ <;> intro hc)) | refine awp_split rfl (fun hb => ?_) (fun hb => ?_) | refine zr ?_ | exact x_le)
            exact ⟨⟨by omega, hn0⟩, hk2, (by exact x_le)⟩
    · obtain rfl : k = L.length := by omega
      rw [hs]
      repeat' (first | refine zt ?_ | (refine isR ?_; first | refine zo ?_ | refine zA ?_ | refine zL ?_ | refine zc1 ?_ | refine zc2 ?_ | refine zc3 ?_ | refine zI ?_ | (refine zs1 ?_ ?_ <;> intro hc) | (refine zs2 ?_ ?_ <;> intro hc) | (refine zs3 ?_ ?_ <;> intro hc)) | refine awp_split rfl (fun hb => ?_) (fun hb => ?_) | refine zr ?_ | exact x_le)
      all_goals first | rfl | (exfalso; omega)
set_option maxRecDepth 100000 in
set_option maxHeartbeats 4000000 in
theorem checkOf_v {g : Int} {P : Nat → Bool} {L : List Int} : ACalls Tryd.prog 9 [conI g P L] (.int .i64 ((GrantP.check g L : Nat) : Int)) := ACalls.lim fun hl => by
  have hlen := con_len hl.1
  clear hl
  have hml : (L.map (V.int .i64)).length = L.length := List.length_map _
  unfold GrantP.check GrantP.codeG
  by_cases hg : g < 0 ∨ 68719476735 < g
  · rw [if_pos hg, if_neg (by decide)]
    refine fun1 tb_ok Tryd.func9 rfl Tryd.ntmps9 Tryd.results9 rfl fun N => ?_
    repeat' (first | refine zt ?_ | (refine isR ?_; first | refine zo ?_ | refine zA ?_ | refine zL ?_ | refine zc1 ?_ | refine zc3 ?_ | refine zc4 ?_ | refine zI ?_ | (refine zs1 ?_ ?_ <;> intro hc) | (refine zs3 ?_ ?_ <;> intro hc) | (refine zs4 ?_ ?_ <;> intro hc)) | refine awp_split rfl (fun hb => ?_) (fun hb => ?_) | refine zr ?_ | exact x_le)
    all_goals first | rfl | (exfalso; omega)
  · rw [if_neg hg, if_pos rfl]
    have hg1 : ¬ g < 0 := by omega
    have hg2 : ¬ 68719476735 < g := by omega
    refine fun1 tb_ok Tryd.func9 rfl Tryd.ntmps9 Tryd.results9 rfl fun N => ?_
    repeat' (first | refine zt ?_ | (refine isR ?_; first | refine zo ?_ | refine zA ?_ | refine zL ?_ | refine zc1 ?_ | refine zc3 ?_ | refine zc4 ?_ | refine zI ?_ | (refine zs1 ?_ ?_ <;> intro hc) | (refine zs3 ?_ ?_ <;> intro hc) | (refine zs4 ?_ ?_ <;> intro hc)) | refine awp_split rfl (fun hb => ?_) (fun hb => ?_) | refine zr ?_ | exact x_le)
    refine awp_for (fun k => ⟨[(1, .fp (V.cells (conI g P L)) 0), (3, .int .i64 (k : Int))], [], 0, 49⟩) (fun k => k ≤ L.length ∧ scan (GrantP.codeV L) k = 0) L.length 0 (by exact x_le) ⟨Nat.zero_le _, rfl⟩ ?_
    rintro k ⟨hk, hs⟩
    by_cases hk2 : k < L.length
    · have hx : L[k]? = some L[k] := by simp [hk2]
      have hd := getD_at hx
      have hst := scan_stop (f := GrantP.codeV L) (k := k) (n := L.length) hs
      have hnx := scan_next (f := GrantP.codeV L) (k := k) hs
      generalize L[k] = x at *
      have hm := at_map (f := V.int .i64) hx
      by_cases h1 : x < 1 ∨ 40 < x
      · have hc : GrantP.codeV L k = 3 := by unfold GrantP.codeV; rw [hd, if_pos h1]
        rw [hst (by rw [hc]; decide) hk2, hc]
        repeat' (first | refine zt ?_ | (refine isR ?_; first | refine zo ?_ | refine zA ?_ | refine zL ?_ | refine zc1 ?_ | refine zc3 ?_ | refine zc4 ?_ | refine zI ?_ | (refine zs1 ?_ ?_ <;> intro hc) | (refine zs3 ?_ ?_ <;> intro hc) | (refine zs4 ?_ ?_ <;> intro hc)) | refine awp_split rfl (fun hb => ?_) (fun hb => ?_) | refine zr ?_ | exact x_le)
        all_goals first | rfl | (exfalso; omega)
      · have h2 : ¬ x < 1 := by omega
        have h3 : ¬ 40 < x := by omega
        rcases Nat.eq_zero_or_pos k with rfl | hk0
        · have hc : GrantP.codeV L 0 = 0 := by unfold GrantP.codeV; rw [hd, if_neg h1, if_neg (by omega)]
          have hn0 := hnx hc
          repeat' (first | refine zt ?_ | (refine isR ?_; first | refine zo ?_ | refine zA ?_ | refine zL ?_ | refine zc1 ?_ | refine zc3 ?_ | refine zc4 ?_ | refine zI ?_ | (refine zs1 ?_ ?_ <;> intro hc) | (refine zs3 ?_ ?_ <;> intro hc) | (refine zs4 ?_ ?_ <;> intro hc)) | refine awp_split rfl (fun hb => ?_) (fun hb => ?_) | refine zr ?_ | exact x_le)
          exact ⟨⟨by omega, hn0⟩, hk2, (by exact x_le)⟩
        · have hk1 : ((k : Int) - 1) = ((k - 1 : Nat) : Int) := by omega
          have hx' : L[k - 1]? = some (L[k - 1]'(by omega)) := by simp [show k - 1 < L.length by omega]
          have hd' := getD_at hx'
          generalize L[k - 1]'(by omega) = y at *
          have hm' := at_map (f := V.int .i64) hx'
          by_cases h4 : x ≤ y
          · have hc : GrantP.codeV L k = 4 := by unfold GrantP.codeV; rw [hd, hd', if_neg h1, if_pos ⟨hk0, h4⟩]
            rw [hst (by rw [hc]; decide) hk2, hc]
            repeat' (first | refine zt ?_ | (refine isR ?_; first | refine zo ?_ | refine zA ?_ | refine zL ?_ | refine zc1 ?_ | refine zc3 ?_ | refine zc4 ?_ | refine zI ?_ | (refine zs1 ?_ ?_ <;> intro hc) | (refine zs3 ?_ ?_ <;> intro hc) | (refine zs4 ?_ ?_ <;> intro hc)) | refine awp_split rfl (fun hb => ?_) (fun hb => ?_) | refine zr ?_ | exact x_le)
            all_goals first | rfl | (exfalso; omega)
          · have hc : GrantP.codeV L k = 0 := by unfold GrantP.codeV; rw [hd, hd', if_neg h1, if_neg (fun h => h4 h.2)]
            have hn0 := hnx hc
            repeat' (first | refine zt ?_ | (refine isR ?_; first | refine zo ?_ | refine zA ?_ | refine zL ?_ | refine zc1 ?_ | refine zc3 ?_ | refine zc4 ?_ | refine zI ?_ | (refine zs1 ?_ ?_ <;> intro hc) | (refine zs3 ?_ ?_ <;> intro hc) | (refine zs4 ?_ ?_ <;> intro hc)) | refine awp_split rfl (fun hb => ?_) (fun hb => ?_) | refine zr ?_ | exact x_le)
            exact ⟨⟨by omega, hn0⟩, hk2, (by exact x_le)⟩
    · obtain rfl : k = L.length := by omega
      rw [hs]
      repeat' (first | refine zt ?_ | (refine isR ?_; first | refine zo ?_ | refine zA ?_ | refine zL ?_ | refine zc1 ?_ | refine zc3 ?_ | refine zc4 ?_ | refine zI ?_ | (refine zs1 ?_ ?_ <;> intro hc) | (refine zs3 ?_ ?_ <;> intro hc) | (refine zs4 ?_ ?_ <;> intro hc)) | refine awp_split rfl (fun hb => ?_) (fun hb => ?_) | refine zr ?_ | exact x_le)
      all_goals first | rfl | (exfalso; omega)
set_option maxRecDepth 100000 in
set_option maxHeartbeats 4000000 in
theorem has_v {U : List Nat} {v : Nat} (hl : U.length ≤ 1048576) : ACalls Tryd.prog 51 [natsV U, natV v] (.bool (U.contains v)) := by
  have hml : (U.map natV).length = U.length := List.length_map _
  refine fun2 tb_ok Tryd.func51 rfl Tryd.ntmps51 Tryd.results51 rfl fun N => ?_
  repeat' (first | refine zt ?_ | (refine isR ?_; first | refine zo ?_ | refine zA ?_ | refine zL ?_ | refine zc1 ?_ | refine zc5 ?_ | refine zI ?_ | (refine zs1 ?_ ?_ <;> intro hc) | (refine zs5 ?_ ?_ <;> intro hc)) | refine awp_split rfl (fun hb => ?_) (fun hb => ?_) | refine zr ?_ | exact x_le)
  refine awp_for (fun k => ⟨[(0, natsV U), (1, natV v), (5, .int .i64 (k : Int))], [], 0, 18⟩) (fun k => k ≤ U.length ∧ ∀ i x, i < k → U[i]? = some x → x ≠ v) U.length 0 (by exact x_le) ⟨Nat.zero_le _, fun i x h => by omega⟩ ?_
  rintro k ⟨hk, hn⟩
  by_cases hk2 : k < U.length
  · have hx : U[k]? = some U[k] := by simp [hk2]
    generalize U[k] = x at *
    have hm := at_map (f := natV) hx
    by_cases h : x = v
    · subst h
      have hc : U.contains x = true := by rw [List.contains_iff_mem]; exact List.mem_of_getElem? hx
      rw [hc]
      repeat' (first | refine zt ?_ | (refine isR ?_; first | refine zo ?_ | refine zA ?_ | refine zL ?_ | refine zc1 ?_ | refine zc5 ?_ | refine zI ?_ | (refine zs1 ?_ ?_ <;> intro hc) | (refine zs5 ?_ ?_ <;> intro hc)) | refine awp_split rfl (fun hb => ?_) (fun hb => ?_) | refine zr ?_ | exact x_le)
      rfl
    · have h1 : ¬ (x : Int) = (v : Int) := by omega
      repeat' (first | refine zt ?_ | (refine isR ?_; first | refine zo ?_ | refine zA ?_ | refine zL ?_ | refine zc1 ?_ | refine zc5 ?_ | refine zI ?_ | (refine zs1 ?_ ?_ <;> intro hc) | (refine zs5 ?_ ?_ <;> intro hc)) | refine awp_split rfl (fun hb => ?_) (fun hb => ?_) | refine zr ?_ | exact x_le)
      refine ⟨⟨by omega, fun i y hi hy => ?_⟩, hk2, (by exact x_le)⟩
      by_cases e : i = k
      · subst e
        rw [hx] at hy
        cases hy
        exact h
      · exact hn i y (by omega) hy
  · have hc : U.contains v = false := by
      rw [← Bool.not_eq_true, List.contains_iff_mem]
      intro hm
      obtain ⟨i, hi⟩ := List.mem_iff_getElem?.1 hm
      exact hn i v (by have := (List.getElem?_eq_some_iff.1 hi).1; omega) hi rfl
    rw [hc]
    repeat' (first | refine zt ?_ | (refine isR ?_; first | refine zo ?_ | refine zA ?_ | refine zL ?_ | refine zc1 ?_ | refine zc5 ?_ | refine zI ?_ | (refine zs1 ?_ ?_ <;> intro hc) | (refine zs5 ?_ ?_ <;> intro hc)) | refine awp_split rfl (fun hb => ?_) (fun hb => ?_) | refine zr ?_ | exact x_le)
    rfl
set_option maxRecDepth 100000 in
set_option maxHeartbeats 4000000 in
theorem one_v {b : Bool} : ACalls Tryd.prog 22 [.bool b] (natV b.toNat) := by
  cases b with
  | true =>
    refine fun1 tb_ok Tryd.func22 rfl Tryd.ntmps22 Tryd.results22 rfl fun N => ?_
    repeat' (first | refine zt ?_ | (refine isR ?_; first | refine zo ?_) | refine awp_split rfl (fun hb => ?_) (fun hb => ?_) | refine zr ?_ | exact x_le)
    rfl
  | false =>
    refine fun1 tb_ok Tryd.func22 rfl Tryd.ntmps22 Tryd.results22 rfl fun N => ?_
    repeat' (first | refine zt ?_ | (refine isR ?_; first | refine zo ?_) | refine awp_split rfl (fun hb => ?_) (fun hb => ?_) | refine zr ?_ | exact x_le)
    rfl
set_option maxRecDepth 100000 in
set_option maxHeartbeats 4000000 in
theorem sameInts_v {L K : List Int} : ACalls Tryd.prog 34 [intsV L, intsV K] (.bool (decide (L = K))) := ACalls.lim fun hl => by
  have hlen := ints_len hl.1
  have hlen2 := ints_len hl.2.1
  clear hl
  have hml : (L.map (V.int .i64)).length = L.length := List.length_map _
  have hmk : (K.map (V.int .i64)).length = K.length := List.length_map _
  by_cases he : L.length = K.length
  · skip
    refine fun2 tb_ok Tryd.func34 rfl Tryd.ntmps34 Tryd.results34 rfl fun N => ?_
    repeat' (first | refine zt ?_ | (refine isR ?_; first | refine zo ?_ | refine zA ?_ | refine zL ?_ | refine zc1 ?_ | refine zc6 ?_ | refine zI ?_ | (refine zs1 ?_ ?_ <;> intro hc) | (refine zs6 ?_ ?_ <;> intro hc)) | refine awp_split rfl (fun hb => ?_) (fun hb => ?_) | refine zr ?_ | exact x_le)
    refine awp_for (fun k => ⟨[(0, intsV L), (1, intsV K), (5, .int .i64 (k : Int))], [], 0, 26⟩) (fun k => k ≤ L.length ∧ L.take k = K.take k) L.length 0 (by exact x_le) ⟨Nat.zero_le _, rfl⟩ ?_
    rintro k ⟨hk, hn⟩
    by_cases hk2 : k < L.length
    · have hx : L[k]? = some L[k] := by simp [hk2]
      have hy : K[k]? = some (K[k]'(by omega)) := by simp [show k < K.length by omega]
      generalize L[k] = x at *
      generalize K[k]'(by omega) = y at *
      have hm := at_map (f := V.int .i64) hx
      have hm' := at_map (f := V.int .i64) hy
      by_cases h : x = y
      · subst h
        repeat' (first | refine zt ?_ | (refine isR ?_; first | refine zo ?_ | refine zA ?_ | refine zL ?_ | refine zc1 ?_ | refine zc6 ?_ | refine zI ?_ | (refine zs1 ?_ ?_ <;> intro hc) | (refine zs6 ?_ ?_ <;> intro hc)) | refine awp_split rfl (fun hb => ?_) (fun hb => ?_) | refine zr ?_ | exact x_le)
        refine ⟨⟨by omega, ?_⟩, hk2, (by exact x_le)⟩
        rw [List.take_add_one, List.take_add_one, hn, hx, hy]
      · have hne : decide (L = K) = false := decide_eq_false fun e => by
          subst e
          rw [hx] at hy
          exact h (Option.some.inj hy)
        rw [hne]
        repeat' (first | refine zt ?_ | (refine isR ?_; first | refine zo ?_ | refine zA ?_ | refine zL ?_ | refine zc1 ?_ | refine zc6 ?_ | refine zI ?_ | (refine zs1 ?_ ?_ <;> intro hc) | (refine zs6 ?_ ?_ <;> intro hc)) | refine awp_split rfl (fun hb => ?_) (fun hb => ?_) | refine zr ?_ | exact x_le)
        rfl
    · have e : L = K := by
        rw [List.take_of_length_le (by omega), List.take_of_length_le (by omega)] at hn
        exact hn
      rw [decide_eq_true e]
      repeat' (first | refine zt ?_ | (refine isR ?_; first | refine zo ?_ | refine zA ?_ | refine zL ?_ | refine zc1 ?_ | refine zc6 ?_ | refine zI ?_ | (refine zs1 ?_ ?_ <;> intro hc) | (refine zs6 ?_ ?_ <;> intro hc)) | refine awp_split rfl (fun hb => ?_) (fun hb => ?_) | refine zr ?_ | exact x_le)
      rfl
  · have hne : decide (L = K) = false := decide_eq_false fun e => he (by rw [e])
    rw [hne]
    refine fun2 tb_ok Tryd.func34 rfl Tryd.ntmps34 Tryd.results34 rfl fun N => ?_
    repeat' (first | refine zt ?_ | (refine isR ?_; first | refine zo ?_ | refine zA ?_ | refine zL ?_ | refine zc1 ?_ | refine zc6 ?_ | refine zI ?_ | (refine zs1 ?_ ?_ <;> intro hc) | (refine zs6 ?_ ?_ <;> intro hc)) | refine awp_split rfl (fun hb => ?_) (fun hb => ?_) | refine zr ?_ | exact x_le)
    rfl
set_option maxRecDepth 100000 in
set_option maxHeartbeats 4000000 in
theorem same_t {g : Int} {P : Nat → Bool} {L : List Int} : ACalls Tryd.prog 15 [conI g P L, conI g P L] (.bool true) := by
  have c := sameInts_v (L := L) (K := L)
  rw [decide_eq_true rfl] at c
  have hp : eqI (purV P) (purV P) (List.range 10) = true := by
    show (decide (P 0 = P 0) && (decide (P 1 = P 1) && (decide (P 2 = P 2) && (decide (P 3 = P 3) && (decide (P 4 = P 4) && (decide (P 5 = P 5) && (decide (P 6 = P 6) && (decide (P 7 = P 7) && (decide (P 8 = P 8) && (decide (P 9 = P 9) && true)))))))))) = true
    simp
  refine fun2 tb_ok Tryd.func15 rfl Tryd.ntmps15 Tryd.results15 rfl fun N => ?_
  repeat' (first | refine zt ?_ | (refine isR ?_; first | refine zo ?_ | refine x_eqlR tb_ok ?_ | refine zk c ?_ | refine zc5 ?_ | (refine zs5 ?_ ?_ <;> intro hc)) | refine awp_split rfl (fun hb => ?_) (fun hb => ?_) | refine zr ?_ | exact x_le)
  all_goals first | rfl | (exfalso; omega)
/-- No consent: the nil one, and the empty one. -/
abbrev noC : V := .agg [.int .i64 0, .bool false, .bool false, .bool false, .bool false, .bool false, .bool false, .bool false, .bool false, .bool false, .bool false, .nils]
set_option maxRecDepth 100000 in
set_option maxHeartbeats 4000000 in
theorem sameNil_v : ACalls Tryd.prog 34 [intsV [], .nils] (.bool true) := by
  have h0 : (([] : List Int).map (V.int .i64)).length = 0 := rfl
  have h1 : ([] : List V).length = 0 := rfl
  refine fun2 tb_ok Tryd.func34 rfl Tryd.ntmps34 Tryd.results34 rfl fun N => ?_
  repeat' (first | refine zt ?_ | (refine isR ?_; first | refine zo ?_ | refine zA ?_ | refine zL ?_ | refine zc1 ?_ | refine zc6 ?_ | refine zI ?_ | (refine zs1 ?_ ?_ <;> intro hc) | (refine zs6 ?_ ?_ <;> intro hc)) | refine awp_split rfl (fun hb => ?_) (fun hb => ?_) | refine zr ?_ | exact x_le)
  refine awp_for (fun k => ⟨[(0, .fro ([] : List V)), (1, .nils), (5, .int .i64 (k : Int))], [], 0, 26⟩) (fun k => k = 0) 0 0 (by exact x_le) rfl ?_
  rintro k rfl
  repeat' (first | refine zt ?_ | (refine isR ?_; first | refine zo ?_ | refine zA ?_ | refine zL ?_ | refine zc1 ?_ | refine zc6 ?_ | refine zI ?_ | (refine zs1 ?_ ?_ <;> intro hc) | (refine zs6 ?_ ?_ <;> intro hc)) | refine awp_split rfl (fun hb => ?_) (fun hb => ?_) | refine zr ?_ | exact x_le)
  rfl
set_option maxRecDepth 100000 in
set_option maxHeartbeats 4000000 in
theorem same_no : ACalls Tryd.prog 15 [conI 0 (fun _ => false) [], noC] (.bool true) := by
  have c := sameNil_v
  refine fun2 tb_ok Tryd.func15 rfl Tryd.ntmps15 Tryd.results15 rfl fun N => ?_
  repeat' (first | refine zt ?_ | (refine isR ?_; first | refine zo ?_ | refine x_eqlR tb_ok ?_ | refine zk c ?_ | refine zc5 ?_ | (refine zs5 ?_ ?_ <;> intro hc)) | refine awp_split rfl (fun hb => ?_) (fun hb => ?_) | refine zr ?_ | exact x_le)
  all_goals first | rfl | (exfalso; omega)
end Go.Proofs.YtfhfpanemalbmaaDoor.ConC
