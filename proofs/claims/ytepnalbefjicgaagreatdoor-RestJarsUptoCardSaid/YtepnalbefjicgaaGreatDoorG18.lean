/- Texts of the proof, joined: JarO, JarD, JarR, JarE, JarF, JarG, JarH, JarK, SortM. -/
import Derived.Test.YtepnalbefjicgaaGreatDoorG17
import Derived.Test.YtepnalbefjicgaaGreatDoorG10
import Derived.Test.YtepnalbefjicgaaGreatDoorG14
section
namespace Go.Proofs.YtepnalbefjicgaaGreatDoor.JarO
open Go.RowKit Mem Abs Scan JarP JarQ JarA JarB JarC JarL JarM SortW

abbrev rOn (k n : Nat) (nx now : Int) : Blk := .els TO 3 [.agg [.own k 0 n, .int .i64 nx, .int .i64 now]]
abbrev TI : Nat := 3
abbrev rI (l : List Nat) : Blk := .els TI 1 (l.map nV)
def orU (a b : Int) : Int := if a ≠ 0 then a else b
set_option maxRecDepth 100000 in
set_option maxHeartbeats 4000000 in
theorem or2_v {a b : Int} : ACalls Tryz.prog 32 [.fro [.int .i64 a, .int .i64 b]] (.int .i64 (orU a b)) := by
  have hz : [V.int .i64 a, V.int .i64 b].length = 2 := rfl
  unfold orU
  by_cases h : a = 0
  · rw [if_neg (by simp [h])]
    by_cases h2 : b = 0
    · skip
      refine fun1 tb_ok Tryz.func32 rfl Tryz.ntmps32 Tryz.results32 rfl fun N => ?_
      repeat' (first | with_reducible refine rounds_on ?_ | with_reducible refine awp_rounds 3 ?_ | refine zt ?_ | (refine isR ?_; first | refine zo ?_ | refine zA ?_ | refine zL ?_ | refine zc1 ?_ | refine zc6 ?_ | refine zI ?_ | (refine zs1 ?_ ?_ <;> intro hc) | (refine zs6 ?_ ?_ <;> intro hc)) | refine awp_split rfl (fun hb => ?_) (fun hb => ?_) | refine zr ?_ | exact x_le)
      all_goals first | (subst h2; rfl) | (exfalso; omega)
    · skip
      refine fun1 tb_ok Tryz.func32 rfl Tryz.ntmps32 Tryz.results32 rfl fun N => ?_
      repeat' (first | with_reducible refine rounds_on ?_ | with_reducible refine awp_rounds 3 ?_ | refine zt ?_ | (refine isR ?_; first | refine zo ?_ | refine zA ?_ | refine zL ?_ | refine zc1 ?_ | refine zc6 ?_ | refine zI ?_ | (refine zs1 ?_ ?_ <;> intro hc) | (refine zs6 ?_ ?_ <;> intro hc)) | refine awp_split rfl (fun hb => ?_) (fun hb => ?_) | refine zr ?_ | exact x_le)
      all_goals first | rfl | (exfalso; omega)
  · rw [if_pos h]
    refine fun1 tb_ok Tryz.func32 rfl Tryz.ntmps32 Tryz.results32 rfl fun N => ?_
    repeat' (first | with_reducible refine rounds_on ?_ | with_reducible refine awp_rounds 3 ?_ | refine zt ?_ | (refine isR ?_; first | refine zo ?_ | refine zA ?_ | refine zL ?_ | refine zc1 ?_ | refine zc6 ?_ | refine zI ?_ | (refine zs1 ?_ ?_ <;> intro hc) | (refine zs6 ?_ ?_ <;> intro hc)) | refine awp_split rfl (fun hb => ?_) (fun hb => ?_) | refine zr ?_ | exact x_le)
    all_goals first | rfl | (exfalso; omega)
/-- How the program compares two by their use. -/
def cmpU (a b : Cookie) : Int := orU (cmpI a.used b.used) (cmpI a.no b.no)
theorem cmpU_lt (a b : Cookie) : cmpU a b < 0 ↔ lessU a b = true := by
  unfold cmpU orU cmpI lessU
  by_cases h1 : a.used < b.used
  · simp [h1]
  · by_cases h2 : b.used < a.used
    · have : ¬ a.used = b.used := by omega
      simp [h1, h2, this]
    · have : a.used = b.used := by omega
      by_cases h3 : a.no < b.no
      · simp [this, h3]
      · by_cases h4 : b.no < a.no <;> simp [this, h3, h4]
abbrev rBn (k : Nat) : Blk := .els TP 1 [.loc k 0 0]
abbrev fnE (k : Nat) : Abs.V := .fn (.func 50) [] [.loc k 0 0]
set_option maxRecDepth 100000 in
set_option maxHeartbeats 4000000 in
theorem less_m {M : List Cookie} {i k : Nat} {a b : Cookie} {n : Nat} {nx now : Int} (hi : M[i]? = some a) (hk : M[k]? = some b) (hn : n = M.length) : MCalls Tryz.prog 50 [nV i, nV k, .loc 1 0 0] [rC M, rB, rO n nx now] (.int .i64 (cmpU a b)) [some (rC M), some rB, some (rO n nx now)] := by
  have c1 := compare_v (a := a.used) (b := b.used)
  have c2 := compare_v (a := a.no) (b := b.no)
  have c3 := or2_v (a := cmpI a.used b.used) (b := cmpI a.no b.no)
  have hi2 := (List.getElem?_eq_some_iff.1 hi).1
  have hk2 := (List.getElem?_eq_some_iff.1 hk).1
  have hma := at_map (f := Cookie.v) hi
  have hmb := at_map (f := Cookie.v) hk
  unfold cmpU
  refine mfun tb_ok Tryz.func50 rfl Tryz.ntmps50 Tryz.results50 rfl rfl rfl rfl fun N pl => ?_
  repeat' (first | refine zt ?_ | (refine isR ?_; first | refine zo ?_ | refine x_ldI Cookie.v i tb_ok ?_ | refine x_ldI Cookie.v k tb_ok ?_ | refine zk c1 ?_ | refine zk c2 ?_ | refine zk c3 ?_ | refine x_bs tb_ok ?_ | refine zI ?_) | refine awp_split rfl (fun hb => ?_) (fun hb => ?_) | refine x_mret [0, 1, 2] ?_ ?_ | refine x_mnor [0, 1, 2] ?_ ?_ | refine zr ?_ | exact x_le)
  · rfl
  · exact .on (.same (nl_map fun _ => rfl)) (.on (.ren rfl) (.on (.ren rfl) .nil))
/-- The least used among places. -/
def minL (M : List Cookie) (l : List Nat) (m : Nat) : Nat := l.foldl (fun m i => match M[i]?, M[m]? with
  | some a, some b => if lessU a b = true then i else m
  | _, _ => m) m
theorem minL_lt {M : List Cookie} : ∀ {l : List Nat} {m : Nat}, m < M.length → (∀ i ∈ l, i < M.length) → minL M l m < M.length
  | [], _, h, _ => h
  | i :: l, m, h, hl => by
    unfold minL
    rw [List.foldl_cons]
    refine minL_lt (l := l) ?_ fun j hj => hl j (by simp [hj])
    have hi := hl i (by simp)
    split
    · split <;> assumption
    · exact h
theorem minL_snoc {M : List Cookie} {l : List Nat} {m i : Nat} : minL M (l ++ [i]) m = match M[i]?, M[minL M l m]? with
  | some a, some b => if lessU a b = true then i else minL M l m
  | _, _ => minL M l m := by
  unfold minL
  rw [List.foldl_append]
  rfl
set_option maxRecDepth 100000 in
set_option maxHeartbeats 4000000 in
theorem minFunc_m {M : List Cookie} {l : List Nat} {i0 : Nat} {n : Nat} {nx now : Int} (hl : l.length ≤ 1000) (hin : ∀ i ∈ l, i < M.length) (h0 : l[0]? = some i0) (hn : n = M.length) :
    MCalls Tryz.prog 49 [.own 0 0 l.length, fnE 2] [rI l, rC M, rBn 3, rOn 1 n nx now] (nV (minL M (l.drop 1) i0)) [some (rI l), some (rC M), some (rBn 3), some (rOn 1 n nx now)] := by
  have hml : (M.map Cookie.v).length = M.length := List.length_map _
  have hil : (l.map nV).length = l.length := List.length_map _
  have hl0 := (List.getElem?_eq_some_iff.1 h0).1
  have hm0 := at_map (f := nV) h0
  generalize hR : minL M (l.drop 1) i0 = R
  refine mfun tb_ok Tryz.func49 rfl Tryz.ntmps49 Tryz.results49 rfl rfl rfl rfl fun N pl => ?_
  repeat' (first | refine zt ?_ | (refine isR ?_; first | refine zo ?_ | refine x_ldI nV 0 tb_ok ?_ | refine zA ?_ | refine zL ?_ | refine zc1 ?_ | refine zI ?_ | (refine zs1 ?_ ?_ <;> intro hc)) | refine awp_split rfl (fun hb => ?_) (fun hb => ?_) | refine zr ?_ | exact x_le)
  refine awp_forN (fun k => ⟨[(0, .own 0 0 l.length), (1, fnE 2), (5, nV (minL M ((l.take (k + 1)).drop 1) i0)), (6, nV (k + 1))], [(0, some (rI l)), (1, some (rC M)), (2, some (rBn 3)), (3, some (rOn 1 n nx now))], 4, 33⟩) (fun k => k + 1 ≤ l.length) l.length 0 ?_ (by omega) ?_
  · rw [show (l.take (0 + 1)).drop 1 = [] by simp]
    exact (by exact x_le)
  intro k hk
  by_cases hk2 : k + 1 < l.length
  · have hx : l[k + 1]? = some l[k + 1] := by simp [hk2]
    have hi1 := hin l[k + 1] (List.getElem_mem _)
    have hs : (l.take (k + 1 + 1)).drop 1 = (l.take (k + 1)).drop 1 ++ [l[k + 1]] := by
      rw [List.take_add_one, hx, List.drop_append_of_le_length (by rw [List.length_take]; omega)]; rfl
    have hm1 : minL M ((l.take (k + 1)).drop 1) i0 < M.length := minL_lt (hin i0 (List.mem_of_getElem? h0)) fun i hi => hin i (List.mem_of_mem_take (List.mem_of_mem_drop hi))
    have hsn := minL_snoc (M := M) (l := (l.take (k + 1)).drop 1) (m := i0) (i := l[k + 1])
    rw [← hs] at hsn
    generalize l[k + 1] = i at *
    have ha : M[i]? = some M[i] := by simp [hi1]
    generalize minL M ((l.take (k + 1)).drop 1) i0 = m at *
    generalize hm2 : minL M ((l.take (k + 1 + 1)).drop 1) i0 = m2 at *
    have hb : M[m]? = some M[m] := by simp [hm1]
    have c1 := less_m (n := n) (nx := nx) (now := now) ha hb hn
    have hlt := cmpU_lt M[i] M[m]
    rw [ha, hb] at hsn
    dsimp only at hsn
    generalize cmpU M[i] M[m] = q at *
    have hmi := at_map (f := nV) hx
    by_cases g : q < 0
    · rw [if_pos (hlt.1 g)] at hsn
      subst hsn
      repeat' (first | refine zt ?_ | (refine isR ?_; first | refine zo ?_ | refine x_ldI nV (k + 1) tb_ok ?_ | refine x_mv [1,2,3] [] (c1 _) ?_ | refine x_m0v [1,2,3] [] (c1 _) ?_ | refine x_mv [1,2,3] [] (c1) ?_ | refine x_m0v [1,2,3] [] (c1) ?_ | refine zA ?_ | refine zL ?_ | refine zc1 ?_ | refine zI ?_ | (refine zs1 ?_ ?_ <;> intro hc)) | refine awp_split rfl (fun hb => ?_) (fun hb => ?_) | refine zr ?_ | exact x_le)
      refine ⟨by omega, by omega, ?_⟩
      exact (by exact x_len [0, 1, 2, 3])
    · rw [if_neg fun h => g (hlt.2 h)] at hsn
      subst hsn
      repeat' (first | refine zt ?_ | (refine isR ?_; first | refine zo ?_ | refine x_ldI nV (k + 1) tb_ok ?_ | refine x_mv [1,2,3] [] (c1 _) ?_ | refine x_m0v [1,2,3] [] (c1 _) ?_ | refine x_mv [1,2,3] [] (c1) ?_ | refine x_m0v [1,2,3] [] (c1) ?_ | refine zA ?_ | refine zL ?_ | refine zc1 ?_ | refine zI ?_ | (refine zs1 ?_ ?_ <;> intro hc)) | refine awp_split rfl (fun hb => ?_) (fun hb => ?_) | refine zr ?_ | exact x_le)
      refine ⟨by omega, by omega, ?_⟩
      exact (by exact x_len [0, 1, 2, 3])
  · obtain rfl : R = minL M ((l.take (k + 1)).drop 1) i0 := by rw [List.take_of_length_le (by omega), hR]
    generalize minL M ((l.take (k + 1)).drop 1) i0 = m at *
    repeat' (first | refine zt ?_ | (refine isR ?_; first | refine zo ?_ | refine zA ?_ | refine zL ?_ | refine zc1 ?_ | refine zI ?_ | (refine zs1 ?_ ?_ <;> intro hc)) | refine awp_split rfl (fun hb => ?_) (fun hb => ?_) | refine x_mret [0, 1, 2, 3] ?_ ?_ | refine x_mnor [0, 1, 2, 3] ?_ ?_ | refine zr ?_ | exact x_le)
    · rfl
    · exact .on (.same (nl_map fun _ => rfl)) (.on (.same (nl_map fun _ => rfl)) (.on (.ren rfl) (.on (.ren rfl) .nil)))
set_option maxRecDepth 100000 in
set_option maxHeartbeats 4000000 in
theorem delete_m {M : List Cookie} {a : Nat} (hM : M.length ≤ 1000) (ha : a < M.length) : MCalls Tryz.prog 51 [.own 0 0 M.length, nV a, nV (a + 1)] [rC M] (.own 0 0 (M.eraseIdx a).length) [some (rC (M.eraseIdx a))] := by
  have hml : (M.map Cookie.v).length = M.length := List.length_map _
  have he : M.eraseIdx a = M.take a ++ M.drop (a + 1) := List.eraseIdx_eq_take_drop_succ M a
  have hel : (M.eraseIdx a).length = M.length - 1 := List.length_eraseIdx_of_lt ha
  by_cases h : a + 1 < M.length
  · have hq : a + (M.length - (a + 1)) = (M.eraseIdx a).length := by rw [hel]; omega
    have hz : M.take a ++ ((M.drop (0 + (a + 1))).take (M.length - (a + 1)) ++ M.drop (a + (M.length - (a + 1)))) = M.eraseIdx a ++ M.drop (M.length - 1) := by
      have h5 : (M.drop (a + 1)).take (M.length - (a + 1)) = M.drop (a + 1) := List.take_of_length_le (by rw [List.length_drop]; omega)
      rw [he, Nat.zero_add, h5, show a + (M.length - (a + 1)) = M.length - 1 by omega, List.append_assoc]
    have hzl : (M.eraseIdx a ++ M.drop (M.length - 1)).length = M.length := by rw [List.length_append, hel, List.length_drop]; omega
    have hcut : (M.eraseIdx a ++ M.drop (M.length - 1)).take (0 + (a + (M.length - (a + 1)))) = M.eraseIdx a := by rw [Nat.zero_add, hq]; exact List.take_left' rfl
    rw [← hq]
    generalize M.eraseIdx a = E at *
    generalize hZ : E ++ M.drop (M.length - 1) = Z at *
    refine mfun tb_ok Tryz.func51 rfl Tryz.ntmps51 Tryz.results51 rfl rfl rfl rfl fun N pl => ?_
    repeat' (first | refine zt ?_ | (refine isR ?_; first | refine zo ?_ | refine x_sl3 tb_ok ?_ | refine x_slOt tb_ok ?_ | refine x_slOf tb_ok ?_ | refine x_appIn Cookie.v Z tb_ok ?_ | refine x_slOm tb_ok ?_ | refine x_clear Cookie.v E tb_ok ?_ | refine zL ?_ | refine zc5 ?_ | refine zS ?_ | (refine zs5 ?_ ?_ <;> intro hc)) | refine awp_split rfl (fun hb => ?_) (fun hb => ?_) | refine x_mret [0] ?_ ?_ | refine x_mnor [0] ?_ ?_ | refine zr ?_ | exact x_le)
    all_goals first | rfl | exact .on (.same (nl_map fun _ => rfl)) .nil
  · have ha1 : a + 1 = M.length := by omega
    have hcut : M.take (0 + a) = M.eraseIdx a := by rw [he, Nat.zero_add, List.drop_of_length_le (by omega), List.append_nil]
    have hq : a = (M.eraseIdx a).length := by rw [hel]; omega
    rw [← hq]
    generalize M.eraseIdx a = E at *
    refine mfun tb_ok Tryz.func51 rfl Tryz.ntmps51 Tryz.results51 rfl rfl rfl rfl fun N pl => ?_
    repeat' (first | refine zt ?_ | (refine isR ?_; first | refine zo ?_ | refine x_sl3 tb_ok ?_ | refine x_slOt tb_ok ?_ | refine x_slOe tb_ok ?_ | refine x_appNo tb_ok ?_ | refine x_slOm tb_ok ?_ | refine x_clear Cookie.v E tb_ok ?_ | refine zL ?_ | refine zc5 ?_ | refine zS ?_ | (refine zs5 ?_ ?_ <;> intro hc)) | refine awp_split rfl (fun hb => ?_) (fun hb => ?_) | refine x_mret [0] ?_ ?_ | refine x_mnor [0] ?_ ?_ | refine zr ?_ | exact x_le)
    all_goals first | rfl | exact .on (.same (nl_map fun _ => rfl)) .nil
/-- The places of those that p lets, among the first k. -/
def idxs (p : Cookie → Bool) (M : List Cookie) : Nat → List Nat
  | 0 => []
  | k + 1 => match M[k]? with
    | none => idxs p M k
    | some c => if p c = true then idxs p M k ++ [k] else idxs p M k
theorem idxs_len {p : Cookie → Bool} {M : List Cookie} : ∀ {k : Nat}, (idxs p M k).length = (M.take k).countP p
  | 0 => rfl
  | k + 1 => by
    rw [idxs, List.take_add_one]
    cases hc : M[k]? with
    | none => simpa using idxs_len (k := k)
    | some c =>
      dsimp only
      rw [List.countP_append]
      by_cases h : p c = true
      · rw [if_pos h, List.length_append, idxs_len]; simp [h]
      · rw [if_neg h, idxs_len]; simp [h]
theorem idxs_lt {p : Cookie → Bool} {M : List Cookie} : ∀ {k : Nat}, ∀ i ∈ idxs p M k, i < M.length
  | 0, i, h => by simp [idxs] at h
  | k + 1, i, h => by
    rw [idxs] at h
    cases hc : M[k]? with
    | none => rw [hc] at h; exact idxs_lt i h
    | some c =>
      rw [hc] at h
      dsimp only at h
      have hk := (List.getElem?_eq_some_iff.1 hc).1
      split at h
      · rcases List.mem_append.1 h with h | h
        · exact idxs_lt i h
        · rw [List.mem_singleton] at h; omega
      · exact idxs_lt i h
theorem minAt_idxs {p : Cookie → Bool} {M : List Cookie} : ∀ {k : Nat}, minAt p M k = match idxs p M k with
    | [] => none
    | i :: r => some (minL M r i)
  | 0 => rfl
  | k + 1 => by
    rw [minAt, idxs]
    cases hc : M[k]? with
    | none => exact minAt_idxs
    | some c =>
      dsimp only
      by_cases h : p c = true
      · rw [if_pos h, if_pos h, minAt_idxs (k := k)]
        have hlt := idxs_lt (p := p) (M := M) (k := k)
        generalize idxs p M k = l at *
        cases l with
        | nil => rfl
        | cons i r =>
          show _ = some (minL M (r ++ [k]) i)
          have hm : minL M r i < M.length := minL_lt (hlt i (by simp)) fun j hj => hlt j (by simp [hj])
          have hg : M[minL M r i]? = some M[minL M r i] := by simp [hm]
          rw [minL_snoc, hc, hg]
          dsimp only
          rw [List.getD_eq_getElem?_getD, hg, Option.getD_some]
          split <;> rfl
      · rw [if_neg h, if_neg h]
        exact minAt_idxs
abbrev fnP (c : Cookie) : Abs.V := .fn (.func 23) [] [.fp c.v.cells 0]
abbrev fnA : Abs.V := .fn (.func 24) [] []
set_option maxRecDepth 100000 in
set_option maxHeartbeats 4000000 in
theorem put1_v {c x : Cookie} : ACalls Tryz.prog 23 [x.v, .fp c.v.cells 0] (.bool (ofP c.domain false x)) := by
  unfold ofP
  by_cases h : x.domain = c.domain
  · rw [decide_eq_true h]
    refine fun2 tb_ok Tryz.func23 rfl Tryz.ntmps23 Tryz.results23 rfl fun N => ?_
    repeat' (first | refine zt ?_ | (refine isR ?_; first | refine zo ?_ | refine zc5 ?_ | (refine zs5 ?_ ?_ <;> intro hc)) | refine awp_split rfl (fun hb => ?_) (fun hb => ?_) | refine zr ?_ | exact x_le)
    all_goals rfl
  · rw [decide_eq_false h]
    refine fun2 tb_ok Tryz.func23 rfl Tryz.ntmps23 Tryz.results23 rfl fun N => ?_
    repeat' (first | refine zt ?_ | (refine isR ?_; first | refine zo ?_ | refine zc5 ?_ | (refine zs5 ?_ ?_ <;> intro hc)) | refine awp_split rfl (fun hb => ?_) (fun hb => ?_) | refine zr ?_ | exact x_le)
    all_goals rfl
set_option maxRecDepth 100000 in
set_option maxHeartbeats 4000000 in
theorem put2_v {x : Cookie} : ACalls Tryz.prog 24 [x.v] (.bool (ofP [] true x)) := by
  refine fun1 tb_ok Tryz.func24 rfl Tryz.ntmps24 Tryz.results24 rfl fun N => ?_
  repeat' (first | refine zt ?_ | (refine isR ?_; first | refine zo ?_) | refine awp_split rfl (fun hb => ?_) (fun hb => ?_) | refine zr ?_ | exact x_le)
  all_goals rfl
set_option maxRecDepth 100000 in
set_option maxHeartbeats 4000000 in
theorem evict1_m {L E : List Cookie} {c : Cookie} {most : Nat} {nx now : Int} (hb : L.length ≤ 1000) (hE : evF most (ofP c.domain false) (L.length + 1) L = E) : MCalls Tryz.prog 22 [.loc 1 0 0, nV most, fnP c] [rC L, rO L.length nx now] (.tup []) [some (rC E), some (rO E.length nx now)] := by
  refine mfun tb_ok Tryz.func22 rfl Tryz.ntmps22 Tryz.results22 rfl rfl rfl rfl fun N pl => ?_
  repeat' (first | refine zt ?_ | (refine isR ?_; first | refine x_far [3] tb_ok rfl ?_ | refine zn ?_ | refine x_bsO 3 tb_ok ?_ | refine x_bs tb_ok ?_ | refine zA ?_ | refine zL ?_ | refine zc1 ?_ | refine zc2 ?_ | refine zI ?_ | (refine zs1 ?_ ?_ <;> intro hc) | (refine zs2 ?_ ?_ <;> intro hc)) | refine awp_split rfl (fun hb => ?_) (fun hb => ?_) | refine zr ?_ | exact x_le)
  refine awp_whileN (α := List Cookie) (fun M => ⟨[(0, .loc 1 0 0), (1, nV most), (2, fnP c), (3, .loc 2 0 0)], [(0, some (rC M)), (1, some (rO M.length nx now)), (2, some (rBn 1))], 3, 49⟩) (fun M => M.length ≤ 1000 ∧ ∃ f, M.length < f ∧ evF most (ofP c.domain false) f M = E) (fun M => M.length) L (by exact x_le) ⟨hb, L.length + 1, Nat.lt_succ_self _, hE⟩ ?_
  rintro M ⟨hM, f, hf, he⟩
  have hml : (M.map Cookie.v).length = M.length := List.length_map _
  obtain ⟨f, rfl⟩ : ∃ q, f = q + 1 := ⟨f - 1, by omega⟩
  rw [evF] at he
  repeat' (first | refine zt ?_ | (refine isR ?_; first | refine zo ?_ | refine x_bs tb_ok ?_ | refine zA ?_ | refine zL ?_ | refine zc1 ?_ | refine zc2 ?_ | refine zI ?_ | (refine zs1 ?_ ?_ <;> intro hc) | (refine zs2 ?_ ?_ <;> intro hc)) | refine awp_split rfl (fun hb => ?_) (fun hb => ?_) | refine zr ?_ | exact x_le)
  refine awp_name (t := 6) TI 1 (by decide) rfl rfl ?_
  refine awp_forN (fun k => ⟨[(0, .loc 1 0 0), (1, nV most), (2, fnP c), (3, .loc 2 0 0), (6, .own 3 0 (idxs (ofP c.domain false) M k).length), (14, .own 0 0 M.length), (15, nV M.length), (16, nV k)], [(0, some (rC M)), (1, some (rO M.length nx now)), (2, some (rBn 1)), (3, some (rI (idxs (ofP c.domain false) M k)))], 4, 49⟩) (fun k => k ≤ M.length) M.length 0 (by exact x_le) (Nat.zero_le _) ?_
  intro k hk
  by_cases hk2 : k < M.length
  · have hx : M[k]? = some M[k] := by simp [hk2]
    have hi : idxs (ofP c.domain false) M (k + 1) = if ofP c.domain false M[k] = true then idxs (ofP c.domain false) M k ++ [k] else idxs (ofP c.domain false) M k := by rw [idxs, hx]
    have hil : (idxs (ofP c.domain false) M k).length ≤ 1000 := by rw [idxs_len]; exact Nat.le_trans List.countP_le_length (by rw [List.length_take]; omega)
    have c1 := put1_v (c := c) (x := M[k])
    generalize M[k] = x at *
    have hmx := at_map (f := Cookie.v) hx
    generalize idxs (ofP c.domain false) M (k + 1) = J at *
    generalize idxs (ofP c.domain false) M k = I at *
    by_cases h : ofP c.domain false x = true
    · rw [if_pos h] at hi
      subst hi
      rw [h] at c1
      repeat' (first | refine zt ?_ | (refine isR ?_; first | refine zo ?_ | refine x_ldI Cookie.v k tb_ok ?_ | refine x_callv (c1 _) ?_ | refine x_callv (c1) ?_ | refine x_app nV (a1 := (k)) tb_ok ?_ | refine x_bs tb_ok ?_ | refine zA ?_ | refine zL ?_ | refine zc1 ?_ | refine zc2 ?_ | refine zI ?_ | (refine zs1 ?_ ?_ <;> intro hc) | (refine zs2 ?_ ?_ <;> intro hc)) | refine awp_split rfl (fun hb => ?_) (fun hb => ?_) | refine zr ?_ | exact x_le)
      refine ⟨by omega, by omega, ?_⟩
      exact (by exact x_len [0, 1, 2, 5])
    · rw [if_neg h] at hi
      subst hi
      have h : ofP c.domain false x = false := by simpa using h
      rw [h] at c1
      repeat' (first | refine zt ?_ | (refine isR ?_; first | refine zo ?_ | refine x_ldI Cookie.v k tb_ok ?_ | refine x_callv (c1 _) ?_ | refine x_callv (c1) ?_ | refine x_bs tb_ok ?_ | refine zA ?_ | refine zL ?_ | refine zc1 ?_ | refine zc2 ?_ | refine zI ?_ | (refine zs1 ?_ ?_ <;> intro hc) | (refine zs2 ?_ ?_ <;> intro hc)) | refine awp_split rfl (fun hb => ?_) (fun hb => ?_) | refine zr ?_ | exact x_le)
      refine ⟨by omega, by omega, ?_⟩
      exact (by exact x_len [0, 1, 2, 3])
  · obtain rfl : k = M.length := by omega
    have hlen : (idxs (ofP c.domain false) M M.length).length = M.countP (ofP c.domain false) := by rw [idxs_len, List.take_length]
    have hil : (idxs (ofP c.domain false) M M.length).length ≤ 1000 := by rw [hlen]; exact Nat.le_trans List.countP_le_length hM
    have hlt := idxs_lt (p := ofP c.domain false) (M := M) (k := M.length)
    rw [minAt_idxs, ← hlen] at he
    generalize idxs (ofP c.domain false) M M.length = I at *
    by_cases g : I.length ≤ most
    · rw [if_pos g] at he
      subst he
      repeat' (first | refine zt ?_ | (refine isR ?_; first | refine zo ?_ | refine x_bs tb_ok ?_ | refine zA ?_ | refine zL ?_ | refine zc1 ?_ | refine zc2 ?_ | refine zI ?_ | (refine zs1 ?_ ?_ <;> intro hc) | (refine zs2 ?_ ?_ <;> intro hc)) | refine awp_split rfl (fun hb => ?_) (fun hb => ?_) | refine x_mret [0, 1] ?_ ?_ | refine x_mnor [0, 1] ?_ ?_ | refine zr ?_ | exact x_le)
      · rfl
      · exact .on (.same (nl_map fun _ => rfl)) (.on (.ren rfl) .nil)
    · rw [if_neg g] at he
      cases I with
      | nil => simp at g
      | cons i0 r =>
        dsimp only at he
        have c2 := minFunc_m (n := M.length) (nx := nx) (now := now) hil hlt (i0 := i0) rfl rfl
        rw [show (i0 :: r).drop 1 = r from rfl] at c2
        have ha : minL M r i0 < M.length := minL_lt (hlt i0 (by simp)) fun j hj => hlt j (by simp [hj])
        have c3 := delete_m hM ha
        have hel : (M.eraseIdx (minL M r i0)).length = M.length - 1 := List.length_eraseIdx_of_lt ha
        generalize hK : M.eraseIdx (minL M r i0) = K at *
        generalize minL M r i0 = a at *
        generalize i0 :: r = I at *
        repeat' (first | refine zt ?_ | (refine isR ?_; first | refine zo ?_ | refine x_m [3,0,2,1] [] (c2 _) ?_ | refine x_m0 [3,0,2,1] [] (c2 _) ?_ | refine x_m [3,0,2,1] [] (c2) ?_ | refine x_m0 [3,0,2,1] [] (c2) ?_ | refine x_m [0] [] (c3 _) ?_ | refine x_m0 [0] [] (c3 _) ?_ | refine x_m [0] [] (c3) ?_ | refine x_m0 [0] [] (c3) ?_ | refine x_bs tb_ok ?_ | refine zA ?_ | refine zL ?_ | refine zc1 ?_ | refine zc2 ?_ | refine zI ?_ | (refine zs1 ?_ ?_ <;> intro hc) | (refine zs2 ?_ ?_ <;> intro hc)) | refine awp_split rfl (fun hb => ?_) (fun hb => ?_) | refine zr ?_ | exact x_le)
        refine ⟨K, ⟨by omega, f, by omega, he⟩, by omega, ?_⟩
        exact (by exact x_len [0, 1, 2])
set_option maxRecDepth 100000 in
set_option maxHeartbeats 4000000 in
theorem evict2_m {L E : List Cookie} {most : Nat} {nx now : Int} (hb : L.length ≤ 1000) (hE : evF most (ofP [] true) (L.length + 1) L = E) : MCalls Tryz.prog 22 [.loc 1 0 0, nV most, fnA] [rC L, rO L.length nx now] (.tup []) [some (rC E), some (rO E.length nx now)] := by
  refine mfun tb_ok Tryz.func22 rfl Tryz.ntmps22 Tryz.results22 rfl rfl rfl rfl fun N pl => ?_
  repeat' (first | refine zt ?_ | (refine isR ?_; first | refine x_far [3] tb_ok rfl ?_ | refine zn ?_ | refine x_bsO 3 tb_ok ?_ | refine x_bs tb_ok ?_ | refine zA ?_ | refine zL ?_ | refine zc1 ?_ | refine zc2 ?_ | refine zI ?_ | (refine zs1 ?_ ?_ <;> intro hc) | (refine zs2 ?_ ?_ <;> intro hc)) | refine awp_split rfl (fun hb => ?_) (fun hb => ?_) | refine zr ?_ | exact x_le)
  refine awp_whileN (α := List Cookie) (fun M => ⟨[(0, .loc 1 0 0), (1, nV most), (2, fnA), (3, .loc 2 0 0)], [(0, some (rC M)), (1, some (rO M.length nx now)), (2, some (rBn 1))], 3, 49⟩) (fun M => M.length ≤ 1000 ∧ ∃ f, M.length < f ∧ evF most (ofP [] true) f M = E) (fun M => M.length) L (by exact x_le) ⟨hb, L.length + 1, Nat.lt_succ_self _, hE⟩ ?_
  rintro M ⟨hM, f, hf, he⟩
  have hml : (M.map Cookie.v).length = M.length := List.length_map _
  obtain ⟨f, rfl⟩ : ∃ q, f = q + 1 := ⟨f - 1, by omega⟩
  rw [evF] at he
  repeat' (first | refine zt ?_ | (refine isR ?_; first | refine zo ?_ | refine x_bs tb_ok ?_ | refine zA ?_ | refine zL ?_ | refine zc1 ?_ | refine zc2 ?_ | refine zI ?_ | (refine zs1 ?_ ?_ <;> intro hc) | (refine zs2 ?_ ?_ <;> intro hc)) | refine awp_split rfl (fun hb => ?_) (fun hb => ?_) | refine zr ?_ | exact x_le)
  refine awp_name (t := 6) TI 1 (by decide) rfl rfl ?_
  refine awp_forN (fun k => ⟨[(0, .loc 1 0 0), (1, nV most), (2, fnA), (3, .loc 2 0 0), (6, .own 3 0 (idxs (ofP [] true) M k).length), (14, .own 0 0 M.length), (15, nV M.length), (16, nV k)], [(0, some (rC M)), (1, some (rO M.length nx now)), (2, some (rBn 1)), (3, some (rI (idxs (ofP [] true) M k)))], 4, 49⟩) (fun k => k ≤ M.length) M.length 0 (by exact x_le) (Nat.zero_le _) ?_
  intro k hk
  by_cases hk2 : k < M.length
  · have hx : M[k]? = some M[k] := by simp [hk2]
    have hi : idxs (ofP [] true) M (k + 1) = if ofP [] true M[k] = true then idxs (ofP [] true) M k ++ [k] else idxs (ofP [] true) M k := by rw [idxs, hx]
    have hil : (idxs (ofP [] true) M k).length ≤ 1000 := by rw [idxs_len]; exact Nat.le_trans List.countP_le_length (by rw [List.length_take]; omega)
    have c1 := put2_v (x := M[k])
    generalize M[k] = x at *
    have hmx := at_map (f := Cookie.v) hx
    generalize idxs (ofP [] true) M (k + 1) = J at *
    generalize idxs (ofP [] true) M k = I at *
    by_cases h : ofP [] true x = true
    · rw [if_pos h] at hi
      subst hi
      rw [h] at c1
      repeat' (first | refine zt ?_ | (refine isR ?_; first | refine zo ?_ | refine x_ldI Cookie.v k tb_ok ?_ | refine x_callv (c1 _) ?_ | refine x_callv (c1) ?_ | refine x_app nV (a1 := (k)) tb_ok ?_ | refine x_bs tb_ok ?_ | refine zA ?_ | refine zL ?_ | refine zc1 ?_ | refine zc2 ?_ | refine zI ?_ | (refine zs1 ?_ ?_ <;> intro hc) | (refine zs2 ?_ ?_ <;> intro hc)) | refine awp_split rfl (fun hb => ?_) (fun hb => ?_) | refine zr ?_ | exact x_le)
      refine ⟨by omega, by omega, ?_⟩
      exact (by exact x_len [0, 1, 2, 5])
    · rw [if_neg h] at hi
      subst hi
      have h : ofP [] true x = false := by simpa using h
      rw [h] at c1
      repeat' (first | refine zt ?_ | (refine isR ?_; first | refine zo ?_ | refine x_ldI Cookie.v k tb_ok ?_ | refine x_callv (c1 _) ?_ | refine x_callv (c1) ?_ | refine x_bs tb_ok ?_ | refine zA ?_ | refine zL ?_ | refine zc1 ?_ | refine zc2 ?_ | refine zI ?_ | (refine zs1 ?_ ?_ <;> intro hc) | (refine zs2 ?_ ?_ <;> intro hc)) | refine awp_split rfl (fun hb => ?_) (fun hb => ?_) | refine zr ?_ | exact x_le)
      refine ⟨by omega, by omega, ?_⟩
      exact (by exact x_len [0, 1, 2, 3])
  · obtain rfl : k = M.length := by omega
    have hlen : (idxs (ofP [] true) M M.length).length = M.countP (ofP [] true) := by rw [idxs_len, List.take_length]
    have hil : (idxs (ofP [] true) M M.length).length ≤ 1000 := by rw [hlen]; exact Nat.le_trans List.countP_le_length hM
    have hlt := idxs_lt (p := ofP [] true) (M := M) (k := M.length)
    rw [minAt_idxs, ← hlen] at he
    generalize idxs (ofP [] true) M M.length = I at *
    by_cases g : I.length ≤ most
    · rw [if_pos g] at he
      subst he
      repeat' (first | refine zt ?_ | (refine isR ?_; first | refine zo ?_ | refine x_bs tb_ok ?_ | refine zA ?_ | refine zL ?_ | refine zc1 ?_ | refine zc2 ?_ | refine zI ?_ | (refine zs1 ?_ ?_ <;> intro hc) | (refine zs2 ?_ ?_ <;> intro hc)) | refine awp_split rfl (fun hb => ?_) (fun hb => ?_) | refine x_mret [0, 1] ?_ ?_ | refine x_mnor [0, 1] ?_ ?_ | refine zr ?_ | exact x_le)
      · rfl
      · exact .on (.same (nl_map fun _ => rfl)) (.on (.ren rfl) .nil)
    · rw [if_neg g] at he
      cases I with
      | nil => simp at g
      | cons i0 r =>
        dsimp only at he
        have c2 := minFunc_m (n := M.length) (nx := nx) (now := now) hil hlt (i0 := i0) rfl rfl
        rw [show (i0 :: r).drop 1 = r from rfl] at c2
        have ha : minL M r i0 < M.length := minL_lt (hlt i0 (by simp)) fun j hj => hlt j (by simp [hj])
        have c3 := delete_m hM ha
        have hel : (M.eraseIdx (minL M r i0)).length = M.length - 1 := List.length_eraseIdx_of_lt ha
        generalize hK : M.eraseIdx (minL M r i0) = K at *
        generalize minL M r i0 = a at *
        generalize i0 :: r = I at *
        repeat' (first | refine zt ?_ | (refine isR ?_; first | refine zo ?_ | refine x_m [3,0,2,1] [] (c2 _) ?_ | refine x_m0 [3,0,2,1] [] (c2 _) ?_ | refine x_m [3,0,2,1] [] (c2) ?_ | refine x_m0 [3,0,2,1] [] (c2) ?_ | refine x_m [0] [] (c3 _) ?_ | refine x_m0 [0] [] (c3 _) ?_ | refine x_m [0] [] (c3) ?_ | refine x_m0 [0] [] (c3) ?_ | refine x_bs tb_ok ?_ | refine zA ?_ | refine zL ?_ | refine zc1 ?_ | refine zc2 ?_ | refine zI ?_ | (refine zs1 ?_ ?_ <;> intro hc) | (refine zs2 ?_ ?_ <;> intro hc)) | refine awp_split rfl (fun hb => ?_) (fun hb => ?_) | refine zr ?_ | exact x_le)
        refine ⟨K, ⟨by omega, f, by omega, he⟩, by omega, ?_⟩
        exact (by exact x_len [0, 1, 2])
end Go.Proofs.YtepnalbefjicgaaGreatDoor.JarO
end

section
namespace Go.Proofs.YtepnalbefjicgaaGreatDoor.JarD
open Go.RowKit Mem Abs Scan JarP JarQ JarA JarB JarC

abbrev keyV (c : Cookie) : Abs.V := .agg [strT c.name, strT c.domain, strT c.path]
set_option maxRecDepth 100000 in
set_option maxHeartbeats 4000000 in
theorem keyOf_v {c : Cookie} : ACalls Tryz.prog 43 [c.v] (keyV c) := by
  refine fun1 tb_ok Tryz.func43 rfl Tryz.ntmps43 Tryz.results43 rfl fun N => ?_
  repeat' (first | refine zt ?_ | (refine isR ?_; first | refine zo ?_) | refine awp_split rfl (fun hb => ?_) (fun hb => ?_) | refine zr ?_ | exact x_le)
  all_goals rfl
end Go.Proofs.YtepnalbefjicgaaGreatDoor.JarD
end

section
namespace Go.Proofs.YtepnalbefjicgaaGreatDoor.JarR
open Abs Scan JarP JarQ JarC

/-- Right, but for how many there are. -/
structure Rw (L : List Cookie) (nx : Int) : Prop where
  mom : ∀ c ∈ L, badM c = false
  no : ∀ c ∈ L, 0 ≤ c.no ∧ c.no < nx
  dis : L.Pairwise fun a b => sameK a b = false ∧ a.no ≠ b.no
  nx : 0 ≤ nx ∧ nx ≤ 1099511627776
theorem Rw.sub {L M : List Cookie} {nx : Int} (h : Rw L nx) (hs : M.Sublist L) : Rw M nx := ⟨fun c hc => h.mom c (hs.subset hc), fun c hc => h.no c (hs.subset hc), h.dis.sublist hs, h.nx⟩
theorem Rw.right {L : List Cookie} {nx : Int} (h : Rw L nx) (hl : L.length ≤ 12) (hp : ∀ d : List UInt8, L.countP (fun c => decide (c.domain = d)) ≤ 4) : Rj L nx := ⟨hl, h.mom, h.no, h.dis, hp, h.nx⟩
end Go.Proofs.YtepnalbefjicgaaGreatDoor.JarR
end

section
namespace Go.Proofs.YtepnalbefjicgaaGreatDoor.JarE
open Go.RowKit Mem Abs Scan JarP JarQ JarA JarB JarC JarD JarR

abbrev noJ : Abs.V := .agg [.nils, .int .i64 0]
end Go.Proofs.YtepnalbefjicgaaGreatDoor.JarE
end

section
namespace Go.Proofs.YtepnalbefjicgaaGreatDoor.JarF
open Go.RowKit Mem Abs Scan JarP JarQ JarA JarB JarC JarD JarE JarR

abbrev TJ : Nat := 24
abbrev stT (K : List Cookie) (cc : Cookie) (nx2 : Int) (x : List Cookie) (a : Int) (q : Nat) (now : Int) : S := ⟨[(2, .int .i64 now), (4, .loc 0 0 0), (6, .loc 1 0 0), (9, .loc 3 0 0), (12, .fro (x.map Cookie.v)), (13, .int .i64 a), (14, nV q)], [(0, some (.els TC 13 [cc.v])), (1, some (.els TJ 2 [noJ])), (3, some (.els TJ 2 [.agg [.fro (K.map Cookie.v), .int .i64 nx2]]))], 4, 134⟩
abbrev stL (L : List Cookie) (nx now : Int) (b : Bool) (cc : Cookie) (K : List Cookie) (i : Nat) : S := ⟨[(2, .int .i64 now), (3, .fp (V.cells (jarV L nx)) 0), (4, .loc 0 0 0), (6, .loc 1 0 0), (9, .loc 3 0 0), (10, .bool b), (11, nV i)], [(0, some (.els TC 13 [cc.v])), (1, some (.els TJ 2 [noJ])), (2, some (.els TC 13 (K.map Cookie.v))), (3, some (.els TJ 2 [.agg [.own 2 0 K.length, .int .i64 nx]]))], 4, 134⟩
end Go.Proofs.YtepnalbefjicgaaGreatDoor.JarF
end

section
namespace Go.Proofs.YtepnalbefjicgaaGreatDoor.JarG
open Go.RowKit Mem Abs Scan JarP JarQ JarA JarB JarC JarD JarE JarR JarF

abbrev stG (L : List Cookie) (nx now : Int) (n : Nat) (b : Bool) (cc : Cookie) (K : List Cookie) (i : Nat) : S := ⟨[(2, .int .i64 now), (3, .fp (V.cells (jarV L nx)) 0), (4, .loc 0 0 0), (6, .loc 1 0 0), (9, .loc 3 0 0), (10, .bool b), (11, nV i)], [(0, some (.els TC 13 [cc.v])), (1, some (.els TJ 2 [noJ])), (2, some (.els TC 13 (K.map Cookie.v))), (3, some (.els TJ 2 [.agg [.own 2 0 n, .int .i64 nx]]))], 4, 134⟩
end Go.Proofs.YtepnalbefjicgaaGreatDoor.JarG
end

section
namespace Go.Proofs.YtepnalbefjicgaaGreatDoor.JarH
open Go.RowKit Mem Abs Scan JarP JarQ JarA JarB JarC JarD JarE JarR JarF JarG

theorem codePut_zero {L : List Cookie} {nx : Int} {c : Cookie} {now : Int} (h : codePut L nx c now = 0) : checkJ L nx = 0 ∧ isJ now = true ∧ badM c = false ∧ nx ≠ 1099511627776 := by
  unfold codePut at h
  by_cases h1 : checkJ L nx = 0
  · rw [if_neg (by rw [h1]; simp)] at h
    by_cases h2 : isJ now = false ∨ badM c = true
    · rw [if_pos h2] at h; cases h
    · rw [if_neg h2] at h
      by_cases h3 : nx = 1099511627776
      · rw [if_pos h3] at h; cases h
      · rw [not_or] at h2
        exact ⟨h1, by simpa using h2.1, by simpa using h2.2, h3⟩
  · rw [if_pos h1] at h; exact absurd h h1
end Go.Proofs.YtepnalbefjicgaaGreatDoor.JarH
end

section
namespace Go.Proofs.YtepnalbefjicgaaGreatDoor.JarK
open Go.RowKit Mem Abs Scan JarP JarQ JarA JarB JarC JarD JarE JarR

set_option maxRecDepth 100000 in
set_option maxHeartbeats 4000000 in
theorem pGetBad1_v {L : List Cookie} {nx : Int} {now : Int} {f : From} {e : Int} (c1 : ACalls Tryz.prog 16 [jarV L nx] (.int .i64 e)) (he : e ≠ 0) : ACalls Tryz.prog 6 [jarV L nx, f.v, .int .i64 now] (.tup [noJ, .nils, .int .i64 e]) := by
  refine fun3 tb_ok Tryz.func6 rfl Tryz.ntmps6 Tryz.results6 rfl fun N => ?_
  repeat' (first | refine zt ?_ | (refine isR ?_; first | refine zo ?_ | refine zk c1 ?_ | refine x_bs tb_ok ?_ | refine zA ?_ | refine zL ?_ | refine zc1 ?_ | refine zc5 ?_ | refine zc6 ?_ | refine zI ?_ | (refine zs1 ?_ ?_ <;> intro hc) | (refine zs5 ?_ ?_ <;> intro hc) | (refine zs6 ?_ ?_ <;> intro hc)) | refine awp_split rfl (fun hb => ?_) (fun hb => ?_) | refine zr ?_ | exact x_le)
  all_goals first | rfl | (exfalso; omega)
set_option maxRecDepth 100000 in
set_option maxHeartbeats 4000000 in
theorem pPutBad1_v {L : List Cookie} {nx : Int} {now : Int} {c : Cookie} {e : Int} (c1 : ACalls Tryz.prog 16 [jarV L nx] (.int .i64 e)) (he : e ≠ 0) : ACalls Tryz.prog 5 [jarV L nx, c.v, .int .i64 now] (.tup [noJ, .int .i64 e]) := by
  refine fun3 tb_ok Tryz.func5 rfl Tryz.ntmps5 Tryz.results5 rfl fun N => ?_
  repeat' (first | refine zt ?_ | (refine isR ?_; first | refine zo ?_ | refine zk c1 ?_ | refine zc5 ?_ | refine zc6 ?_ | (refine zs5 ?_ ?_ <;> intro hc) | (refine zs6 ?_ ?_ <;> intro hc)) | refine awp_split rfl (fun hb => ?_) (fun hb => ?_) | refine zr ?_ | exact x_le)
  all_goals first | rfl | (exfalso; omega)
set_option maxRecDepth 100000 in
set_option maxHeartbeats 4000000 in
theorem pGetBad2_v {L : List Cookie} {nx : Int} {now : Int} {f : From} {e : Int} (c1 : ACalls Tryz.prog 16 [jarV L nx] (.int .i64 0)) (c2 : ACalls Tryz.prog 25 [f.v, .int .i64 now] (.int .i64 e)) (he : e ≠ 0) : ACalls Tryz.prog 6 [jarV L nx, f.v, .int .i64 now] (.tup [noJ, .nils, .int .i64 e]) := by
  refine fun3 tb_ok Tryz.func6 rfl Tryz.ntmps6 Tryz.results6 rfl fun N => ?_
  repeat' (first | refine zt ?_ | (refine isR ?_; first | refine zo ?_ | refine zk c1 ?_ | refine zk c2 ?_ | refine x_bs tb_ok ?_ | refine zA ?_ | refine zL ?_ | refine zc1 ?_ | refine zc5 ?_ | refine zc6 ?_ | refine zI ?_ | (refine zs1 ?_ ?_ <;> intro hc) | (refine zs5 ?_ ?_ <;> intro hc) | (refine zs6 ?_ ?_ <;> intro hc)) | refine awp_split rfl (fun hb => ?_) (fun hb => ?_) | refine zr ?_ | exact x_le)
  all_goals first | rfl | (exfalso; omega)
set_option maxRecDepth 100000 in
set_option maxHeartbeats 4000000 in
theorem pPutBad2_v {L : List Cookie} {nx : Int} {now : Int} {c : Cookie} (c1 : ACalls Tryz.prog 16 [jarV L nx] (.int .i64 0)) (h : codePut L nx c now ≠ 0) (h0 : checkJ L nx = 0) : ACalls Tryz.prog 5 [jarV L nx, c.v, .int .i64 now] (.tup [noJ, .int .i64 ((codePut L nx c now : Nat) : Int)]) := by
  have c2 := is_v (n := now)
  have c3 := moments_v (c := c)
  unfold codePut at h ⊢
  rw [if_neg (by rw [h0]; simp)] at h ⊢
  by_cases h2 : isJ now = false
  · rw [if_pos (.inl h2)]
    rw [h2] at c2
    refine fun3 tb_ok Tryz.func5 rfl Tryz.ntmps5 Tryz.results5 rfl fun N => ?_
    repeat' (first | refine zt ?_ | (refine isR ?_; first | refine zo ?_ | refine zk c1 ?_ | refine zk c2 ?_ | refine zc5 ?_ | refine zc6 ?_ | (refine zs5 ?_ ?_ <;> intro hc) | (refine zs6 ?_ ?_ <;> intro hc)) | refine awp_split rfl (fun hb => ?_) (fun hb => ?_) | refine zr ?_ | exact x_le)
    all_goals first | rfl | (exfalso; omega)
  · have h2 : isJ now = true := by simpa using h2
    rw [h2] at c2
    by_cases h3 : badM c = true
    · rw [if_pos (.inr h3)]
      rw [h3] at c3
      change ACalls _ _ _ (.bool false) at c3
      refine fun3 tb_ok Tryz.func5 rfl Tryz.ntmps5 Tryz.results5 rfl fun N => ?_
      repeat' (first | refine zt ?_ | (refine isR ?_; first | refine zo ?_ | refine zk c1 ?_ | refine zk c2 ?_ | refine zk c3 ?_ | refine zc5 ?_ | refine zc6 ?_ | (refine zs5 ?_ ?_ <;> intro hc) | (refine zs6 ?_ ?_ <;> intro hc)) | refine awp_split rfl (fun hb => ?_) (fun hb => ?_) | refine zr ?_ | exact x_le)
      all_goals first | rfl | (exfalso; omega)
    · rw [if_neg (fun q => q.elim (fun q => by rw [h2] at q; cases q) h3)] at h ⊢
      have h3 : badM c = false := by simpa using h3
      rw [h3] at c3
      change ACalls _ _ _ (.bool true) at c3
      by_cases h5 : nx = 1099511627776
      · rw [if_pos h5]
        refine fun3 tb_ok Tryz.func5 rfl Tryz.ntmps5 Tryz.results5 rfl fun N => ?_
        repeat' (first | refine zt ?_ | (refine isR ?_; first | refine zo ?_ | refine zk c1 ?_ | refine zk c2 ?_ | refine zk c3 ?_ | refine zc5 ?_ | refine zc6 ?_ | (refine zs5 ?_ ?_ <;> intro hc) | (refine zs6 ?_ ?_ <;> intro hc)) | refine awp_split rfl (fun hb => ?_) (fun hb => ?_) | refine zr ?_ | exact x_le)
        all_goals first | rfl | (exfalso; omega)
      · rw [if_neg h5] at h
        exact absurd rfl h
end Go.Proofs.YtepnalbefjicgaaGreatDoor.JarK
end

section
namespace Go.Proofs.YtepnalbefjicgaaGreatDoor.SortM
open Go.RowKit Mem Abs SortP SortW

theorem half {i j : Nat} (h : i + j ≤ 562949953421312) : IntKind.u64.wrap ((i : Int) + (j : Int)) = (i : Int) + (j : Int) ∧ ((i : Int) + (j : Int)).fdiv 2 = (((i + j) / 2 : Nat) : Int) ∧ InR .u64 (((i + j) / 2 : Nat) : Int) ∧ IntKind.i64.wrap (((i + j) / 2 : Nat) : Int) = (((i + j) / 2 : Nat) : Int) := by
  have e : (((i + j) / 2 : Nat) : Int) = ((i : Int) + (j : Int)) / 2 := by omega
  refine ⟨?_, ?_, ?_, ?_⟩
  · simp [IntKind.wrap, IntKind.bits, IntKind.signed]; omega
  · rw [Int.fdiv_eq_ediv_of_nonneg _ (by decide), e]
  · exact ⟨by simp only [rng]; omega, by simp only [rng]; omega⟩
  · exact wrap64 (by omega) (by omega)
theorem bs_end {p : Nat → Bool} {f i j : Nat} (h : ¬ i < j) : bs p f i j = i := by
  cases f with
  | zero => rfl
  | succ f => unfold bs; rw [if_neg h]
theorem bs_on {p : Nat → Bool} {f i j : Nat} (h : i < j) (hf : j - i ≤ f) : ∃ q, f = q + 1 ∧ bs p f i j = if p ((i + j) / 2) = true then bs p q ((i + j) / 2 + 1) j else bs p q i ((i + j) / 2) := by
  obtain ⟨q, rfl⟩ : ∃ q, f = q + 1 := ⟨f - 1, by omega⟩
  refine ⟨q, rfl, ?_⟩
  rw [bs, if_pos h]
theorem ltAt_of {L : List Cookie} {i j : Nat} {x y : Cookie} (h1 : L[i]? = some x) (h2 : L[j]? = some y) : ltAt ckLt L i j = decide (cz x y < 0) := by unfold ltAt; rw [h1, h2]; rfl
/-- Two of a row changed. -/
theorem two {M : List Cookie} {i j : Nat} (h1 : i < M.length) (h2 : j < M.length) : ∃ x y z, M[i]? = some x ∧ M[j]? = some y ∧ (M.set i y)[j]? = some z ∧ swapF M i j = (M.set i y).set j x :=
  ⟨M[i], M[j], (M.set i M[j])[j]'(by simpa using h2), List.getElem?_eq_getElem _, List.getElem?_eq_getElem _, List.getElem?_eq_getElem _, by unfold swapF; rw [List.getElem?_eq_getElem h1, List.getElem?_eq_getElem h2]⟩
abbrev stM (len a m b : Nat) (L : List Cookie) (more : List (Nat × Abs.V)) : S := ⟨[(0, .own 0 0 len), (1, .int .i64 (a : Int)), (2, .int .i64 (m : Int)), (3, .int .i64 (b : Int)), (4, fnC)] ++ more, [(0, some (rowC L))], 1, 220⟩
set_option maxRecDepth 100000 in
set_option maxHeartbeats 4000000 in
theorem sym1_v {L : List Cookie} {a m b len : Nat} (f : Nat) (hl : L.length = len) (hL : len ≤ 140737488355328) (h1 : a < m) (h2 : m < b) (h3 : b ≤ len) (hc : m - a = 1) : MCalls Tryz.prog 86 [.own 0 0 len, .int .i64 (a : Int), .int .i64 (m : Int), .int .i64 (b : Int), fnC] [rowC L] (.tup []) [some (rowC (symF ckLt (f + 1) L a m b))] := by
  rw [symF, if_pos hc]
  obtain ⟨y, e2⟩ : ∃ y, L[a]? = some y := ⟨_, List.getElem?_eq_getElem (by omega)⟩
  have hp : ∀ h x, L[h]? = some x → (fun h => ltAt ckLt L h a) h = decide (cz x y < 0) := fun h x hx => ltAt_of hx e2
  generalize (fun h => ltAt ckLt L h a) = p at *
  have hT := bs_spec p (b - m) m b (by omega) (Nat.le_refl _)
  generalize hTT : bs p (b - m) m b = T at *
  refine mfun tb_ok Tryz.func86 rfl Tryz.ntmps86 Tryz.results86 rfl rfl rfl rfl fun N pl => ?_
  repeat' (first | refine zt ?_ | (refine isR ?_; first | refine zo ?_ | refine zA ?_ | refine zc1 ?_ | refine zc3 ?_ | refine zc5 ?_ | refine zI ?_ | refine zB ?_ | (refine zs1 ?_ ?_ <;> intro hc) | (refine zs3 ?_ ?_ <;> intro hc) | (refine zs5 ?_ ?_ <;> intro hc)) | refine awp_split rfl (fun hb => ?_) (fun hb => ?_) | refine zr ?_ | exact x_le)
  refine awp_while (α := Nat × Nat) (fun x => stM len a m b L [(10, .int .i64 (x.1 : Int)), (11, .int .i64 (x.2 : Int))]) (fun x => m ≤ x.1 ∧ x.1 ≤ x.2 ∧ x.2 ≤ b ∧ ∃ f, x.2 - x.1 ≤ f ∧ bs p f x.1 x.2 = T) (fun x => x.2 - x.1) (m, b) (by exact x_le) ⟨Nat.le_refl _, by dsimp only; omega, Nat.le_refl _, b - m, Nat.le_refl _, hTT⟩ ?_
  rintro ⟨i, j⟩ ⟨g1, g2, g3, q, g4, g5⟩
  dsimp only at g1 g2 g3 g4 g5 ⊢
  by_cases hij : i < j
  · obtain ⟨q, rfl, hq⟩ := bs_on (p := p) hij g4
    rw [hq] at g5
    obtain ⟨x, e1⟩ : ∃ x, L[(i + j) / 2]? = some x := ⟨_, List.getElem?_eq_getElem (by omega)⟩
    rw [hp _ x e1] at g5
    obtain ⟨w1, w2, w3, w4⟩ := half (i := i) (j := j) (by omega)
    have hh : i ≤ (i + j) / 2 ∧ (i + j) / 2 < j := by omega
    generalize (i + j) / 2 = h at *
    have c1 := cmp_v (x := x) (y := y)
    by_cases hz : cz x y < 0
    · rw [if_pos (by simpa using hz)] at g5
      repeat' (first | refine zt ?_ | (refine isR ?_; first | refine zo ?_ | refine x_cv .u64 tb_ok ?_ | refine x_shr1 ?_ | refine x_cv .i64 tb_ok ?_ | refine x_ldI Cookie.v h tb_ok ?_ | refine x_ldI Cookie.v a tb_ok ?_ | refine x_callv (c1 _) ?_ | refine x_callv (c1) ?_ | refine zA ?_ | refine zc1 ?_ | refine zc3 ?_ | refine zc5 ?_ | refine zI ?_ | refine zB ?_ | (refine zs1 ?_ ?_ <;> intro hc) | (refine zs3 ?_ ?_ <;> intro hc) | (refine zs5 ?_ ?_ <;> intro hc)) | refine awp_split rfl (fun hb => ?_) (fun hb => ?_) | refine zr ?_ | exact x_le)
      refine ⟨(h + 1, j), ⟨by dsimp only; omega, by dsimp only; omega, g3, q, by dsimp only; omega, g5⟩, by dsimp only; omega, ?_⟩
      exact (by exact x_le)
    · rw [if_neg (by simpa using hz)] at g5
      repeat' (first | refine zt ?_ | (refine isR ?_; first | refine zo ?_ | refine x_cv .u64 tb_ok ?_ | refine x_shr1 ?_ | refine x_cv .i64 tb_ok ?_ | refine x_ldI Cookie.v h tb_ok ?_ | refine x_ldI Cookie.v a tb_ok ?_ | refine x_callv (c1 _) ?_ | refine x_callv (c1) ?_ | refine zA ?_ | refine zc1 ?_ | refine zc3 ?_ | refine zc5 ?_ | refine zI ?_ | refine zB ?_ | (refine zs1 ?_ ?_ <;> intro hc) | (refine zs3 ?_ ?_ <;> intro hc) | (refine zs5 ?_ ?_ <;> intro hc)) | refine awp_split rfl (fun hb => ?_) (fun hb => ?_) | refine zr ?_ | exact x_le)
      refine ⟨(i, h), ⟨g1, by dsimp only; omega, by dsimp only; omega, q, by dsimp only; omega, g5⟩, by dsimp only; omega, ?_⟩
      exact (by exact x_le)
  · rw [bs_end hij] at g5
    subst g5
    repeat' (first | refine zt ?_ | (refine isR ?_; first | refine zo ?_ | refine zA ?_ | refine zc1 ?_ | refine zc3 ?_ | refine zc5 ?_ | refine zI ?_ | refine zB ?_ | (refine zs1 ?_ ?_ <;> intro hc) | (refine zs3 ?_ ?_ <;> intro hc) | (refine zs5 ?_ ?_ <;> intro hc)) | refine awp_split rfl (fun hb => ?_) (fun hb => ?_) | refine zr ?_ | exact x_le)
    refine awp_while (α := Nat × List Cookie) (fun x => stM len a m b x.2 [(10, .int .i64 (i : Int)), (13, .int .i64 (x.1 : Int))]) (fun x => a ≤ x.1 ∧ x.1 ≤ i - 1 ∧ x.2.length = len ∧ upF (i - 1 - x.1) x.1 x.2 = upF (i - 1 - a) a L) (fun x => i - x.1) (a, L) (by exact x_le) ⟨Nat.le_refl _, by dsimp only; omega, hl, rfl⟩ ?_
    rintro ⟨k, M⟩ ⟨k1, k2, k3, k4⟩
    dsimp only at k1 k2 k3 k4 ⊢
    by_cases hk : k < i - 1
    · obtain ⟨x, y, z, m1, m2, m3, m4⟩ := two (M := M) (i := k) (j := k + 1) (by omega) (by omega)
      repeat' (first | refine zt ?_ | (refine isR ?_; first | refine zo ?_ | refine x_ldI Cookie.v (k + 1) tb_ok ?_ | refine x_ldI Cookie.v k tb_ok ?_ | refine x_stI Cookie.v (a1 := y) k tb_ok ?_ | refine x_stI Cookie.v (a1 := x) (k + 1) tb_ok ?_ | refine zA ?_ | refine zc1 ?_ | refine zc3 ?_ | refine zc5 ?_ | refine zI ?_ | refine zB ?_ | (refine zs1 ?_ ?_ <;> intro hc) | (refine zs3 ?_ ?_ <;> intro hc) | (refine zs5 ?_ ?_ <;> intro hc)) | refine awp_split rfl (fun hb => ?_) (fun hb => ?_) | refine zr ?_ | exact x_le)
      refine ⟨(k + 1, (M.set k y).set (k + 1) x), ⟨by dsimp only; omega, by dsimp only; omega, by simp [k3], ?_⟩, by dsimp only; omega, ?_⟩
      · show upF (i - 1 - (k + 1)) (k + 1) _ = _
        rw [← k4, ← m4, show i - 1 - k = (i - 1 - (k + 1)) + 1 by omega, upF]
      · exact (by exact x_le)
    · rw [show i - 1 - k = 0 by omega, upF] at k4
      rw [← k4]
      repeat' (first | refine zt ?_ | (refine isR ?_; first | refine zo ?_ | refine zA ?_ | refine zc1 ?_ | refine zc3 ?_ | refine zc5 ?_ | refine zI ?_ | refine zB ?_ | (refine zs1 ?_ ?_ <;> intro hc) | (refine zs3 ?_ ?_ <;> intro hc) | (refine zs5 ?_ ?_ <;> intro hc)) | refine awp_split rfl (fun hb => ?_) (fun hb => ?_) | refine x_mret [0] ?_ ?_ | refine x_mnor [0] ?_ ?_ | refine zr ?_ | exact x_le)
      · rfl
      · exact .on (.same (nl_map fun _ => rfl)) .nil
set_option maxRecDepth 100000 in
set_option maxHeartbeats 4000000 in
theorem sym2_v {L : List Cookie} {a m b len : Nat} (f : Nat) (hl : L.length = len) (hL : len ≤ 140737488355328) (h1 : a < m) (h2 : m < b) (h3 : b ≤ len) (hc : ¬ m - a = 1) (hd : b - m = 1) : MCalls Tryz.prog 86 [.own 0 0 len, .int .i64 (a : Int), .int .i64 (m : Int), .int .i64 (b : Int), fnC] [rowC L] (.tup []) [some (rowC (symF ckLt (f + 1) L a m b))] := by
  rw [symF, if_neg hc, if_pos hd]
  obtain ⟨y, e2⟩ : ∃ y, L[m]? = some y := ⟨_, List.getElem?_eq_getElem (by omega)⟩
  have hp : ∀ h x, L[h]? = some x → (fun h => !ltAt ckLt L m h) h = !decide (cz y x < 0) := fun h x hx => congrArg (!·) (ltAt_of e2 hx)
  generalize (fun h => !ltAt ckLt L m h) = p at *
  have hT := bs_spec p (m - a) a m (by omega) (Nat.le_refl _)
  generalize hTT : bs p (m - a) a m = T at *
  refine mfun tb_ok Tryz.func86 rfl Tryz.ntmps86 Tryz.results86 rfl rfl rfl rfl fun N pl => ?_
  repeat' (first | refine zt ?_ | (refine isR ?_; first | refine zo ?_ | refine zA ?_ | refine zc1 ?_ | refine zc3 ?_ | refine zc5 ?_ | refine zI ?_ | refine zB ?_ | (refine zs1 ?_ ?_ <;> intro hc) | (refine zs3 ?_ ?_ <;> intro hc) | (refine zs5 ?_ ?_ <;> intro hc)) | refine awp_split rfl (fun hb => ?_) (fun hb => ?_) | refine zr ?_ | exact x_le)
  refine awp_while (α := Nat × Nat) (fun x => stM len a m b L [(14, .int .i64 (x.1 : Int)), (15, .int .i64 (x.2 : Int))]) (fun x => a ≤ x.1 ∧ x.1 ≤ x.2 ∧ x.2 ≤ m ∧ ∃ f, x.2 - x.1 ≤ f ∧ bs p f x.1 x.2 = T) (fun x => x.2 - x.1) (a, m) (by exact x_le) ⟨Nat.le_refl _, by dsimp only; omega, Nat.le_refl _, m - a, Nat.le_refl _, hTT⟩ ?_
  rintro ⟨i, j⟩ ⟨g1, g2, g3, q, g4, g5⟩
  dsimp only at g1 g2 g3 g4 g5 ⊢
  by_cases hij : i < j
  · obtain ⟨q, rfl, hq⟩ := bs_on (p := p) hij g4
    rw [hq] at g5
    obtain ⟨x, e1⟩ : ∃ x, L[(i + j) / 2]? = some x := ⟨_, List.getElem?_eq_getElem (by omega)⟩
    rw [hp _ x e1] at g5
    obtain ⟨w1, w2, w3, w4⟩ := half (i := i) (j := j) (by omega)
    have hh : i ≤ (i + j) / 2 ∧ (i + j) / 2 < j := by omega
    generalize (i + j) / 2 = h at *
    have c1 := cmp_v (x := y) (y := x)
    by_cases hz : cz y x < 0
    · rw [if_neg (by simpa using hz)] at g5
      repeat' (first | refine zt ?_ | (refine isR ?_; first | refine zo ?_ | refine x_cv .u64 tb_ok ?_ | refine x_shr1 ?_ | refine x_cv .i64 tb_ok ?_ | refine x_ldI Cookie.v h tb_ok ?_ | refine x_ldI Cookie.v m tb_ok ?_ | refine x_callv (c1 _) ?_ | refine x_callv (c1) ?_ | refine zA ?_ | refine zc1 ?_ | refine zc3 ?_ | refine zc5 ?_ | refine zI ?_ | refine zB ?_ | (refine zs1 ?_ ?_ <;> intro hc) | (refine zs3 ?_ ?_ <;> intro hc) | (refine zs5 ?_ ?_ <;> intro hc)) | refine awp_split rfl (fun hb => ?_) (fun hb => ?_) | refine zr ?_ | exact x_le)
      refine ⟨(i, h), ⟨g1, by dsimp only; omega, by dsimp only; omega, q, by dsimp only; omega, g5⟩, by dsimp only; omega, ?_⟩
      exact (by exact x_le)
    · rw [if_pos (by simpa using hz)] at g5
      repeat' (first | refine zt ?_ | (refine isR ?_; first | refine zo ?_ | refine x_cv .u64 tb_ok ?_ | refine x_shr1 ?_ | refine x_cv .i64 tb_ok ?_ | refine x_ldI Cookie.v h tb_ok ?_ | refine x_ldI Cookie.v m tb_ok ?_ | refine x_callv (c1 _) ?_ | refine x_callv (c1) ?_ | refine zA ?_ | refine zc1 ?_ | refine zc3 ?_ | refine zc5 ?_ | refine zI ?_ | refine zB ?_ | (refine zs1 ?_ ?_ <;> intro hc) | (refine zs3 ?_ ?_ <;> intro hc) | (refine zs5 ?_ ?_ <;> intro hc)) | refine awp_split rfl (fun hb => ?_) (fun hb => ?_) | refine zr ?_ | exact x_le)
      refine ⟨(h + 1, j), ⟨by dsimp only; omega, by dsimp only; omega, g3, q, by dsimp only; omega, g5⟩, by dsimp only; omega, ?_⟩
      exact (by exact x_le)
  · rw [bs_end hij] at g5
    subst g5
    repeat' (first | refine zt ?_ | (refine isR ?_; first | refine zo ?_ | refine zA ?_ | refine zc1 ?_ | refine zc3 ?_ | refine zc5 ?_ | refine zI ?_ | refine zB ?_ | (refine zs1 ?_ ?_ <;> intro hc) | (refine zs3 ?_ ?_ <;> intro hc) | (refine zs5 ?_ ?_ <;> intro hc)) | refine awp_split rfl (fun hb => ?_) (fun hb => ?_) | refine zr ?_ | exact x_le)
    refine awp_while (α := Nat × List Cookie) (fun x => stM len a m b x.2 [(14, .int .i64 (i : Int)), (17, .int .i64 (x.1 : Int))]) (fun x => x.1 ≤ m ∧ i ≤ x.1 ∧ x.2.length = len ∧ downF i x.1 x.2 = downF i m L) (fun x => x.1) (m, L) (by exact x_le) ⟨Nat.le_refl _, by dsimp only; omega, hl, rfl⟩ ?_
    rintro ⟨k, M⟩ ⟨k1, k2, k3, k4⟩
    dsimp only at k1 k2 k3 k4 ⊢
    by_cases hk : i < k
    · obtain ⟨k, rfl⟩ : ∃ q, k = q + 1 := ⟨k - 1, by omega⟩
      rw [downF, if_pos hk] at k4
      obtain ⟨x, y, z, m1, m2, m3, m4⟩ := two (M := M) (i := k + 1) (j := k) (by omega) (by omega)
      repeat' (first | refine zt ?_ | (refine isR ?_; first | refine zo ?_ | refine x_ldI Cookie.v (k + 1) tb_ok ?_ | refine x_ldI Cookie.v k tb_ok ?_ | refine x_stI Cookie.v (a1 := y) (k + 1) tb_ok ?_ | refine x_stI Cookie.v (a1 := x) k tb_ok ?_ | refine zA ?_ | refine zc1 ?_ | refine zc3 ?_ | refine zc5 ?_ | refine zI ?_ | refine zB ?_ | (refine zs1 ?_ ?_ <;> intro hc) | (refine zs3 ?_ ?_ <;> intro hc) | (refine zs5 ?_ ?_ <;> intro hc)) | refine awp_split rfl (fun hb => ?_) (fun hb => ?_) | refine zr ?_ | exact x_le)
      refine ⟨(k, (M.set (k + 1) y).set k x), ⟨by dsimp only; omega, by dsimp only; omega, by simp [k3], ?_⟩, by dsimp only; omega, ?_⟩
      · show downF i k _ = _
        rw [← k4, ← m4]
      · have ek : ((k : Nat) : Int) = ((k + 1 : Nat) : Int) - 1 := by omega
        dsimp only
        rw [ek]
        exact (by exact x_le)
    · have hd0 : downF i k M = M := by
        cases k with
        | zero => rfl
        | succ k => rw [downF, if_neg hk]
      rw [hd0] at k4
      rw [← k4]
      repeat' (first | refine zt ?_ | (refine isR ?_; first | refine zo ?_ | refine zA ?_ | refine zc1 ?_ | refine zc3 ?_ | refine zc5 ?_ | refine zI ?_ | refine zB ?_ | (refine zs1 ?_ ?_ <;> intro hc) | (refine zs3 ?_ ?_ <;> intro hc) | (refine zs5 ?_ ?_ <;> intro hc)) | refine awp_split rfl (fun hb => ?_) (fun hb => ?_) | refine x_mret [0] ?_ ?_ | refine x_mnor [0] ?_ ?_ | refine zr ?_ | exact x_le)
      · rfl
      · exact .on (.same (nl_map fun _ => rfl)) .nil
end Go.Proofs.YtepnalbefjicgaaGreatDoor.SortM
end
