/- Texts of the proof, joined: JarM, JarN, SortP, SortW. -/
import Derived.Test.YtepnalbefjicgaaGreatDoorG16
import Derived.Test.YtepnalbefjicgaaGreatDoorG14
import Derived.Test.YtepnalbefjicgaaGreatDoorG10
import Derived.Test.YtepnalbefjicgaaGreatDoorG13
import Derived.Test.YtepnalbefjicgaaGreatDoorG8
section
namespace Go.Proofs.YtepnalbefjicgaaGreatDoor.JarM
open Go.RowKit Mem Abs Scan JarP JarQ JarA JarB JarC JarL

abbrev TO : Nat := 59
abbrev TP : Nat := 54
abbrev rC (L : List Cookie) : Blk := .els TC 13 (L.map Cookie.v)
abbrev rB : Blk := .els TP 1 [.loc 2 0 0]
abbrev rO (n : Nat) (nx now : Int) : Blk := .els TO 3 [.agg [.own 0 0 n, .int .i64 nx, .int .i64 now]]
abbrev fnD : Abs.V := .fn (.func 45) [] [.loc 1 0 0]
def dead (now : Int) (c : Cookie) : Bool := !decide (now < c.expiry)
set_option maxRecDepth 100000 in
set_option maxHeartbeats 4000000 in
theorem goesLive_v {c : Cookie} {now : Int} : ACalls Tryz.prog 46 [c.v, .int .i64 now] (.bool (decide (now < c.expiry))) := by
  by_cases h : now < c.expiry
  · rw [decide_eq_true h]
    refine fun2 tb_ok Tryz.func46 rfl Tryz.ntmps46 Tryz.results46 rfl fun N => ?_
    repeat' (first | refine zt ?_ | (refine isR ?_; first | refine zo ?_ | refine zc3 ?_ | (refine zs3 ?_ ?_ <;> intro hc)) | refine awp_split rfl (fun hb => ?_) (fun hb => ?_) | refine zr ?_ | exact x_le)
    all_goals rfl
  · rw [decide_eq_false h]
    refine fun2 tb_ok Tryz.func46 rfl Tryz.ntmps46 Tryz.results46 rfl fun N => ?_
    repeat' (first | refine zt ?_ | (refine isR ?_; first | refine zo ?_ | refine zc3 ?_ | (refine zs3 ?_ ?_ <;> intro hc)) | refine awp_split rfl (fun hb => ?_) (fun hb => ?_) | refine zr ?_ | exact x_le)
    all_goals rfl
set_option maxRecDepth 100000 in
set_option maxHeartbeats 4000000 in
theorem dead_m {c : Cookie} {M : List Cookie} {n : Nat} {nx now : Int} : MCalls Tryz.prog 45 [c.v, .loc 1 0 0] [rC M, rB, rO n nx now] (.bool (dead now c)) [some (rC M), some rB, some (rO n nx now)] := by
  have c1 := goesLive_v (c := c) (now := now)
  unfold dead
  generalize decide (now < c.expiry) = b at *
  refine mfun tb_ok Tryz.func45 rfl Tryz.ntmps45 Tryz.results45 rfl rfl rfl rfl fun N pl => ?_
  repeat' (first | refine zt ?_ | (refine isR ?_; first | refine zo ?_ | refine zk c1 ?_) | refine awp_split rfl (fun hb => ?_) (fun hb => ?_) | refine x_mret [0, 1, 2] ?_ ?_ | refine x_mnor [0, 1, 2] ?_ ?_ | refine zr ?_ | exact x_le)
  · rfl
  · exact .on (.same (nl_map fun _ => rfl)) (.on (.ren rfl) (.on (.ren rfl) .nil))
set_option maxRecDepth 100000 in
set_option maxHeartbeats 4000000 in
theorem idxDead_m {L : List Cookie} {n : Nat} {nx now : Int} (hb : L.length ≤ 1000) : MCalls Tryz.prog 47 [.own 0 0 L.length, fnD] [rC L, rB, rO n nx now] (.int .i64 (minI (L.findIdx? (dead now)))) [some (rC L), some rB, some (rO n nx now)] := by
  have hml : (L.map Cookie.v).length = L.length := List.length_map _
  generalize hR : minI (L.findIdx? (dead now)) = R
  refine mfun tb_ok Tryz.func47 rfl Tryz.ntmps47 Tryz.results47 rfl rfl rfl rfl fun N pl => ?_
  repeat' (first | refine zt ?_ | (refine isR ?_; first | refine zo ?_ | refine zA ?_ | refine zL ?_ | refine zc1 ?_ | refine zI ?_ | (refine zs1 ?_ ?_ <;> intro hc)) | refine awp_split rfl (fun hb => ?_) (fun hb => ?_) | refine zr ?_ | exact x_le)
  refine awp_forN (fun k => ⟨[(0, .own 0 0 L.length), (1, fnD), (7, nV L.length), (8, nV k)], [(0, some (rC L)), (1, some rB), (2, some (rO n nx now))], 3, 19⟩) (fun k => k ≤ L.length ∧ ∀ j x, j < k → L[j]? = some x → dead now x = false) L.length 0 (by exact x_le) ⟨Nat.zero_le _, fun j x h => by omega⟩ ?_
  rintro k ⟨hk, hd⟩
  by_cases hk2 : k < L.length
  · have hx : L[k]? = some L[k] := by simp [hk2]
    have c1 := dead_m (c := L[k]) (M := L) (n := n) (nx := nx) (now := now)
    have hfi : dead now L[k] = true → L.findIdx? (dead now) = some k := fun h => by
      rw [List.findIdx?_eq_some_iff_getElem]
      exact ⟨hk2, h, fun j hj => by simp [hd j (L[j]'(by omega)) hj (by simp [show j < L.length by omega])]⟩
    generalize L[k] = c at *
    have hm := at_map (f := Cookie.v) hx
    by_cases h : dead now c = true
    · rw [hfi h] at hR
      have hR : (k : Int) = R := hR
      rw [h] at c1
      repeat' (first | refine zt ?_ | (refine isR ?_; first | refine zo ?_ | refine x_ldI Cookie.v k tb_ok ?_ | refine x_mv [0,1,2] [] (c1 _) ?_ | refine x_m0v [0,1,2] [] (c1 _) ?_ | refine x_mv [0,1,2] [] (c1) ?_ | refine x_m0v [0,1,2] [] (c1) ?_ | refine zA ?_ | refine zL ?_ | refine zc1 ?_ | refine zI ?_ | (refine zs1 ?_ ?_ <;> intro hc)) | refine awp_split rfl (fun hb => ?_) (fun hb => ?_) | refine x_mret [0, 1, 2] ?_ ?_ | refine x_mnor [0, 1, 2] ?_ ?_ | refine zr ?_ | exact x_le)
      · rw [← hR]; rfl
      · exact .on (.same (nl_map fun _ => rfl)) (.on (.ren rfl) (.on (.ren rfl) .nil))
    · have h : dead now c = false := by simpa using h
      rw [h] at c1
      repeat' (first | refine zt ?_ | (refine isR ?_; first | refine zo ?_ | refine x_ldI Cookie.v k tb_ok ?_ | refine x_mv [0,1,2] [] (c1 _) ?_ | refine x_m0v [0,1,2] [] (c1 _) ?_ | refine x_mv [0,1,2] [] (c1) ?_ | refine x_m0v [0,1,2] [] (c1) ?_ | refine zA ?_ | refine zL ?_ | refine zc1 ?_ | refine zI ?_ | (refine zs1 ?_ ?_ <;> intro hc)) | refine awp_split rfl (fun hb => ?_) (fun hb => ?_) | refine x_mret [0, 1, 2] ?_ ?_ | refine x_mnor [0, 1, 2] ?_ ?_ | refine zr ?_ | exact x_le)
      refine ⟨⟨by omega, fun j x hj hx2 => ?_⟩, hk2, ?_⟩
      · by_cases e : j = k
        · subst e; rw [hx] at hx2; cases hx2; exact h
        · exact hd j x (by omega) hx2
      · exact (by exact x_len [0, 1, 2])
  · obtain rfl : k = L.length := by omega
    have hn : L.findIdx? (dead now) = none := by
      rw [List.findIdx?_eq_none_iff]
      intro x hx
      obtain ⟨j, hj⟩ := List.mem_iff_getElem?.1 hx
      rw [hd j x (List.getElem?_eq_some_iff.1 hj).1 hj]
    rw [hn] at hR
    subst hR
    repeat' (first | refine zt ?_ | (refine isR ?_; first | refine zo ?_ | refine zA ?_ | refine zL ?_ | refine zc1 ?_ | refine zI ?_ | (refine zs1 ?_ ?_ <;> intro hc)) | refine awp_split rfl (fun hb => ?_) (fun hb => ?_) | refine x_mret [0, 1, 2] ?_ ?_ | refine x_mnor [0, 1, 2] ?_ ?_ | refine zr ?_ | exact x_le)
    · rfl
    · exact .on (.same (nl_map fun _ => rfl)) (.on (.ren rfl) (.on (.ren rfl) .nil))
theorem live_dead (now : Int) (L : List Cookie) : liveF now L = L.filter (fun c => !dead now c) := by
  unfold liveF dead
  simp
abbrev stD (n : Nat) (nx now : Int) (len j i : Nat) (M : List Cookie) : S := ⟨[(0, .own 0 0 len), (1, fnD), (5, nV i), (6, nV j)], [(0, some (rC M)), (1, some rB), (2, some (rO n nx now))], 3, 42⟩
set_option maxRecDepth 100000 in
set_option maxHeartbeats 4000000 in
theorem delDead_m {L : List Cookie} {n : Nat} {nx now : Int} (hb : L.length ≤ 1000) : MCalls Tryz.prog 44 [.own 0 0 L.length, fnD] [rC L, rB, rO n nx now] (.own 0 0 (liveF now L).length) [some (rC (liveF now L)), some rB, some (rO n nx now)] := by
  have hml : (L.map Cookie.v).length = L.length := List.length_map _
  have c1 := idxDead_m (n := n) (nx := nx) (now := now) hb
  cases hf : L.findIdx? (dead now) with
  | none =>
    rw [hf] at c1
    change MCalls _ _ _ _ (.int .i64 (-1)) _ at c1
    have e : liveF now L = L := by
      rw [live_dead, List.filter_eq_self]
      intro c hc
      rw [List.findIdx?_eq_none_iff] at hf
      simp [hf c hc]
    rw [e]
    refine mfun tb_ok Tryz.func44 rfl Tryz.ntmps44 Tryz.results44 rfl rfl rfl rfl fun N pl => ?_
    repeat' (first | refine zt ?_ | (refine isR ?_; first | refine zo ?_ | refine x_m [0,1,2] [] (c1 _) ?_ | refine x_m0 [0,1,2] [] (c1 _) ?_ | refine x_m [0,1,2] [] (c1) ?_ | refine x_m0 [0,1,2] [] (c1) ?_ | refine zA ?_ | refine zL ?_ | refine zc1 ?_ | refine zc5 ?_ | refine zI ?_ | refine zS ?_ | (refine zs1 ?_ ?_ <;> intro hc) | (refine zs5 ?_ ?_ <;> intro hc)) | refine awp_split rfl (fun hb => ?_) (fun hb => ?_) | refine x_mret [0, 1, 2] ?_ ?_ | refine x_mnor [0, 1, 2] ?_ ?_ | refine zr ?_ | exact x_le)
    · rfl
    · exact .on (.same (nl_map fun _ => rfl)) (.on (.ren rfl) (.on (.ren rfl) .nil))
  | some i0 =>
    rw [hf] at c1
    change MCalls _ _ _ _ (.int .i64 (i0 : Int)) _ at c1
    obtain ⟨hi0, hd0, hlow⟩ := List.findIdx?_eq_some_iff_getElem.1 hf
    have ht0 : L.take i0 = liveF now (L.take (i0 + 1)) := by
      have hx : L[i0]? = some L[i0] := by simp [hi0]
      rw [List.take_add_one, hx, live_dead, List.filter_append]
      rw [List.filter_eq_self.2 fun c hc => by
        obtain ⟨j, hj, rfl⟩ := List.mem_iff_getElem.1 hc
        have hj2 : j < i0 := by simp at hj; omega
        have := hlow j hj2
        simpa using this]
      simp [hd0]
    refine mfun tb_ok Tryz.func44 rfl Tryz.ntmps44 Tryz.results44 rfl rfl rfl rfl fun N pl => ?_
    repeat' (first | refine zt ?_ | (refine isR ?_; first | refine zo ?_ | refine x_m [0,1,2] [] (c1 _) ?_ | refine x_m0 [0,1,2] [] (c1 _) ?_ | refine x_m [0,1,2] [] (c1) ?_ | refine x_m0 [0,1,2] [] (c1) ?_ | refine zA ?_ | refine zL ?_ | refine zc1 ?_ | refine zc5 ?_ | refine zI ?_ | refine zS ?_ | (refine zs1 ?_ ?_ <;> intro hc) | (refine zs5 ?_ ?_ <;> intro hc)) | refine awp_split rfl (fun hb => ?_) (fun hb => ?_) | refine zr ?_ | exact x_le)
    refine awp_whileN (α := Nat × Nat × List Cookie) (fun x => stD n nx now L.length x.1 x.2.1 x.2.2) (fun x => x.1 ≤ L.length ∧ x.2.1 < x.1 ∧ x.2.2.length = L.length ∧ x.2.2.take x.2.1 = liveF now (L.take x.1) ∧ x.2.2.drop x.1 = L.drop x.1 ∧ x.2.1 = (liveF now (L.take x.1)).length) (fun x => L.length - x.1) (i0 + 1, i0, L) (by exact x_le) ⟨by dsimp only; omega, by dsimp only; omega, rfl, ht0, rfl, by dsimp only; rw [← ht0, List.length_take]; omega⟩ ?_
    rintro ⟨j, i, M⟩ ⟨g1, g2, g3, g4, g5, g6⟩
    dsimp only at g1 g2 g3 g4 g5 g6 ⊢
    have hmM : (M.map Cookie.v).length = L.length := by rw [List.length_map, g3]
    by_cases hj : j < L.length
    · have hx : L[j]? = some L[j] := by simp [hj]
      have hxM : M[j]? = some L[j] := by
        have := congrArg (fun q => q[0]?) g5
        simpa [hj] using this
      have hyM : M[i]? = some (M[i]'(by omega)) := by simp [show i < M.length by omega]
      have ht : liveF now (L.take (j + 1)) = liveF now (L.take j) ++ if now < (L[j]).expiry then [L[j]] else [] := by
        unfold liveF
        rw [List.take_add_one, hx, List.filter_append]
        congr 1
        by_cases h : now < (L[j]).expiry <;> simp [h]
      have c2 := fun K => dead_m (c := L[j]) (M := K) (n := n) (nx := nx) (now := now)
      generalize M[i]'(by omega) = d at *
      generalize L[j] = c at *
      generalize hE1 : liveF now (L.take (j + 1)) = E1 at *
      generalize liveF now (L.take j) = E at *
      have hset : (M.set i c).take (i + 1) = M.take i ++ [c] := by
        rw [List.take_add_one, List.take_set_of_le (Nat.le_refl _), List.getElem?_set, if_pos rfl, if_pos (by omega)]
        rfl
      have hdrop : (M.set i c).drop (j + 1) = L.drop (j + 1) := by
        rw [List.drop_set_of_lt (by omega), ← List.drop_drop, g5, List.drop_drop]
      have hdrop2 : M.drop (j + 1) = L.drop (j + 1) := by rw [← List.drop_drop, g5, List.drop_drop]
      by_cases h : now < c.expiry
      · rw [if_pos h] at ht
        have c2 := c2 M
        rw [show dead now c = false by unfold dead; rw [decide_eq_true h]; rfl] at c2
        repeat' (first | refine zt ?_ | (refine isR ?_; first | refine zo ?_ | refine x_ldI Cookie.v j tb_ok ?_ | refine x_mv [0,1,2] [] (c2 _) ?_ | refine x_m0v [0,1,2] [] (c2 _) ?_ | refine x_mv [0,1,2] [] (c2) ?_ | refine x_m0v [0,1,2] [] (c2) ?_ | refine x_stI Cookie.v (a1 := c) i tb_ok ?_ | refine zA ?_ | refine zL ?_ | refine zc1 ?_ | refine zc5 ?_ | refine zI ?_ | refine zS ?_ | (refine zs1 ?_ ?_ <;> intro hc) | (refine zs5 ?_ ?_ <;> intro hc)) | refine awp_split rfl (fun hb => ?_) (fun hb => ?_) | refine zr ?_ | exact x_le)
        refine ⟨(j + 1, i + 1, M.set i c), ⟨by dsimp only; omega, by dsimp only; omega, by simp [g3], ?_, hdrop, ?_⟩, by dsimp only; omega, ?_⟩
        · show (M.set i c).take (i + 1) = liveF now (L.take (j + 1))
          rw [hE1, hset, g4, ht]
        · show i + 1 = (liveF now (L.take (j + 1))).length
          rw [hE1, ht, List.length_append, ← g6]; rfl
        · exact (by exact x_len [0, 1, 2])
      · rw [if_neg h, List.append_nil] at ht
        have c2 := c2 M
        rw [show dead now c = true by unfold dead; rw [decide_eq_false h]; rfl] at c2
        repeat' (first | refine zt ?_ | (refine isR ?_; first | refine zo ?_ | refine x_ldI Cookie.v j tb_ok ?_ | refine x_mv [0,1,2] [] (c2 _) ?_ | refine x_m0v [0,1,2] [] (c2 _) ?_ | refine x_mv [0,1,2] [] (c2) ?_ | refine x_m0v [0,1,2] [] (c2) ?_ | refine zA ?_ | refine zL ?_ | refine zc1 ?_ | refine zc5 ?_ | refine zI ?_ | refine zS ?_ | (refine zs1 ?_ ?_ <;> intro hc) | (refine zs5 ?_ ?_ <;> intro hc)) | refine awp_split rfl (fun hb => ?_) (fun hb => ?_) | refine zr ?_ | exact x_le)
        refine ⟨(j + 1, i, M), ⟨by dsimp only; omega, by dsimp only; omega, g3, ?_, hdrop2, ?_⟩, by dsimp only; omega, ?_⟩
        · show M.take i = liveF now (L.take (j + 1))
          rw [hE1, g4, ht]
        · show i = (liveF now (L.take (j + 1))).length
          rw [hE1, ht]; exact g6
        · exact (by exact x_len [0, 1, 2])
    · obtain rfl : j = L.length := by omega
      rw [List.take_length] at g4 g6
      generalize liveF now L = E at *
      have g4 : M.take (0 + i) = E := by rw [Nat.zero_add]; exact g4
      subst g6
      repeat' (first | refine zt ?_ | (refine isR ?_; first | refine zo ?_ | refine x_slOf tb_ok ?_ | refine x_clear Cookie.v E tb_ok ?_ | refine x_slOt tb_ok ?_ | refine zA ?_ | refine zL ?_ | refine zc1 ?_ | refine zc5 ?_ | refine zI ?_ | refine zS ?_ | (refine zs1 ?_ ?_ <;> intro hc) | (refine zs5 ?_ ?_ <;> intro hc)) | refine awp_split rfl (fun hb => ?_) (fun hb => ?_) | refine x_mret [0, 1, 2] ?_ ?_ | refine x_mnor [0, 1, 2] ?_ ?_ | refine zr ?_ | exact x_le)
      · rfl
      · exact .on (.same (nl_map fun _ => rfl)) (.on (.ren rfl) (.on (.ren rfl) .nil))
set_option maxRecDepth 100000 in
set_option maxHeartbeats 4000000 in
theorem expire_m {L : List Cookie} {nx now : Int} (hb : L.length ≤ 1000) : MCalls Tryz.prog 20 [.loc 1 0 0] [rC L, rO L.length nx now] (.tup []) [some (rC (liveF now L)), some (rO (liveF now L).length nx now)] := by
  have c1 := delDead_m (n := L.length) (nx := nx) (now := now) hb
  generalize liveF now L = E at *
  refine mfun tb_ok Tryz.func20 rfl Tryz.ntmps20 Tryz.results20 rfl rfl rfl rfl fun N pl => ?_
  repeat' (first | refine zt ?_ | (refine isR ?_; first | refine x_far [1] tb_ok rfl ?_ | refine zn ?_ | refine x_mK [0,2,1] [] [2,1] (c1 _) ?_ | refine x_mK0 [0,2,1] [] [2,1] (c1 _) ?_ | refine x_mK [0,2,1] [] [2,1] (c1) ?_ | refine x_mK0 [0,2,1] [] [2,1] (c1) ?_) | refine awp_split rfl (fun hb => ?_) (fun hb => ?_) | refine x_mret [0, 1] ?_ ?_ | refine x_mnor [0, 1] ?_ ?_ | refine zr ?_ | exact x_le)
  · rfl
  · exact .on (.same (nl_map fun _ => rfl)) (.on (.ren rfl) .nil)
end Go.Proofs.YtepnalbefjicgaaGreatDoor.JarM
end

section
namespace Go.Proofs.YtepnalbefjicgaaGreatDoor.JarN
open Go.RowKit Mem Abs Scan JarP JarQ JarA JarB JarC JarL JarM

abbrev fnL : Abs.V := .fn (.func 48) [] [.loc 1 0 0]
abbrev rK (c : Cookie) : Blk := .els TC 13 [c.v]
set_option maxRecDepth 100000 in
set_option maxHeartbeats 4000000 in
theorem same_m {c d : Cookie} {M : List Cookie} : MCalls Tryz.prog 48 [d.v, .loc 1 0 0] [rC M, rK c] (.bool (sameK d c)) [some (rC M), some (rK c)] := by
  have c1 := keyOf_v (c := d)
  have c2 := keyOf_v (c := c)
  have he : eqK ekK (keyT d) (keyT c) = sameK d c := by
    rw [eq_key]
    unfold sameK
    simp only [eq_comm]
  generalize sameK d c = b at *
  cases b
  · have hq : eqF [strT d.name, strT d.domain, strT d.path] [strT c.name, strT c.domain, strT c.path] ekK.flds = false := he
    refine mfun tb_ok Tryz.func48 rfl Tryz.ntmps48 Tryz.results48 rfl rfl rfl rfl fun N pl => ?_
    repeat' (first | refine zt ?_ | (refine isR ?_; first | refine zo ?_ | refine zk c1 ?_ | refine zk c2 ?_ | refine zc5 ?_ | (refine zs5 ?_ ?_ <;> intro hc)) | refine awp_split rfl (fun hb => ?_) (fun hb => ?_) | refine x_mret [0, 1] ?_ ?_ | refine x_mnor [0, 1] ?_ ?_ | refine zr ?_ | exact x_le)
    · rfl
    · exact .on (.same (nl_map fun _ => rfl)) (.on (.same rfl) .nil)
  · have hq : eqF [strT d.name, strT d.domain, strT d.path] [strT c.name, strT c.domain, strT c.path] ekK.flds = true := he
    refine mfun tb_ok Tryz.func48 rfl Tryz.ntmps48 Tryz.results48 rfl rfl rfl rfl fun N pl => ?_
    repeat' (first | refine zt ?_ | (refine isR ?_; first | refine zo ?_ | refine zk c1 ?_ | refine zk c2 ?_ | refine zc5 ?_ | (refine zs5 ?_ ?_ <;> intro hc)) | refine awp_split rfl (fun hb => ?_) (fun hb => ?_) | refine x_mret [0, 1] ?_ ?_ | refine x_mnor [0, 1] ?_ ?_ | refine zr ?_ | exact x_le)
    · rfl
    · exact .on (.same (nl_map fun _ => rfl)) (.on (.same rfl) .nil)
set_option maxRecDepth 100000 in
set_option maxHeartbeats 4000000 in
theorem idxSame_m {L : List Cookie} {c : Cookie} (hb : L.length ≤ 1000) : MCalls Tryz.prog 47 [.own 0 0 L.length, fnL] [rC L, rK c] (.int .i64 (minI (L.findIdx? (fun x => sameK x c)))) [some (rC L), some (rK c)] := by
  have hml : (L.map Cookie.v).length = L.length := List.length_map _
  generalize hR : minI (L.findIdx? (fun x => sameK x c)) = R
  refine mfun tb_ok Tryz.func47 rfl Tryz.ntmps47 Tryz.results47 rfl rfl rfl rfl fun N pl => ?_
  repeat' (first | refine zt ?_ | (refine isR ?_; first | refine zo ?_ | refine zA ?_ | refine zL ?_ | refine zc1 ?_ | refine zI ?_ | (refine zs1 ?_ ?_ <;> intro hc)) | refine awp_split rfl (fun hb => ?_) (fun hb => ?_) | refine zr ?_ | exact x_le)
  refine awp_forN (fun k => ⟨[(0, .own 0 0 L.length), (1, fnL), (7, nV L.length), (8, nV k)], [(0, some (rC L)), (1, some (rK c))], 2, 19⟩) (fun k => k ≤ L.length ∧ ∀ j x, j < k → L[j]? = some x → sameK x c = false) L.length 0 (by exact x_le) ⟨Nat.zero_le _, fun j x h => by omega⟩ ?_
  rintro k ⟨hk, hd⟩
  by_cases hk2 : k < L.length
  · have hx : L[k]? = some L[k] := by simp [hk2]
    have c1 := same_m (c := c) (d := L[k]) (M := L)
    have hfi : sameK L[k] c = true → L.findIdx? (fun x => sameK x c) = some k := fun h => by
      rw [List.findIdx?_eq_some_iff_getElem]
      exact ⟨hk2, h, fun j hj => by simp [hd j (L[j]'(by omega)) hj (by simp [show j < L.length by omega])]⟩
    generalize L[k] = d at *
    have hm := at_map (f := Cookie.v) hx
    by_cases h : sameK d c = true
    · rw [hfi h] at hR
      have hR : (k : Int) = R := hR
      rw [h] at c1
      repeat' (first | refine zt ?_ | (refine isR ?_; first | refine zo ?_ | refine x_ldI Cookie.v k tb_ok ?_ | refine x_mv [0,1] [] (c1 _) ?_ | refine x_m0v [0,1] [] (c1 _) ?_ | refine x_mv [0,1] [] (c1) ?_ | refine x_m0v [0,1] [] (c1) ?_ | refine zA ?_ | refine zL ?_ | refine zc1 ?_ | refine zI ?_ | (refine zs1 ?_ ?_ <;> intro hc)) | refine awp_split rfl (fun hb => ?_) (fun hb => ?_) | refine x_mret [0, 1] ?_ ?_ | refine x_mnor [0, 1] ?_ ?_ | refine zr ?_ | exact x_le)
      · rw [← hR]; rfl
      · exact .on (.same (nl_map fun _ => rfl)) (.on (.same rfl) .nil)
    · have h : sameK d c = false := by simpa using h
      rw [h] at c1
      repeat' (first | refine zt ?_ | (refine isR ?_; first | refine zo ?_ | refine x_ldI Cookie.v k tb_ok ?_ | refine x_mv [0,1] [] (c1 _) ?_ | refine x_m0v [0,1] [] (c1 _) ?_ | refine x_mv [0,1] [] (c1) ?_ | refine x_m0v [0,1] [] (c1) ?_ | refine zA ?_ | refine zL ?_ | refine zc1 ?_ | refine zI ?_ | (refine zs1 ?_ ?_ <;> intro hc)) | refine awp_split rfl (fun hb => ?_) (fun hb => ?_) | refine x_mret [0, 1] ?_ ?_ | refine x_mnor [0, 1] ?_ ?_ | refine zr ?_ | exact x_le)
      refine ⟨⟨by omega, fun j x hj hx2 => ?_⟩, hk2, ?_⟩
      · by_cases e : j = k
        · subst e; rw [hx] at hx2; cases hx2; exact h
        · exact hd j x (by omega) hx2
      · exact (by exact x_len [0, 1])
  · obtain rfl : k = L.length := by omega
    have hn : L.findIdx? (fun x => sameK x c) = none := by
      rw [List.findIdx?_eq_none_iff]
      intro x hx
      obtain ⟨j, hj⟩ := List.mem_iff_getElem?.1 hx
      rw [hd j x (List.getElem?_eq_some_iff.1 hj).1 hj]
    rw [hn] at hR
    subst hR
    repeat' (first | refine zt ?_ | (refine isR ?_; first | refine zo ?_ | refine zA ?_ | refine zL ?_ | refine zc1 ?_ | refine zI ?_ | (refine zs1 ?_ ?_ <;> intro hc)) | refine awp_split rfl (fun hb => ?_) (fun hb => ?_) | refine x_mret [0, 1] ?_ ?_ | refine x_mnor [0, 1] ?_ ?_ | refine zr ?_ | exact x_le)
    · rfl
    · exact .on (.same (nl_map fun _ => rfl)) (.on (.same rfl) .nil)
abbrev rOn (k n : Nat) (nx now : Int) : Blk := .els TO 3 [.agg [.own k 0 n, .int .i64 nx, .int .i64 now]]
set_option maxRecDepth 100000 in
set_option maxHeartbeats 4000000 in
theorem layNew_m {L : List Cookie} {c : Cookie} {nx now : Int} (hb : L.length ≤ 1000) (hn : 0 ≤ nx) (hn2 : nx ≤ 1099511627776) (hf : L.findIdx? (fun x => sameK x c) = none) : MCalls Tryz.prog 21 [.loc 1 0 0, c.v] [rC L, rO L.length nx now] (.tup []) [none, some (rOn 2 (L ++ [{ c with no := nx }]).length (nx + 1) now), some (rC (L ++ [{ c with no := nx }]))] := by
  have c1 := idxSame_m (c := c) hb
  have hml : (L.map Cookie.v).length = L.length := List.length_map _
  rw [hf] at c1
  change MCalls _ _ _ _ (.int .i64 (-1)) _ at c1
  refine mfun tb_ok Tryz.func21 rfl Tryz.ntmps21 Tryz.results21 rfl rfl rfl rfl fun N pl => ?_
  repeat' (first | refine zt ?_ | (refine isR ?_; first | refine x_far [3] tb_ok rfl ?_ | refine zn ?_ | refine x_m [0,2] [] (c1 _) ?_ | refine x_m0 [0,2] [] (c1 _) ?_ | refine x_m [0,2] [] (c1) ?_ | refine x_m0 [0,2] [] (c1) ?_ | refine x_app Cookie.v (a1 := ({ c with no := nx })) tb_ok ?_ | refine x_bsO 3 tb_ok ?_ | refine x_bs tb_ok ?_ | refine zA ?_ | refine zc4 ?_ | refine zI ?_ | (refine zs4 ?_ ?_ <;> intro hc)) | refine awp_split rfl (fun hb => ?_) (fun hb => ?_) | refine x_mret [0, 1, 3] ?_ ?_ | refine x_mnor [0, 1, 3] ?_ ?_ | refine zr ?_ | exact x_le)
  all_goals first | rfl | exact .no (.on (.ren rfl) (.on (.same (nl_map fun _ => rfl)) .nil))
set_option maxRecDepth 100000 in
set_option maxHeartbeats 4000000 in
theorem laySame_m {L : List Cookie} {c d : Cookie} {i : Nat} {nx now : Int} (hb : L.length ≤ 1000) (hf : L.findIdx? (fun x => sameK x c) = some i) (hx : L[i]? = some d) : MCalls Tryz.prog 21 [.loc 1 0 0, c.v] [rC L, rO L.length nx now] (.tup []) [some (rC (L.set i { c with created := d.created, no := d.no })), some (rO L.length nx now)] := by
  have c1 := idxSame_m (c := c) hb
  have hml : (L.map Cookie.v).length = L.length := List.length_map _
  rw [hf] at c1
  change MCalls _ _ _ _ (.int .i64 (i : Int)) _ at c1
  obtain ⟨hi, _⟩ := List.getElem?_eq_some_iff.1 hx
  have hm := at_map (f := Cookie.v) hx
  refine mfun tb_ok Tryz.func21 rfl Tryz.ntmps21 Tryz.results21 rfl rfl rfl rfl fun N pl => ?_
  repeat' (first | (refine isR ?_; refine r_val rfl rfl rfl (law_fieldAddr tb_ok rfl rfl rfl rfl rfl) (hT rfl Abs.h0) ?_) | refine zt ?_ | (refine isR ?_; first | refine x_far [3] tb_ok rfl ?_ | refine zn ?_ | refine x_m [0,2] [] (c1 _) ?_ | refine x_m0 [0,2] [] (c1 _) ?_ | refine x_m [0,2] [] (c1) ?_ | refine x_m0 [0,2] [] (c1) ?_ | refine x_ldO Cookie.v i tb_ok ?_ | refine x_stI Cookie.v (a1 := { c with created := d.created, no := d.no }) i tb_ok ?_ | refine x_bsO 3 tb_ok ?_ | refine x_bs tb_ok ?_ | refine zA ?_ | refine zc4 ?_ | refine zI ?_ | (refine zs4 ?_ ?_ <;> intro hc)) | refine awp_split rfl (fun hb => ?_) (fun hb => ?_) | refine x_mret [0, 1] ?_ ?_ | refine x_mnor [0, 1] ?_ ?_ | refine zr ?_ | exact x_le)
  all_goals first | rfl | exact .on (.same (nl_map fun _ => rfl)) (.on (.ren rfl) .nil)
end Go.Proofs.YtepnalbefjicgaaGreatDoor.JarN
end

section
namespace Go.Proofs.YtepnalbefjicgaaGreatDoor.SortP

section
variable {α β : Type}
/-- Two places changed. -/
def swapF (L : List α) (i j : Nat) : List α := match L[i]?, L[j]? with
  | some x, some y => (L.set i y).set j x
  | _, _ => L
def ltAt (lt : α → α → Bool) (L : List α) (i j : Nat) : Bool := match L[i]?, L[j]? with
  | some x, some y => lt x y
  | _, _ => false
def insJ (lt : α → α → Bool) (a : Nat) : Nat → List α → List α
  | 0, L => L
  | j + 1, L => if a < j + 1 ∧ ltAt lt L (j + 1) j = true then insJ lt a j (swapF L (j + 1) j) else L
def insI (lt : α → α → Bool) (a : Nat) : Nat → Nat → List α → List α
  | 0, _, L => L
  | n + 1, i, L => insI lt a n (i + 1) (insJ lt a i L)
def ins (lt : α → α → Bool) (L : List α) (a b : Nat) : List α := insI lt a (b - (a + 1)) (a + 1) L
/-- The place where p ends, by halves. -/
def bs (p : Nat → Bool) : Nat → Nat → Nat → Nat
  | 0, i, _ => i
  | f + 1, i, j => if i < j then (if p ((i + j) / 2) = true then bs p f ((i + j) / 2 + 1) j else bs p f i ((i + j) / 2)) else i
def upF : Nat → Nat → List α → List α
  | 0, _, L => L
  | n + 1, k, L => upF n (k + 1) (swapF L k (k + 1))
def downF (i : Nat) : Nat → List α → List α
  | 0, L => L
  | k + 1, L => if i < k + 1 then downF i k (swapF L (k + 1) k) else L
def swR : Nat → Nat → Nat → List α → List α
  | 0, _, _, L => L
  | n + 1, a, b, L => swR n (a + 1) (b + 1) (swapF L a b)
def rotF : Nat → List α → Nat → Nat → Nat → List α
  | 0, L, _, _, _ => L
  | f + 1, L, m, i, j => if i = j then swR i (m - i) m L else if j < i then rotF f (swR j (m - i) m L) m (i - j) j else rotF f (swR i (m - i) (m + j - i) L) m i (j - i)
def s0F (a m b : Nat) : Nat := if (a + b) / 2 < m then (a + b) / 2 + m - b else a
def rF (a m b : Nat) : Nat := if (a + b) / 2 < m then (a + b) / 2 else m
def sF (lt : α → α → Bool) (L : List α) (a m b : Nat) : Nat := bs (fun c => !ltAt lt L ((a + b) / 2 + m - 1 - c) c) (rF a m b - s0F a m b) (s0F a m b) (rF a m b)
def rotOr (L : List α) (s m e : Nat) : List α := if s < m ∧ m < e then rotF (e - s) L m (m - s) (e - m) else L
def symF (lt : α → α → Bool) : Nat → List α → Nat → Nat → Nat → List α
  | 0, L, _, _, _ => L
  | f + 1, L, a, m, b =>
    if m - a = 1 then upF (bs (fun h => ltAt lt L h a) (b - m) m b - 1 - a) a L
    else if b - m = 1 then downF (bs (fun h => !ltAt lt L m h) (m - a) a m) m L
    else (fun s e mid => (fun L2 => if mid < e ∧ e < b then symF lt f L2 mid e b else L2) (if a < s ∧ s < mid then symF lt f (rotOr L s m e) a s mid else rotOr L s m e)) (sF lt L a m b) ((a + b) / 2 + m - sF lt L a m b) ((a + b) / 2)
def passF (lt : α → α → Bool) (n k : Nat) : Nat → Nat → List α → List α
  | 0, _, L => L
  | f + 1, a, L => if a + 2 * k ≤ n then passF lt n k f (a + 2 * k) (symF lt (2 * k) L a (a + k) (a + 2 * k)) else if a + k < n then symF lt (n - a) L a (a + k) n else L
def insP (lt : α → α → Bool) (n : Nat) : Nat → Nat → List α → List α
  | 0, _, L => L
  | f + 1, a, L => if a + 20 ≤ n then insP lt n f (a + 20) (ins lt L a (a + 20)) else ins lt L a n
def outF (lt : α → α → Bool) (n : Nat) : Nat → Nat → List α → List α
  | 0, _, L => L
  | f + 1, k, L => if k < n then outF lt n f (2 * k) (passF lt n k (n + 1) 0 L) else L
def sortF (lt : α → α → Bool) (L : List α) : List α := outF lt L.length L.length 20 (insP lt L.length (L.length + 1) 0 L)

/-! ### Lengths -/
theorem swapF_len (L : List α) (i j : Nat) : (swapF L i j).length = L.length := by unfold swapF; split <;> simp
theorem insJ_len {lt : α → α → Bool} {a : Nat} : ∀ (j : Nat) (L : List α), (insJ lt a j L).length = L.length
  | 0, L => rfl
  | j + 1, L => by
    unfold insJ
    split
    · rw [insJ_len j, swapF_len]
    · rfl
theorem insI_len {lt : α → α → Bool} {a : Nat} : ∀ (n i : Nat) (L : List α), (insI lt a n i L).length = L.length
  | 0, _, L => rfl
  | n + 1, i, L => by unfold insI; rw [insI_len n, insJ_len]
theorem ins_len {lt : α → α → Bool} {a b : Nat} {L : List α} : (ins lt L a b).length = L.length := insI_len _ _ _
theorem upF_len : ∀ (n k : Nat) (L : List α), (upF n k L).length = L.length
  | 0, _, L => rfl
  | n + 1, k, L => by unfold upF; rw [upF_len n, swapF_len]
theorem downF_len {i : Nat} : ∀ (k : Nat) (L : List α), (downF i k L).length = L.length
  | 0, L => rfl
  | k + 1, L => by
    unfold downF
    split
    · rw [downF_len k, swapF_len]
    · rfl
theorem swR_len : ∀ (n a b : Nat) (L : List α), (swR n a b L).length = L.length
  | 0, _, _, L => rfl
  | n + 1, a, b, L => by unfold swR; rw [swR_len n, swapF_len]
theorem rotF_len : ∀ (f : Nat) (L : List α) (m i j : Nat), (rotF f L m i j).length = L.length
  | 0, L, _, _, _ => rfl
  | f + 1, L, m, i, j => by
    unfold rotF
    split
    · rw [swR_len]
    · split
      · rw [rotF_len f, swR_len]
      · rw [rotF_len f, swR_len]
theorem rotOr_len {L : List α} {s m e : Nat} : (rotOr L s m e).length = L.length := by
  unfold rotOr
  split
  · exact rotF_len _ _ _ _ _
  · rfl
theorem symF_len {lt : α → α → Bool} : ∀ (f : Nat) (L : List α) (a m b : Nat), (symF lt f L a m b).length = L.length
  | 0, L, _, _, _ => rfl
  | f + 1, L, a, m, b => by
    unfold symF
    split
    · exact upF_len _ _ _
    · split
      · exact downF_len _ _
      · dsimp only
        repeat' split
        all_goals simp only [symF_len f, rotOr_len]
theorem passF_len {lt : α → α → Bool} {n k : Nat} : ∀ (f a : Nat) (L : List α), (passF lt n k f a L).length = L.length
  | 0, _, L => rfl
  | f + 1, a, L => by
    unfold passF
    split
    · rw [passF_len f, symF_len]
    · split
      · exact symF_len _ _ _ _ _
      · rfl
theorem insP_len {lt : α → α → Bool} {n : Nat} : ∀ (f a : Nat) (L : List α), (insP lt n f a L).length = L.length
  | 0, _, L => rfl
  | f + 1, a, L => by
    unfold insP
    split
    · rw [insP_len f, ins_len]
    · exact ins_len
theorem outF_len {lt : α → α → Bool} {n : Nat} : ∀ (f k : Nat) (L : List α), (outF lt n f k L).length = L.length
  | 0, _, L => rfl
  | f + 1, k, L => by
    unfold outF
    split
    · rw [outF_len f, passF_len]
    · rfl
theorem sortF_len {lt : α → α → Bool} {L : List α} : (sortF lt L).length = L.length := by unfold sortF; rw [outF_len, insP_len]

/-! ### Bearing a map -/
variable {lt : α → α → Bool} {lt' : β → β → Bool} {g : α → β}
end

/-! ### It sorts -/
section
variable {β : Type} {lt : β → β → Bool} {R : β → β → Prop}
/-- What a comparison of a later one with an earlier one tells. -/
def Cm (lt : β → β → Bool) (R : β → β → Prop) (x y : β) : Prop := (lt y x = true → R y x) ∧ (lt y x = false → R x y)
theorem bs_spec (p : Nat → Bool) : ∀ (f i j : Nat), i ≤ j → j - i ≤ f → i ≤ bs p f i j ∧ bs p f i j ≤ j ∧ (i < bs p f i j → p (bs p f i j - 1) = true) ∧ (bs p f i j < j → p (bs p f i j) = false)
  | 0, i, j, h, hf => by unfold bs; refine ⟨Nat.le_refl _, h, by omega, by omega⟩
  | f + 1, i, j, h, hf => by
    unfold bs
    by_cases hij : i < j
    · rw [if_pos hij]
      by_cases hp : p ((i + j) / 2) = true
      · rw [if_pos hp]
        obtain ⟨h1, h2, h3, h4⟩ := bs_spec p f ((i + j) / 2 + 1) j (by omega) (by omega)
        refine ⟨by omega, h2, fun _ => ?_, h4⟩
        by_cases he : (i + j) / 2 + 1 < bs p f ((i + j) / 2 + 1) j
        · exact h3 he
        · rw [show bs p f ((i + j) / 2 + 1) j - 1 = (i + j) / 2 by omega]; exact hp
      · rw [if_neg hp]
        obtain ⟨h1, h2, h3, h4⟩ := bs_spec p f i ((i + j) / 2) (by omega) (by omega)
        refine ⟨h1, by omega, h3, fun _ => ?_⟩
        by_cases he : bs p f i ((i + j) / 2) < (i + j) / 2
        · exact h4 he
        · rw [show bs p f i ((i + j) / 2) = (i + j) / 2 by omega]; simpa using hp
    · rw [if_neg hij]; refine ⟨Nat.le_refl _, h, by omega, by omega⟩
/-- Parts of k each, but for the last one, which may be shorter. -/
def Ch (k : Nat) : List (List β) → Prop
  | [] => True
  | B :: r => 0 < B.length ∧ (r = [] ∧ B.length ≤ k ∨ r ≠ [] ∧ B.length = k ∧ Ch k r)
structure Good (lt : β → β → Bool) (R : β → β → Prop) (Bs : List (List β)) : Prop where
  each : ∀ B ∈ Bs, B.Pairwise R
  two : Bs.Pairwise fun B D => ∀ x ∈ B, ∀ y ∈ D, Cm lt R x y
theorem Ch.len {k : Nat} : ∀ {Bs : List (List β)}, Ch k Bs → Bs.length ≤ Bs.flatten.length
  | [], _ => by simp
  | B :: r, h => by
    have : r.length ≤ r.flatten.length := by
      rcases h.2 with ⟨rfl, _⟩ | ⟨_, _, h⟩
      · simp
      · exact h.len
    have := h.1
    rw [List.flatten_cons, List.length_append, List.length_cons]
    omega
theorem Ch.tail {k : Nat} {B : List β} {r : List (List β)} (h : Ch k (B :: r)) : Ch k r := by
  rcases h.2 with ⟨rfl, _⟩ | ⟨_, _, h⟩
  · exact trivial
  · exact h
end
section
variable {α : Type} {lt : α → α → Bool}
/-- A weak order. -/
structure Weak (lt : α → α → Bool) : Prop where
  asymm : ∀ x y, lt x y = true → lt y x = false
  neg : ∀ x y z, lt x z = true → lt x y = true ∨ lt y z = true
/-- Ahead of: less, or not more and earlier. -/
def Ah (lt : α → α → Bool) (p q : α × Nat) : Prop := lt p.1 q.1 = true ∨ lt q.1 p.1 = false ∧ p.2 < q.2
theorem Ah.trans (hw : Weak lt) (p q r : α × Nat) (h1 : Ah lt p q) (h2 : Ah lt q r) : Ah lt p r := by
  rcases h1 with h1 | ⟨h1, k1⟩ <;> rcases h2 with h2 | ⟨h2, k2⟩
  · rcases hw.neg _ r.1 _ h1 with h | h
    · exact .inl h
    · rw [hw.asymm _ _ h2] at h; cases h
  · rcases hw.neg _ r.1 _ h1 with h | h
    · exact .inl h
    · rw [h2] at h; cases h
  · rcases hw.neg _ p.1 _ h2 with h | h
    · rw [h1] at h; cases h
    · exact .inl h
  · refine .inr ⟨?_, by omega⟩
    cases h : lt r.1 p.1 with
    | false => rfl
    | true =>
      rcases hw.neg _ q.1 _ h with h | h
      · rw [h2] at h; cases h
      · rw [h1] at h; cases h
theorem Ah.not (hw : Weak lt) (p q : α × Nat) (h1 : Ah lt p q) (h2 : Ah lt q p) : False := by
  rcases h1 with h1 | ⟨h1, k1⟩ <;> rcases h2 with h2 | ⟨h2, k2⟩
  · rw [hw.asymm _ _ h1] at h2; cases h2
  · rw [h1] at h2; cases h2
  · rw [h2] at h1; cases h1
  · omega
end
end Go.Proofs.YtepnalbefjicgaaGreatDoor.SortP
end

section
namespace Go.Proofs.YtepnalbefjicgaaGreatDoor.Abs
open Go.RowKit Mem Facts
section
variable {P : Program} {N : Env} {l r : List Oper} {o : Oper} {tm : List (Nat × V)} {st : List (Nat × Option Blk)} {nx nt : Nat} {tr : List Tr} {K : S → List Tr → Prop} {d : Nat} {t t' : TypeId} {x y : Operand} {a n : Int} {kd ky : IntKind}
theorem law_shr1 (ho : o.op = .binOp .shr t x y t') (h : a.fdiv 2 = n) (hn : InR kd n) : OpLaw P N o ⟨[(x, .int kd a), (y, .int ky 1)], []⟩ (.int kd n) [] [] :=
  law_pure fun s M A φ ac w hh hr => by
    refine ⟨.int kd n, ?_, .fz (.int hn)⟩
    subst h
    have e : min (1 : Int).toNat kd.bits = 1 := by cases kd <;> rfl
    unfold execOp
    have e2 : (eqGuard .shr t x y (.int kd a) (.int ky 1)).run P w = .ok () w := rfl
    have e3 : (binOp .shr t (.int kd a) (.int ky 1)).run P w = .ok (.int kd (a.fdiv 2)) w := by
      unfold binOp
      simp only [Op.shift]
      rw [e]
      rfl
    simp only [ho, hr.int hh.a, hr.int hh.b, Sem.run_bind, e2, e3, Result.andThen_ok, Sem.run_pure]
theorem x_shr1 (k : ARun P N l K r ⟨(d, .int kd n) :: tm, st, nx, nt⟩ (tr ++ [trOf l o ⟨[(x, .int kd a), (y, .int ky 1)], []⟩ []])) (ho : o.op = .binOp .shr t x y t' := by rfl) (hx : S.ev ⟨tm, st, nx, nt⟩ x = some (.int kd a) := by rfl) (hy : S.ev ⟨tm, st, nx, nt⟩ y = some (.int ky 1) := by rfl) (hg : guardV l o ⟨tm, st, nx, nt⟩ = some true := by rfl) (hd : o.dst = some d := by rfl) (hlt : Nat.blt d nt = true := by rfl) (h : a.fdiv 2 = n := by assumption) (hn : InR kd n := by assumption) : ARun P N l K (o :: r) ⟨tm, st, nx, nt⟩ tr := r_val hg hd hlt (law_shr1 ho h hn) (hT hx (hT hy h0)) k
end
end Go.Proofs.YtepnalbefjicgaaGreatDoor.Abs
namespace Go.Proofs.YtepnalbefjicgaaGreatDoor.SortW
open Go.RowKit Mem Abs SortP

def cmpI (a b : Int) : Int := if a < b then -1 else if b < a then 1 else 0
set_option maxRecDepth 100000 in
set_option maxHeartbeats 4000000 in
theorem isNaN_v {a : Int} : ACalls Tryz.prog 66 [.int .i64 a] (.bool false) := by
  refine fun1 tb_ok Tryz.func66 rfl Tryz.ntmps66 Tryz.results66 rfl fun N => ?_
  repeat' (first | refine zt ?_ | (refine isR ?_; first | refine zo ?_ | refine zc6 ?_ | (refine zs6 ?_ ?_ <;> intro hc)) | refine awp_split rfl (fun hb => ?_) (fun hb => ?_) | refine zr ?_ | exact x_le)
  rfl
set_option maxRecDepth 100000 in
set_option maxHeartbeats 4000000 in
theorem compare_v {a b : Int} : ACalls Tryz.prog 33 [.int .i64 a, .int .i64 b] (.int .i64 (cmpI a b)) := by
  have c1 := isNaN_v (a := a)
  have c2 := isNaN_v (a := b)
  unfold cmpI
  by_cases h1 : a < b
  · rw [if_pos h1]
    refine fun2 tb_ok Tryz.func33 rfl Tryz.ntmps33 Tryz.results33 rfl fun N => ?_
    repeat' (first | refine zt ?_ | (refine isR ?_; first | refine zo ?_ | refine zk c1 ?_ | refine zk c2 ?_ | refine zc1 ?_ | refine zc3 ?_ | (refine zs1 ?_ ?_ <;> intro hc) | (refine zs3 ?_ ?_ <;> intro hc)) | refine awp_split rfl (fun hb => ?_) (fun hb => ?_) | refine zr ?_ | exact x_le)
    rfl
  · rw [if_neg h1]
    by_cases h2 : b < a
    · rw [if_pos h2]
      refine fun2 tb_ok Tryz.func33 rfl Tryz.ntmps33 Tryz.results33 rfl fun N => ?_
      repeat' (first | refine zt ?_ | (refine isR ?_; first | refine zo ?_ | refine zk c1 ?_ | refine zk c2 ?_ | refine zc1 ?_ | refine zc3 ?_ | (refine zs1 ?_ ?_ <;> intro hc) | (refine zs3 ?_ ?_ <;> intro hc)) | refine awp_split rfl (fun hb => ?_) (fun hb => ?_) | refine zr ?_ | exact x_le)
      rfl
    · rw [if_neg h2]
      refine fun2 tb_ok Tryz.func33 rfl Tryz.ntmps33 Tryz.results33 rfl fun N => ?_
      repeat' (first | refine zt ?_ | (refine isR ?_; first | refine zo ?_ | refine zk c1 ?_ | refine zk c2 ?_ | refine zc1 ?_ | refine zc3 ?_ | (refine zs1 ?_ ?_ <;> intro hc) | (refine zs3 ?_ ?_ <;> intro hc)) | refine awp_split rfl (fun hb => ?_) (fun hb => ?_) | refine zr ?_ | exact x_le)
      rfl
def orI (a b c : Int) : Int := if a ≠ 0 then a else if b ≠ 0 then b else c
set_option maxRecDepth 100000 in
set_option maxHeartbeats 4000000 in
theorem or_v {a b c : Int} : ACalls Tryz.prog 32 [.fro [.int .i64 a, .int .i64 b, .int .i64 c]] (.int .i64 (orI a b c)) := by
  have hz : [V.int .i64 a, V.int .i64 b, V.int .i64 c].length = 3 := rfl
  unfold orI
  by_cases h1 : a = 0
  · rw [if_neg (by simp [h1])]
    by_cases h2 : b = 0
    · rw [if_neg (by simp [h2])]
      by_cases h3 : c = 0
      · skip
        refine fun1 tb_ok Tryz.func32 rfl Tryz.ntmps32 Tryz.results32 rfl fun N => ?_
        repeat' (first | with_reducible refine rounds_on ?_ | with_reducible refine awp_rounds 4 ?_ | refine zt ?_ | (refine isR ?_; first | refine zo ?_ | refine zA ?_ | refine zL ?_ | refine zc1 ?_ | refine zc6 ?_ | refine zI ?_ | (refine zs1 ?_ ?_ <;> intro hc) | (refine zs6 ?_ ?_ <;> intro hc)) | refine awp_split rfl (fun hb => ?_) (fun hb => ?_) | refine zr ?_ | exact x_le)
        all_goals first | (subst h3; rfl) | (exfalso; omega)
      · skip
        refine fun1 tb_ok Tryz.func32 rfl Tryz.ntmps32 Tryz.results32 rfl fun N => ?_
        repeat' (first | with_reducible refine rounds_on ?_ | with_reducible refine awp_rounds 4 ?_ | refine zt ?_ | (refine isR ?_; first | refine zo ?_ | refine zA ?_ | refine zL ?_ | refine zc1 ?_ | refine zc6 ?_ | refine zI ?_ | (refine zs1 ?_ ?_ <;> intro hc) | (refine zs6 ?_ ?_ <;> intro hc)) | refine awp_split rfl (fun hb => ?_) (fun hb => ?_) | refine zr ?_ | exact x_le)
        all_goals first | rfl | (exfalso; omega)
    · rw [if_pos h2]
      refine fun1 tb_ok Tryz.func32 rfl Tryz.ntmps32 Tryz.results32 rfl fun N => ?_
      repeat' (first | with_reducible refine rounds_on ?_ | with_reducible refine awp_rounds 4 ?_ | refine zt ?_ | (refine isR ?_; first | refine zo ?_ | refine zA ?_ | refine zL ?_ | refine zc1 ?_ | refine zc6 ?_ | refine zI ?_ | (refine zs1 ?_ ?_ <;> intro hc) | (refine zs6 ?_ ?_ <;> intro hc)) | refine awp_split rfl (fun hb => ?_) (fun hb => ?_) | refine zr ?_ | exact x_le)
      all_goals first | rfl | (exfalso; omega)
  · rw [if_pos h1]
    refine fun1 tb_ok Tryz.func32 rfl Tryz.ntmps32 Tryz.results32 rfl fun N => ?_
    repeat' (first | with_reducible refine rounds_on ?_ | with_reducible refine awp_rounds 4 ?_ | refine zt ?_ | (refine isR ?_; first | refine zo ?_ | refine zA ?_ | refine zL ?_ | refine zc1 ?_ | refine zc6 ?_ | refine zI ?_ | (refine zs1 ?_ ?_ <;> intro hc) | (refine zs6 ?_ ?_ <;> intro hc)) | refine awp_split rfl (fun hb => ?_) (fun hb => ?_) | refine zr ?_ | exact x_le)
    all_goals first | rfl | (exfalso; omega)
def cz (x y : Cookie) : Int := orI (cmpI y.path.length x.path.length) (cmpI x.created y.created) (cmpI x.no y.no)
def ckLt (x y : Cookie) : Bool := decide (cz x y < 0)
set_option maxRecDepth 100000 in
set_option maxHeartbeats 4000000 in
theorem cmp_v {x y : Cookie} : ACalls Tryz.prog 31 [x.v, y.v] (.int .i64 (cz x y)) := by
  have c1 := compare_v (a := y.path.length) (b := x.path.length)
  have c2 := compare_v (a := x.created) (b := y.created)
  have c3 := compare_v (a := x.no) (b := y.no)
  have c4 := or_v (a := cmpI y.path.length x.path.length) (b := cmpI x.created y.created) (c := cmpI x.no y.no)
  refine fun2 tb_ok Tryz.func31 rfl Tryz.ntmps31 Tryz.results31 rfl fun N => ?_
  repeat' (first | refine zt ?_ | (refine isR ?_; first | refine zo ?_ | refine zk c1 ?_ | refine zk c2 ?_ | refine zk c3 ?_ | refine zk c4 ?_ | refine x_bs tb_ok ?_ | refine zL ?_) | refine awp_split rfl (fun hb => ?_) (fun hb => ?_) | refine zr ?_ | exact x_le)
  rfl
abbrev CK : Nat := 26
abbrev rowC (L : List Cookie) : Blk := .els CK 13 (L.map Cookie.v)
abbrev fnC : V := .fn (.func 31) [] []
set_option maxRecDepth 100000 in
set_option maxHeartbeats 4000000 in
theorem swR_v {L : List Cookie} {a b n len : Nat} (hl : L.length = len) (hL : len ≤ 140737488355328) (h1 : a + n ≤ len) (h2 : b + n ≤ len) : MCalls Tryz.prog 116 [.own 0 0 len, .int .i64 (a : Int), .int .i64 (b : Int), .int .i64 (n : Int), fnC] [rowC L] (.tup []) [some (rowC (swR n a b L))] := by
  refine mfun tb_ok Tryz.func116 rfl Tryz.ntmps116 Tryz.results116 rfl rfl rfl rfl fun N pl => ?_
  repeat' (first | refine zt ?_ | (refine isR ?_; first | refine zo ?_ | refine zA ?_ | refine zc1 ?_ | refine zI ?_ | (refine zs1 ?_ ?_ <;> intro hc)) | refine awp_split rfl (fun hb => ?_) (fun hb => ?_) | refine zr ?_ | exact x_le)
  refine awp_while (α := Nat × List Cookie) (fun x => ⟨[(0, .own 0 0 len), (1, .int .i64 (a : Int)), (2, .int .i64 (b : Int)), (3, .int .i64 (n : Int)), (10, .int .i64 (x.1 : Int))], [(0, some (rowC x.2))], 1, 38⟩) (fun x => x.1 ≤ n ∧ x.2.length = len ∧ swR (n - x.1) (a + x.1) (b + x.1) x.2 = swR n a b L) (fun x => n - x.1) (0, L) (by exact x_le) ⟨Nat.zero_le _, hl, rfl⟩ ?_
  rintro ⟨i, M⟩ ⟨h3, h4, h5⟩
  dsimp only at h3 h4 h5 ⊢
  by_cases hi : i < n
  · have e1 : M[a + i]? = some M[a + i] := List.getElem?_eq_getElem (by omega)
    have e2 : M[b + i]? = some M[b + i] := List.getElem?_eq_getElem (by omega)
    have hsw : swapF M (a + i) (b + i) = (M.set (a + i) M[b + i]).set (b + i) M[a + i] := by unfold swapF; rw [e1, e2]
    generalize M[a + i] = x at *
    generalize M[b + i] = y at *
    have e3 : (M.set (a + i) y)[b + i]? = some ((M.set (a + i) y)[b + i]'(by simp; omega)) := List.getElem?_eq_getElem _
    generalize (M.set (a + i) y)[b + i]'(by simp; omega) = z at e3
    repeat' (first | refine zt ?_ | (refine isR ?_; first | refine zo ?_ | refine x_ldI Cookie.v (b + i) tb_ok ?_ | refine x_ldI Cookie.v (a + i) tb_ok ?_ | refine x_stI Cookie.v (a1 := y) (a + i) tb_ok ?_ | refine x_stI Cookie.v (a1 := x) (b + i) tb_ok ?_ | refine zA ?_ | refine zc1 ?_ | refine zI ?_ | (refine zs1 ?_ ?_ <;> intro hc)) | refine awp_split rfl (fun hb => ?_) (fun hb => ?_) | refine zr ?_ | exact x_le)
    refine ⟨(i + 1, (M.set (a + i) y).set (b + i) x), ⟨by show i + 1 ≤ n; omega, by simp [h4], ?_⟩, by show n - (i + 1) < n - i; omega, ?_⟩
    · show swR (n - (i + 1)) (a + (i + 1)) (b + (i + 1)) _ = _
      rw [← h5, ← hsw, show n - i = (n - (i + 1)) + 1 by omega, swR]
      rfl
    · exact (by exact x_le)
  · obtain rfl : i = n := by omega
    rw [Nat.sub_self, swR] at h5
    rw [← h5]
    repeat' (first | refine zt ?_ | (refine isR ?_; first | refine zo ?_ | refine zA ?_ | refine zc1 ?_ | refine zI ?_ | (refine zs1 ?_ ?_ <;> intro hc)) | refine awp_split rfl (fun hb => ?_) (fun hb => ?_) | refine x_mret [0] ?_ ?_ | refine x_mnor [0] ?_ ?_ | refine zr ?_ | exact x_le)
    · rfl
    · exact .on (.same (nl_map fun _ => rfl)) .nil
set_option maxRecDepth 100000 in
set_option maxHeartbeats 4000000 in
theorem rot_v {L : List Cookie} {a m b len : Nat} (hl : L.length = len) (hL : len ≤ 140737488355328) (h1 : a < m) (h2 : m < b) (h3 : b ≤ len) : MCalls Tryz.prog 101 [.own 0 0 len, .int .i64 (a : Int), .int .i64 (m : Int), .int .i64 (b : Int), fnC] [rowC L] (.tup []) [some (rowC (rotF (b - a) L m (m - a) (b - m)))] := by
  refine mfun tb_ok Tryz.func101 rfl Tryz.ntmps101 Tryz.results101 rfl rfl rfl rfl fun N pl => ?_
  repeat' (first | refine zt ?_ | (refine isR ?_; first | refine zo ?_ | refine zA ?_ | refine zc3 ?_ | refine zc6 ?_ | (refine zs3 ?_ ?_ <;> intro hc) | (refine zs6 ?_ ?_ <;> intro hc)) | refine awp_split rfl (fun hb => ?_) (fun hb => ?_) | refine zr ?_ | exact x_le)
  refine awp_while (α := (Nat × Nat) × List Cookie) (fun x => ⟨[(0, .own 0 0 len), (2, .int .i64 (m : Int)), (4, fnC), (10, .int .i64 (x.1.1 : Int)), (11, .int .i64 (x.1.2 : Int))], [(0, some (rowC x.2))], 1, 58⟩) (fun x => 0 < x.1.1 ∧ 0 < x.1.2 ∧ x.1.1 ≤ m ∧ m + x.1.2 ≤ len ∧ x.2.length = len ∧ ∃ f, x.1.1 + x.1.2 ≤ f ∧ rotF f x.2 m x.1.1 x.1.2 = rotF (b - a) L m (m - a) (b - m)) (fun x => x.1.1 + x.1.2) ((m - a, b - m), L) ?h0 ⟨by dsimp only; omega, by dsimp only; omega, by dsimp only; omega, by dsimp only; omega, hl, b - a, by dsimp only; omega, rfl⟩ ?_
  case h0 =>
    have e1 : ((m - a : Nat) : Int) = (m : Int) - (a : Int) := by omega
    have e2 : ((b - m : Nat) : Int) = (b : Int) - (m : Int) := by omega
    dsimp only
    rw [e1, e2]
    exact (by exact x_le)
  rintro ⟨⟨i, j⟩, M⟩ ⟨g1, g2, g3, g4, g5, f, g6, g7⟩
  dsimp only at g1 g2 g3 g4 g5 g6 g7 ⊢
  obtain ⟨f, rfl⟩ : ∃ q, f = q + 1 := ⟨f - 1, by omega⟩
  have e0 : ((m - i : Nat) : Int) = (m : Int) - (i : Int) := by omega
  by_cases hij : i = j
  · subst hij
    rw [rotF, if_pos rfl] at g7
    have c1 := swR_v (L := M) (a := m - i) (b := m) (n := i) g5 hL (by omega) (by omega)
    rw [g7, e0] at c1
    repeat' (first | refine zt ?_ | (refine isR ?_; first | refine zo ?_ | refine x_m [0] [] (c1 _) ?_ | refine x_m0 [0] [] (c1 _) ?_ | refine x_m [0] [] (c1) ?_ | refine x_m0 [0] [] (c1) ?_ | refine zA ?_ | refine zc3 ?_ | refine zc6 ?_ | (refine zs3 ?_ ?_ <;> intro hc) | (refine zs6 ?_ ?_ <;> intro hc)) | refine awp_split rfl (fun hb => ?_) (fun hb => ?_) | refine x_mret [0] ?_ ?_ | refine x_mnor [0] ?_ ?_ | refine zr ?_ | exact x_le)
    · rfl
    · exact .on (.same (nl_map fun _ => rfl)) .nil
  · rw [rotF, if_neg hij] at g7
    by_cases h : j < i
    · rw [if_pos h] at g7
      have c1 := swR_v (L := M) (a := m - i) (b := m) (n := j) g5 hL (by omega) (by omega)
      rw [e0] at c1
      have e1 : ((i - j : Nat) : Int) = (i : Int) - (j : Int) := by omega
      repeat' (first | refine zt ?_ | (refine isR ?_; first | refine zo ?_ | refine x_m [0] [] (c1 _) ?_ | refine x_m0 [0] [] (c1 _) ?_ | refine x_m [0] [] (c1) ?_ | refine x_m0 [0] [] (c1) ?_ | refine zA ?_ | refine zc3 ?_ | refine zc6 ?_ | (refine zs3 ?_ ?_ <;> intro hc) | (refine zs6 ?_ ?_ <;> intro hc)) | refine awp_split rfl (fun hb => ?_) (fun hb => ?_) | refine zr ?_ | exact x_le)
      refine ⟨((i - j, j), swR j (m - i) m M), ⟨by dsimp only; omega, g2, by dsimp only; omega, g4, by rw [← g5]; exact swR_len _ _ _ _, f, by dsimp only; omega, g7⟩, by dsimp only; omega, ?_⟩
      dsimp only
      rw [e1]
      exact (by exact x_le)
    · rw [if_neg h] at g7
      have c1 := swR_v (L := M) (a := m - i) (b := m + j - i) (n := i) g5 hL (by omega) (by omega)
      have e2 : ((m + j - i : Nat) : Int) = (m : Int) + (j : Int) - (i : Int) := by omega
      rw [e0, e2] at c1
      have e1 : ((j - i : Nat) : Int) = (j : Int) - (i : Int) := by omega
      repeat' (first | refine zt ?_ | (refine isR ?_; first | refine zo ?_ | refine x_m [0] [] (c1 _) ?_ | refine x_m0 [0] [] (c1 _) ?_ | refine x_m [0] [] (c1) ?_ | refine x_m0 [0] [] (c1) ?_ | refine zA ?_ | refine zc3 ?_ | refine zc6 ?_ | (refine zs3 ?_ ?_ <;> intro hc) | (refine zs6 ?_ ?_ <;> intro hc)) | refine awp_split rfl (fun hb => ?_) (fun hb => ?_) | refine zr ?_ | exact x_le)
      refine ⟨((i, j - i), swR i (m - i) (m + j - i) M), ⟨g1, by dsimp only; omega, g3, by dsimp only; omega, by rw [← g5]; exact swR_len _ _ _ _, f, by dsimp only; omega, g7⟩, by dsimp only; omega, ?_⟩
      dsimp only
      rw [e1]
      exact (by exact x_le)
end Go.Proofs.YtepnalbefjicgaaGreatDoor.SortW
end
