/- Texts of the proof, joined: JarM, JarN, JarO, JarD, JarE, JarF, JarG, JarH, JarK, JarS, JarI, JarT, JarJ. -/
import Derived.Test.YtpffdbplcgmilaaGreatDoorG18
import Derived.Test.YtpffdbplcgmilaaGreatDoorG13
import Derived.Test.YtpffdbplcgmilaaGreatDoorG9
import Derived.Test.YtpffdbplcgmilaaGreatDoorG14
import Derived.Test.YtpffdbplcgmilaaGreatDoorG15
section
namespace Go.Proofs.YtpffdbplcgmilaaGreatDoor.JarM
open Go.RowKit Mem Abs Scan JarP JarQ JarA JarB JarC JarL

abbrev TO : Nat := 70
abbrev TP : Nat := 67
abbrev rC (L : List Cookie) : Blk := .els TC 13 (L.map Cookie.v)
abbrev rB : Blk := .els TP 1 [.loc 2 0 0]
abbrev rO (n : Nat) (nx now : Int) : Blk := .els TO 3 [.agg [.own 0 0 n, .int .i64 nx, .int .i64 now]]
abbrev fnD : Abs.V := .fn (.func 176) [] [.loc 1 0 0]
def dead (now : Int) (c : Cookie) : Bool := !decide (now < c.expiry)
set_option maxRecDepth 100000 in
set_option maxHeartbeats 4000000 in
theorem goesLive_v {c : Cookie} {now : Int} : ACalls Tryz.prog 64 [c.v, .int .i64 now] (.bool (decide (now < c.expiry))) := by
  by_cases h : now < c.expiry
  · rw [decide_eq_true h]
    refine fun2 tb_ok Tryz.func64 rfl Tryz.ntmps64 Tryz.results64 rfl fun N => ?_
    repeat' (first | refine zt ?_ | (refine isR ?_; first | refine zo ?_ | refine zc3 ?_ | (refine zs3 ?_ ?_ <;> intro hc)) | refine awp_split rfl (fun hb => ?_) (fun hb => ?_) | refine zr ?_ | exact x_le)
    all_goals rfl
  · rw [decide_eq_false h]
    refine fun2 tb_ok Tryz.func64 rfl Tryz.ntmps64 Tryz.results64 rfl fun N => ?_
    repeat' (first | refine zt ?_ | (refine isR ?_; first | refine zo ?_ | refine zc3 ?_ | (refine zs3 ?_ ?_ <;> intro hc)) | refine awp_split rfl (fun hb => ?_) (fun hb => ?_) | refine zr ?_ | exact x_le)
    all_goals rfl
set_option maxRecDepth 100000 in
set_option maxHeartbeats 4000000 in
theorem dead_m {c : Cookie} {M : List Cookie} {n : Nat} {nx now : Int} : MCalls Tryz.prog 176 [c.v, .loc 1 0 0] [rC M, rB, rO n nx now] (.bool (dead now c)) [some (rC M), some rB, some (rO n nx now)] := by
  have c1 := goesLive_v (c := c) (now := now)
  unfold dead
  generalize decide (now < c.expiry) = b at *
  refine mfun tb_ok Tryz.func176 rfl Tryz.ntmps176 Tryz.results176 rfl rfl rfl rfl fun N pl => ?_
  repeat' (first | refine zt ?_ | (refine isR ?_; first | refine zo ?_ | refine zk c1 ?_) | refine awp_split rfl (fun hb => ?_) (fun hb => ?_) | refine x_mret [0, 1, 2] ?_ ?_ | refine x_mnor [0, 1, 2] ?_ ?_ | refine zr ?_ | exact x_le)
  · rfl
  · exact .on (.same (nl_map fun _ => rfl)) (.on (.ren rfl) (.on (.ren rfl) .nil))
set_option maxRecDepth 100000 in
set_option maxHeartbeats 4000000 in
theorem idxDead_m {L : List Cookie} {n : Nat} {nx now : Int} (hb : L.length ≤ 1000) : MCalls Tryz.prog 177 [.own 0 0 L.length, fnD] [rC L, rB, rO n nx now] (.int .i64 (minI (L.findIdx? (dead now)))) [some (rC L), some rB, some (rO n nx now)] := by
  have hml : (L.map Cookie.v).length = L.length := List.length_map _
  generalize hR : minI (L.findIdx? (dead now)) = R
  refine mfun tb_ok Tryz.func177 rfl Tryz.ntmps177 Tryz.results177 rfl rfl rfl rfl fun N pl => ?_
  repeat' (first | refine zt ?_ | (refine isR ?_; first | refine zo ?_ | refine zA ?_ | refine zL ?_ | refine zc1 ?_ | refine zI ?_ | (refine zs1 ?_ ?_ <;> intro hc)) | refine awp_split rfl (fun hb => ?_) (fun hb => ?_) | refine zr ?_ | exact x_le)
  refine awp_forN (fun k => ⟨[(0, .own 0 0 L.length), (1, fnD), (7, nV L.length), (8, nV k)], [(0, some (rC L)), (1, some rB), (2, some (rO n nx now))], 3, 19⟩) (fun k => k ≤ L.length ∧ ∀ j x, j < k → L[j]? = some x → dead now x = false) L.length 0 (by exact x_le) ⟨Nat.zero_le _, fun j x h => by omega⟩ ?_
  rintro k ⟨hk, hd⟩
  by_cases hk2 : k < L.length
  · have hx : L[k]? = some L[k] := by simp [hk2]
    have c1 := dead_m (c := L[k]) (M := L) (n := n) (nx := nx) (now := now)
    have hfi : dead now L[k] = true → L.findIdx? (dead now) = some k := fun h => by
      rw [List.findIdx?_eq_some_iff_getElem]
      exact ⟨hk2, h, fun j hj => by simp [hd j (L[j]'(by omega)) hj (by simp [show j < L.length by omega])]⟩
    generalize L[k] = c at *
    have hm := at_map (f := Cookie.v) hx
    by_cases h : dead now c = true
    · rw [hfi h] at hR
      have hR : (k : Int) = R := hR
      rw [h] at c1
      repeat' (first | refine zt ?_ | (refine isR ?_; first | refine zo ?_ | refine x_ldI Cookie.v k tb_ok ?_ | refine x_mv [0,1,2] [] (c1 _) ?_ | refine x_m0v [0,1,2] [] (c1 _) ?_ | refine x_mv [0,1,2] [] (c1) ?_ | refine x_m0v [0,1,2] [] (c1) ?_ | refine zA ?_ | refine zL ?_ | refine zc1 ?_ | refine zI ?_ | (refine zs1 ?_ ?_ <;> intro hc)) | refine awp_split rfl (fun hb => ?_) (fun hb => ?_) | refine x_mret [0, 1, 2] ?_ ?_ | refine x_mnor [0, 1, 2] ?_ ?_ | refine zr ?_ | exact x_le)
      · rw [← hR]; rfl
      · exact .on (.same (nl_map fun _ => rfl)) (.on (.ren rfl) (.on (.ren rfl) .nil))
    · have h : dead now c = false := by simpa using h
      rw [h] at c1
      repeat' (first | refine zt ?_ | (refine isR ?_; first | refine zo ?_ | refine x_ldI Cookie.v k tb_ok ?_ | refine x_mv [0,1,2] [] (c1 _) ?_ | refine x_m0v [0,1,2] [] (c1 _) ?_ | refine x_mv [0,1,2] [] (c1) ?_ | refine x_m0v [0,1,2] [] (c1) ?_ | refine zA ?_ | refine zL ?_ | refine zc1 ?_ | refine zI ?_ | (refine zs1 ?_ ?_ <;> intro hc)) | refine awp_split rfl (fun hb => ?_) (fun hb => ?_) | refine x_mret [0, 1, 2] ?_ ?_ | refine x_mnor [0, 1, 2] ?_ ?_ | refine zr ?_ | exact x_le)
      refine ⟨⟨by omega, fun j x hj hx2 => ?_⟩, hk2, ?_⟩
      · by_cases e : j = k
        · subst e; rw [hx] at hx2; cases hx2; exact h
        · exact hd j x (by omega) hx2
      · exact (by exact x_len [0, 1, 2])
  · obtain rfl : k = L.length := by omega
    have hn : L.findIdx? (dead now) = none := by
      rw [List.findIdx?_eq_none_iff]
      intro x hx
      obtain ⟨j, hj⟩ := List.mem_iff_getElem?.1 hx
      rw [hd j x (List.getElem?_eq_some_iff.1 hj).1 hj]
    rw [hn] at hR
    subst hR
    repeat' (first | refine zt ?_ | (refine isR ?_; first | refine zo ?_ | refine zA ?_ | refine zL ?_ | refine zc1 ?_ | refine zI ?_ | (refine zs1 ?_ ?_ <;> intro hc)) | refine awp_split rfl (fun hb => ?_) (fun hb => ?_) | refine x_mret [0, 1, 2] ?_ ?_ | refine x_mnor [0, 1, 2] ?_ ?_ | refine zr ?_ | exact x_le)
    · rfl
    · exact .on (.same (nl_map fun _ => rfl)) (.on (.ren rfl) (.on (.ren rfl) .nil))
theorem live_dead (now : Int) (L : List Cookie) : liveF now L = L.filter (fun c => !dead now c) := by
  unfold liveF dead
  simp
abbrev stD (n : Nat) (nx now : Int) (len j i : Nat) (M : List Cookie) : S := ⟨[(0, .own 0 0 len), (1, fnD), (5, nV i), (6, nV j)], [(0, some (rC M)), (1, some rB), (2, some (rO n nx now))], 3, 42⟩
set_option maxRecDepth 100000 in
set_option maxHeartbeats 4000000 in
theorem delDead_m {L : List Cookie} {n : Nat} {nx now : Int} (hb : L.length ≤ 1000) : MCalls Tryz.prog 175 [.own 0 0 L.length, fnD] [rC L, rB, rO n nx now] (.own 0 0 (liveF now L).length) [some (rC (liveF now L)), some rB, some (rO n nx now)] := by
  have hml : (L.map Cookie.v).length = L.length := List.length_map _
  have c1 := idxDead_m (n := n) (nx := nx) (now := now) hb
  cases hf : L.findIdx? (dead now) with
  | none =>
    rw [hf] at c1
    change MCalls _ _ _ _ (.int .i64 (-1)) _ at c1
    have e : liveF now L = L := by
      rw [live_dead, List.filter_eq_self]
      intro c hc
      rw [List.findIdx?_eq_none_iff] at hf
      simp [hf c hc]
    rw [e]
    refine mfun tb_ok Tryz.func175 rfl Tryz.ntmps175 Tryz.results175 rfl rfl rfl rfl fun N pl => ?_
    repeat' (first | refine zt ?_ | (refine isR ?_; first | refine zo ?_ | refine x_m [0,1,2] [] (c1 _) ?_ | refine x_m0 [0,1,2] [] (c1 _) ?_ | refine x_m [0,1,2] [] (c1) ?_ | refine x_m0 [0,1,2] [] (c1) ?_ | refine zA ?_ | refine zL ?_ | refine zc1 ?_ | refine zc5 ?_ | refine zI ?_ | refine zS ?_ | (refine zs1 ?_ ?_ <;> intro hc) | (refine zs5 ?_ ?_ <;> intro hc)) | refine awp_split rfl (fun hb => ?_) (fun hb => ?_) | refine x_mret [0, 1, 2] ?_ ?_ | refine x_mnor [0, 1, 2] ?_ ?_ | refine zr ?_ | exact x_le)
    · rfl
    · exact .on (.same (nl_map fun _ => rfl)) (.on (.ren rfl) (.on (.ren rfl) .nil))
  | some i0 =>
    rw [hf] at c1
    change MCalls _ _ _ _ (.int .i64 (i0 : Int)) _ at c1
    obtain ⟨hi0, hd0, hlow⟩ := List.findIdx?_eq_some_iff_getElem.1 hf
    have ht0 : L.take i0 = liveF now (L.take (i0 + 1)) := by
      have hx : L[i0]? = some L[i0] := by simp [hi0]
      rw [List.take_add_one, hx, live_dead, List.filter_append]
      rw [List.filter_eq_self.2 fun c hc => by
        obtain ⟨j, hj, rfl⟩ := List.mem_iff_getElem.1 hc
        have hj2 : j < i0 := by simp at hj; omega
        have := hlow j hj2
        simpa using this]
      simp [hd0]
    refine mfun tb_ok Tryz.func175 rfl Tryz.ntmps175 Tryz.results175 rfl rfl rfl rfl fun N pl => ?_
    repeat' (first | refine zt ?_ | (refine isR ?_; first | refine zo ?_ | refine x_m [0,1,2] [] (c1 _) ?_ | refine x_m0 [0,1,2] [] (c1 _) ?_ | refine x_m [0,1,2] [] (c1) ?_ | refine x_m0 [0,1,2] [] (c1) ?_ | refine zA ?_ | refine zL ?_ | refine zc1 ?_ | refine zc5 ?_ | refine zI ?_ | refine zS ?_ | (refine zs1 ?_ ?_ <;> intro hc) | (refine zs5 ?_ ?_ <;> intro hc)) | refine awp_split rfl (fun hb => ?_) (fun hb => ?_) | refine zr ?_ | exact x_le)
    refine awp_whileN (α := Nat × Nat × List Cookie) (fun x => stD n nx now L.length x.1 x.2.1 x.2.2) (fun x => x.1 ≤ L.length ∧ x.2.1 < x.1 ∧ x.2.2.length = L.length ∧ x.2.2.take x.2.1 = liveF now (L.take x.1) ∧ x.2.2.drop x.1 = L.drop x.1 ∧ x.2.1 = (liveF now (L.take x.1)).length) (fun x => L.length - x.1) (i0 + 1, i0, L) (by exact x_le) ⟨by dsimp only; omega, by dsimp only; omega, rfl, ht0, rfl, by dsimp only; rw [← ht0, List.length_take]; omega⟩ ?_
    rintro ⟨j, i, M⟩ ⟨g1, g2, g3, g4, g5, g6⟩
    dsimp only at g1 g2 g3 g4 g5 g6 ⊢
    have hmM : (M.map Cookie.v).length = L.length := by rw [List.length_map, g3]
    by_cases hj : j < L.length
    · have hx : L[j]? = some L[j] := by simp [hj]
      have hxM : M[j]? = some L[j] := by
        have := congrArg (fun q => q[0]?) g5
        simpa [hj] using this
      have hyM : M[i]? = some (M[i]'(by omega)) := by simp [show i < M.length by omega]
      have ht : liveF now (L.take (j + 1)) = liveF now (L.take j) ++ if now < (L[j]).expiry then [L[j]] else [] := by
        unfold liveF
        rw [List.take_add_one, hx, List.filter_append]
        congr 1
        by_cases h : now < (L[j]).expiry <;> simp [h]
      have c2 := fun K => dead_m (c := L[j]) (M := K) (n := n) (nx := nx) (now := now)
      generalize M[i]'(by omega) = d at *
      generalize L[j] = c at *
      generalize hE1 : liveF now (L.take (j + 1)) = E1 at *
      generalize liveF now (L.take j) = E at *
      have hset : (M.set i c).take (i + 1) = M.take i ++ [c] := by
        rw [List.take_add_one, List.take_set_of_le (Nat.le_refl _), List.getElem?_set, if_pos rfl, if_pos (by omega)]
        rfl
      have hdrop : (M.set i c).drop (j + 1) = L.drop (j + 1) := by
        rw [List.drop_set_of_lt (by omega), ← List.drop_drop, g5, List.drop_drop]
      have hdrop2 : M.drop (j + 1) = L.drop (j + 1) := by rw [← List.drop_drop, g5, List.drop_drop]
      by_cases h : now < c.expiry
      · rw [if_pos h] at ht
        have c2 := c2 M
        rw [show dead now c = false by unfold dead; rw [decide_eq_true h]; rfl] at c2
        repeat' (first | refine zt ?_ | (refine isR ?_; first | refine zo ?_ | refine x_ldI Cookie.v j tb_ok ?_ | refine x_mv [0,1,2] [] (c2 _) ?_ | refine x_m0v [0,1,2] [] (c2 _) ?_ | refine x_mv [0,1,2] [] (c2) ?_ | refine x_m0v [0,1,2] [] (c2) ?_ | refine x_stI Cookie.v (a1 := c) i tb_ok ?_ | refine zA ?_ | refine zL ?_ | refine zc1 ?_ | refine zc5 ?_ | refine zI ?_ | refine zS ?_ | (refine zs1 ?_ ?_ <;> intro hc) | (refine zs5 ?_ ?_ <;> intro hc)) | refine awp_split rfl (fun hb => ?_) (fun hb => ?_) | refine zr ?_ | exact x_le)
        refine ⟨(j + 1, i + 1, M.set i c), ⟨by dsimp only; omega, by dsimp only; omega, by simp [g3], ?_, hdrop, ?_⟩, by dsimp only; omega, ?_⟩
        · show (M.set i c).take (i + 1) = liveF now (L.take (j + 1))
          rw [hE1, hset, g4, ht]
        · show i + 1 = (liveF now (L.take (j + 1))).length
          rw [hE1, ht, List.length_append, ← g6]; rfl
        · exact (by exact x_len [0, 1, 2])
      · rw [if_neg h, List.append_nil] at ht
        have c2 := c2 M
        rw [show dead now c = true by unfold dead; rw [decide_eq_false h]; rfl] at c2
        repeat' (first | refine zt ?_ | (refine isR ?_; first | refine zo ?_ | refine x_ldI Cookie.v j tb_ok ?_ | refine x_mv [0,1,2] [] (c2 _) ?_ | refine x_m0v [0,1,2] [] (c2 _) ?_ | refine x_mv [0,1,2] [] (c2) ?_ | refine x_m0v [0,1,2] [] (c2) ?_ | refine zA ?_ | refine zL ?_ | refine zc1 ?_ | refine zc5 ?_ | refine zI ?_ | refine zS ?_ | (refine zs1 ?_ ?_ <;> intro hc) | (refine zs5 ?_ ?_ <;> intro hc)) | refine awp_split rfl (fun hb => ?_) (fun hb => ?_) | refine zr ?_ | exact x_le)
        refine ⟨(j + 1, i, M), ⟨by dsimp only; omega, by dsimp only; omega, g3, ?_, hdrop2, ?_⟩, by dsimp only; omega, ?_⟩
        · show M.take i = liveF now (L.take (j + 1))
          rw [hE1, g4, ht]
        · show i = (liveF now (L.take (j + 1))).length
          rw [hE1, ht]; exact g6
        · exact (by exact x_len [0, 1, 2])
    · obtain rfl : j = L.length := by omega
      rw [List.take_length] at g4 g6
      generalize liveF now L = E at *
      have g4 : M.take (0 + i) = E := by rw [Nat.zero_add]; exact g4
      subst g6
      repeat' (first | refine zt ?_ | (refine isR ?_; first | refine zo ?_ | refine x_slOf tb_ok ?_ | refine x_clear Cookie.v E tb_ok ?_ | refine x_slOt tb_ok ?_ | refine zA ?_ | refine zL ?_ | refine zc1 ?_ | refine zc5 ?_ | refine zI ?_ | refine zS ?_ | (refine zs1 ?_ ?_ <;> intro hc) | (refine zs5 ?_ ?_ <;> intro hc)) | refine awp_split rfl (fun hb => ?_) (fun hb => ?_) | refine x_mret [0, 1, 2] ?_ ?_ | refine x_mnor [0, 1, 2] ?_ ?_ | refine zr ?_ | exact x_le)
      · rfl
      · exact .on (.same (nl_map fun _ => rfl)) (.on (.ren rfl) (.on (.ren rfl) .nil))
set_option maxRecDepth 100000 in
set_option maxHeartbeats 4000000 in
theorem expire_m {L : List Cookie} {nx now : Int} (hb : L.length ≤ 1000) : MCalls Tryz.prog 139 [.loc 1 0 0] [rC L, rO L.length nx now] (.tup []) [some (rC (liveF now L)), some (rO (liveF now L).length nx now)] := by
  have c1 := delDead_m (n := L.length) (nx := nx) (now := now) hb
  generalize liveF now L = E at *
  refine mfun tb_ok Tryz.func139 rfl Tryz.ntmps139 Tryz.results139 rfl rfl rfl rfl fun N pl => ?_
  repeat' (first | refine zt ?_ | (refine isR ?_; first | refine x_far [1] tb_ok rfl ?_ | refine zn ?_ | refine x_mK [0,2,1] [] [2,1] (c1 _) ?_ | refine x_mK0 [0,2,1] [] [2,1] (c1 _) ?_ | refine x_mK [0,2,1] [] [2,1] (c1) ?_ | refine x_mK0 [0,2,1] [] [2,1] (c1) ?_) | refine awp_split rfl (fun hb => ?_) (fun hb => ?_) | refine x_mret [0, 1] ?_ ?_ | refine x_mnor [0, 1] ?_ ?_ | refine zr ?_ | exact x_le)
  · rfl
  · exact .on (.same (nl_map fun _ => rfl)) (.on (.ren rfl) .nil)
end Go.Proofs.YtpffdbplcgmilaaGreatDoor.JarM
end

section
namespace Go.Proofs.YtpffdbplcgmilaaGreatDoor.JarN
open Go.RowKit Mem Abs Scan JarP JarQ JarA JarB JarC JarL JarM

abbrev fnL : Abs.V := .fn (.func 178) [] [.loc 1 0 0]
abbrev rK (c : Cookie) : Blk := .els TC 13 [c.v]
set_option maxRecDepth 100000 in
set_option maxHeartbeats 4000000 in
theorem same_m {c d : Cookie} {M : List Cookie} : MCalls Tryz.prog 178 [d.v, .loc 1 0 0] [rC M, rK c] (.bool (sameK d c)) [some (rC M), some (rK c)] := by
  have c1 := keyOf_v (c := d)
  have c2 := keyOf_v (c := c)
  have he : eqK ekK (keyT d) (keyT c) = sameK d c := by
    rw [eq_key]
    unfold sameK
    simp only [eq_comm]
  generalize sameK d c = b at *
  cases b
  · have hq : eqF [strT d.name, strT d.domain, strT d.path] [strT c.name, strT c.domain, strT c.path] ekK.flds = false := he
    refine mfun tb_ok Tryz.func178 rfl Tryz.ntmps178 Tryz.results178 rfl rfl rfl rfl fun N pl => ?_
    repeat' (first | refine zt ?_ | (refine isR ?_; first | refine zo ?_ | refine zk c1 ?_ | refine zk c2 ?_ | refine zc5 ?_ | (refine zs5 ?_ ?_ <;> intro hc)) | refine awp_split rfl (fun hb => ?_) (fun hb => ?_) | refine x_mret [0, 1] ?_ ?_ | refine x_mnor [0, 1] ?_ ?_ | refine zr ?_ | exact x_le)
    · rfl
    · exact .on (.same (nl_map fun _ => rfl)) (.on (.same rfl) .nil)
  · have hq : eqF [strT d.name, strT d.domain, strT d.path] [strT c.name, strT c.domain, strT c.path] ekK.flds = true := he
    refine mfun tb_ok Tryz.func178 rfl Tryz.ntmps178 Tryz.results178 rfl rfl rfl rfl fun N pl => ?_
    repeat' (first | refine zt ?_ | (refine isR ?_; first | refine zo ?_ | refine zk c1 ?_ | refine zk c2 ?_ | refine zc5 ?_ | (refine zs5 ?_ ?_ <;> intro hc)) | refine awp_split rfl (fun hb => ?_) (fun hb => ?_) | refine x_mret [0, 1] ?_ ?_ | refine x_mnor [0, 1] ?_ ?_ | refine zr ?_ | exact x_le)
    · rfl
    · exact .on (.same (nl_map fun _ => rfl)) (.on (.same rfl) .nil)
set_option maxRecDepth 100000 in
set_option maxHeartbeats 4000000 in
theorem idxSame_m {L : List Cookie} {c : Cookie} (hb : L.length ≤ 1000) : MCalls Tryz.prog 177 [.own 0 0 L.length, fnL] [rC L, rK c] (.int .i64 (minI (L.findIdx? (fun x => sameK x c)))) [some (rC L), some (rK c)] := by
  have hml : (L.map Cookie.v).length = L.length := List.length_map _
  generalize hR : minI (L.findIdx? (fun x => sameK x c)) = R
  refine mfun tb_ok Tryz.func177 rfl Tryz.ntmps177 Tryz.results177 rfl rfl rfl rfl fun N pl => ?_
  repeat' (first | refine zt ?_ | (refine isR ?_; first | refine zo ?_ | refine zA ?_ | refine zL ?_ | refine zc1 ?_ | refine zI ?_ | (refine zs1 ?_ ?_ <;> intro hc)) | refine awp_split rfl (fun hb => ?_) (fun hb => ?_) | refine zr ?_ | exact x_le)
  refine awp_forN (fun k => ⟨[(0, .own 0 0 L.length), (1, fnL), (7, nV L.length), (8, nV k)], [(0, some (rC L)), (1, some (rK c))], 2, 19⟩) (fun k => k ≤ L.length ∧ ∀ j x, j < k → L[j]? = some x → sameK x c = false) L.length 0 (by exact x_le) ⟨Nat.zero_le _, fun j x h => by omega⟩ ?_
  rintro k ⟨hk, hd⟩
  by_cases hk2 : k < L.length
  · have hx : L[k]? = some L[k] := by simp [hk2]
    have c1 := same_m (c := c) (d := L[k]) (M := L)
    have hfi : sameK L[k] c = true → L.findIdx? (fun x => sameK x c) = some k := fun h => by
      rw [List.findIdx?_eq_some_iff_getElem]
      exact ⟨hk2, h, fun j hj => by simp [hd j (L[j]'(by omega)) hj (by simp [show j < L.length by omega])]⟩
    generalize L[k] = d at *
    have hm := at_map (f := Cookie.v) hx
    by_cases h : sameK d c = true
    · rw [hfi h] at hR
      have hR : (k : Int) = R := hR
      rw [h] at c1
      repeat' (first | refine zt ?_ | (refine isR ?_; first | refine zo ?_ | refine x_ldI Cookie.v k tb_ok ?_ | refine x_mv [0,1] [] (c1 _) ?_ | refine x_m0v [0,1] [] (c1 _) ?_ | refine x_mv [0,1] [] (c1) ?_ | refine x_m0v [0,1] [] (c1) ?_ | refine zA ?_ | refine zL ?_ | refine zc1 ?_ | refine zI ?_ | (refine zs1 ?_ ?_ <;> intro hc)) | refine awp_split rfl (fun hb => ?_) (fun hb => ?_) | refine x_mret [0, 1] ?_ ?_ | refine x_mnor [0, 1] ?_ ?_ | refine zr ?_ | exact x_le)
      · rw [← hR]; rfl
      · exact .on (.same (nl_map fun _ => rfl)) (.on (.same rfl) .nil)
    · have h : sameK d c = false := by simpa using h
      rw [h] at c1
      repeat' (first | refine zt ?_ | (refine isR ?_; first | refine zo ?_ | refine x_ldI Cookie.v k tb_ok ?_ | refine x_mv [0,1] [] (c1 _) ?_ | refine x_m0v [0,1] [] (c1 _) ?_ | refine x_mv [0,1] [] (c1) ?_ | refine x_m0v [0,1] [] (c1) ?_ | refine zA ?_ | refine zL ?_ | refine zc1 ?_ | refine zI ?_ | (refine zs1 ?_ ?_ <;> intro hc)) | refine awp_split rfl (fun hb => ?_) (fun hb => ?_) | refine x_mret [0, 1] ?_ ?_ | refine x_mnor [0, 1] ?_ ?_ | refine zr ?_ | exact x_le)
      refine ⟨⟨by omega, fun j x hj hx2 => ?_⟩, hk2, ?_⟩
      · by_cases e : j = k
        · subst e; rw [hx] at hx2; cases hx2; exact h
        · exact hd j x (by omega) hx2
      · exact (by exact x_len [0, 1])
  · obtain rfl : k = L.length := by omega
    have hn : L.findIdx? (fun x => sameK x c) = none := by
      rw [List.findIdx?_eq_none_iff]
      intro x hx
      obtain ⟨j, hj⟩ := List.mem_iff_getElem?.1 hx
      rw [hd j x (List.getElem?_eq_some_iff.1 hj).1 hj]
    rw [hn] at hR
    subst hR
    repeat' (first | refine zt ?_ | (refine isR ?_; first | refine zo ?_ | refine zA ?_ | refine zL ?_ | refine zc1 ?_ | refine zI ?_ | (refine zs1 ?_ ?_ <;> intro hc)) | refine awp_split rfl (fun hb => ?_) (fun hb => ?_) | refine x_mret [0, 1] ?_ ?_ | refine x_mnor [0, 1] ?_ ?_ | refine zr ?_ | exact x_le)
    · rfl
    · exact .on (.same (nl_map fun _ => rfl)) (.on (.same rfl) .nil)
abbrev rOn (k n : Nat) (nx now : Int) : Blk := .els TO 3 [.agg [.own k 0 n, .int .i64 nx, .int .i64 now]]
set_option maxRecDepth 100000 in
set_option maxHeartbeats 4000000 in
theorem layNew_m {L : List Cookie} {c : Cookie} {nx now : Int} (hb : L.length ≤ 1000) (hn : 0 ≤ nx) (hn2 : nx ≤ 1099511627776) (hf : L.findIdx? (fun x => sameK x c) = none) : MCalls Tryz.prog 140 [.loc 1 0 0, c.v] [rC L, rO L.length nx now] (.tup []) [none, some (rOn 2 (L ++ [{ c with no := nx }]).length (nx + 1) now), some (rC (L ++ [{ c with no := nx }]))] := by
  have c1 := idxSame_m (c := c) hb
  have hml : (L.map Cookie.v).length = L.length := List.length_map _
  rw [hf] at c1
  change MCalls _ _ _ _ (.int .i64 (-1)) _ at c1
  refine mfun tb_ok Tryz.func140 rfl Tryz.ntmps140 Tryz.results140 rfl rfl rfl rfl fun N pl => ?_
  repeat' (first | refine zt ?_ | (refine isR ?_; first | refine x_far [3] tb_ok rfl ?_ | refine zn ?_ | refine x_m [0,2] [] (c1 _) ?_ | refine x_m0 [0,2] [] (c1 _) ?_ | refine x_m [0,2] [] (c1) ?_ | refine x_m0 [0,2] [] (c1) ?_ | refine x_app Cookie.v (a1 := ({ c with no := nx })) tb_ok ?_ | refine x_bsO 3 tb_ok ?_ | refine x_bs tb_ok ?_ | refine zA ?_ | refine zc4 ?_ | refine zI ?_ | (refine zs4 ?_ ?_ <;> intro hc)) | refine awp_split rfl (fun hb => ?_) (fun hb => ?_) | refine x_mret [0, 1, 3] ?_ ?_ | refine x_mnor [0, 1, 3] ?_ ?_ | refine zr ?_ | exact x_le)
  all_goals first | rfl | exact .no (.on (.ren rfl) (.on (.same (nl_map fun _ => rfl)) .nil))
set_option maxRecDepth 100000 in
set_option maxHeartbeats 4000000 in
theorem laySame_m {L : List Cookie} {c d : Cookie} {i : Nat} {nx now : Int} (hb : L.length ≤ 1000) (hf : L.findIdx? (fun x => sameK x c) = some i) (hx : L[i]? = some d) : MCalls Tryz.prog 140 [.loc 1 0 0, c.v] [rC L, rO L.length nx now] (.tup []) [some (rC (L.set i { c with created := d.created, no := d.no })), some (rO L.length nx now)] := by
  have c1 := idxSame_m (c := c) hb
  have hml : (L.map Cookie.v).length = L.length := List.length_map _
  rw [hf] at c1
  change MCalls _ _ _ _ (.int .i64 (i : Int)) _ at c1
  obtain ⟨hi, _⟩ := List.getElem?_eq_some_iff.1 hx
  have hm := at_map (f := Cookie.v) hx
  refine mfun tb_ok Tryz.func140 rfl Tryz.ntmps140 Tryz.results140 rfl rfl rfl rfl fun N pl => ?_
  repeat' (first | (refine isR ?_; refine r_val rfl rfl rfl (law_fieldAddr tb_ok rfl rfl rfl rfl rfl) (hT rfl Abs.h0) ?_) | refine zt ?_ | (refine isR ?_; first | refine x_far [3] tb_ok rfl ?_ | refine zn ?_ | refine x_m [0,2] [] (c1 _) ?_ | refine x_m0 [0,2] [] (c1 _) ?_ | refine x_m [0,2] [] (c1) ?_ | refine x_m0 [0,2] [] (c1) ?_ | refine x_ldO Cookie.v i tb_ok ?_ | refine x_stI Cookie.v (a1 := { c with created := d.created, no := d.no }) i tb_ok ?_ | refine x_bsO 3 tb_ok ?_ | refine x_bs tb_ok ?_ | refine zA ?_ | refine zc4 ?_ | refine zI ?_ | (refine zs4 ?_ ?_ <;> intro hc)) | refine awp_split rfl (fun hb => ?_) (fun hb => ?_) | refine x_mret [0, 1] ?_ ?_ | refine x_mnor [0, 1] ?_ ?_ | refine zr ?_ | exact x_le)
  all_goals first | rfl | exact .on (.same (nl_map fun _ => rfl)) (.on (.ren rfl) .nil)
end Go.Proofs.YtpffdbplcgmilaaGreatDoor.JarN
end

section
namespace Go.Proofs.YtpffdbplcgmilaaGreatDoor.JarO
open Go.RowKit Mem Abs Scan JarP JarQ JarA JarB JarC JarL JarM SortW

abbrev rOn (k n : Nat) (nx now : Int) : Blk := .els TO 3 [.agg [.own k 0 n, .int .i64 nx, .int .i64 now]]
abbrev TI : Nat := 3
abbrev rI (l : List Nat) : Blk := .els TI 1 (l.map nV)
def orU (a b : Int) : Int := if a ≠ 0 then a else b
set_option maxRecDepth 100000 in
set_option maxHeartbeats 4000000 in
theorem or2_v {a b : Int} : ACalls Tryz.prog 60 [.fro [.int .i64 a, .int .i64 b]] (.int .i64 (orU a b)) := by
  have hz : [V.int .i64 a, V.int .i64 b].length = 2 := rfl
  unfold orU
  by_cases h : a = 0
  · rw [if_neg (by simp [h])]
    by_cases h2 : b = 0
    · skip
      refine fun1 tb_ok Tryz.func60 rfl Tryz.ntmps60 Tryz.results60 rfl fun N => ?_
      repeat' (first | with_reducible refine rounds_on ?_ | with_reducible refine awp_rounds 3 ?_ | refine zt ?_ | (refine isR ?_; first | refine zo ?_ | refine zA ?_ | refine zL ?_ | refine zc1 ?_ | refine zc6 ?_ | refine zI ?_ | (refine zs1 ?_ ?_ <;> intro hc) | (refine zs6 ?_ ?_ <;> intro hc)) | refine awp_split rfl (fun hb => ?_) (fun hb => ?_) | refine zr ?_ | exact x_le)
      all_goals first | (subst h2; rfl) | (exfalso; omega)
    · skip
      refine fun1 tb_ok Tryz.func60 rfl Tryz.ntmps60 Tryz.results60 rfl fun N => ?_
      repeat' (first | with_reducible refine rounds_on ?_ | with_reducible refine awp_rounds 3 ?_ | refine zt ?_ | (refine isR ?_; first | refine zo ?_ | refine zA ?_ | refine zL ?_ | refine zc1 ?_ | refine zc6 ?_ | refine zI ?_ | (refine zs1 ?_ ?_ <;> intro hc) | (refine zs6 ?_ ?_ <;> intro hc)) | refine awp_split rfl (fun hb => ?_) (fun hb => ?_) | refine zr ?_ | exact x_le)
      all_goals first | rfl | (exfalso; omega)
  · rw [if_pos h]
    refine fun1 tb_ok Tryz.func60 rfl Tryz.ntmps60 Tryz.results60 rfl fun N => ?_
    repeat' (first | with_reducible refine rounds_on ?_ | with_reducible refine awp_rounds 3 ?_ | refine zt ?_ | (refine isR ?_; first | refine zo ?_ | refine zA ?_ | refine zL ?_ | refine zc1 ?_ | refine zc6 ?_ | refine zI ?_ | (refine zs1 ?_ ?_ <;> intro hc) | (refine zs6 ?_ ?_ <;> intro hc)) | refine awp_split rfl (fun hb => ?_) (fun hb => ?_) | refine zr ?_ | exact x_le)
    all_goals first | rfl | (exfalso; omega)
/-- How the program compares two by their use. -/
def cmpU (a b : Cookie) : Int := orU (cmpI a.used b.used) (cmpI a.no b.no)
theorem cmpU_lt (a b : Cookie) : cmpU a b < 0 ↔ lessU a b = true := by
  unfold cmpU orU cmpI lessU
  by_cases h1 : a.used < b.used
  · simp [h1]
  · by_cases h2 : b.used < a.used
    · have : ¬ a.used = b.used := by omega
      simp [h1, h2, this]
    · have : a.used = b.used := by omega
      by_cases h3 : a.no < b.no
      · simp [this, h3]
      · by_cases h4 : b.no < a.no <;> simp [this, h3, h4]
abbrev rBn (k : Nat) : Blk := .els TP 1 [.loc k 0 0]
abbrev fnE (k : Nat) : Abs.V := .fn (.func 180) [] [.loc k 0 0]
set_option maxRecDepth 100000 in
set_option maxHeartbeats 4000000 in
theorem less_m {M : List Cookie} {i k : Nat} {a b : Cookie} {n : Nat} {nx now : Int} (hi : M[i]? = some a) (hk : M[k]? = some b) (hn : n = M.length) : MCalls Tryz.prog 180 [nV i, nV k, .loc 1 0 0] [rC M, rB, rO n nx now] (.int .i64 (cmpU a b)) [some (rC M), some rB, some (rO n nx now)] := by
  have c1 := compare_v (a := a.used) (b := b.used)
  have c2 := compare_v (a := a.no) (b := b.no)
  have c3 := or2_v (a := cmpI a.used b.used) (b := cmpI a.no b.no)
  have hi2 := (List.getElem?_eq_some_iff.1 hi).1
  have hk2 := (List.getElem?_eq_some_iff.1 hk).1
  have hma := at_map (f := Cookie.v) hi
  have hmb := at_map (f := Cookie.v) hk
  unfold cmpU
  refine mfun tb_ok Tryz.func180 rfl Tryz.ntmps180 Tryz.results180 rfl rfl rfl rfl fun N pl => ?_
  repeat' (first | refine zt ?_ | (refine isR ?_; first | refine zo ?_ | refine x_ldI Cookie.v i tb_ok ?_ | refine x_ldI Cookie.v k tb_ok ?_ | refine zk c1 ?_ | refine zk c2 ?_ | refine zk c3 ?_ | refine x_bs tb_ok ?_ | refine zI ?_) | refine awp_split rfl (fun hb => ?_) (fun hb => ?_) | refine x_mret [0, 1, 2] ?_ ?_ | refine x_mnor [0, 1, 2] ?_ ?_ | refine zr ?_ | exact x_le)
  · rfl
  · exact .on (.same (nl_map fun _ => rfl)) (.on (.ren rfl) (.on (.ren rfl) .nil))
/-- The least used among places. -/
def minL (M : List Cookie) (l : List Nat) (m : Nat) : Nat := l.foldl (fun m i => match M[i]?, M[m]? with
  | some a, some b => if lessU a b = true then i else m
  | _, _ => m) m
theorem minL_lt {M : List Cookie} : ∀ {l : List Nat} {m : Nat}, m < M.length → (∀ i ∈ l, i < M.length) → minL M l m < M.length
  | [], _, h, _ => h
  | i :: l, m, h, hl => by
    unfold minL
    rw [List.foldl_cons]
    refine minL_lt (l := l) ?_ fun j hj => hl j (by simp [hj])
    have hi := hl i (by simp)
    split
    · split <;> assumption
    · exact h
theorem minL_snoc {M : List Cookie} {l : List Nat} {m i : Nat} : minL M (l ++ [i]) m = match M[i]?, M[minL M l m]? with
  | some a, some b => if lessU a b = true then i else minL M l m
  | _, _ => minL M l m := by
  unfold minL
  rw [List.foldl_append]
  rfl
set_option maxRecDepth 100000 in
set_option maxHeartbeats 4000000 in
theorem minFunc_m {M : List Cookie} {l : List Nat} {i0 : Nat} {n : Nat} {nx now : Int} (hl : l.length ≤ 1000) (hin : ∀ i ∈ l, i < M.length) (h0 : l[0]? = some i0) (hn : n = M.length) :
    MCalls Tryz.prog 179 [.own 0 0 l.length, fnE 2] [rI l, rC M, rBn 3, rOn 1 n nx now] (nV (minL M (l.drop 1) i0)) [some (rI l), some (rC M), some (rBn 3), some (rOn 1 n nx now)] := by
  have hml : (M.map Cookie.v).length = M.length := List.length_map _
  have hil : (l.map nV).length = l.length := List.length_map _
  have hl0 := (List.getElem?_eq_some_iff.1 h0).1
  have hm0 := at_map (f := nV) h0
  generalize hR : minL M (l.drop 1) i0 = R
  refine mfun tb_ok Tryz.func179 rfl Tryz.ntmps179 Tryz.results179 rfl rfl rfl rfl fun N pl => ?_
  repeat' (first | refine zt ?_ | (refine isR ?_; first | refine zo ?_ | refine x_ldI nV 0 tb_ok ?_ | refine zA ?_ | refine zL ?_ | refine zc1 ?_ | refine zI ?_ | (refine zs1 ?_ ?_ <;> intro hc)) | refine awp_split rfl (fun hb => ?_) (fun hb => ?_) | refine zr ?_ | exact x_le)
  refine awp_forN (fun k => ⟨[(0, .own 0 0 l.length), (1, fnE 2), (5, nV (minL M ((l.take (k + 1)).drop 1) i0)), (6, nV (k + 1))], [(0, some (rI l)), (1, some (rC M)), (2, some (rBn 3)), (3, some (rOn 1 n nx now))], 4, 33⟩) (fun k => k + 1 ≤ l.length) l.length 0 ?_ (by omega) ?_
  · rw [show (l.take (0 + 1)).drop 1 = [] by simp]
    exact (by exact x_le)
  intro k hk
  by_cases hk2 : k + 1 < l.length
  · have hx : l[k + 1]? = some l[k + 1] := by simp [hk2]
    have hi1 := hin l[k + 1] (List.getElem_mem _)
    have hs : (l.take (k + 1 + 1)).drop 1 = (l.take (k + 1)).drop 1 ++ [l[k + 1]] := by
      rw [List.take_add_one, hx, List.drop_append_of_le_length (by rw [List.length_take]; omega)]; rfl
    have hm1 : minL M ((l.take (k + 1)).drop 1) i0 < M.length := minL_lt (hin i0 (List.mem_of_getElem? h0)) fun i hi => hin i (List.mem_of_mem_take (List.mem_of_mem_drop hi))
    have hsn := minL_snoc (M := M) (l := (l.take (k + 1)).drop 1) (m := i0) (i := l[k + 1])
    rw [← hs] at hsn
    generalize l[k + 1] = i at *
    have ha : M[i]? = some M[i] := by simp [hi1]
    generalize minL M ((l.take (k + 1)).drop 1) i0 = m at *
    generalize hm2 : minL M ((l.take (k + 1 + 1)).drop 1) i0 = m2 at *
    have hb : M[m]? = some M[m] := by simp [hm1]
    have c1 := less_m (n := n) (nx := nx) (now := now) ha hb hn
    have hlt := cmpU_lt M[i] M[m]
    rw [ha, hb] at hsn
    dsimp only at hsn
    generalize cmpU M[i] M[m] = q at *
    have hmi := at_map (f := nV) hx
    by_cases g : q < 0
    · rw [if_pos (hlt.1 g)] at hsn
      subst hsn
      repeat' (first | refine zt ?_ | (refine isR ?_; first | refine zo ?_ | refine x_ldI nV (k + 1) tb_ok ?_ | refine x_mv [1,2,3] [] (c1 _) ?_ | refine x_m0v [1,2,3] [] (c1 _) ?_ | refine x_mv [1,2,3] [] (c1) ?_ | refine x_m0v [1,2,3] [] (c1) ?_ | refine zA ?_ | refine zL ?_ | refine zc1 ?_ | refine zI ?_ | (refine zs1 ?_ ?_ <;> intro hc)) | refine awp_split rfl (fun hb => ?_) (fun hb => ?_) | refine zr ?_ | exact x_le)
      refine ⟨by omega, by omega, ?_⟩
      exact (by exact x_len [0, 1, 2, 3])
    · rw [if_neg fun h => g (hlt.2 h)] at hsn
      subst hsn
      repeat' (first | refine zt ?_ | (refine isR ?_; first | refine zo ?_ | refine x_ldI nV (k + 1) tb_ok ?_ | refine x_mv [1,2,3] [] (c1 _) ?_ | refine x_m0v [1,2,3] [] (c1 _) ?_ | refine x_mv [1,2,3] [] (c1) ?_ | refine x_m0v [1,2,3] [] (c1) ?_ | refine zA ?_ | refine zL ?_ | refine zc1 ?_ | refine zI ?_ | (refine zs1 ?_ ?_ <;> intro hc)) | refine awp_split rfl (fun hb => ?_) (fun hb => ?_) | refine zr ?_ | exact x_le)
      refine ⟨by omega, by omega, ?_⟩
      exact (by exact x_len [0, 1, 2, 3])
  · obtain rfl : R = minL M ((l.take (k + 1)).drop 1) i0 := by rw [List.take_of_length_le (by omega), hR]
    generalize minL M ((l.take (k + 1)).drop 1) i0 = m at *
    repeat' (first | refine zt ?_ | (refine isR ?_; first | refine zo ?_ | refine zA ?_ | refine zL ?_ | refine zc1 ?_ | refine zI ?_ | (refine zs1 ?_ ?_ <;> intro hc)) | refine awp_split rfl (fun hb => ?_) (fun hb => ?_) | refine x_mret [0, 1, 2, 3] ?_ ?_ | refine x_mnor [0, 1, 2, 3] ?_ ?_ | refine zr ?_ | exact x_le)
    · rfl
    · exact .on (.same (nl_map fun _ => rfl)) (.on (.same (nl_map fun _ => rfl)) (.on (.ren rfl) (.on (.ren rfl) .nil)))
set_option maxRecDepth 100000 in
set_option maxHeartbeats 4000000 in
theorem delete_m {M : List Cookie} {a : Nat} (hM : M.length ≤ 1000) (ha : a < M.length) : MCalls Tryz.prog 181 [.own 0 0 M.length, nV a, nV (a + 1)] [rC M] (.own 0 0 (M.eraseIdx a).length) [some (rC (M.eraseIdx a))] := by
  have hml : (M.map Cookie.v).length = M.length := List.length_map _
  have he : M.eraseIdx a = M.take a ++ M.drop (a + 1) := List.eraseIdx_eq_take_drop_succ M a
  have hel : (M.eraseIdx a).length = M.length - 1 := List.length_eraseIdx_of_lt ha
  by_cases h : a + 1 < M.length
  · have hq : a + (M.length - (a + 1)) = (M.eraseIdx a).length := by rw [hel]; omega
    have hz : M.take a ++ ((M.drop (0 + (a + 1))).take (M.length - (a + 1)) ++ M.drop (a + (M.length - (a + 1)))) = M.eraseIdx a ++ M.drop (M.length - 1) := by
      have h5 : (M.drop (a + 1)).take (M.length - (a + 1)) = M.drop (a + 1) := List.take_of_length_le (by rw [List.length_drop]; omega)
      rw [he, Nat.zero_add, h5, show a + (M.length - (a + 1)) = M.length - 1 by omega, List.append_assoc]
    have hzl : (M.eraseIdx a ++ M.drop (M.length - 1)).length = M.length := by rw [List.length_append, hel, List.length_drop]; omega
    have hcut : (M.eraseIdx a ++ M.drop (M.length - 1)).take (0 + (a + (M.length - (a + 1)))) = M.eraseIdx a := by rw [Nat.zero_add, hq]; exact List.take_left' rfl
    rw [← hq]
    generalize M.eraseIdx a = E at *
    generalize hZ : E ++ M.drop (M.length - 1) = Z at *
    refine mfun tb_ok Tryz.func181 rfl Tryz.ntmps181 Tryz.results181 rfl rfl rfl rfl fun N pl => ?_
    repeat' (first | refine zt ?_ | (refine isR ?_; first | refine zo ?_ | refine x_sl3 tb_ok ?_ | refine x_slOt tb_ok ?_ | refine x_slOf tb_ok ?_ | refine x_appIn Cookie.v Z tb_ok ?_ | refine x_slOm tb_ok ?_ | refine x_clear Cookie.v E tb_ok ?_ | refine zL ?_ | refine zc5 ?_ | refine zS ?_ | (refine zs5 ?_ ?_ <;> intro hc)) | refine awp_split rfl (fun hb => ?_) (fun hb => ?_) | refine x_mret [0] ?_ ?_ | refine x_mnor [0] ?_ ?_ | refine zr ?_ | exact x_le)
    all_goals first | rfl | exact .on (.same (nl_map fun _ => rfl)) .nil
  · have ha1 : a + 1 = M.length := by omega
    have hcut : M.take (0 + a) = M.eraseIdx a := by rw [he, Nat.zero_add, List.drop_of_length_le (by omega), List.append_nil]
    have hq : a = (M.eraseIdx a).length := by rw [hel]; omega
    rw [← hq]
    generalize M.eraseIdx a = E at *
    refine mfun tb_ok Tryz.func181 rfl Tryz.ntmps181 Tryz.results181 rfl rfl rfl rfl fun N pl => ?_
    repeat' (first | refine zt ?_ | (refine isR ?_; first | refine zo ?_ | refine x_sl3 tb_ok ?_ | refine x_slOt tb_ok ?_ | refine x_slOe tb_ok ?_ | refine x_appNo tb_ok ?_ | refine x_slOm tb_ok ?_ | refine x_clear Cookie.v E tb_ok ?_ | refine zL ?_ | refine zc5 ?_ | refine zS ?_ | (refine zs5 ?_ ?_ <;> intro hc)) | refine awp_split rfl (fun hb => ?_) (fun hb => ?_) | refine x_mret [0] ?_ ?_ | refine x_mnor [0] ?_ ?_ | refine zr ?_ | exact x_le)
    all_goals first | rfl | exact .on (.same (nl_map fun _ => rfl)) .nil
/-- The places of those that p lets, among the first k. -/
def idxs (p : Cookie → Bool) (M : List Cookie) : Nat → List Nat
  | 0 => []
  | k + 1 => match M[k]? with
    | none => idxs p M k
    | some c => if p c = true then idxs p M k ++ [k] else idxs p M k
theorem idxs_len {p : Cookie → Bool} {M : List Cookie} : ∀ {k : Nat}, (idxs p M k).length = (M.take k).countP p
  | 0 => rfl
  | k + 1 => by
    rw [idxs, List.take_add_one]
    cases hc : M[k]? with
    | none => simpa using idxs_len (k := k)
    | some c =>
      dsimp only
      rw [List.countP_append]
      by_cases h : p c = true
      · rw [if_pos h, List.length_append, idxs_len]; simp [h]
      · rw [if_neg h, idxs_len]; simp [h]
theorem idxs_lt {p : Cookie → Bool} {M : List Cookie} : ∀ {k : Nat}, ∀ i ∈ idxs p M k, i < M.length
  | 0, i, h => by simp [idxs] at h
  | k + 1, i, h => by
    rw [idxs] at h
    cases hc : M[k]? with
    | none => rw [hc] at h; exact idxs_lt i h
    | some c =>
      rw [hc] at h
      dsimp only at h
      have hk := (List.getElem?_eq_some_iff.1 hc).1
      split at h
      · rcases List.mem_append.1 h with h | h
        · exact idxs_lt i h
        · rw [List.mem_singleton] at h; omega
      · exact idxs_lt i h
theorem minAt_idxs {p : Cookie → Bool} {M : List Cookie} : ∀ {k : Nat}, minAt p M k = match idxs p M k with
    | [] => none
    | i :: r => some (minL M r i)
  | 0 => rfl
  | k + 1 => by
    rw [minAt, idxs]
    cases hc : M[k]? with
    | none => exact minAt_idxs
    | some c =>
      dsimp only
      by_cases h : p c = true
      · rw [if_pos h, if_pos h, minAt_idxs (k := k)]
        have hlt := idxs_lt (p := p) (M := M) (k := k)
        generalize idxs p M k = l at *
        cases l with
        | nil => rfl
        | cons i r =>
          show _ = some (minL M (r ++ [k]) i)
          have hm : minL M r i < M.length := minL_lt (hlt i (by simp)) fun j hj => hlt j (by simp [hj])
          have hg : M[minL M r i]? = some M[minL M r i] := by simp [hm]
          rw [minL_snoc, hc, hg]
          dsimp only
          rw [List.getD_eq_getElem?_getD, hg, Option.getD_some]
          split <;> rfl
      · rw [if_neg h, if_neg h]
        exact minAt_idxs
abbrev fnP (c : Cookie) : Abs.V := .fn (.func 142) [] [.fp c.v.cells 0]
abbrev fnA : Abs.V := .fn (.func 143) [] []
set_option maxRecDepth 100000 in
set_option maxHeartbeats 4000000 in
theorem put1_v {c x : Cookie} : ACalls Tryz.prog 142 [x.v, .fp c.v.cells 0] (.bool (ofP c.domain false x)) := by
  unfold ofP
  by_cases h : x.domain = c.domain
  · rw [decide_eq_true h]
    refine fun2 tb_ok Tryz.func142 rfl Tryz.ntmps142 Tryz.results142 rfl fun N => ?_
    repeat' (first | refine zt ?_ | (refine isR ?_; first | refine zo ?_ | refine zc5 ?_ | (refine zs5 ?_ ?_ <;> intro hc)) | refine awp_split rfl (fun hb => ?_) (fun hb => ?_) | refine zr ?_ | exact x_le)
    all_goals rfl
  · rw [decide_eq_false h]
    refine fun2 tb_ok Tryz.func142 rfl Tryz.ntmps142 Tryz.results142 rfl fun N => ?_
    repeat' (first | refine zt ?_ | (refine isR ?_; first | refine zo ?_ | refine zc5 ?_ | (refine zs5 ?_ ?_ <;> intro hc)) | refine awp_split rfl (fun hb => ?_) (fun hb => ?_) | refine zr ?_ | exact x_le)
    all_goals rfl
set_option maxRecDepth 100000 in
set_option maxHeartbeats 4000000 in
theorem put2_v {x : Cookie} : ACalls Tryz.prog 143 [x.v] (.bool (ofP [] true x)) := by
  refine fun1 tb_ok Tryz.func143 rfl Tryz.ntmps143 Tryz.results143 rfl fun N => ?_
  repeat' (first | refine zt ?_ | (refine isR ?_; first | refine zo ?_) | refine awp_split rfl (fun hb => ?_) (fun hb => ?_) | refine zr ?_ | exact x_le)
  all_goals rfl
set_option maxRecDepth 100000 in
set_option maxHeartbeats 4000000 in
theorem evict1_m {L E : List Cookie} {c : Cookie} {most : Nat} {nx now : Int} (hb : L.length ≤ 1000) (hE : evF most (ofP c.domain false) (L.length + 1) L = E) : MCalls Tryz.prog 141 [.loc 1 0 0, nV most, fnP c] [rC L, rO L.length nx now] (.tup []) [some (rC E), some (rO E.length nx now)] := by
  refine mfun tb_ok Tryz.func141 rfl Tryz.ntmps141 Tryz.results141 rfl rfl rfl rfl fun N pl => ?_
  repeat' (first | refine zt ?_ | (refine isR ?_; first | refine x_far [3] tb_ok rfl ?_ | refine zn ?_ | refine x_bsO 3 tb_ok ?_ | refine x_bs tb_ok ?_ | refine zA ?_ | refine zL ?_ | refine zc1 ?_ | refine zc2 ?_ | refine zI ?_ | (refine zs1 ?_ ?_ <;> intro hc) | (refine zs2 ?_ ?_ <;> intro hc)) | refine awp_split rfl (fun hb => ?_) (fun hb => ?_) | refine zr ?_ | exact x_le)
  refine awp_whileN (α := List Cookie) (fun M => ⟨[(0, .loc 1 0 0), (1, nV most), (2, fnP c), (3, .loc 2 0 0)], [(0, some (rC M)), (1, some (rO M.length nx now)), (2, some (rBn 1))], 3, 49⟩) (fun M => M.length ≤ 1000 ∧ ∃ f, M.length < f ∧ evF most (ofP c.domain false) f M = E) (fun M => M.length) L (by exact x_le) ⟨hb, L.length + 1, Nat.lt_succ_self _, hE⟩ ?_
  rintro M ⟨hM, f, hf, he⟩
  have hml : (M.map Cookie.v).length = M.length := List.length_map _
  obtain ⟨f, rfl⟩ : ∃ q, f = q + 1 := ⟨f - 1, by omega⟩
  rw [evF] at he
  repeat' (first | refine zt ?_ | (refine isR ?_; first | refine zo ?_ | refine x_bs tb_ok ?_ | refine zA ?_ | refine zL ?_ | refine zc1 ?_ | refine zc2 ?_ | refine zI ?_ | (refine zs1 ?_ ?_ <;> intro hc) | (refine zs2 ?_ ?_ <;> intro hc)) | refine awp_split rfl (fun hb => ?_) (fun hb => ?_) | refine zr ?_ | exact x_le)
  refine awp_name (t := 6) TI 1 (by decide) rfl rfl ?_
  refine awp_forN (fun k => ⟨[(0, .loc 1 0 0), (1, nV most), (2, fnP c), (3, .loc 2 0 0), (6, .own 3 0 (idxs (ofP c.domain false) M k).length), (14, .own 0 0 M.length), (15, nV M.length), (16, nV k)], [(0, some (rC M)), (1, some (rO M.length nx now)), (2, some (rBn 1)), (3, some (rI (idxs (ofP c.domain false) M k)))], 4, 49⟩) (fun k => k ≤ M.length) M.length 0 (by exact x_le) (Nat.zero_le _) ?_
  intro k hk
  by_cases hk2 : k < M.length
  · have hx : M[k]? = some M[k] := by simp [hk2]
    have hi : idxs (ofP c.domain false) M (k + 1) = if ofP c.domain false M[k] = true then idxs (ofP c.domain false) M k ++ [k] else idxs (ofP c.domain false) M k := by rw [idxs, hx]
    have hil : (idxs (ofP c.domain false) M k).length ≤ 1000 := by rw [idxs_len]; exact Nat.le_trans List.countP_le_length (by rw [List.length_take]; omega)
    have c1 := put1_v (c := c) (x := M[k])
    generalize M[k] = x at *
    have hmx := at_map (f := Cookie.v) hx
    generalize idxs (ofP c.domain false) M (k + 1) = J at *
    generalize idxs (ofP c.domain false) M k = I at *
    by_cases h : ofP c.domain false x = true
    · rw [if_pos h] at hi
      subst hi
      rw [h] at c1
      repeat' (first | refine zt ?_ | (refine isR ?_; first | refine zo ?_ | refine x_ldI Cookie.v k tb_ok ?_ | refine x_callv (c1 _) ?_ | refine x_callv (c1) ?_ | refine x_app nV (a1 := (k)) tb_ok ?_ | refine x_bs tb_ok ?_ | refine zA ?_ | refine zL ?_ | refine zc1 ?_ | refine zc2 ?_ | refine zI ?_ | (refine zs1 ?_ ?_ <;> intro hc) | (refine zs2 ?_ ?_ <;> intro hc)) | refine awp_split rfl (fun hb => ?_) (fun hb => ?_) | refine zr ?_ | exact x_le)
      refine ⟨by omega, by omega, ?_⟩
      exact (by exact x_len [0, 1, 2, 5])
    · rw [if_neg h] at hi
      subst hi
      have h : ofP c.domain false x = false := by simpa using h
      rw [h] at c1
      repeat' (first | refine zt ?_ | (refine isR ?_; first | refine zo ?_ | refine x_ldI Cookie.v k tb_ok ?_ | refine x_callv (c1 _) ?_ | refine x_callv (c1) ?_ | refine x_bs tb_ok ?_ | refine zA ?_ | refine zL ?_ | refine zc1 ?_ | refine zc2 ?_ | refine zI ?_ | (refine zs1 ?_ ?_ <;> intro hc) | (refine zs2 ?_ ?_ <;> intro hc)) | refine awp_split rfl (fun hb => ?_) (fun hb => ?_) | refine zr ?_ | exact x_le)
      refine ⟨by omega, by omega, ?_⟩
      exact (by exact x_len [0, 1, 2, 3])
  · obtain rfl : k = M.length := by omega
    have hlen : (idxs (ofP c.domain false) M M.length).length = M.countP (ofP c.domain false) := by rw [idxs_len, List.take_length]
    have hil : (idxs (ofP c.domain false) M M.length).length ≤ 1000 := by rw [hlen]; exact Nat.le_trans List.countP_le_length hM
    have hlt := idxs_lt (p := ofP c.domain false) (M := M) (k := M.length)
    rw [minAt_idxs, ← hlen] at he
    generalize idxs (ofP c.domain false) M M.length = I at *
    by_cases g : I.length ≤ most
    · rw [if_pos g] at he
      subst he
      repeat' (first | refine zt ?_ | (refine isR ?_; first | refine zo ?_ | refine x_bs tb_ok ?_ | refine zA ?_ | refine zL ?_ | refine zc1 ?_ | refine zc2 ?_ | refine zI ?_ | (refine zs1 ?_ ?_ <;> intro hc) | (refine zs2 ?_ ?_ <;> intro hc)) | refine awp_split rfl (fun hb => ?_) (fun hb => ?_) | refine x_mret [0, 1] ?_ ?_ | refine x_mnor [0, 1] ?_ ?_ | refine zr ?_ | exact x_le)
      · rfl
      · exact .on (.same (nl_map fun _ => rfl)) (.on (.ren rfl) .nil)
    · rw [if_neg g] at he
      cases I with
      | nil => simp at g
      | cons i0 r =>
        dsimp only at he
        have c2 := minFunc_m (n := M.length) (nx := nx) (now := now) hil hlt (i0 := i0) rfl rfl
        rw [show (i0 :: r).drop 1 = r from rfl] at c2
        have ha : minL M r i0 < M.length := minL_lt (hlt i0 (by simp)) fun j hj => hlt j (by simp [hj])
        have c3 := delete_m hM ha
        have hel : (M.eraseIdx (minL M r i0)).length = M.length - 1 := List.length_eraseIdx_of_lt ha
        generalize hK : M.eraseIdx (minL M r i0) = K at *
        generalize minL M r i0 = a at *
        generalize i0 :: r = I at *
        repeat' (first | refine zt ?_ | (refine isR ?_; first | refine zo ?_ | refine x_m [3,0,2,1] [] (c2 _) ?_ | refine x_m0 [3,0,2,1] [] (c2 _) ?_ | refine x_m [3,0,2,1] [] (c2) ?_ | refine x_m0 [3,0,2,1] [] (c2) ?_ | refine x_m [0] [] (c3 _) ?_ | refine x_m0 [0] [] (c3 _) ?_ | refine x_m [0] [] (c3) ?_ | refine x_m0 [0] [] (c3) ?_ | refine x_bs tb_ok ?_ | refine zA ?_ | refine zL ?_ | refine zc1 ?_ | refine zc2 ?_ | refine zI ?_ | (refine zs1 ?_ ?_ <;> intro hc) | (refine zs2 ?_ ?_ <;> intro hc)) | refine awp_split rfl (fun hb => ?_) (fun hb => ?_) | refine zr ?_ | exact x_le)
        refine ⟨K, ⟨by omega, f, by omega, he⟩, by omega, ?_⟩
        exact (by exact x_len [0, 1, 2])
set_option maxRecDepth 100000 in
set_option maxHeartbeats 4000000 in
theorem evict2_m {L E : List Cookie} {most : Nat} {nx now : Int} (hb : L.length ≤ 1000) (hE : evF most (ofP [] true) (L.length + 1) L = E) : MCalls Tryz.prog 141 [.loc 1 0 0, nV most, fnA] [rC L, rO L.length nx now] (.tup []) [some (rC E), some (rO E.length nx now)] := by
  refine mfun tb_ok Tryz.func141 rfl Tryz.ntmps141 Tryz.results141 rfl rfl rfl rfl fun N pl => ?_
  repeat' (first | refine zt ?_ | (refine isR ?_; first | refine x_far [3] tb_ok rfl ?_ | refine zn ?_ | refine x_bsO 3 tb_ok ?_ | refine x_bs tb_ok ?_ | refine zA ?_ | refine zL ?_ | refine zc1 ?_ | refine zc2 ?_ | refine zI ?_ | (refine zs1 ?_ ?_ <;> intro hc) | (refine zs2 ?_ ?_ <;> intro hc)) | refine awp_split rfl (fun hb => ?_) (fun hb => ?_) | refine zr ?_ | exact x_le)
  refine awp_whileN (α := List Cookie) (fun M => ⟨[(0, .loc 1 0 0), (1, nV most), (2, fnA), (3, .loc 2 0 0)], [(0, some (rC M)), (1, some (rO M.length nx now)), (2, some (rBn 1))], 3, 49⟩) (fun M => M.length ≤ 1000 ∧ ∃ f, M.length < f ∧ evF most (ofP [] true) f M = E) (fun M => M.length) L (by exact x_le) ⟨hb, L.length + 1, Nat.lt_succ_self _, hE⟩ ?_
  rintro M ⟨hM, f, hf, he⟩
  have hml : (M.map Cookie.v).length = M.length := List.length_map _
  obtain ⟨f, rfl⟩ : ∃ q, f = q + 1 := ⟨f - 1, by omega⟩
  rw [evF] at he
  repeat' (first | refine zt ?_ | (refine isR ?_; first | refine zo ?_ | refine x_bs tb_ok ?_ | refine zA ?_ | refine zL ?_ | refine zc1 ?_ | refine zc2 ?_ | refine zI ?_ | (refine zs1 ?_ ?_ <;> intro hc) | (refine zs2 ?_ ?_ <;> intro hc)) | refine awp_split rfl (fun hb => ?_) (fun hb => ?_) | refine zr ?_ | exact x_le)
  refine awp_name (t := 6) TI 1 (by decide) rfl rfl ?_
  refine awp_forN (fun k => ⟨[(0, .loc 1 0 0), (1, nV most), (2, fnA), (3, .loc 2 0 0), (6, .own 3 0 (idxs (ofP [] true) M k).length), (14, .own 0 0 M.length), (15, nV M.length), (16, nV k)], [(0, some (rC M)), (1, some (rO M.length nx now)), (2, some (rBn 1)), (3, some (rI (idxs (ofP [] true) M k)))], 4, 49⟩) (fun k => k ≤ M.length) M.length 0 (by exact x_le) (Nat.zero_le _) ?_
  intro k hk
  by_cases hk2 : k < M.length
  · have hx : M[k]? = some M[k] := by simp [hk2]
    have hi : idxs (ofP [] true) M (k + 1) = if ofP [] true M[k] = true then idxs (ofP [] true) M k ++ [k] else idxs (ofP [] true) M k := by rw [idxs, hx]
    have hil : (idxs (ofP [] true) M k).length ≤ 1000 := by rw [idxs_len]; exact Nat.le_trans List.countP_le_length (by rw [List.length_take]; omega)
    have c1 := put2_v (x := M[k])
    generalize M[k] = x at *
    have hmx := at_map (f := Cookie.v) hx
    generalize idxs (ofP [] true) M (k + 1) = J at *
    generalize idxs (ofP [] true) M k = I at *
    by_cases h : ofP [] true x = true
    · rw [if_pos h] at hi
      subst hi
      rw [h] at c1
      repeat' (first | refine zt ?_ | (refine isR ?_; first | refine zo ?_ | refine x_ldI Cookie.v k tb_ok ?_ | refine x_callv (c1 _) ?_ | refine x_callv (c1) ?_ | refine x_app nV (a1 := (k)) tb_ok ?_ | refine x_bs tb_ok ?_ | refine zA ?_ | refine zL ?_ | refine zc1 ?_ | refine zc2 ?_ | refine zI ?_ | (refine zs1 ?_ ?_ <;> intro hc) | (refine zs2 ?_ ?_ <;> intro hc)) | refine awp_split rfl (fun hb => ?_) (fun hb => ?_) | refine zr ?_ | exact x_le)
      refine ⟨by omega, by omega, ?_⟩
      exact (by exact x_len [0, 1, 2, 5])
    · rw [if_neg h] at hi
      subst hi
      have h : ofP [] true x = false := by simpa using h
      rw [h] at c1
      repeat' (first | refine zt ?_ | (refine isR ?_; first | refine zo ?_ | refine x_ldI Cookie.v k tb_ok ?_ | refine x_callv (c1 _) ?_ | refine x_callv (c1) ?_ | refine x_bs tb_ok ?_ | refine zA ?_ | refine zL ?_ | refine zc1 ?_ | refine zc2 ?_ | refine zI ?_ | (refine zs1 ?_ ?_ <;> intro hc) | (refine zs2 ?_ ?_ <;> intro hc)) | refine awp_split rfl (fun hb => ?_) (fun hb => ?_) | refine zr ?_ | exact x_le)
      refine ⟨by omega, by omega, ?_⟩
      exact (by exact x_len [0, 1, 2, 3])
  · obtain rfl : k = M.length := by omega
    have hlen : (idxs (ofP [] true) M M.length).length = M.countP (ofP [] true) := by rw [idxs_len, List.take_length]
    have hil : (idxs (ofP [] true) M M.length).length ≤ 1000 := by rw [hlen]; exact Nat.le_trans List.countP_le_length hM
    have hlt := idxs_lt (p := ofP [] true) (M := M) (k := M.length)
    rw [minAt_idxs, ← hlen] at he
    generalize idxs (ofP [] true) M M.length = I at *
    by_cases g : I.length ≤ most
    · rw [if_pos g] at he
      subst he
      repeat' (first | refine zt ?_ | (refine isR ?_; first | refine zo ?_ | refine x_bs tb_ok ?_ | refine zA ?_ | refine zL ?_ | refine zc1 ?_ | refine zc2 ?_ | refine zI ?_ | (refine zs1 ?_ ?_ <;> intro hc) | (refine zs2 ?_ ?_ <;> intro hc)) | refine awp_split rfl (fun hb => ?_) (fun hb => ?_) | refine x_mret [0, 1] ?_ ?_ | refine x_mnor [0, 1] ?_ ?_ | refine zr ?_ | exact x_le)
      · rfl
      · exact .on (.same (nl_map fun _ => rfl)) (.on (.ren rfl) .nil)
    · rw [if_neg g] at he
      cases I with
      | nil => simp at g
      | cons i0 r =>
        dsimp only at he
        have c2 := minFunc_m (n := M.length) (nx := nx) (now := now) hil hlt (i0 := i0) rfl rfl
        rw [show (i0 :: r).drop 1 = r from rfl] at c2
        have ha : minL M r i0 < M.length := minL_lt (hlt i0 (by simp)) fun j hj => hlt j (by simp [hj])
        have c3 := delete_m hM ha
        have hel : (M.eraseIdx (minL M r i0)).length = M.length - 1 := List.length_eraseIdx_of_lt ha
        generalize hK : M.eraseIdx (minL M r i0) = K at *
        generalize minL M r i0 = a at *
        generalize i0 :: r = I at *
        repeat' (first | refine zt ?_ | (refine isR ?_; first | refine zo ?_ | refine x_m [3,0,2,1] [] (c2 _) ?_ | refine x_m0 [3,0,2,1] [] (c2 _) ?_ | refine x_m [3,0,2,1] [] (c2) ?_ | refine x_m0 [3,0,2,1] [] (c2) ?_ | refine x_m [0] [] (c3 _) ?_ | refine x_m0 [0] [] (c3 _) ?_ | refine x_m [0] [] (c3) ?_ | refine x_m0 [0] [] (c3) ?_ | refine x_bs tb_ok ?_ | refine zA ?_ | refine zL ?_ | refine zc1 ?_ | refine zc2 ?_ | refine zI ?_ | (refine zs1 ?_ ?_ <;> intro hc) | (refine zs2 ?_ ?_ <;> intro hc)) | refine awp_split rfl (fun hb => ?_) (fun hb => ?_) | refine zr ?_ | exact x_le)
        refine ⟨K, ⟨by omega, f, by omega, he⟩, by omega, ?_⟩
        exact (by exact x_len [0, 1, 2])
end Go.Proofs.YtpffdbplcgmilaaGreatDoor.JarO
end

section
namespace Go.Proofs.YtpffdbplcgmilaaGreatDoor.JarD
open Go.RowKit Mem Abs Scan JarP JarQ JarA JarB JarC

abbrev keyV (c : Cookie) : Abs.V := .agg [strT c.name, strT c.domain, strT c.path]
set_option maxRecDepth 100000 in
set_option maxHeartbeats 4000000 in
theorem keyOf_v {c : Cookie} : ACalls Tryz.prog 51 [c.v] (keyV c) := by
  refine fun1 tb_ok Tryz.func51 rfl Tryz.ntmps51 Tryz.results51 rfl fun N => ?_
  repeat' (first | refine zt ?_ | (refine isR ?_; first | refine zo ?_) | refine awp_split rfl (fun hb => ?_) (fun hb => ?_) | refine zr ?_ | exact x_le)
  all_goals rfl
end Go.Proofs.YtpffdbplcgmilaaGreatDoor.JarD
end

section
namespace Go.Proofs.YtpffdbplcgmilaaGreatDoor.JarE
open Go.RowKit Mem Abs Scan JarP JarQ JarA JarB JarC JarD JarR

abbrev noJ : Abs.V := .agg [.nils, .int .i64 0]
end Go.Proofs.YtpffdbplcgmilaaGreatDoor.JarE
end

section
namespace Go.Proofs.YtpffdbplcgmilaaGreatDoor.JarF
open Go.RowKit Mem Abs Scan JarP JarQ JarA JarB JarC JarD JarE JarR

abbrev TJ : Nat := 25
abbrev stT (K : List Cookie) (cc : Cookie) (nx2 : Int) (x : List Cookie) (a : Int) (q : Nat) (now : Int) : S := ⟨[(2, .int .i64 now), (4, .loc 0 0 0), (6, .loc 1 0 0), (9, .loc 3 0 0), (12, .fro (x.map Cookie.v)), (13, .int .i64 a), (14, nV q)], [(0, some (.els TC 13 [cc.v])), (1, some (.els TJ 2 [noJ])), (3, some (.els TJ 2 [.agg [.fro (K.map Cookie.v), .int .i64 nx2]]))], 4, 134⟩
abbrev stL (L : List Cookie) (nx now : Int) (b : Bool) (cc : Cookie) (K : List Cookie) (i : Nat) : S := ⟨[(2, .int .i64 now), (3, .fp (V.cells (jarV L nx)) 0), (4, .loc 0 0 0), (6, .loc 1 0 0), (9, .loc 3 0 0), (10, .bool b), (11, nV i)], [(0, some (.els TC 13 [cc.v])), (1, some (.els TJ 2 [noJ])), (2, some (.els TC 13 (K.map Cookie.v))), (3, some (.els TJ 2 [.agg [.own 2 0 K.length, .int .i64 nx]]))], 4, 134⟩
end Go.Proofs.YtpffdbplcgmilaaGreatDoor.JarF
end

section
namespace Go.Proofs.YtpffdbplcgmilaaGreatDoor.JarG
open Go.RowKit Mem Abs Scan JarP JarQ JarA JarB JarC JarD JarE JarR JarF

abbrev stG (L : List Cookie) (nx now : Int) (n : Nat) (b : Bool) (cc : Cookie) (K : List Cookie) (i : Nat) : S := ⟨[(2, .int .i64 now), (3, .fp (V.cells (jarV L nx)) 0), (4, .loc 0 0 0), (6, .loc 1 0 0), (9, .loc 3 0 0), (10, .bool b), (11, nV i)], [(0, some (.els TC 13 [cc.v])), (1, some (.els TJ 2 [noJ])), (2, some (.els TC 13 (K.map Cookie.v))), (3, some (.els TJ 2 [.agg [.own 2 0 n, .int .i64 nx]]))], 4, 134⟩
end Go.Proofs.YtpffdbplcgmilaaGreatDoor.JarG
end

section
namespace Go.Proofs.YtpffdbplcgmilaaGreatDoor.JarH
open Go.RowKit Mem Abs Scan JarP JarQ JarA JarB JarC JarD JarE JarR JarF JarG

theorem codePut_zero {L : List Cookie} {nx : Int} {c : Cookie} {now : Int} (h : codePut L nx c now = 0) : checkJ L nx = 0 ∧ isJ now = true ∧ badM c = false ∧ nx ≠ 1099511627776 := by
  unfold codePut at h
  by_cases h1 : checkJ L nx = 0
  · rw [if_neg (by rw [h1]; simp)] at h
    by_cases h2 : isJ now = false ∨ badM c = true
    · rw [if_pos h2] at h; cases h
    · rw [if_neg h2] at h
      by_cases h3 : nx = 1099511627776
      · rw [if_pos h3] at h; cases h
      · rw [not_or] at h2
        exact ⟨h1, by simpa using h2.1, by simpa using h2.2, h3⟩
  · rw [if_pos h1] at h; exact absurd h h1
end Go.Proofs.YtpffdbplcgmilaaGreatDoor.JarH
end

section
namespace Go.Proofs.YtpffdbplcgmilaaGreatDoor.JarK
open Go.RowKit Mem Abs Scan JarP JarQ JarA JarB JarC JarD JarE JarR

set_option maxRecDepth 100000 in
set_option maxHeartbeats 4000000 in
theorem pGetBad2_v {L : List Cookie} {nx : Int} {now : Int} {f : From} {e : Int} (c1 : ACalls Tryz.prog 19 [jarV L nx] (.int .i64 0)) (c2 : ACalls Tryz.prog 20 [f.v, .int .i64 now] (.int .i64 e)) (he : e ≠ 0) : ACalls Tryz.prog 7 [jarV L nx, f.v, .int .i64 now] (.tup [noJ, .nils, .int .i64 e]) := by
  refine fun3 tb_ok Tryz.func7 rfl Tryz.ntmps7 Tryz.results7 rfl fun N => ?_
  repeat' (first | refine zt ?_ | (refine isR ?_; first | refine zo ?_ | refine zk c1 ?_ | refine zk c2 ?_ | refine x_bs tb_ok ?_ | refine zA ?_ | refine zL ?_ | refine zc1 ?_ | refine zc5 ?_ | refine zc6 ?_ | refine zI ?_ | (refine zs1 ?_ ?_ <;> intro hc) | (refine zs5 ?_ ?_ <;> intro hc) | (refine zs6 ?_ ?_ <;> intro hc)) | refine awp_split rfl (fun hb => ?_) (fun hb => ?_) | refine zr ?_ | exact x_le)
  all_goals first | rfl | (exfalso; omega)
end Go.Proofs.YtpffdbplcgmilaaGreatDoor.JarK
end

section
namespace Go.Proofs.YtpffdbplcgmilaaGreatDoor.JarS
open Go.RowKit Mem Abs Scan JarP JarQ JarA JarB JarC JarE JarL JarM JarO

set_option maxRecDepth 100000 in
set_option maxHeartbeats 4000000 in
theorem own_m {L : List Cookie} {nx now : Int} (hb : L.length ≤ 1000) : MCalls Tryz.prog 21 [jarV L nx, .int .i64 now] [] (.loc 1 0 0) [some (rC L), some (rO L.length nx now)] := by
  have c1 := LineA.clone_v (L := L) (by omega)
  refine mfun tb_ok Tryz.func21 rfl Tryz.ntmps21 Tryz.results21 rfl rfl rfl rfl fun N pl => ?_
  repeat' (first | refine zt ?_ | (refine isR ?_; first | refine x_far [13] tb_ok rfl ?_ | refine zn ?_ | refine x_m [] [0] (c1 _) ?_ | refine x_m0 [] [0] (c1 _) ?_ | refine x_m [] [0] (c1) ?_ | refine x_m0 [] [0] (c1) ?_) | refine awp_split rfl (fun hb => ?_) (fun hb => ?_) | refine x_mret [0, 1] ?_ ?_ | refine x_mnor [0, 1] ?_ ?_ | refine zr ?_ | exact x_le)
  · rfl
  · exact .on (.same (nl_map fun _ => rfl)) (.on (.ren rfl) .nil)
/-- A jar that is handed on. -/
theorem jar_fro {L : List Cookie} {n : Nat} {nx e : Int} (h : n = L.length) : V.tup [.agg [.fro (List.take n (List.drop 0 (L.map Cookie.v))), .int .i64 nx], .int .i64 e] = .tup [jarV L nx, .int .i64 e] := by
  rw [List.drop_zero, List.take_of_length_le (by simp [h])]
set_option maxRecDepth 100000 in
set_option maxHeartbeats 4000000 in
theorem pPutNew_v {L M E1 E2 : List Cookie} {c : Cookie} {nx now : Int} (hb : L.length ≤ 12) (hn : 0 ≤ nx) (hn2 : nx < 1099511627776) (h1 : isJ now = true) (h2 : badM c = false) (h0 : checkJ L nx = 0) (hf : (liveF now L).findIdx? (fun x => sameK x c) = none)
    (hM : liveF now (liveF now L ++ [{ c with no := nx }]) = M) (hE1 : evF 4 (ofP c.domain false) (M.length + 1) M = E1) (hE2 : evF 12 (ofP [] true) (E1.length + 1) E1 = E2) (hb1 : M.length ≤ 100) (hb2 : E1.length ≤ 100) :
    ACalls Tryz.prog 115 [jarV L nx, c.v, .int .i64 now] (.tup [jarV E2 (nx + 1), .int .i64 0]) := by
  have c1 := jcheck_v (L := L) (nx := nx)
  rw [h0] at c1
  have c2 := is_v (n := now)
  rw [h1] at c2
  have c3 := moments_v (c := c)
  rw [h2] at c3
  change ACalls _ _ _ (.bool true) at c3
  have c4 := own_m (L := L) (nx := nx) (now := now) (by omega)
  have c5 := expire_m (L := L) (nx := nx) (now := now) (by omega)
  have hl : (liveF now L).length ≤ 12 := Nat.le_trans (List.length_filter_le _ _) hb
  have c6 := JarN.layNew_m (L := liveF now L) (c := c) (nx := nx) (now := now) (by omega) hn (by omega) hf
  have hl2 : (liveF now L ++ [{ c with no := nx }]).length ≤ 1000 := by rw [List.length_append]; simp; omega
  have c7 := expire_m (nx := nx + 1) (now := now) hl2
  rw [hM] at c7
  have c8 := evict1_m (c := c) (most := 4) (nx := nx + 1) (now := now) (by omega) hE1
  have c9 := evict2_m (most := 12) (nx := nx + 1) (now := now) (by omega) hE2
  generalize liveF now L ++ [{ c with no := nx }] = K at *
  generalize liveF now L = A at *
  refine fun3 tb_ok Tryz.func115 rfl Tryz.ntmps115 Tryz.results115 rfl fun N => ?_
  repeat' (first | refine zt ?_ | (refine isR ?_; first | refine zo ?_ | refine zk c1 ?_ | refine zk c2 ?_ | refine zk c3 ?_ | refine x_m [] [1,2] (c4 _) ?_ | refine x_m0 [] [1,2] (c4 _) ?_ | refine x_m [] [1,2] (c4) ?_ | refine x_m0 [] [1,2] (c4) ?_ | refine x_m [1,2] [] (c5 _) ?_ | refine x_m0 [1,2] [] (c5 _) ?_ | refine x_m [1,2] [] (c5) ?_ | refine x_m0 [1,2] [] (c5) ?_ | refine x_m [1,2] [3] (c6 _) ?_ | refine x_m0 [1,2] [3] (c6 _) ?_ | refine x_m [1,2] [3] (c6) ?_ | refine x_m0 [1,2] [3] (c6) ?_ | refine x_m [3,2] [] (c7 _) ?_ | refine x_m0 [3,2] [] (c7 _) ?_ | refine x_m [3,2] [] (c7) ?_ | refine x_m0 [3,2] [] (c7) ?_ | refine x_m [3,2] [] (c8 _) ?_ | refine x_m0 [3,2] [] (c8 _) ?_ | refine x_m [3,2] [] (c8) ?_ | refine x_m0 [3,2] [] (c8) ?_ | refine x_m [3,2] [] (c9 _) ?_ | refine x_m0 [3,2] [] (c9 _) ?_ | refine x_m [3,2] [] (c9) ?_ | refine x_m0 [3,2] [] (c9) ?_ | refine zc5 ?_ | refine zc6 ?_ | (refine zs5 ?_ ?_ <;> intro hc) | (refine zs6 ?_ ?_ <;> intro hc)) | refine awp_split rfl (fun hb => ?_) (fun hb => ?_) | refine zr ?_ | exact x_le)
  exact jar_fro rfl
set_option maxRecDepth 100000 in
set_option maxHeartbeats 4000000 in
theorem pPutSame_v {L M E1 E2 : List Cookie} {c d : Cookie} {i : Nat} {nx now : Int} (hb : L.length ≤ 12) (hn : 0 ≤ nx) (hn2 : nx < 1099511627776) (h1 : isJ now = true) (h2 : badM c = false) (h0 : checkJ L nx = 0) (hf : (liveF now L).findIdx? (fun x => sameK x c) = some i) (hx : (liveF now L)[i]? = some d)
    (hM : liveF now ((liveF now L).set i { c with created := d.created, no := d.no }) = M) (hE1 : evF 4 (ofP c.domain false) (M.length + 1) M = E1) (hE2 : evF 12 (ofP [] true) (E1.length + 1) E1 = E2) (hb1 : M.length ≤ 100) (hb2 : E1.length ≤ 100) :
    ACalls Tryz.prog 115 [jarV L nx, c.v, .int .i64 now] (.tup [jarV E2 nx, .int .i64 0]) := by
  have c1 := jcheck_v (L := L) (nx := nx)
  rw [h0] at c1
  have c2 := is_v (n := now)
  rw [h1] at c2
  have c3 := moments_v (c := c)
  rw [h2] at c3
  change ACalls _ _ _ (.bool true) at c3
  have c4 := own_m (L := L) (nx := nx) (now := now) (by omega)
  have c5 := expire_m (L := L) (nx := nx) (now := now) (by omega)
  have hl : (liveF now L).length ≤ 12 := Nat.le_trans (List.length_filter_le _ _) hb
  have c6 := JarN.laySame_m (L := liveF now L) (c := c) (nx := nx) (now := now) (by omega) hf hx
  have hset : ((liveF now L).set i { c with created := d.created, no := d.no }).length = (liveF now L).length := List.length_set
  have c7 := expire_m (L := (liveF now L).set i { c with created := d.created, no := d.no }) (nx := nx) (now := now) (by omega)
  rw [hM, hset] at c7
  have c8 := evict1_m (c := c) (most := 4) (nx := nx) (now := now) (by omega) hE1
  have c9 := evict2_m (most := 12) (nx := nx) (now := now) (by omega) hE2
  have hne : nx ≠ 1099511627776 := by omega
  generalize (liveF now L).set i { c with created := d.created, no := d.no } = K at *
  generalize liveF now L = A at *
  refine fun3 tb_ok Tryz.func115 rfl Tryz.ntmps115 Tryz.results115 rfl fun N => ?_
  repeat' (first | refine zt ?_ | (refine isR ?_; first | refine zo ?_ | refine zk c1 ?_ | refine zk c2 ?_ | refine zk c3 ?_ | refine x_m [] [1,2] (c4 _) ?_ | refine x_m0 [] [1,2] (c4 _) ?_ | refine x_m [] [1,2] (c4) ?_ | refine x_m0 [] [1,2] (c4) ?_ | refine x_m [1, 2] [] (c5 _) ?_ (hst := .cons (.same (nl_map fun _ => rfl)) (.cons (.ren rfl) .nil)) | refine x_m [1,2] [] (c6 _) ?_ | refine x_m0 [1,2] [] (c6 _) ?_ | refine x_m [1,2] [] (c6) ?_ | refine x_m0 [1,2] [] (c6) ?_ | refine x_m [1, 2] [] (c7 _) ?_ (hst := .cons (.same (nl_map fun _ => rfl)) (.cons (.ren rfl) .nil)) | refine x_m [1,2] [] (c8 _) ?_ | refine x_m0 [1,2] [] (c8 _) ?_ | refine x_m [1,2] [] (c8) ?_ | refine x_m0 [1,2] [] (c8) ?_ | refine x_m [1,2] [] (c9 _) ?_ | refine x_m0 [1,2] [] (c9 _) ?_ | refine x_m [1,2] [] (c9) ?_ | refine x_m0 [1,2] [] (c9) ?_ | refine zc5 ?_ | refine zc6 ?_ | (refine zs5 ?_ ?_ <;> intro hc) | (refine zs6 ?_ ?_ <;> intro hc)) | refine awp_split rfl (fun hb => ?_) (fun hb => ?_) | refine zr ?_ | exact x_le)
  exact jar_fro rfl
set_option maxRecDepth 100000 in
set_option maxHeartbeats 4000000 in
theorem pPut_v {L : List Cookie} {nx : Int} {c : Cookie} {now : Int} (h : codePut L nx c now = 0) : ACalls Tryz.prog 115 [jarV L nx, c.v, .int .i64 now] (.tup [jarV (putF L nx c now).1 (putF L nx c now).2, .int .i64 0]) := by
  obtain ⟨h1, h2, h3, h4⟩ := JarH.codePut_zero h
  have hr : Rj L nx := check_zero.1 h1
  have hn := hr.nx
  have hlen := hr.len
  have ev : ∀ most p f (M : List Cookie), (evF most p f M).length ≤ M.length := fun most p f => by
    induction f with
    | zero => intro M; exact Nat.le_refl _
    | succ f ih =>
      intro M
      rw [evF]
      split
      · exact Nat.le_refl _
      · split
        · exact Nat.le_refl _
        · exact Nat.le_trans (ih _) (List.length_eraseIdx_le _ _)
  have hll : ∀ M : List Cookie, (liveF now M).length ≤ M.length := fun M => List.length_filter_le _ _
  have hl1 := hll L
  cases hf : (liveF now L).findIdx? (fun x => sameK x c) with
  | none =>
    have e : layF (liveF now L) nx c = (liveF now L ++ [{ c with no := nx }], nx + 1) := by unfold layF; rw [hf]
    have e1 : putF L nx c now = (evF 12 (ofP [] true) ((evF 4 (ofP c.domain false) ((liveF now (liveF now L ++ [{ c with no := nx }])).length + 1) (liveF now (liveF now L ++ [{ c with no := nx }]))).length + 1) (evF 4 (ofP c.domain false) ((liveF now (liveF now L ++ [{ c with no := nx }])).length + 1) (liveF now (liveF now L ++ [{ c with no := nx }]))), nx + 1) := by
      unfold putF
      rw [e]
      rfl
    rw [e1]
    have hb1 : (liveF now (liveF now L ++ [{ c with no := nx }])).length ≤ 100 := by
      refine Nat.le_trans (hll _) ?_
      rw [List.length_append]
      simp
      omega
    exact pPutNew_v hlen hn.1 (by omega) h2 h3 h1 hf rfl rfl rfl hb1 (Nat.le_trans (ev _ _ _ _) hb1)
  | some i0 =>
    obtain ⟨hi, _, _⟩ := List.findIdx?_eq_some_iff_getElem.1 hf
    have hx : (liveF now L)[i0]? = some (liveF now L)[i0] := by simp [hi]
    have hg : (liveF now L).getD i0 c = (liveF now L)[i0] := by rw [List.getD_eq_getElem?_getD, hx]; rfl
    have e : layF (liveF now L) nx c = ((liveF now L).set i0 { c with created := ((liveF now L)[i0]).created, no := ((liveF now L)[i0]).no }, nx) := by
      unfold layF
      rw [hf]
      dsimp only
      rw [hg]
    have e1 : putF L nx c now = (evF 12 (ofP [] true) ((evF 4 (ofP c.domain false) ((liveF now (layF (liveF now L) nx c).1).length + 1) (liveF now (layF (liveF now L) nx c).1)).length + 1) (evF 4 (ofP c.domain false) ((liveF now (layF (liveF now L) nx c).1).length + 1) (liveF now (layF (liveF now L) nx c).1)), (layF (liveF now L) nx c).2) := rfl
    rw [e1, e]
    have hb1 : (liveF now ((liveF now L).set i0 { c with created := ((liveF now L)[i0]).created, no := ((liveF now L)[i0]).no })).length ≤ 100 := by
      refine Nat.le_trans (hll _) ?_
      rw [List.length_set]
      omega
    exact pPutSame_v hlen hn.1 (by omega) h2 h3 h1 hf hx rfl rfl rfl hb1 (Nat.le_trans (ev _ _ _ _) hb1)
end Go.Proofs.YtpffdbplcgmilaaGreatDoor.JarS
end

section
namespace Go.Proofs.YtpffdbplcgmilaaGreatDoor.JarI
open Go.RowKit Mem Abs Scan JarP JarQ JarA JarB JarC JarD JarE JarR JarF

def useF (g : Cookie → Bool) (now : Int) (c : Cookie) : Cookie := if g c = true then { c with used := now } else c
abbrev stI (L : List Cookie) (nx now : Int) (f : From) (A B : List Cookie) (i : Nat) : S := ⟨[(2, .int .i64 now), (3, .fp (V.cells (jarV L nx)) 0), (4, .fp f.v.cells 0), (6, .loc 0 0 0), (10, .loc 1 0 0), (11, .own 3 0 B.length), (12, nV i)], [(0, some (.els TJ 2 [noJ])), (1, some (.els TJ 2 [.agg [.own 2 0 A.length, .int .i64 nx]])), (2, some (.els TC 13 (A.map Cookie.v))), (3, some (.els TC 13 (B.map Cookie.v)))], 4, 59⟩
end Go.Proofs.YtpffdbplcgmilaaGreatDoor.JarI
end

section
namespace Go.Proofs.YtpffdbplcgmilaaGreatDoor.JarT
open Go.RowKit Mem Abs Scan JarP JarQ JarA JarB JarC JarE JarF JarI JarL JarM JarO JarS

abbrev stT (L : List Cookie) (nx now : Int) (f : From) (A B : List Cookie) (i : Nat) : S := ⟨[(2, .int .i64 now), (4, .fp f.v.cells 0), (6, .loc 0 0 0), (10, .loc 2 0 0), (11, .own 3 0 B.length), (33, nV L.length), (34, nV i)], [(0, some (.els TJ 2 [noJ])), (1, some (rC A)), (2, some (rOn 1 L.length nx now)), (3, some (rC B))], 4, 67⟩
set_option maxRecDepth 100000 in
set_option maxHeartbeats 4000000 in
theorem pGet_v {Γ : Glob} {L : List Cookie} {nx : Int} {now : Int} {f : From} {g : Cookie → Bool} {G : List Cookie} (c1 : ACalls Tryz.prog 19 [jarV L nx] (.int .i64 0)) (c2 : ACalls Tryz.prog 20 [f.v, .int .i64 now] (.int .i64 0)) (c3 : ∀ c ∈ L, ACallsG Tryz.prog Γ 9 [c.v, f.v, .int .i64 now] (.bool (g c))) (hL : L.length ≤ 12)
    (c4 : ACalls Tryz.prog 22 [.fro (((L.filter g).map fun c => { c with used := now }).map Cookie.v)] (.fro (G.map Cookie.v))) :
    ACallsG Tryz.prog Γ 7 [jarV L nx, f.v, .int .i64 now] (.tup [jarV (L.map (useF g now)) nx, .fro (G.map Cookie.v), .int .i64 0]) := by
  have hml : (L.map Cookie.v).length = L.length := List.length_map _
  have c5 := own_m (L := L) (nx := nx) (now := now) (by omega)
  refine funG3 tb_ok Tryz.func7 rfl Tryz.ntmps7 Tryz.results7 rfl fun N => ?_
  repeat' (first | refine zt ?_ | (refine isR ?_; first | refine zo ?_ | refine zk c1 ?_ | refine zk c2 ?_ | refine x_m [] [1,2] (c5 _) ?_ | refine x_m0 [] [1,2] (c5 _) ?_ | refine x_m [] [1,2] (c5) ?_ | refine x_m0 [] [1,2] (c5) ?_ | refine x_bs tb_ok ?_ | refine zA ?_ | refine zL ?_ | refine zc1 ?_ | refine zc5 ?_ | refine zc6 ?_ | refine zI ?_ | (refine zs1 ?_ ?_ <;> intro hc) | (refine zs5 ?_ ?_ <;> intro hc) | (refine zs6 ?_ ?_ <;> intro hc)) | refine awp_split rfl (fun hb => ?_) (fun hb => ?_) | refine zr ?_ | exact x_le)
  refine awp_name (t := 11) TC 13 (by decide) rfl rfl ?_
  refine awp_forN (fun i => stT L nx now f ((L.take i).map (useF g now) ++ L.drop i) (((L.take i).filter g).map fun c => { c with used := now }) i) (fun i => i ≤ L.length) L.length 0 (by exact x_le) (Nat.zero_le _) ?_
  intro i hi
  by_cases hi2 : i < L.length
  · have hx : L[i]? = some L[i] := by simp [hi2]
    have hlt : ((L.take i).map (useF g now)).length = i := by rw [List.length_map, List.length_take]; omega
    have hA : ((L.take i).map (useF g now) ++ L.drop i).length = L.length := by rw [List.length_append, hlt, List.length_drop]; omega
    have hAx : ((L.take i).map (useF g now) ++ L.drop i)[i]? = some L[i] := by
      rw [List.getElem?_append_right (by omega), hlt, Nat.sub_self, List.getElem?_drop]
      exact hx
    have hdc : L.drop i = L[i] :: L.drop (i + 1) := List.drop_eq_getElem_cons hi2
    have e1 : ∀ d, ((L.take i).map (useF g now) ++ L.drop i).set i d = (L.take i).map (useF g now) ++ d :: L.drop (i + 1) := fun d => by
      rw [List.set_append_right _ _ (by omega), hlt, Nat.sub_self, hdc]; rfl
    have e3 : (L.take (i + 1)).map (useF g now) ++ L.drop (i + 1) = (L.take i).map (useF g now) ++ useF g now L[i] :: L.drop (i + 1) := by rw [List.take_add_one, hx, List.map_append, List.append_assoc]; rfl
    have e2 : ((L.take (i + 1)).filter g).map (fun c => { c with used := now }) = ((L.take i).filter g).map (fun c => { c with used := now }) ++ if g L[i] = true then [{ L[i] with used := now }] else [] := by
      rw [List.take_add_one, hx, List.filter_append, List.map_append]
      congr 1
      by_cases h : g L[i] = true <;> simp [h]
    have hB : (((L.take i).filter g).map fun c => { c with used := now }).length ≤ 100 := by rw [List.length_map]; exact Nat.le_trans (List.length_filter_le _ _) (by simp; omega)
    have cg := c3 L[i] (List.getElem_mem hi2)
    have e4 := e1 { L[i] with used := now }
    have e5 : (L.take i).map (useF g now) ++ L[i] :: L.drop (i + 1) = (L.take i).map (useF g now) ++ L.drop i := by rw [hdc]
    generalize L[i] = c at *
    generalize (L.take (i + 1)).map (useF g now) ++ L.drop (i + 1) = A1 at *
    generalize ((L.take (i + 1)).filter g).map (fun c => { c with used := now }) = B1 at *
    generalize hAA : (L.take i).map (useF g now) ++ L.drop i = A at *
    generalize ((L.take i).filter g).map (fun c => { c with used := now }) = B at *
    subst e2
    have hAm : (A.map Cookie.v).length = A.length := List.length_map _
    by_cases h : g c = true
    · rw [h] at cg
      rw [show useF g now c = { c with used := now } from if_pos h] at e3
      rw [if_pos h]
      have hAx2 : (A.set i { c with used := now })[i]? = some { c with used := now } := by rw [List.getElem?_set, if_pos rfl, if_pos (by omega)]
      rw [← e4] at e3
      subst e3
      repeat' (first | (refine isR ?_; first | refine r_val rfl rfl rfl (law_move rfl) (hT rfl Abs.h0) ?_ | refine r_val rfl rfl rfl (law_nilCheck rfl rfl) (hT rfl Abs.h0) ?_ | refine r_val rfl rfl rfl (law_fieldAddr tb_ok rfl rfl rfl rfl rfl) (hT rfl Abs.h0) ?_ | refine x_ldI Cookie.v i tb_ok ?_) | refine zt ?_ | (refine isR ?_; first | refine zo ?_ | refine zk cg ?_ | refine x_stO Cookie.v (a1 := { c with used := now }) i tb_ok ?_ | refine x_app Cookie.v (a1 := ({ c with used := now })) tb_ok ?_ | refine x_bs tb_ok ?_ | refine zA ?_ | refine zL ?_ | refine zc1 ?_ | refine zc5 ?_ | refine zc6 ?_ | refine zI ?_ | (refine zs1 ?_ ?_ <;> intro hc) | (refine zs5 ?_ ?_ <;> intro hc) | (refine zs6 ?_ ?_ <;> intro hc)) | refine awp_split rfl (fun hb => ?_) (fun hb => ?_) | refine zr ?_ | exact x_le)
      refine ⟨by omega, hi2, ?_⟩
      exact (by exact x_len [0, 1, 2, 4])
    · have h : g c = false := by simpa using h
      rw [h] at cg
      rw [show useF g now c = c from if_neg (by rw [h]; simp), e5] at e3
      rw [if_neg (by rw [h]; simp), List.append_nil]
      subst e3
      repeat' (first | (refine isR ?_; first | refine r_val rfl rfl rfl (law_move rfl) (hT rfl Abs.h0) ?_ | refine r_val rfl rfl rfl (law_nilCheck rfl rfl) (hT rfl Abs.h0) ?_ | refine r_val rfl rfl rfl (law_fieldAddr tb_ok rfl rfl rfl rfl rfl) (hT rfl Abs.h0) ?_ | refine x_ldI Cookie.v i tb_ok ?_) | refine zt ?_ | (refine isR ?_; first | refine zo ?_ | refine zk cg ?_ | refine x_bs tb_ok ?_ | refine zA ?_ | refine zL ?_ | refine zc1 ?_ | refine zc5 ?_ | refine zc6 ?_ | refine zI ?_ | (refine zs1 ?_ ?_ <;> intro hc) | (refine zs5 ?_ ?_ <;> intro hc) | (refine zs6 ?_ ?_ <;> intro hc)) | refine awp_split rfl (fun hb => ?_) (fun hb => ?_) | refine zr ?_ | exact x_le)
      refine ⟨by omega, hi2, ?_⟩
      exact (by exact x_len [0, 1, 2, 3])
  · obtain rfl : i = L.length := by omega
    rw [List.take_length, List.drop_length, List.append_nil]
    have hlm : L.length = (L.map (useF g now)).length := by simp
    repeat' (first | refine awp_freezeR 2 0 1 hlm (fun _ => rfl) ?_ | refine awp_freeze 3 11 rfl (fun _ => rfl) ?_ | refine zt ?_ | (refine isR ?_; first | refine zo ?_ | refine zk c4 ?_ | refine x_bs tb_ok ?_ | refine zA ?_ | refine zL ?_ | refine zc1 ?_ | refine zc5 ?_ | refine zc6 ?_ | refine zI ?_ | (refine zs1 ?_ ?_ <;> intro hc) | (refine zs5 ?_ ?_ <;> intro hc) | (refine zs6 ?_ ?_ <;> intro hc)) | refine awp_split rfl (fun hb => ?_) (fun hb => ?_) | refine zr ?_ | exact x_le)
    all_goals rfl
end Go.Proofs.YtpffdbplcgmilaaGreatDoor.JarT
end

section
namespace Go.Proofs.YtpffdbplcgmilaaGreatDoor.JarJ
open Go.RowKit Mem Abs Scan JarP JarQ JarA JarB JarC JarD JarE JarR JarF JarI

end Go.Proofs.YtpffdbplcgmilaaGreatDoor.JarJ
end
