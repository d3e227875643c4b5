/- Texts of the proof, joined: JarF, JarG, JarH, JarK, SortM. -/
import Derived.Test.YtoehdmbogdpncaaGreatDoorG12
import Derived.Test.YtoehdmbogdpncaaGreatDoorG8
section
namespace Go.Proofs.YtoehdmbogdpncaaGreatDoor.JarF
open Go.RowKit Mem Abs Scan JarP JarQ JarA JarB JarC JarD JarE JarR

abbrev TJ : Nat := 24
abbrev stT (K : List Cookie) (cc : Cookie) (nx2 : Int) (x : List Cookie) (a : Int) (q : Nat) (now : Int) : S := ⟨[(2, .int .i64 now), (4, .loc 0 0 0), (6, .loc 1 0 0), (9, .loc 3 0 0), (12, .fro (x.map Cookie.v)), (13, .int .i64 a), (14, nV q)], [(0, some (.els TC 13 [cc.v])), (1, some (.els TJ 2 [noJ])), (3, some (.els TJ 2 [.agg [.fro (K.map Cookie.v), .int .i64 nx2]]))], 4, 134⟩
abbrev stL (L : List Cookie) (nx now : Int) (b : Bool) (cc : Cookie) (K : List Cookie) (i : Nat) : S := ⟨[(2, .int .i64 now), (3, .fp (V.cells (jarV L nx)) 0), (4, .loc 0 0 0), (6, .loc 1 0 0), (9, .loc 3 0 0), (10, .bool b), (11, nV i)], [(0, some (.els TC 13 [cc.v])), (1, some (.els TJ 2 [noJ])), (2, some (.els TC 13 (K.map Cookie.v))), (3, some (.els TJ 2 [.agg [.own 2 0 K.length, .int .i64 nx]]))], 4, 134⟩
set_option maxRecDepth 100000 in
set_option maxHeartbeats 4000000 in
theorem putNew_v {L : List Cookie} {nx : Int} {c : Cookie} {now : Int} {K R1 R2 : List Cookie} {cc : Cookie} {nx2 : Int} (c1 : ACalls Tryz.prog 13 [jarV L nx] (.int .i64 0)) (c2 : ACalls Tryz.prog 30 [.int .i64 now] (.bool false)) (c3 : ACalls Tryz.prog 31 [c.v] (.bool false)) (hn : 0 ≤ nx ∧ nx < 1099511627776) (hL : L.length ≤ 12)
    (hF : ∀ x ∈ liveF now L, sameK x c = false) (hKe : K = liveF now L ++ [cc]) (hcc : cc = { c with no := nx }) (hn2 : nx2 = nx + 1) (h1 : evF 4 (ofP c.domain false) ((liveF now K).length + 1) (liveF now K) = R1) (h2 : evF 12 (ofP [] true) (R1.length + 1) R1 = R2) :
    ACalls Tryz.prog 10 [jarV L nx, c.v, .int .i64 now] (.tup [jarV R2 nx2, .int .i64 0]) := by
  have cl := liveOf_m (L := L) (now := now) (by omega) fun c => live1_v
  have hM0 : (liveF now L).length ≤ 12 := Nat.le_trans (List.length_filter_le _ _) hL
  have hnx : nx ≠ 1099511627776 := by omega
  generalize liveF now L = M at *
  refine fun3 tb_ok Tryz.func10 rfl Tryz.ntmps10 Tryz.results10 rfl fun N => ?_
  repeat' (first | refine zt ?_ | (refine isR ?_; first | refine x_far [4] tb_ok rfl ?_ | refine zn ?_ | refine zk c1 ?_ | refine zk c2 ?_ | refine zk c3 ?_ | refine x_m [] [2] (cl _) ?_ | refine x_m0 [] [2] (cl _) ?_ | refine x_m [] [2] (cl) ?_ | refine x_m0 [] [2] (cl) ?_ | refine x_bsO 4 tb_ok ?_ | refine x_bs tb_ok ?_ | refine zA ?_ | refine zL ?_ | refine zc1 ?_ | refine zc3 ?_ | refine zc5 ?_ | refine zc6 ?_ | refine zI ?_ | (refine zs1 ?_ ?_ <;> intro hc) | (refine zs3 ?_ ?_ <;> intro hc) | (refine zs5 ?_ ?_ <;> intro hc) | (refine zs6 ?_ ?_ <;> intro hc)) | refine awp_split rfl (fun hb => ?_) (fun hb => ?_) | refine zr ?_ | exact x_le)
  refine awp_for (fun i => stL L nx now false c M i) (fun i => i ≤ M.length) M.length 0 (by exact x_le) (Nat.zero_le _) ?_
  intro i hi
  by_cases hi2 : i < M.length
  · have hx : M[i]? = some M[i] := by simp [hi2]
    have hs := hF M[i] (List.getElem_mem hi2)
    have ck := sameKey_v (a := M[i]) (b := c)
    rw [hs] at ck
    generalize M[i] = d at *
    repeat' (first | refine zt ?_ | (refine isR ?_; first | refine zo ?_ | refine x_ldI Cookie.v i tb_ok ?_ | refine zk ck ?_ | refine x_bs tb_ok ?_ | refine zA ?_ | refine zL ?_ | refine zc1 ?_ | refine zc3 ?_ | refine zc5 ?_ | refine zc6 ?_ | refine zI ?_ | (refine zs1 ?_ ?_ <;> intro hc) | (refine zs3 ?_ ?_ <;> intro hc) | (refine zs5 ?_ ?_ <;> intro hc) | (refine zs6 ?_ ?_ <;> intro hc)) | refine awp_split rfl (fun hb => ?_) (fun hb => ?_) | refine zr ?_ | exact x_le)
    exact ⟨by omega, hi2, (by exact x_le)⟩
  · obtain rfl : i = M.length := by omega
    have hK : K.length ≤ 100 := by rw [hKe]; simp; omega
    subst hcc hn2
    subst hKe
    have hq1 : (M ++ [{ c with no := nx }]).length ≤ 100 := hK
    have cl2 := liveOf_m (L := M ++ [{ c with no := nx }]) (now := now) (by omega) fun c => live1_v
    have hM2 : (liveF now (M ++ [{ c with no := nx }])).length ≤ 100 := Nat.le_trans (List.length_filter_le _ _) hq1
    have cu := leastUsed_v (L := liveF now (M ++ [{ c with no := nx }])) (d := c.domain) (all := false) (by omega)
    generalize hM : liveF now (M ++ [{ c with no := nx }]) = M2 at *
    repeat' (first | refine awp_freezeR 3 0 4 rfl (fun _ => rfl) ?_ | refine awp_freeze 5 12 rfl (fun _ => rfl) ?_ | refine zt ?_ | (refine isR ?_; first | refine zo ?_ | refine x_app Cookie.v (a1 := ({ c with no := nx })) tb_ok ?_ | refine x_m [] [5] (cl2 _) ?_ | refine x_m0 [] [5] (cl2 _) ?_ | refine x_m [] [5] (cl2) ?_ | refine x_m0 [] [5] (cl2) ?_ | refine zk cu ?_ | refine x_bs tb_ok ?_ | refine zA ?_ | refine zL ?_ | refine zc1 ?_ | refine zc3 ?_ | refine zc5 ?_ | refine zc6 ?_ | refine zI ?_ | (refine zs1 ?_ ?_ <;> intro hc) | (refine zs3 ?_ ?_ <;> intro hc) | (refine zs5 ?_ ?_ <;> intro hc) | (refine zs6 ?_ ?_ <;> intro hc)) | refine awp_split rfl (fun hb => ?_) (fun hb => ?_) | refine zr ?_ | exact x_le)
    refine awp_while (α := Nat × List Cookie) (fun x => stT (M ++ [{ c with no := nx }]) { c with no := nx } (nx + 1) x.2 (minI (minAt (ofP c.domain false) x.2 x.2.length)) (x.2.countP (ofP c.domain false)) now) (fun x => x.2.length < x.1 ∧ x.2.length ≤ 100 ∧ evF 4 (ofP c.domain false) x.1 x.2 = R1) (fun x => x.1) (M2.length + 1, M2) (by exact x_le) ⟨Nat.lt_succ_self _, hM2, h1⟩ ?_
    rintro ⟨n, x⟩ ⟨g1, g2, g3⟩
    dsimp only at g1 g2 g3 ⊢
    rcases n with _ | n
    · omega
    rw [evF] at g3
    by_cases hq : x.countP (ofP c.domain false) ≤ 4
    · rw [if_pos hq] at g3
      subst g3
      have cu2 := leastUsed_v (L := x) (d := []) (all := true) (by omega)
      repeat' (first | refine zt ?_ | (refine isR ?_; first | refine zo ?_ | refine zk cu2 ?_ | refine x_bs tb_ok ?_ | refine zA ?_ | refine zL ?_ | refine zc1 ?_ | refine zc3 ?_ | refine zc5 ?_ | refine zc6 ?_ | refine zI ?_ | (refine zs1 ?_ ?_ <;> intro hc) | (refine zs3 ?_ ?_ <;> intro hc) | (refine zs5 ?_ ?_ <;> intro hc) | (refine zs6 ?_ ?_ <;> intro hc)) | refine awp_split rfl (fun hb => ?_) (fun hb => ?_) | refine zr ?_ | exact x_le)
      refine awp_while (α := Nat × List Cookie) (fun y => stT (M ++ [{ c with no := nx }]) { c with no := nx } (nx + 1) y.2 (minI (minAt (ofP [] true) y.2 y.2.length)) (y.2.countP (ofP [] true)) now) (fun y => y.2.length < y.1 ∧ y.2.length ≤ 100 ∧ evF 12 (ofP [] true) y.1 y.2 = R2) (fun y => y.1) (x.length + 1, x) (by exact x_le) ⟨Nat.lt_succ_self _, g2, h2⟩ ?_
      rintro ⟨m, y⟩ ⟨e1, e2, e3⟩
      dsimp only at e1 e2 e3 ⊢
      rcases m with _ | m
      · omega
      rw [evF] at e3
      by_cases hq : y.countP (ofP [] true) ≤ 12
      · rw [if_pos hq] at e3
        subst e3
        repeat' (first | refine zt ?_ | (refine isR ?_; first | refine zo ?_ | refine x_bs tb_ok ?_ | refine zA ?_ | refine zL ?_ | refine zc1 ?_ | refine zc3 ?_ | refine zc5 ?_ | refine zc6 ?_ | refine zI ?_ | (refine zs1 ?_ ?_ <;> intro hc) | (refine zs3 ?_ ?_ <;> intro hc) | (refine zs5 ?_ ?_ <;> intro hc) | (refine zs6 ?_ ?_ <;> intro hc)) | refine awp_split rfl (fun hb => ?_) (fun hb => ?_) | refine zr ?_ | exact x_le)
        all_goals rfl
      · rw [if_neg hq] at e3
        obtain ⟨a, ha⟩ := minAt_some (p := ofP [] true) (L := y) (Nat.le_refl _) (by rw [List.take_length]; omega)
        rw [ha] at e3 ⊢
        dsimp only at e3
        have hlt := (minAt_is ha).1
        have cw := without_v (L := y) (a := a) (by omega) hlt
        have hel : (y.eraseIdx a).length = y.length - 1 := by rw [List.length_eraseIdx, if_pos hlt]
        have cv := leastUsed_v (L := y.eraseIdx a) (d := []) (all := true) (by omega)
        have hma : minI (some a) = (a : Int) := rfl
        repeat' (first | refine zt ?_ | (refine isR ?_; first | refine zo ?_ | refine zk cw ?_ | refine zk cv ?_ | refine x_bs tb_ok ?_ | refine zA ?_ | refine zL ?_ | refine zc1 ?_ | refine zc3 ?_ | refine zc5 ?_ | refine zc6 ?_ | refine zI ?_ | (refine zs1 ?_ ?_ <;> intro hc) | (refine zs3 ?_ ?_ <;> intro hc) | (refine zs5 ?_ ?_ <;> intro hc) | (refine zs6 ?_ ?_ <;> intro hc)) | refine awp_split rfl (fun hb => ?_) (fun hb => ?_) | refine zr ?_ | exact x_le)
        exact ⟨(m, y.eraseIdx a), ⟨by dsimp only; omega, by dsimp only; omega, e3⟩, Nat.lt_succ_self m, (by exact x_le)⟩
    · rw [if_neg hq] at g3
      obtain ⟨a, ha⟩ := minAt_some (p := ofP c.domain false) (L := x) (Nat.le_refl _) (by rw [List.take_length]; omega)
      rw [ha] at g3 ⊢
      dsimp only at g3
      have hlt := (minAt_is ha).1
      have cw := without_v (L := x) (a := a) (by omega) hlt
      have hel : (x.eraseIdx a).length = x.length - 1 := by rw [List.length_eraseIdx, if_pos hlt]
      have cv := leastUsed_v (L := x.eraseIdx a) (d := c.domain) (all := false) (by omega)
      have hma : minI (some a) = (a : Int) := rfl
      repeat' (first | refine zt ?_ | (refine isR ?_; first | refine zo ?_ | refine zk cw ?_ | refine zk cv ?_ | refine x_bs tb_ok ?_ | refine zA ?_ | refine zL ?_ | refine zc1 ?_ | refine zc3 ?_ | refine zc5 ?_ | refine zc6 ?_ | refine zI ?_ | (refine zs1 ?_ ?_ <;> intro hc) | (refine zs3 ?_ ?_ <;> intro hc) | (refine zs5 ?_ ?_ <;> intro hc) | (refine zs6 ?_ ?_ <;> intro hc)) | refine awp_split rfl (fun hb => ?_) (fun hb => ?_) | refine zr ?_ | exact x_le)
      exact ⟨(n, x.eraseIdx a), ⟨by dsimp only; omega, by dsimp only; omega, g3⟩, Nat.lt_succ_self n, (by exact x_le)⟩
end Go.Proofs.YtoehdmbogdpncaaGreatDoor.JarF
end

section
namespace Go.Proofs.YtoehdmbogdpncaaGreatDoor.JarG
open Go.RowKit Mem Abs Scan JarP JarQ JarA JarB JarC JarD JarE JarR JarF

abbrev stG (L : List Cookie) (nx now : Int) (n : Nat) (b : Bool) (cc : Cookie) (K : List Cookie) (i : Nat) : S := ⟨[(2, .int .i64 now), (3, .fp (V.cells (jarV L nx)) 0), (4, .loc 0 0 0), (6, .loc 1 0 0), (9, .loc 3 0 0), (10, .bool b), (11, nV i)], [(0, some (.els TC 13 [cc.v])), (1, some (.els TJ 2 [noJ])), (2, some (.els TC 13 (K.map Cookie.v))), (3, some (.els TJ 2 [.agg [.own 2 0 n, .int .i64 nx]]))], 4, 134⟩
set_option maxRecDepth 100000 in
set_option maxHeartbeats 4000000 in
theorem putSame_v {L : List Cookie} {nx : Int} {c : Cookie} {now : Int} {K R1 R2 : List Cookie} {i0 : Nat} {d0 : Cookie} (c1 : ACalls Tryz.prog 13 [jarV L nx] (.int .i64 0)) (c2 : ACalls Tryz.prog 30 [.int .i64 now] (.bool false)) (c3 : ACalls Tryz.prog 31 [c.v] (.bool false)) (hn : 0 ≤ nx ∧ nx < 1099511627776) (hL : L.length ≤ 12)
    (hM : (liveF now L)[i0]? = some d0) (hs0 : sameK d0 c = true) (hF : ∀ j x, (liveF now L)[j]? = some x → j ≠ i0 → sameK x c = false) (hKe : K = (liveF now L).set i0 { c with created := d0.created, no := d0.no }) (h1 : evF 4 (ofP c.domain false) ((liveF now K).length + 1) (liveF now K) = R1) (h2 : evF 12 (ofP [] true) (R1.length + 1) R1 = R2) :
    ACalls Tryz.prog 10 [jarV L nx, c.v, .int .i64 now] (.tup [jarV R2 nx, .int .i64 0]) := by
  have cl := liveOf_m (L := L) (now := now) (by omega) fun c => live1_v
  have hM0 : (liveF now L).length ≤ 12 := Nat.le_trans (List.length_filter_le _ _) hL
  have hnx : nx ≠ 1099511627776 := by omega
  generalize liveF now L = M at *
  have hi0 : i0 < M.length := (List.getElem?_eq_some_iff.1 hM).1
  have hKl : K.length = M.length := by rw [hKe, List.length_set]
  have hKg : ∀ j, j ≠ i0 → K[j]? = M[j]? := fun j hj => by rw [hKe, List.getElem?_set_ne (by omega)]
  refine fun3 tb_ok Tryz.func10 rfl Tryz.ntmps10 Tryz.results10 rfl fun N => ?_
  repeat' (first | refine zt ?_ | (refine isR ?_; first | refine x_far [4] tb_ok rfl ?_ | refine zn ?_ | refine zk c1 ?_ | refine zk c2 ?_ | refine zk c3 ?_ | refine x_m [] [2] (cl _) ?_ | refine x_m0 [] [2] (cl _) ?_ | refine x_m [] [2] (cl) ?_ | refine x_m0 [] [2] (cl) ?_ | refine x_bsO 4 tb_ok ?_ | refine x_bs tb_ok ?_ | refine zA ?_ | refine zL ?_ | refine zc1 ?_ | refine zc3 ?_ | refine zc5 ?_ | refine zc6 ?_ | refine zI ?_ | (refine zs1 ?_ ?_ <;> intro hc) | (refine zs3 ?_ ?_ <;> intro hc) | (refine zs5 ?_ ?_ <;> intro hc) | (refine zs6 ?_ ?_ <;> intro hc)) | refine awp_split rfl (fun hb => ?_) (fun hb => ?_) | refine zr ?_ | exact x_le)
  refine awp_while (α := Nat × Bool × Cookie × List Cookie) (fun x => stG L nx now M.length x.2.1 x.2.2.1 x.2.2.2 x.1) (fun x => x.1 ≤ M.length ∧ ((x.1 ≤ i0 ∧ x.2.1 = false ∧ x.2.2.1 = c ∧ x.2.2.2 = M) ∨ (i0 < x.1 ∧ x.2.1 = true ∧ x.2.2.1 = { c with created := d0.created, no := d0.no } ∧ x.2.2.2 = K))) (fun x => M.length - x.1) (0, false, c, M) (by exact x_le) ⟨Nat.zero_le _, .inl ⟨Nat.zero_le _, rfl, rfl, rfl⟩⟩ ?_
  rintro ⟨i, b, c', K'⟩ ⟨hi, hh⟩
  dsimp only at hi hh ⊢
  rcases hh with ⟨q, e1, e2, e3⟩ | ⟨q, e1, e2, e3⟩
  · subst b c' K'
    have hi2 : i < M.length := by omega
    by_cases hq : i = i0
    · subst hq
      have ck := sameKey_v (a := d0) (b := c)
      rw [hs0] at ck
      subst hKe
      repeat' (first | (refine isR ?_; refine r_val rfl rfl rfl (law_fieldAddr tb_ok rfl rfl rfl rfl rfl) (hT rfl Abs.h0) ?_) | refine zt ?_ | (refine isR ?_; first | refine zo ?_ | refine x_ldI Cookie.v i tb_ok ?_ | refine x_ldO Cookie.v i tb_ok ?_ | refine x_stI Cookie.v (a1 := { c with created := d0.created, no := d0.no }) i tb_ok ?_ | refine zk ck ?_ | refine x_bs tb_ok ?_ | refine zA ?_ | refine zL ?_ | refine zc1 ?_ | refine zc3 ?_ | refine zc5 ?_ | refine zc6 ?_ | refine zI ?_ | (refine zs1 ?_ ?_ <;> intro hc) | (refine zs3 ?_ ?_ <;> intro hc) | (refine zs5 ?_ ?_ <;> intro hc) | (refine zs6 ?_ ?_ <;> intro hc)) | refine awp_split rfl (fun hb => ?_) (fun hb => ?_) | refine zr ?_ | exact x_le)
      exact ⟨(i + 1, true, _, _), ⟨by dsimp only; omega, .inr ⟨by dsimp only; omega, rfl, rfl, rfl⟩⟩, by dsimp only; omega, (by exact x_le)⟩
    · have hx : M[i]? = some M[i] := by simp [hi2]
      have hs := hF i M[i] hx hq
      have ck := sameKey_v (a := M[i]) (b := c)
      rw [hs] at ck
      generalize M[i] = d at *
      repeat' (first | refine zt ?_ | (refine isR ?_; first | refine zo ?_ | refine x_ldI Cookie.v i tb_ok ?_ | refine zk ck ?_ | refine x_bs tb_ok ?_ | refine zA ?_ | refine zL ?_ | refine zc1 ?_ | refine zc3 ?_ | refine zc5 ?_ | refine zc6 ?_ | refine zI ?_ | (refine zs1 ?_ ?_ <;> intro hc) | (refine zs3 ?_ ?_ <;> intro hc) | (refine zs5 ?_ ?_ <;> intro hc) | (refine zs6 ?_ ?_ <;> intro hc)) | refine awp_split rfl (fun hb => ?_) (fun hb => ?_) | refine zr ?_ | exact x_le)
      exact ⟨(i + 1, false, c, M), ⟨by dsimp only; omega, .inl ⟨by dsimp only; omega, rfl, rfl, rfl⟩⟩, by dsimp only; omega, (by exact x_le)⟩
  · subst b c' K'
    by_cases hi2 : i < M.length
    · have hx : M[i]? = some M[i] := by simp [hi2]
      have hs := hF i M[i] hx (by omega)
      have ck := sameKey_v (a := M[i]) (b := { c with created := d0.created, no := d0.no })
      have hx2 : K[i]? = some M[i] := by rw [hKg i (by omega)]; exact hx
      rw [show sameK M[i] { c with created := d0.created, no := d0.no } = sameK M[i] c from rfl, hs] at ck
      generalize M[i] = d at *
      repeat' (first | refine zt ?_ | (refine isR ?_; first | refine zo ?_ | refine x_ldI Cookie.v i tb_ok ?_ | refine zk ck ?_ | refine x_bs tb_ok ?_ | refine zA ?_ | refine zL ?_ | refine zc1 ?_ | refine zc3 ?_ | refine zc5 ?_ | refine zc6 ?_ | refine zI ?_ | (refine zs1 ?_ ?_ <;> intro hc) | (refine zs3 ?_ ?_ <;> intro hc) | (refine zs5 ?_ ?_ <;> intro hc) | (refine zs6 ?_ ?_ <;> intro hc)) | refine awp_split rfl (fun hb => ?_) (fun hb => ?_) | refine zr ?_ | exact x_le)
      exact ⟨(i + 1, true, _, K), ⟨by dsimp only; omega, .inr ⟨by dsimp only; omega, rfl, rfl, rfl⟩⟩, by dsimp only; omega, (by exact x_le)⟩
    · obtain rfl : i = M.length := by omega
      have hK : K.length ≤ 100 := by omega
      clear hKg hKe hF hM hi0 q hi hM0
      generalize M.length = n at *
      subst hKl
      have hml : (K.map Cookie.v).length = K.length := List.length_map _
      have hq1 : (K).length ≤ 100 := hK
      have cl2 := liveOf_m (L := K) (now := now) (by omega) fun c => live1_v
      have hM2 : (liveF now (K)).length ≤ 100 := Nat.le_trans (List.length_filter_le _ _) hq1
      have cu := leastUsed_v (L := liveF now (K)) (d := c.domain) (all := false) (by omega)
      generalize hM : liveF now (K) = M2 at *
      repeat' (first | refine awp_freezeR 3 0 2 rfl (fun _ => rfl) ?_ | refine awp_freeze 4 12 rfl (fun _ => rfl) ?_ | refine zt ?_ | (refine isR ?_; first | refine zo ?_ | refine x_m [] [4] (cl2 _) ?_ | refine x_m0 [] [4] (cl2 _) ?_ | refine x_m [] [4] (cl2) ?_ | refine x_m0 [] [4] (cl2) ?_ | refine zk cu ?_ | refine x_bs tb_ok ?_ | refine zA ?_ | refine zL ?_ | refine zc1 ?_ | refine zc3 ?_ | refine zc5 ?_ | refine zc6 ?_ | refine zI ?_ | (refine zs1 ?_ ?_ <;> intro hc) | (refine zs3 ?_ ?_ <;> intro hc) | (refine zs5 ?_ ?_ <;> intro hc) | (refine zs6 ?_ ?_ <;> intro hc)) | refine awp_split rfl (fun hb => ?_) (fun hb => ?_) | refine zr ?_ | exact x_le)
      refine awp_while (α := Nat × List Cookie) (fun x => stT (K) { c with created := d0.created, no := d0.no } nx x.2 (minI (minAt (ofP c.domain false) x.2 x.2.length)) (x.2.countP (ofP c.domain false)) now) (fun x => x.2.length < x.1 ∧ x.2.length ≤ 100 ∧ evF 4 (ofP c.domain false) x.1 x.2 = R1) (fun x => x.1) (M2.length + 1, M2) (by exact x_le) ⟨Nat.lt_succ_self _, hM2, h1⟩ ?_
      rintro ⟨n, x⟩ ⟨g1, g2, g3⟩
      dsimp only at g1 g2 g3 ⊢
      rcases n with _ | n
      · omega
      rw [evF] at g3
      by_cases hq : x.countP (ofP c.domain false) ≤ 4
      · rw [if_pos hq] at g3
        subst g3
        have cu2 := leastUsed_v (L := x) (d := []) (all := true) (by omega)
        repeat' (first | refine zt ?_ | (refine isR ?_; first | refine zo ?_ | refine zk cu2 ?_ | refine x_bs tb_ok ?_ | refine zA ?_ | refine zL ?_ | refine zc1 ?_ | refine zc3 ?_ | refine zc5 ?_ | refine zc6 ?_ | refine zI ?_ | (refine zs1 ?_ ?_ <;> intro hc) | (refine zs3 ?_ ?_ <;> intro hc) | (refine zs5 ?_ ?_ <;> intro hc) | (refine zs6 ?_ ?_ <;> intro hc)) | refine awp_split rfl (fun hb => ?_) (fun hb => ?_) | refine zr ?_ | exact x_le)
        refine awp_while (α := Nat × List Cookie) (fun y => stT (K) { c with created := d0.created, no := d0.no } nx y.2 (minI (minAt (ofP [] true) y.2 y.2.length)) (y.2.countP (ofP [] true)) now) (fun y => y.2.length < y.1 ∧ y.2.length ≤ 100 ∧ evF 12 (ofP [] true) y.1 y.2 = R2) (fun y => y.1) (x.length + 1, x) (by exact x_le) ⟨Nat.lt_succ_self _, g2, h2⟩ ?_
        rintro ⟨m, y⟩ ⟨e1, e2, e3⟩
        dsimp only at e1 e2 e3 ⊢
        rcases m with _ | m
        · omega
        rw [evF] at e3
        by_cases hq : y.countP (ofP [] true) ≤ 12
        · rw [if_pos hq] at e3
          subst e3
          repeat' (first | refine zt ?_ | (refine isR ?_; first | refine zo ?_ | refine x_bs tb_ok ?_ | refine zA ?_ | refine zL ?_ | refine zc1 ?_ | refine zc3 ?_ | refine zc5 ?_ | refine zc6 ?_ | refine zI ?_ | (refine zs1 ?_ ?_ <;> intro hc) | (refine zs3 ?_ ?_ <;> intro hc) | (refine zs5 ?_ ?_ <;> intro hc) | (refine zs6 ?_ ?_ <;> intro hc)) | refine awp_split rfl (fun hb => ?_) (fun hb => ?_) | refine zr ?_ | exact x_le)
          all_goals rfl
        · rw [if_neg hq] at e3
          obtain ⟨a, ha⟩ := minAt_some (p := ofP [] true) (L := y) (Nat.le_refl _) (by rw [List.take_length]; omega)
          rw [ha] at e3 ⊢
          dsimp only at e3
          have hlt := (minAt_is ha).1
          have cw := without_v (L := y) (a := a) (by omega) hlt
          have hel : (y.eraseIdx a).length = y.length - 1 := by rw [List.length_eraseIdx, if_pos hlt]
          have cv := leastUsed_v (L := y.eraseIdx a) (d := []) (all := true) (by omega)
          have hma : minI (some a) = (a : Int) := rfl
          repeat' (first | refine zt ?_ | (refine isR ?_; first | refine zo ?_ | refine zk cw ?_ | refine zk cv ?_ | refine x_bs tb_ok ?_ | refine zA ?_ | refine zL ?_ | refine zc1 ?_ | refine zc3 ?_ | refine zc5 ?_ | refine zc6 ?_ | refine zI ?_ | (refine zs1 ?_ ?_ <;> intro hc) | (refine zs3 ?_ ?_ <;> intro hc) | (refine zs5 ?_ ?_ <;> intro hc) | (refine zs6 ?_ ?_ <;> intro hc)) | refine awp_split rfl (fun hb => ?_) (fun hb => ?_) | refine zr ?_ | exact x_le)
          exact ⟨(m, y.eraseIdx a), ⟨by dsimp only; omega, by dsimp only; omega, e3⟩, Nat.lt_succ_self m, (by exact x_le)⟩
      · rw [if_neg hq] at g3
        obtain ⟨a, ha⟩ := minAt_some (p := ofP c.domain false) (L := x) (Nat.le_refl _) (by rw [List.take_length]; omega)
        rw [ha] at g3 ⊢
        dsimp only at g3
        have hlt := (minAt_is ha).1
        have cw := without_v (L := x) (a := a) (by omega) hlt
        have hel : (x.eraseIdx a).length = x.length - 1 := by rw [List.length_eraseIdx, if_pos hlt]
        have cv := leastUsed_v (L := x.eraseIdx a) (d := c.domain) (all := false) (by omega)
        have hma : minI (some a) = (a : Int) := rfl
        repeat' (first | refine zt ?_ | (refine isR ?_; first | refine zo ?_ | refine zk cw ?_ | refine zk cv ?_ | refine x_bs tb_ok ?_ | refine zA ?_ | refine zL ?_ | refine zc1 ?_ | refine zc3 ?_ | refine zc5 ?_ | refine zc6 ?_ | refine zI ?_ | (refine zs1 ?_ ?_ <;> intro hc) | (refine zs3 ?_ ?_ <;> intro hc) | (refine zs5 ?_ ?_ <;> intro hc) | (refine zs6 ?_ ?_ <;> intro hc)) | refine awp_split rfl (fun hb => ?_) (fun hb => ?_) | refine zr ?_ | exact x_le)
        exact ⟨(n, x.eraseIdx a), ⟨by dsimp only; omega, by dsimp only; omega, g3⟩, Nat.lt_succ_self n, (by exact x_le)⟩
end Go.Proofs.YtoehdmbogdpncaaGreatDoor.JarG
end

section
namespace Go.Proofs.YtoehdmbogdpncaaGreatDoor.JarH
open Go.RowKit Mem Abs Scan JarP JarQ JarA JarB JarC JarD JarE JarR JarF JarG

theorem codePut_zero {L : List Cookie} {nx : Int} {c : Cookie} {now : Int} (h : codePut L nx c now = 0) : checkJ L nx = 0 ∧ isJ now = true ∧ badM c = false ∧ nx ≠ 1099511627776 := by
  unfold codePut at h
  by_cases h1 : checkJ L nx = 0
  · rw [if_neg (by rw [h1]; simp)] at h
    by_cases h2 : isJ now = false ∨ badM c = true
    · rw [if_pos h2] at h; cases h
    · rw [if_neg h2] at h
      by_cases h3 : nx = 1099511627776
      · rw [if_pos h3] at h; cases h
      · rw [not_or] at h2
        exact ⟨h1, by simpa using h2.1, by simpa using h2.2, h3⟩
  · rw [if_pos h1] at h; exact absurd h h1
theorem putOf_v {L : List Cookie} {nx : Int} {c : Cookie} {now : Int} (h : codePut L nx c now = 0) : ACalls Tryz.prog 10 [jarV L nx, c.v, .int .i64 now] (.tup [jarV (putF L nx c now).1 (putF L nx c now).2, .int .i64 0]) := by
  obtain ⟨h1, h2, h3, h4⟩ := codePut_zero h
  have hr : Rj L nx := check_zero.1 h1
  have c1 := jarCheck_v (L := L) (nx := nx)
  rw [h1] at c1
  have c2 := noMoment_v (n := now)
  rw [h2] at c2
  have c3 := noMoments_v (c := c)
  rw [h3] at c3
  have hn := hr.nx
  cases hf : (liveF now L).findIdx? (fun x => sameK x c) with
  | none =>
    have e : layF (liveF now L) nx c = (liveF now L ++ [{ c with no := nx }], nx + 1) := by unfold layF; rw [hf]
    have e1 : putF L nx c now = (evF 12 (ofP [] true) ((evF 4 (ofP c.domain false) ((liveF now (liveF now L ++ [{ c with no := nx }])).length + 1) (liveF now (liveF now L ++ [{ c with no := nx }]))).length + 1) (evF 4 (ofP c.domain false) ((liveF now (liveF now L ++ [{ c with no := nx }])).length + 1) (liveF now (liveF now L ++ [{ c with no := nx }]))), nx + 1) := by
      unfold putF
      rw [e]
      rfl
    rw [e1]
    exact putNew_v c1 c2 c3 ⟨hn.1, by omega⟩ hr.len (List.findIdx?_eq_none_iff.1 hf) rfl rfl rfl rfl rfl
  | some i0 =>
    obtain ⟨hi, hs, hlow⟩ := List.findIdx?_eq_some_iff_getElem.1 hf
    have hx : (liveF now L)[i0]? = some (liveF now L)[i0] := by simp [hi]
    have hg : (liveF now L).getD i0 c = (liveF now L)[i0] := by rw [List.getD_eq_getElem?_getD, hx]; rfl
    have hdis : (liveF now L).Pairwise fun a b => sameK a b = false ∧ a.no ≠ b.no := hr.dis.sublist List.filter_sublist
    have hF : ∀ j x, (liveF now L)[j]? = some x → j ≠ i0 → sameK x c = false := fun j x hj hne => by
      obtain ⟨hj1, rfl⟩ := List.getElem?_eq_some_iff.1 hj
      have hp := List.pairwise_iff_getElem.1 hdis
      cases hq : sameK (liveF now L)[j] c with
      | false => rfl
      | true =>
        have g1 : sameK (liveF now L)[j] (liveF now L)[i0] = true := by rw [sameK_comm, sameK_left hs, sameK_comm]; exact hq
        have g2 : sameK (liveF now L)[i0] (liveF now L)[j] = true := by rw [sameK_comm]; exact g1
        rcases Nat.lt_or_gt_of_ne hne with q | q
        · rw [(hp j i0 hj1 hi q).1] at g1; cases g1
        · rw [(hp i0 j hi hj1 q).1] at g2; cases g2
    have e : layF (liveF now L) nx c = ((liveF now L).set i0 { c with created := ((liveF now L)[i0]).created, no := ((liveF now L)[i0]).no }, nx) := by
      unfold layF
      rw [hf]
      dsimp only
      rw [hg]
    have e1 : putF L nx c now = (evF 12 (ofP [] true) ((evF 4 (ofP c.domain false) ((liveF now (layF (liveF now L) nx c).1).length + 1) (liveF now (layF (liveF now L) nx c).1)).length + 1) (evF 4 (ofP c.domain false) ((liveF now (layF (liveF now L) nx c).1).length + 1) (liveF now (layF (liveF now L) nx c).1)), (layF (liveF now L) nx c).2) := rfl
    rw [e1, e]
    exact putSame_v c1 c2 c3 ⟨hn.1, by omega⟩ hr.len hx hs hF rfl rfl rfl
end Go.Proofs.YtoehdmbogdpncaaGreatDoor.JarH
end

section
namespace Go.Proofs.YtoehdmbogdpncaaGreatDoor.JarK
open Go.RowKit Mem Abs Scan JarP JarQ JarA JarB JarC JarD JarE JarR

set_option maxRecDepth 100000 in
set_option maxHeartbeats 4000000 in
theorem pGetBad1_v {L : List Cookie} {nx : Int} {now : Int} {f : From} {e : Int} (c1 : ACalls Tryz.prog 12 [jarV L nx] (.int .i64 e)) (he : e ≠ 0) : ACalls Tryz.prog 15 [jarV L nx, f.v, .int .i64 now] (.tup [noJ, .nils, .int .i64 e]) := by
  refine fun3 tb_ok Tryz.func15 rfl Tryz.ntmps15 Tryz.results15 rfl fun N => ?_
  repeat' (first | refine zt ?_ | (refine isR ?_; first | refine zo ?_ | refine zk c1 ?_ | refine x_bs tb_ok ?_ | refine zA ?_ | refine zL ?_ | refine zc1 ?_ | refine zc5 ?_ | refine zc6 ?_ | refine zI ?_ | (refine zs1 ?_ ?_ <;> intro hc) | (refine zs5 ?_ ?_ <;> intro hc) | (refine zs6 ?_ ?_ <;> intro hc)) | refine awp_split rfl (fun hb => ?_) (fun hb => ?_) | refine zr ?_ | exact x_le)
  all_goals first | rfl | (exfalso; omega)
set_option maxRecDepth 100000 in
set_option maxHeartbeats 4000000 in
theorem pPutBad1_v {L : List Cookie} {nx : Int} {now : Int} {c : Cookie} {e : Int} (c1 : ACalls Tryz.prog 12 [jarV L nx] (.int .i64 e)) (he : e ≠ 0) : ACalls Tryz.prog 9 [jarV L nx, c.v, .int .i64 now] (.tup [noJ, .int .i64 e]) := by
  refine fun3 tb_ok Tryz.func9 rfl Tryz.ntmps9 Tryz.results9 rfl fun N => ?_
  repeat' (first | refine zt ?_ | (refine isR ?_; first | refine zo ?_ | refine zk c1 ?_ | refine zc5 ?_ | refine zc6 ?_ | (refine zs5 ?_ ?_ <;> intro hc) | (refine zs6 ?_ ?_ <;> intro hc)) | refine awp_split rfl (fun hb => ?_) (fun hb => ?_) | refine zr ?_ | exact x_le)
  all_goals first | rfl | (exfalso; omega)
set_option maxRecDepth 100000 in
set_option maxHeartbeats 4000000 in
theorem pGetBad2_v {L : List Cookie} {nx : Int} {now : Int} {f : From} {e : Int} (c1 : ACalls Tryz.prog 12 [jarV L nx] (.int .i64 0)) (c2 : ACalls Tryz.prog 38 [f.v, .int .i64 now] (.int .i64 e)) (he : e ≠ 0) : ACalls Tryz.prog 15 [jarV L nx, f.v, .int .i64 now] (.tup [noJ, .nils, .int .i64 e]) := by
  refine fun3 tb_ok Tryz.func15 rfl Tryz.ntmps15 Tryz.results15 rfl fun N => ?_
  repeat' (first | refine zt ?_ | (refine isR ?_; first | refine zo ?_ | refine zk c1 ?_ | refine zk c2 ?_ | refine x_bs tb_ok ?_ | refine zA ?_ | refine zL ?_ | refine zc1 ?_ | refine zc5 ?_ | refine zc6 ?_ | refine zI ?_ | (refine zs1 ?_ ?_ <;> intro hc) | (refine zs5 ?_ ?_ <;> intro hc) | (refine zs6 ?_ ?_ <;> intro hc)) | refine awp_split rfl (fun hb => ?_) (fun hb => ?_) | refine zr ?_ | exact x_le)
  all_goals first | rfl | (exfalso; omega)
set_option maxRecDepth 100000 in
set_option maxHeartbeats 4000000 in
theorem pPutBad2_v {L : List Cookie} {nx : Int} {now : Int} {c : Cookie} (c1 : ACalls Tryz.prog 12 [jarV L nx] (.int .i64 0)) (h : codePut L nx c now ≠ 0) (h0 : checkJ L nx = 0) : ACalls Tryz.prog 9 [jarV L nx, c.v, .int .i64 now] (.tup [noJ, .int .i64 ((codePut L nx c now : Nat) : Int)]) := by
  have c2 := is_v (n := now)
  have c3 := moments_v (c := c)
  unfold codePut at h ⊢
  rw [if_neg (by rw [h0]; simp)] at h ⊢
  by_cases h2 : isJ now = false
  · rw [if_pos (.inl h2)]
    rw [h2] at c2
    refine fun3 tb_ok Tryz.func9 rfl Tryz.ntmps9 Tryz.results9 rfl fun N => ?_
    repeat' (first | refine zt ?_ | (refine isR ?_; first | refine zo ?_ | refine zk c1 ?_ | refine zk c2 ?_ | refine zc5 ?_ | refine zc6 ?_ | (refine zs5 ?_ ?_ <;> intro hc) | (refine zs6 ?_ ?_ <;> intro hc)) | refine awp_split rfl (fun hb => ?_) (fun hb => ?_) | refine zr ?_ | exact x_le)
    all_goals first | rfl | (exfalso; omega)
  · have h2 : isJ now = true := by simpa using h2
    rw [h2] at c2
    by_cases h3 : badM c = true
    · rw [if_pos (.inr h3)]
      rw [h3] at c3
      change ACalls _ _ _ (.bool false) at c3
      refine fun3 tb_ok Tryz.func9 rfl Tryz.ntmps9 Tryz.results9 rfl fun N => ?_
      repeat' (first | refine zt ?_ | (refine isR ?_; first | refine zo ?_ | refine zk c1 ?_ | refine zk c2 ?_ | refine zk c3 ?_ | refine zc5 ?_ | refine zc6 ?_ | (refine zs5 ?_ ?_ <;> intro hc) | (refine zs6 ?_ ?_ <;> intro hc)) | refine awp_split rfl (fun hb => ?_) (fun hb => ?_) | refine zr ?_ | exact x_le)
      all_goals first | rfl | (exfalso; omega)
    · rw [if_neg (fun q => q.elim (fun q => by rw [h2] at q; cases q) h3)] at h ⊢
      have h3 : badM c = false := by simpa using h3
      rw [h3] at c3
      change ACalls _ _ _ (.bool true) at c3
      by_cases h5 : nx = 1099511627776
      · rw [if_pos h5]
        refine fun3 tb_ok Tryz.func9 rfl Tryz.ntmps9 Tryz.results9 rfl fun N => ?_
        repeat' (first | refine zt ?_ | (refine isR ?_; first | refine zo ?_ | refine zk c1 ?_ | refine zk c2 ?_ | refine zk c3 ?_ | refine zc5 ?_ | refine zc6 ?_ | (refine zs5 ?_ ?_ <;> intro hc) | (refine zs6 ?_ ?_ <;> intro hc)) | refine awp_split rfl (fun hb => ?_) (fun hb => ?_) | refine zr ?_ | exact x_le)
        all_goals first | rfl | (exfalso; omega)
      · rw [if_neg h5] at h
        exact absurd rfl h
end Go.Proofs.YtoehdmbogdpncaaGreatDoor.JarK
end

section
namespace Go.Proofs.YtoehdmbogdpncaaGreatDoor.SortM
open Go.RowKit Mem Abs SortP SortW

theorem half {i j : Nat} (h : i + j ≤ 562949953421312) : IntKind.u64.wrap ((i : Int) + (j : Int)) = (i : Int) + (j : Int) ∧ ((i : Int) + (j : Int)).fdiv 2 = (((i + j) / 2 : Nat) : Int) ∧ InR .u64 (((i + j) / 2 : Nat) : Int) ∧ IntKind.i64.wrap (((i + j) / 2 : Nat) : Int) = (((i + j) / 2 : Nat) : Int) := by
  have e : (((i + j) / 2 : Nat) : Int) = ((i : Int) + (j : Int)) / 2 := by omega
  refine ⟨?_, ?_, ?_, ?_⟩
  · simp [IntKind.wrap, IntKind.bits, IntKind.signed]; omega
  · rw [Int.fdiv_eq_ediv_of_nonneg _ (by decide), e]
  · exact ⟨by simp only [rng]; omega, by simp only [rng]; omega⟩
  · exact wrap64 (by omega) (by omega)
theorem bs_end {p : Nat → Bool} {f i j : Nat} (h : ¬ i < j) : bs p f i j = i := by
  cases f with
  | zero => rfl
  | succ f => unfold bs; rw [if_neg h]
theorem bs_on {p : Nat → Bool} {f i j : Nat} (h : i < j) (hf : j - i ≤ f) : ∃ q, f = q + 1 ∧ bs p f i j = if p ((i + j) / 2) = true then bs p q ((i + j) / 2 + 1) j else bs p q i ((i + j) / 2) := by
  obtain ⟨q, rfl⟩ : ∃ q, f = q + 1 := ⟨f - 1, by omega⟩
  refine ⟨q, rfl, ?_⟩
  rw [bs, if_pos h]
theorem ltAt_of {L : List Cookie} {i j : Nat} {x y : Cookie} (h1 : L[i]? = some x) (h2 : L[j]? = some y) : ltAt ckLt L i j = decide (cz x y < 0) := by unfold ltAt; rw [h1, h2]; rfl
/-- Two of a row changed. -/
theorem two {M : List Cookie} {i j : Nat} (h1 : i < M.length) (h2 : j < M.length) : ∃ x y z, M[i]? = some x ∧ M[j]? = some y ∧ (M.set i y)[j]? = some z ∧ swapF M i j = (M.set i y).set j x :=
  ⟨M[i], M[j], (M.set i M[j])[j]'(by simpa using h2), List.getElem?_eq_getElem _, List.getElem?_eq_getElem _, List.getElem?_eq_getElem _, by unfold swapF; rw [List.getElem?_eq_getElem h1, List.getElem?_eq_getElem h2]⟩
abbrev stM (len a m b : Nat) (L : List Cookie) (more : List (Nat × Abs.V)) : S := ⟨[(0, .own 0 0 len), (1, .int .i64 (a : Int)), (2, .int .i64 (m : Int)), (3, .int .i64 (b : Int)), (4, fnC)] ++ more, [(0, some (rowC L))], 1, 220⟩
set_option maxRecDepth 100000 in
set_option maxHeartbeats 4000000 in
theorem sym1_v {L : List Cookie} {a m b len : Nat} (f : Nat) (hl : L.length = len) (hL : len ≤ 140737488355328) (h1 : a < m) (h2 : m < b) (h3 : b ≤ len) (hc : m - a = 1) : MCalls Tryz.prog 90 [.own 0 0 len, .int .i64 (a : Int), .int .i64 (m : Int), .int .i64 (b : Int), fnC] [rowC L] (.tup []) [some (rowC (symF ckLt (f + 1) L a m b))] := by
  rw [symF, if_pos hc]
  obtain ⟨y, e2⟩ : ∃ y, L[a]? = some y := ⟨_, List.getElem?_eq_getElem (by omega)⟩
  have hp : ∀ h x, L[h]? = some x → (fun h => ltAt ckLt L h a) h = decide (cz x y < 0) := fun h x hx => ltAt_of hx e2
  generalize (fun h => ltAt ckLt L h a) = p at *
  have hT := bs_spec p (b - m) m b (by omega) (Nat.le_refl _)
  generalize hTT : bs p (b - m) m b = T at *
  refine mfun tb_ok Tryz.func90 rfl Tryz.ntmps90 Tryz.results90 rfl rfl rfl rfl fun N pl => ?_
  repeat' (first
      | with_reducible first | refine awp_seq ?_ | refine awp_region ?_ | refine awp_draw mixed ?_ | refine then_n ?_ | refine awp_skip ?_ | refine awp_block ?_ | refine awp_exit ?_ | refine awp_ret ?_ | refine awp_label ?_ | refine then_exit ?_ | refine then_ret ?_ | refine blk_n ?_ | refine blk_ret ?_ | refine blk_exit ?_ | refine blk_other rfl ?_ | refine then_k ?_
      | refine awp_true rfl ?_
      | refine awp_false rfl ?_
      | refine awp_split rfl (fun hb => ?_) (fun hb => ?_)
      | (refine isR ?_; first | refine x_far [] tb_ok rfl ?_ | refine r_nil ?_ | refine r_nild (by kernel_rfl) ?_ | refine x_addE ?_ | refine x_add ?_ | refine x_subE ?_ | refine x_sub ?_ | refine x_cat ?_ | refine x_lssT ?_ | refine x_lssF ?_ | refine x_lss (fun hc => ?_) (fun hc => ?_) | refine x_gtrT ?_ | refine x_gtrF ?_ | refine x_gtr (fun hc => ?_) (fun hc => ?_) | refine x_eqlT ?_ | refine x_eqlF ?_ | refine x_eql (fun hc => ?_) (fun hc => ?_) | refine x_eqlB ?_ | refine x_eqlST ?_ | refine x_eqlSF ?_ | refine x_eqlS (fun hc => ?_) (fun hc => ?_) | refine x_eqlI ?_ | refine x_eqlN ?_ | refine x_iaF tb_ok ?_ | refine x_iaO tb_ok ?_ | refine x_iaA tb_ok ?_ | refine x_iaAF tb_ok ?_ | refine x_bytes tb_ok ?_ | refine x_cv64 tb_ok ?_ | refine x_eqlA tb_ok ?_ | refine x_eqlAS tb_ok (fun hc => ?_) (fun hc => ?_))
      | refine x_ret ?_
      | refine x_nor ?_
      | exact x_le)
  refine awp_while (α := Nat × Nat) (fun x => stM len a m b L [(10, .int .i64 (x.1 : Int)), (11, .int .i64 (x.2 : Int))]) (fun x => m ≤ x.1 ∧ x.1 ≤ x.2 ∧ x.2 ≤ b ∧ ∃ f, x.2 - x.1 ≤ f ∧ bs p f x.1 x.2 = T) (fun x => x.2 - x.1) (m, b) (by exact x_le) ⟨Nat.le_refl _, by dsimp only; omega, Nat.le_refl _, b - m, Nat.le_refl _, hTT⟩ ?_
  rintro ⟨i, j⟩ ⟨g1, g2, g3, q, g4, g5⟩
  dsimp only at g1 g2 g3 g4 g5 ⊢
  by_cases hij : i < j
  · obtain ⟨q, rfl, hq⟩ := bs_on (p := p) hij g4
    rw [hq] at g5
    obtain ⟨x, e1⟩ : ∃ x, L[(i + j) / 2]? = some x := ⟨_, List.getElem?_eq_getElem (by omega)⟩
    rw [hp _ x e1] at g5
    obtain ⟨w1, w2, w3, w4⟩ := half (i := i) (j := j) (by omega)
    have hh : i ≤ (i + j) / 2 ∧ (i + j) / 2 < j := by omega
    generalize (i + j) / 2 = h at *
    have c1 := cmp_v (x := x) (y := y)
    by_cases hz : cz x y < 0
    · rw [if_pos (by simpa using hz)] at g5
      repeat' (first
          | with_reducible first | refine awp_seq ?_ | refine awp_region ?_ | refine awp_draw mixed ?_ | refine then_n ?_ | refine awp_skip ?_ | refine awp_block ?_ | refine awp_exit ?_ | refine awp_ret ?_ | refine awp_label ?_ | refine then_exit ?_ | refine then_ret ?_ | refine blk_n ?_ | refine blk_ret ?_ | refine blk_exit ?_ | refine blk_other rfl ?_ | refine then_k ?_
          | refine awp_true rfl ?_
          | refine awp_false rfl ?_
          | refine awp_split rfl (fun hb => ?_) (fun hb => ?_)
          | (refine isR ?_; first | refine x_far [] tb_ok rfl ?_ | refine r_nil ?_ | refine r_nild (by kernel_rfl) ?_ | refine x_cv .u64 tb_ok ?_ | refine x_shr1 ?_ | refine x_cv .i64 tb_ok ?_ | refine x_ldI Cookie.v h tb_ok ?_ | refine x_ldI Cookie.v a tb_ok ?_ | refine x_callv (c1 _) ?_ | refine x_callv (c1) ?_ | refine x_addE ?_ | refine x_add ?_ | refine x_subE ?_ | refine x_sub ?_ | refine x_cat ?_ | refine x_lssT ?_ | refine x_lssF ?_ | refine x_lss (fun hc => ?_) (fun hc => ?_) | refine x_gtrT ?_ | refine x_gtrF ?_ | refine x_gtr (fun hc => ?_) (fun hc => ?_) | refine x_eqlT ?_ | refine x_eqlF ?_ | refine x_eql (fun hc => ?_) (fun hc => ?_) | refine x_eqlB ?_ | refine x_eqlST ?_ | refine x_eqlSF ?_ | refine x_eqlS (fun hc => ?_) (fun hc => ?_) | refine x_eqlI ?_ | refine x_eqlN ?_ | refine x_iaF tb_ok ?_ | refine x_iaO tb_ok ?_ | refine x_iaA tb_ok ?_ | refine x_iaAF tb_ok ?_ | refine x_bytes tb_ok ?_ | refine x_cv64 tb_ok ?_ | refine x_eqlA tb_ok ?_ | refine x_eqlAS tb_ok (fun hc => ?_) (fun hc => ?_))
          | refine x_ret ?_
          | refine x_nor ?_
          | exact x_le)
      refine ⟨(h + 1, j), ⟨by dsimp only; omega, by dsimp only; omega, g3, q, by dsimp only; omega, g5⟩, by dsimp only; omega, ?_⟩
      exact (by exact x_le)
    · rw [if_neg (by simpa using hz)] at g5
      repeat' (first
          | with_reducible first | refine awp_seq ?_ | refine awp_region ?_ | refine awp_draw mixed ?_ | refine then_n ?_ | refine awp_skip ?_ | refine awp_block ?_ | refine awp_exit ?_ | refine awp_ret ?_ | refine awp_label ?_ | refine then_exit ?_ | refine then_ret ?_ | refine blk_n ?_ | refine blk_ret ?_ | refine blk_exit ?_ | refine blk_other rfl ?_ | refine then_k ?_
          | refine awp_true rfl ?_
          | refine awp_false rfl ?_
          | refine awp_split rfl (fun hb => ?_) (fun hb => ?_)
          | (refine isR ?_; first | refine x_far [] tb_ok rfl ?_ | refine r_nil ?_ | refine r_nild (by kernel_rfl) ?_ | refine x_cv .u64 tb_ok ?_ | refine x_shr1 ?_ | refine x_cv .i64 tb_ok ?_ | refine x_ldI Cookie.v h tb_ok ?_ | refine x_ldI Cookie.v a tb_ok ?_ | refine x_callv (c1 _) ?_ | refine x_callv (c1) ?_ | refine x_addE ?_ | refine x_add ?_ | refine x_subE ?_ | refine x_sub ?_ | refine x_cat ?_ | refine x_lssT ?_ | refine x_lssF ?_ | refine x_lss (fun hc => ?_) (fun hc => ?_) | refine x_gtrT ?_ | refine x_gtrF ?_ | refine x_gtr (fun hc => ?_) (fun hc => ?_) | refine x_eqlT ?_ | refine x_eqlF ?_ | refine x_eql (fun hc => ?_) (fun hc => ?_) | refine x_eqlB ?_ | refine x_eqlST ?_ | refine x_eqlSF ?_ | refine x_eqlS (fun hc => ?_) (fun hc => ?_) | refine x_eqlI ?_ | refine x_eqlN ?_ | refine x_iaF tb_ok ?_ | refine x_iaO tb_ok ?_ | refine x_iaA tb_ok ?_ | refine x_iaAF tb_ok ?_ | refine x_bytes tb_ok ?_ | refine x_cv64 tb_ok ?_ | refine x_eqlA tb_ok ?_ | refine x_eqlAS tb_ok (fun hc => ?_) (fun hc => ?_))
          | refine x_ret ?_
          | refine x_nor ?_
          | exact x_le)
      refine ⟨(i, h), ⟨g1, by dsimp only; omega, by dsimp only; omega, q, by dsimp only; omega, g5⟩, by dsimp only; omega, ?_⟩
      exact (by exact x_le)
  · rw [bs_end hij] at g5
    subst g5
    repeat' (first
        | with_reducible first | refine awp_seq ?_ | refine awp_region ?_ | refine awp_draw mixed ?_ | refine then_n ?_ | refine awp_skip ?_ | refine awp_block ?_ | refine awp_exit ?_ | refine awp_ret ?_ | refine awp_label ?_ | refine then_exit ?_ | refine then_ret ?_ | refine blk_n ?_ | refine blk_ret ?_ | refine blk_exit ?_ | refine blk_other rfl ?_ | refine then_k ?_
        | refine awp_true rfl ?_
        | refine awp_false rfl ?_
        | refine awp_split rfl (fun hb => ?_) (fun hb => ?_)
        | (refine isR ?_; first | refine x_far [] tb_ok rfl ?_ | refine r_nil ?_ | refine r_nild (by kernel_rfl) ?_ | refine x_addE ?_ | refine x_add ?_ | refine x_subE ?_ | refine x_sub ?_ | refine x_cat ?_ | refine x_lssT ?_ | refine x_lssF ?_ | refine x_lss (fun hc => ?_) (fun hc => ?_) | refine x_gtrT ?_ | refine x_gtrF ?_ | refine x_gtr (fun hc => ?_) (fun hc => ?_) | refine x_eqlT ?_ | refine x_eqlF ?_ | refine x_eql (fun hc => ?_) (fun hc => ?_) | refine x_eqlB ?_ | refine x_eqlST ?_ | refine x_eqlSF ?_ | refine x_eqlS (fun hc => ?_) (fun hc => ?_) | refine x_eqlI ?_ | refine x_eqlN ?_ | refine x_iaF tb_ok ?_ | refine x_iaO tb_ok ?_ | refine x_iaA tb_ok ?_ | refine x_iaAF tb_ok ?_ | refine x_bytes tb_ok ?_ | refine x_cv64 tb_ok ?_ | refine x_eqlA tb_ok ?_ | refine x_eqlAS tb_ok (fun hc => ?_) (fun hc => ?_))
        | refine x_ret ?_
        | refine x_nor ?_
        | exact x_le)
    refine awp_while (α := Nat × List Cookie) (fun x => stM len a m b x.2 [(10, .int .i64 (i : Int)), (13, .int .i64 (x.1 : Int))]) (fun x => a ≤ x.1 ∧ x.1 ≤ i - 1 ∧ x.2.length = len ∧ upF (i - 1 - x.1) x.1 x.2 = upF (i - 1 - a) a L) (fun x => i - x.1) (a, L) (by exact x_le) ⟨Nat.le_refl _, by dsimp only; omega, hl, rfl⟩ ?_
    rintro ⟨k, M⟩ ⟨k1, k2, k3, k4⟩
    dsimp only at k1 k2 k3 k4 ⊢
    by_cases hk : k < i - 1
    · obtain ⟨x, y, z, m1, m2, m3, m4⟩ := two (M := M) (i := k) (j := k + 1) (by omega) (by omega)
      repeat' (first
          | with_reducible first | refine awp_seq ?_ | refine awp_region ?_ | refine awp_draw mixed ?_ | refine then_n ?_ | refine awp_skip ?_ | refine awp_block ?_ | refine awp_exit ?_ | refine awp_ret ?_ | refine awp_label ?_ | refine then_exit ?_ | refine then_ret ?_ | refine blk_n ?_ | refine blk_ret ?_ | refine blk_exit ?_ | refine blk_other rfl ?_ | refine then_k ?_
          | refine awp_true rfl ?_
          | refine awp_false rfl ?_
          | refine awp_split rfl (fun hb => ?_) (fun hb => ?_)
          | (refine isR ?_; first | refine x_far [] tb_ok rfl ?_ | refine r_nil ?_ | refine r_nild (by kernel_rfl) ?_ | refine x_ldI Cookie.v (k + 1) tb_ok ?_ | refine x_ldI Cookie.v k tb_ok ?_ | refine x_stI Cookie.v (a1 := y) k tb_ok ?_ | refine x_stI Cookie.v (a1 := x) (k + 1) tb_ok ?_ | refine x_addE ?_ | refine x_add ?_ | refine x_subE ?_ | refine x_sub ?_ | refine x_cat ?_ | refine x_lssT ?_ | refine x_lssF ?_ | refine x_lss (fun hc => ?_) (fun hc => ?_) | refine x_gtrT ?_ | refine x_gtrF ?_ | refine x_gtr (fun hc => ?_) (fun hc => ?_) | refine x_eqlT ?_ | refine x_eqlF ?_ | refine x_eql (fun hc => ?_) (fun hc => ?_) | refine x_eqlB ?_ | refine x_eqlST ?_ | refine x_eqlSF ?_ | refine x_eqlS (fun hc => ?_) (fun hc => ?_) | refine x_eqlI ?_ | refine x_eqlN ?_ | refine x_iaF tb_ok ?_ | refine x_iaO tb_ok ?_ | refine x_iaA tb_ok ?_ | refine x_iaAF tb_ok ?_ | refine x_bytes tb_ok ?_ | refine x_cv64 tb_ok ?_ | refine x_eqlA tb_ok ?_ | refine x_eqlAS tb_ok (fun hc => ?_) (fun hc => ?_))
          | refine x_ret ?_
          | refine x_nor ?_
          | exact x_le)
      refine ⟨(k + 1, (M.set k y).set (k + 1) x), ⟨by dsimp only; omega, by dsimp only; omega, by simp [k3], ?_⟩, by dsimp only; omega, ?_⟩
      · show upF (i - 1 - (k + 1)) (k + 1) _ = _
        rw [← k4, ← m4, show i - 1 - k = (i - 1 - (k + 1)) + 1 by omega, upF]
      · exact (by exact x_le)
    · rw [show i - 1 - k = 0 by omega, upF] at k4
      rw [← k4]
      repeat' (first
          | with_reducible first | refine awp_seq ?_ | refine awp_region ?_ | refine awp_draw mixed ?_ | refine then_n ?_ | refine awp_skip ?_ | refine awp_block ?_ | refine awp_exit ?_ | refine awp_ret ?_ | refine awp_label ?_ | refine then_exit ?_ | refine then_ret ?_ | refine blk_n ?_ | refine blk_ret ?_ | refine blk_exit ?_ | refine blk_other rfl ?_ | refine then_k ?_
          | refine awp_true rfl ?_
          | refine awp_false rfl ?_
          | refine awp_split rfl (fun hb => ?_) (fun hb => ?_)
          | (refine isR ?_; first | refine x_far [] tb_ok rfl ?_ | refine r_nil ?_ | refine r_nild (by kernel_rfl) ?_ | refine x_addE ?_ | refine x_add ?_ | refine x_subE ?_ | refine x_sub ?_ | refine x_cat ?_ | refine x_lssT ?_ | refine x_lssF ?_ | refine x_lss (fun hc => ?_) (fun hc => ?_) | refine x_gtrT ?_ | refine x_gtrF ?_ | refine x_gtr (fun hc => ?_) (fun hc => ?_) | refine x_eqlT ?_ | refine x_eqlF ?_ | refine x_eql (fun hc => ?_) (fun hc => ?_) | refine x_eqlB ?_ | refine x_eqlST ?_ | refine x_eqlSF ?_ | refine x_eqlS (fun hc => ?_) (fun hc => ?_) | refine x_eqlI ?_ | refine x_eqlN ?_ | refine x_iaF tb_ok ?_ | refine x_iaO tb_ok ?_ | refine x_iaA tb_ok ?_ | refine x_iaAF tb_ok ?_ | refine x_bytes tb_ok ?_ | refine x_cv64 tb_ok ?_ | refine x_eqlA tb_ok ?_ | refine x_eqlAS tb_ok (fun hc => ?_) (fun hc => ?_))
          | refine x_mret [0] ?_ ?_
          | refine x_mnor [0] ?_ ?_
          | refine x_ret ?_
          | refine x_nor ?_
          | exact x_le)
      · rfl
      · exact .on (.same (nl_map fun _ => rfl)) .nil
set_option maxRecDepth 100000 in
set_option maxHeartbeats 4000000 in
theorem sym2_v {L : List Cookie} {a m b len : Nat} (f : Nat) (hl : L.length = len) (hL : len ≤ 140737488355328) (h1 : a < m) (h2 : m < b) (h3 : b ≤ len) (hc : ¬ m - a = 1) (hd : b - m = 1) : MCalls Tryz.prog 90 [.own 0 0 len, .int .i64 (a : Int), .int .i64 (m : Int), .int .i64 (b : Int), fnC] [rowC L] (.tup []) [some (rowC (symF ckLt (f + 1) L a m b))] := by
  rw [symF, if_neg hc, if_pos hd]
  obtain ⟨y, e2⟩ : ∃ y, L[m]? = some y := ⟨_, List.getElem?_eq_getElem (by omega)⟩
  have hp : ∀ h x, L[h]? = some x → (fun h => !ltAt ckLt L m h) h = !decide (cz y x < 0) := fun h x hx => congrArg (!·) (ltAt_of e2 hx)
  generalize (fun h => !ltAt ckLt L m h) = p at *
  have hT := bs_spec p (m - a) a m (by omega) (Nat.le_refl _)
  generalize hTT : bs p (m - a) a m = T at *
  refine mfun tb_ok Tryz.func90 rfl Tryz.ntmps90 Tryz.results90 rfl rfl rfl rfl fun N pl => ?_
  repeat' (first
      | with_reducible first | refine awp_seq ?_ | refine awp_region ?_ | refine awp_draw mixed ?_ | refine then_n ?_ | refine awp_skip ?_ | refine awp_block ?_ | refine awp_exit ?_ | refine awp_ret ?_ | refine awp_label ?_ | refine then_exit ?_ | refine then_ret ?_ | refine blk_n ?_ | refine blk_ret ?_ | refine blk_exit ?_ | refine blk_other rfl ?_ | refine then_k ?_
      | refine awp_true rfl ?_
      | refine awp_false rfl ?_
      | refine awp_split rfl (fun hb => ?_) (fun hb => ?_)
      | (refine isR ?_; first | refine x_far [] tb_ok rfl ?_ | refine r_nil ?_ | refine r_nild (by kernel_rfl) ?_ | refine x_addE ?_ | refine x_add ?_ | refine x_subE ?_ | refine x_sub ?_ | refine x_cat ?_ | refine x_lssT ?_ | refine x_lssF ?_ | refine x_lss (fun hc => ?_) (fun hc => ?_) | refine x_gtrT ?_ | refine x_gtrF ?_ | refine x_gtr (fun hc => ?_) (fun hc => ?_) | refine x_eqlT ?_ | refine x_eqlF ?_ | refine x_eql (fun hc => ?_) (fun hc => ?_) | refine x_eqlB ?_ | refine x_eqlST ?_ | refine x_eqlSF ?_ | refine x_eqlS (fun hc => ?_) (fun hc => ?_) | refine x_eqlI ?_ | refine x_eqlN ?_ | refine x_iaF tb_ok ?_ | refine x_iaO tb_ok ?_ | refine x_iaA tb_ok ?_ | refine x_iaAF tb_ok ?_ | refine x_bytes tb_ok ?_ | refine x_cv64 tb_ok ?_ | refine x_eqlA tb_ok ?_ | refine x_eqlAS tb_ok (fun hc => ?_) (fun hc => ?_))
      | refine x_ret ?_
      | refine x_nor ?_
      | exact x_le)
  refine awp_while (α := Nat × Nat) (fun x => stM len a m b L [(14, .int .i64 (x.1 : Int)), (15, .int .i64 (x.2 : Int))]) (fun x => a ≤ x.1 ∧ x.1 ≤ x.2 ∧ x.2 ≤ m ∧ ∃ f, x.2 - x.1 ≤ f ∧ bs p f x.1 x.2 = T) (fun x => x.2 - x.1) (a, m) (by exact x_le) ⟨Nat.le_refl _, by dsimp only; omega, Nat.le_refl _, m - a, Nat.le_refl _, hTT⟩ ?_
  rintro ⟨i, j⟩ ⟨g1, g2, g3, q, g4, g5⟩
  dsimp only at g1 g2 g3 g4 g5 ⊢
  by_cases hij : i < j
  · obtain ⟨q, rfl, hq⟩ := bs_on (p := p) hij g4
    rw [hq] at g5
    obtain ⟨x, e1⟩ : ∃ x, L[(i + j) / 2]? = some x := ⟨_, List.getElem?_eq_getElem (by omega)⟩
    rw [hp _ x e1] at g5
    obtain ⟨w1, w2, w3, w4⟩ := half (i := i) (j := j) (by omega)
    have hh : i ≤ (i + j) / 2 ∧ (i + j) / 2 < j := by omega
    generalize (i + j) / 2 = h at *
    have c1 := cmp_v (x := y) (y := x)
    by_cases hz : cz y x < 0
    · rw [if_neg (by simpa using hz)] at g5
      repeat' (first
          | with_reducible first | refine awp_seq ?_ | refine awp_region ?_ | refine awp_draw mixed ?_ | refine then_n ?_ | refine awp_skip ?_ | refine awp_block ?_ | refine awp_exit ?_ | refine awp_ret ?_ | refine awp_label ?_ | refine then_exit ?_ | refine then_ret ?_ | refine blk_n ?_ | refine blk_ret ?_ | refine blk_exit ?_ | refine blk_other rfl ?_ | refine then_k ?_
          | refine awp_true rfl ?_
          | refine awp_false rfl ?_
          | refine awp_split rfl (fun hb => ?_) (fun hb => ?_)
          | (refine isR ?_; first | refine x_far [] tb_ok rfl ?_ | refine r_nil ?_ | refine r_nild (by kernel_rfl) ?_ | refine x_cv .u64 tb_ok ?_ | refine x_shr1 ?_ | refine x_cv .i64 tb_ok ?_ | refine x_ldI Cookie.v h tb_ok ?_ | refine x_ldI Cookie.v m tb_ok ?_ | refine x_callv (c1 _) ?_ | refine x_callv (c1) ?_ | refine x_addE ?_ | refine x_add ?_ | refine x_subE ?_ | refine x_sub ?_ | refine x_cat ?_ | refine x_lssT ?_ | refine x_lssF ?_ | refine x_lss (fun hc => ?_) (fun hc => ?_) | refine x_gtrT ?_ | refine x_gtrF ?_ | refine x_gtr (fun hc => ?_) (fun hc => ?_) | refine x_eqlT ?_ | refine x_eqlF ?_ | refine x_eql (fun hc => ?_) (fun hc => ?_) | refine x_eqlB ?_ | refine x_eqlST ?_ | refine x_eqlSF ?_ | refine x_eqlS (fun hc => ?_) (fun hc => ?_) | refine x_eqlI ?_ | refine x_eqlN ?_ | refine x_iaF tb_ok ?_ | refine x_iaO tb_ok ?_ | refine x_iaA tb_ok ?_ | refine x_iaAF tb_ok ?_ | refine x_bytes tb_ok ?_ | refine x_cv64 tb_ok ?_ | refine x_eqlA tb_ok ?_ | refine x_eqlAS tb_ok (fun hc => ?_) (fun hc => ?_))
          | refine x_ret ?_
          | refine x_nor ?_
          | exact x_le)
      refine ⟨(i, h), ⟨g1, by dsimp only; omega, by dsimp only; omega, q, by dsimp only; omega, g5⟩, by dsimp only; omega, ?_⟩
      exact (by exact x_le)
    · rw [if_pos (by simpa using hz)] at g5
      repeat' (first
          | with_reducible first | refine awp_seq ?_ | refine awp_region ?_ | refine awp_draw mixed ?_ | refine then_n ?_ | refine awp_skip ?_ | refine awp_block ?_ | refine awp_exit ?_ | refine awp_ret ?_ | refine awp_label ?_ | refine then_exit ?_ | refine then_ret ?_ | refine blk_n ?_ | refine blk_ret ?_ | refine blk_exit ?_ | refine blk_other rfl ?_ | refine then_k ?_
          | refine awp_true rfl ?_
          | refine awp_false rfl ?_
          | refine awp_split rfl (fun hb => ?_) (fun hb => ?_)
          | (refine isR ?_; first | refine x_far [] tb_ok rfl ?_ | refine r_nil ?_ | refine r_nild (by kernel_rfl) ?_ | refine x_cv .u64 tb_ok ?_ | refine x_shr1 ?_ | refine x_cv .i64 tb_ok ?_ | refine x_ldI Cookie.v h tb_ok ?_ | refine x_ldI Cookie.v m tb_ok ?_ | refine x_callv (c1 _) ?_ | refine x_callv (c1) ?_ | refine x_addE ?_ | refine x_add ?_ | refine x_subE ?_ | refine x_sub ?_ | refine x_cat ?_ | refine x_lssT ?_ | refine x_lssF ?_ | refine x_lss (fun hc => ?_) (fun hc => ?_) | refine x_gtrT ?_ | refine x_gtrF ?_ | refine x_gtr (fun hc => ?_) (fun hc => ?_) | refine x_eqlT ?_ | refine x_eqlF ?_ | refine x_eql (fun hc => ?_) (fun hc => ?_) | refine x_eqlB ?_ | refine x_eqlST ?_ | refine x_eqlSF ?_ | refine x_eqlS (fun hc => ?_) (fun hc => ?_) | refine x_eqlI ?_ | refine x_eqlN ?_ | refine x_iaF tb_ok ?_ | refine x_iaO tb_ok ?_ | refine x_iaA tb_ok ?_ | refine x_iaAF tb_ok ?_ | refine x_bytes tb_ok ?_ | refine x_cv64 tb_ok ?_ | refine x_eqlA tb_ok ?_ | refine x_eqlAS tb_ok (fun hc => ?_) (fun hc => ?_))
          | refine x_ret ?_
          | refine x_nor ?_
          | exact x_le)
      refine ⟨(h + 1, j), ⟨by dsimp only; omega, by dsimp only; omega, g3, q, by dsimp only; omega, g5⟩, by dsimp only; omega, ?_⟩
      exact (by exact x_le)
  · rw [bs_end hij] at g5
    subst g5
    repeat' (first
        | with_reducible first | refine awp_seq ?_ | refine awp_region ?_ | refine awp_draw mixed ?_ | refine then_n ?_ | refine awp_skip ?_ | refine awp_block ?_ | refine awp_exit ?_ | refine awp_ret ?_ | refine awp_label ?_ | refine then_exit ?_ | refine then_ret ?_ | refine blk_n ?_ | refine blk_ret ?_ | refine blk_exit ?_ | refine blk_other rfl ?_ | refine then_k ?_
        | refine awp_true rfl ?_
        | refine awp_false rfl ?_
        | refine awp_split rfl (fun hb => ?_) (fun hb => ?_)
        | (refine isR ?_; first | refine x_far [] tb_ok rfl ?_ | refine r_nil ?_ | refine r_nild (by kernel_rfl) ?_ | refine x_addE ?_ | refine x_add ?_ | refine x_subE ?_ | refine x_sub ?_ | refine x_cat ?_ | refine x_lssT ?_ | refine x_lssF ?_ | refine x_lss (fun hc => ?_) (fun hc => ?_) | refine x_gtrT ?_ | refine x_gtrF ?_ | refine x_gtr (fun hc => ?_) (fun hc => ?_) | refine x_eqlT ?_ | refine x_eqlF ?_ | refine x_eql (fun hc => ?_) (fun hc => ?_) | refine x_eqlB ?_ | refine x_eqlST ?_ | refine x_eqlSF ?_ | refine x_eqlS (fun hc => ?_) (fun hc => ?_) | refine x_eqlI ?_ | refine x_eqlN ?_ | refine x_iaF tb_ok ?_ | refine x_iaO tb_ok ?_ | refine x_iaA tb_ok ?_ | refine x_iaAF tb_ok ?_ | refine x_bytes tb_ok ?_ | refine x_cv64 tb_ok ?_ | refine x_eqlA tb_ok ?_ | refine x_eqlAS tb_ok (fun hc => ?_) (fun hc => ?_))
        | refine x_ret ?_
        | refine x_nor ?_
        | exact x_le)
    refine awp_while (α := Nat × List Cookie) (fun x => stM len a m b x.2 [(14, .int .i64 (i : Int)), (17, .int .i64 (x.1 : Int))]) (fun x => x.1 ≤ m ∧ i ≤ x.1 ∧ x.2.length = len ∧ downF i x.1 x.2 = downF i m L) (fun x => x.1) (m, L) (by exact x_le) ⟨Nat.le_refl _, by dsimp only; omega, hl, rfl⟩ ?_
    rintro ⟨k, M⟩ ⟨k1, k2, k3, k4⟩
    dsimp only at k1 k2 k3 k4 ⊢
    by_cases hk : i < k
    · obtain ⟨k, rfl⟩ : ∃ q, k = q + 1 := ⟨k - 1, by omega⟩
      rw [downF, if_pos hk] at k4
      obtain ⟨x, y, z, m1, m2, m3, m4⟩ := two (M := M) (i := k + 1) (j := k) (by omega) (by omega)
      repeat' (first
          | with_reducible first | refine awp_seq ?_ | refine awp_region ?_ | refine awp_draw mixed ?_ | refine then_n ?_ | refine awp_skip ?_ | refine awp_block ?_ | refine awp_exit ?_ | refine awp_ret ?_ | refine awp_label ?_ | refine then_exit ?_ | refine then_ret ?_ | refine blk_n ?_ | refine blk_ret ?_ | refine blk_exit ?_ | refine blk_other rfl ?_ | refine then_k ?_
          | refine awp_true rfl ?_
          | refine awp_false rfl ?_
          | refine awp_split rfl (fun hb => ?_) (fun hb => ?_)
          | (refine isR ?_; first | refine x_far [] tb_ok rfl ?_ | refine r_nil ?_ | refine r_nild (by kernel_rfl) ?_ | refine x_ldI Cookie.v (k + 1) tb_ok ?_ | refine x_ldI Cookie.v k tb_ok ?_ | refine x_stI Cookie.v (a1 := y) (k + 1) tb_ok ?_ | refine x_stI Cookie.v (a1 := x) k tb_ok ?_ | refine x_addE ?_ | refine x_add ?_ | refine x_subE ?_ | refine x_sub ?_ | refine x_cat ?_ | refine x_lssT ?_ | refine x_lssF ?_ | refine x_lss (fun hc => ?_) (fun hc => ?_) | refine x_gtrT ?_ | refine x_gtrF ?_ | refine x_gtr (fun hc => ?_) (fun hc => ?_) | refine x_eqlT ?_ | refine x_eqlF ?_ | refine x_eql (fun hc => ?_) (fun hc => ?_) | refine x_eqlB ?_ | refine x_eqlST ?_ | refine x_eqlSF ?_ | refine x_eqlS (fun hc => ?_) (fun hc => ?_) | refine x_eqlI ?_ | refine x_eqlN ?_ | refine x_iaF tb_ok ?_ | refine x_iaO tb_ok ?_ | refine x_iaA tb_ok ?_ | refine x_iaAF tb_ok ?_ | refine x_bytes tb_ok ?_ | refine x_cv64 tb_ok ?_ | refine x_eqlA tb_ok ?_ | refine x_eqlAS tb_ok (fun hc => ?_) (fun hc => ?_))
          | refine x_ret ?_
          | refine x_nor ?_
          | exact x_le)
      refine ⟨(k, (M.set (k + 1) y).set k x), ⟨by dsimp only; omega, by dsimp only; omega, by simp [k3], ?_⟩, by dsimp only; omega, ?_⟩
      · show downF i k _ = _
        rw [← k4, ← m4]
      · have ek : ((k : Nat) : Int) = ((k + 1 : Nat) : Int) - 1 := by omega
        dsimp only
        rw [ek]
        exact (by exact x_le)
    · have hd0 : downF i k M = M := by
        cases k with
        | zero => rfl
        | succ k => rw [downF, if_neg hk]
      rw [hd0] at k4
      rw [← k4]
      repeat' (first
          | with_reducible first | refine awp_seq ?_ | refine awp_region ?_ | refine awp_draw mixed ?_ | refine then_n ?_ | refine awp_skip ?_ | refine awp_block ?_ | refine awp_exit ?_ | refine awp_ret ?_ | refine awp_label ?_ | refine then_exit ?_ | refine then_ret ?_ | refine blk_n ?_ | refine blk_ret ?_ | refine blk_exit ?_ | refine blk_other rfl ?_ | refine then_k ?_
          | refine awp_true rfl ?_
          | refine awp_false rfl ?_
          | refine awp_split rfl (fun hb => ?_) (fun hb => ?_)
          | (refine isR ?_; first | refine x_far [] tb_ok rfl ?_ | refine r_nil ?_ | refine r_nild (by kernel_rfl) ?_ | refine x_addE ?_ | refine x_add ?_ | refine x_subE ?_ | refine x_sub ?_ | refine x_cat ?_ | refine x_lssT ?_ | refine x_lssF ?_ | refine x_lss (fun hc => ?_) (fun hc => ?_) | refine x_gtrT ?_ | refine x_gtrF ?_ | refine x_gtr (fun hc => ?_) (fun hc => ?_) | refine x_eqlT ?_ | refine x_eqlF ?_ | refine x_eql (fun hc => ?_) (fun hc => ?_) | refine x_eqlB ?_ | refine x_eqlST ?_ | refine x_eqlSF ?_ | refine x_eqlS (fun hc => ?_) (fun hc => ?_) | refine x_eqlI ?_ | refine x_eqlN ?_ | refine x_iaF tb_ok ?_ | refine x_iaO tb_ok ?_ | refine x_iaA tb_ok ?_ | refine x_iaAF tb_ok ?_ | refine x_bytes tb_ok ?_ | refine x_cv64 tb_ok ?_ | refine x_eqlA tb_ok ?_ | refine x_eqlAS tb_ok (fun hc => ?_) (fun hc => ?_))
          | refine x_mret [0] ?_ ?_
          | refine x_mnor [0] ?_ ?_
          | refine x_ret ?_
          | refine x_nor ?_
          | exact x_le)
      · rfl
      · exact .on (.same (nl_map fun _ => rfl)) .nil
end Go.Proofs.YtoehdmbogdpncaaGreatDoor.SortM
end
