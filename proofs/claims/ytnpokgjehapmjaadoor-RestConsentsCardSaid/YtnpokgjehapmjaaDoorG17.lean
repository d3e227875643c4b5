/- Texts of the proof, joined: ConTD, ConU. -/
import Derived.Test.YtnpokgjehapmjaaDoorG16
import Derived.Test.YtnpokgjehapmjaaDoorG10
section
namespace Go.Proofs.YtnpokgjehapmjaaDoor.ConTD
open Go.RowKit Mem Abs Scan BitsP ConP ConQ ConC ConM ConK ConO
set_option maxRecDepth 100000 in
set_option maxHeartbeats 4000000 in
theorem lawD {g1 g2 p w n : Int} {P Q : Nat → Bool} {L K : List Int} (hL : L.length ≤ 17592186043904) (hK : K.length ≤ 17592186043904) {em ej : Int} (cm : ACalls Tryd.prog 4 [conI g1 P L, conI g2 Q K] (.tup [noC, .int .i64 em])) (cj : ACalls Tryd.prog 5 [conI g1 P L, conI g2 Q K] (.tup [noC, .int .i64 ej])) {ed : Int} (cd : ACalls Tryd.prog 6 [conI g1 P L, .int .i64 p, .int .i64 w, .int .i64 n] (.tup [noC, .int .i64 ed])) : ACalls Tryd.prog 3 [conI g1 P L, conI g2 Q K, .int .i64 p, .int .i64 w, .int .i64 n] (.bool true) := by
  have hml : (L.map (Abs.V.int .i64)).length = L.length := List.length_map _
  have hmk : (K.map (Abs.V.int .i64)).length = K.length := List.length_map _
  have hq1 : (((L.map (Abs.V.int .i64)).length : Nat) : Int) + 1 = (((L.map (Abs.V.int .i64)).length + 1 : Nat) : Int) := by omega
  have hq2 : (((K.map (Abs.V.int .i64)).length : Nat) : Int) + 1 = (((K.map (Abs.V.int .i64)).length + 1 : Nat) : Int) := by omega
  have ha1 : (([] : List Int) ++ L).length = L.length := rfl
  have ha2 : (([] : List Int) ++ K).length = K.length := rfl
  have ha3 : (([] : List Int) ++ L ++ [(77 : Int)]).length = L.length + 1 := by simp
  have ha4 : (([] : List Int) ++ K ++ [(78 : Int)]).length = K.length + 1 := by simp
  have hl1 : (L ++ [(77 : Int)]).length = L.length + 1 := by simp
  have hl2 : (K ++ [(78 : Int)]).length = K.length + 1 := by simp
  have hg1 : (L ++ [(77 : Int)])[(L.map (Abs.V.int .i64)).length]? = some 77 := by rw [hml]; simp
  have hg2 : (K ++ [(78 : Int)])[(K.map (Abs.V.int .i64)).length]? = some 78 := by rw [hmk]; simp
  have s1 : ACalls Tryd.prog 10 [conX g1 P (cutX L 77), conI g1 P L] (.bool true) := by rw [cutX, tailV]; exact same_t
  have s2 : ACalls Tryd.prog 10 [conX g2 Q (cutX K 78), conI g2 Q K] (.bool true) := by rw [cutX, tailV]; exact same_t
  have cw : ACalls Tryd.prog 7 [conX g1 P (cutX L 77)] (.tup [strT (ConZ.writeC g1 P L).1, .int .i64 ((ConZ.writeC g1 P L).2 : Int)]) := by rw [cutX, tailV]; exact ConZ.write_v (g := g1) (P := P) (L := L)
  generalize ConZ.writeC g1 P L = wr at *
  have b1 := ConN.gbegun_v
  have b2 := ConL.begun_v
  have cm : ACalls Tryd.prog 4 [conX g1 P (cutX L 77), conX g2 Q (cutX K 78)] (.tup [noC, .int .i64 em]) := by rw [cutX, cutX, tailV, tailV]; exact cm
  have cj : ACalls Tryd.prog 5 [conX g1 P (cutX L 77), conX g2 Q (cutX K 78)] (.tup [noC, .int .i64 ej]) := by rw [cutX, cutX, tailV, tailV]; exact cj
  have cd : ACalls Tryd.prog 6 [conX g1 P (cutX L 77), .int .i64 p, .int .i64 w, .int .i64 n] (.tup [noC, .int .i64 ed]) := by rw [cutX, tailV]; exact cd
  refine fun5 tb_ok Tryd.func3 rfl Tryd.ntmps3 Tryd.results3 rfl fun N => ?_
  apply awp_share (s1 := ⟨[(2, .int .i64 p), (3, .int .i64 w), (4, .int .i64 n), (5, .fp (Abs.V.cells (conI g1 P L)) 0), (6, .fp (Abs.V.cells (conI g2 Q K)) 0), (11, .loc 0 0 0), (12, .loc 1 0 0)], [(0, some (.els TN 12 [conX g1 P (ownX 4 L)])), (1, some (.els TN 12 [conX g2 Q (ownX 7 K)])), (4, some (rX L 77)), (7, some (rX K 78))], 8, 145⟩) True
  case main =>
    intro H
    have H := H trivial
    repeat' (first | ((with_reducible refine awp_cutRH (id := 4) H ?_); exact x_le) | ((with_reducible refine awp_cutRS (id := 4) H ?_); exact x_le) | refine zt ?_ | (refine isR ?_; first | refine zo ?_ | refine x_mk0 (Abs.V.int .i64) ((L.map (Abs.V.int .i64)).length + 1) tb_ok ?_ | refine x_mk0 (Abs.V.int .i64) ((K.map (Abs.V.int .i64)).length + 1) tb_ok ?_ | refine x_appK (Abs.V.int .i64) (L := []) (K' := L) tb_ok ?_ | refine x_appK (Abs.V.int .i64) (L := []) (K' := K) tb_ok ?_ | refine x_app (Abs.V.int .i64) (a1 := (77 : Int)) tb_ok ?_ | refine x_app (Abs.V.int .i64) (a1 := (78 : Int)) tb_ok ?_ | refine x_slOt tb_ok ?_ | refine x_bs tb_ok ?_ | refine zA ?_ | refine zL ?_ | refine zc1 ?_ | refine zc5 ?_ | refine zI ?_ | refine zS ?_ | (refine zs1 ?_ ?_ <;> intro hc) | (refine zs5 ?_ ?_ <;> intro hc)) | refine awp_split rfl (fun hb => ?_) (fun hb => ?_) | refine zr ?_ | exact x_le)
  case k =>
    intro _
    repeat' (first | refine zt ?_ | (refine isR ?_; first | refine zo ?_ | refine x_callz [4,7] (cm _) ?_ (hok := (by repeat' first | exact trivial | exact rfl | exact tail_ok | exact tail_no | exact frz_map (fun _ => rfl) | constructor)) | refine x_callz [4,7] (cj _) ?_ (hok := (by repeat' first | exact trivial | exact rfl | exact tail_ok | exact tail_no | exact frz_map (fun _ => rfl) | constructor)) | refine x_callz [4] (cd _) ?_ (hok := (by repeat' first | exact trivial | exact rfl | exact tail_ok | exact tail_no | exact frz_map (fun _ => rfl) | constructor)) | refine x_callz [4] (cw _) ?_ (hok := (by repeat' first | exact trivial | exact rfl | exact tail_ok | exact tail_no | exact frz_map (fun _ => rfl) | constructor)) | refine zk b1 ?_ | refine zk b2 ?_ | refine x_bsO 91 tb_ok ?_ | refine x_bs tb_ok ?_ | refine zA ?_ | refine zL ?_ | refine zc1 ?_ | refine zc5 ?_ | refine zI ?_ | refine zS ?_ | (refine zs1 ?_ ?_ <;> intro hc) | (refine zs5 ?_ ?_ <;> intro hc)) | refine awp_split rfl (fun hb => ?_) (fun hb => ?_) | refine zr ?_ | exact x_le)
    refine awp_rounds 4 ?_
    repeat' (first | with_reducible refine rounds_on ?_ | refine zt ?_ | (refine isR ?_; first | refine zo ?_ | refine x_callz [4] (s1 _) ?_ (hok := (by repeat' first | exact trivial | exact rfl | exact tail_ok | exact tail_no | exact frz_map (fun _ => rfl) | constructor)) | refine x_callz [7] (s2 _) ?_ (hok := (by repeat' first | exact trivial | exact rfl | exact tail_ok | exact tail_no | exact frz_map (fun _ => rfl) | constructor)) | refine x_slOt tb_ok ?_ | refine x_ldI (Abs.V.int .i64) (L.map (Abs.V.int .i64)).length tb_ok ?_ | refine x_ldI (Abs.V.int .i64) (K.map (Abs.V.int .i64)).length tb_ok ?_ | refine x_bs tb_ok ?_ | refine zA ?_ | refine zL ?_ | refine zc1 ?_ | refine zc5 ?_ | refine zI ?_ | refine zS ?_ | (refine zs1 ?_ ?_ <;> intro hc) | (refine zs5 ?_ ?_ <;> intro hc)) | refine awp_split rfl (fun hb => ?_) (fun hb => ?_) | refine zr ?_ | exact x_le)
    refine awp_rounds 1 ?_
    repeat' (first | with_reducible refine rounds_on ?_ | refine zt ?_ | (refine isR ?_; first | refine zo ?_ | refine x_callz [4] (s1 _) ?_ (hok := (by repeat' first | exact trivial | exact rfl | exact tail_ok | exact tail_no | exact frz_map (fun _ => rfl) | constructor)) | refine x_callz [7] (s2 _) ?_ (hok := (by repeat' first | exact trivial | exact rfl | exact tail_ok | exact tail_no | exact frz_map (fun _ => rfl) | constructor)) | refine x_slOt tb_ok ?_ | refine x_ldI (Abs.V.int .i64) (L.map (Abs.V.int .i64)).length tb_ok ?_ | refine x_ldI (Abs.V.int .i64) (K.map (Abs.V.int .i64)).length tb_ok ?_ | refine x_bs tb_ok ?_ | refine zA ?_ | refine zL ?_ | refine zc1 ?_ | refine zc5 ?_ | refine zI ?_ | refine zS ?_ | (refine zs1 ?_ ?_ <;> intro hc) | (refine zs5 ?_ ?_ <;> intro hc)) | refine awp_split rfl (fun hb => ?_) (fun hb => ?_) | refine zr ?_ | exact x_le)
    refine awp_rounds 1 ?_
    repeat' (first | with_reducible refine rounds_on ?_ | refine zt ?_ | (refine isR ?_; first | refine zo ?_ | refine x_callz [4] (s1 _) ?_ (hok := (by repeat' first | exact trivial | exact rfl | exact tail_ok | exact tail_no | exact frz_map (fun _ => rfl) | constructor)) | refine x_callz [7] (s2 _) ?_ (hok := (by repeat' first | exact trivial | exact rfl | exact tail_ok | exact tail_no | exact frz_map (fun _ => rfl) | constructor)) | refine x_slOt tb_ok ?_ | refine x_ldI (Abs.V.int .i64) (L.map (Abs.V.int .i64)).length tb_ok ?_ | refine x_ldI (Abs.V.int .i64) (K.map (Abs.V.int .i64)).length tb_ok ?_ | refine x_bs tb_ok ?_ | refine zA ?_ | refine zL ?_ | refine zc1 ?_ | refine zc5 ?_ | refine zI ?_ | refine zS ?_ | (refine zs1 ?_ ?_ <;> intro hc) | (refine zs5 ?_ ?_ <;> intro hc)) | refine awp_split rfl (fun hb => ?_) (fun hb => ?_) | refine zr ?_ | exact x_le)
    refine awp_rounds 1 ?_
    repeat' (first | with_reducible refine rounds_on ?_ | refine zt ?_ | (refine isR ?_; first | refine zo ?_ | refine x_callz [4] (s1 _) ?_ (hok := (by repeat' first | exact trivial | exact rfl | exact tail_ok | exact tail_no | exact frz_map (fun _ => rfl) | constructor)) | refine x_callz [7] (s2 _) ?_ (hok := (by repeat' first | exact trivial | exact rfl | exact tail_ok | exact tail_no | exact frz_map (fun _ => rfl) | constructor)) | refine x_slOt tb_ok ?_ | refine x_ldI (Abs.V.int .i64) (L.map (Abs.V.int .i64)).length tb_ok ?_ | refine x_ldI (Abs.V.int .i64) (K.map (Abs.V.int .i64)).length tb_ok ?_ | refine x_bs tb_ok ?_ | refine zA ?_ | refine zL ?_ | refine zc1 ?_ | refine zc5 ?_ | refine zI ?_ | refine zS ?_ | (refine zs1 ?_ ?_ <;> intro hc) | (refine zs5 ?_ ?_ <;> intro hc)) | refine awp_split rfl (fun hb => ?_) (fun hb => ?_) | refine zr ?_ | exact x_le)
    all_goals rfl
end Go.Proofs.YtnpokgjehapmjaaDoor.ConTD
end

section
namespace Go.Proofs.YtnpokgjehapmjaaDoor.ConU
open Go.RowKit Mem Abs Scan BitsP ConP ConQ ConC ConM ConK ConO

theorem law {g1 g2 p w n : Int} {P Q : Nat → Bool} {L K : List Int} (hL : L.length ≤ 17592186043904) (hK : K.length ≤ 17592186043904) : ACalls Tryd.prog 3 [conI g1 P L, conI g2 Q K, .int .i64 p, .int .i64 w, .int .i64 n] (.bool true) := by
  by_cases hm : GrantP.check g1 L = 0 ∧ GrantP.check g2 K = 0
  · obtain ⟨m1, U, rfl, rfl, h1, hU⟩ := check_nat hm.1
    obtain ⟨m2, W, rfl, rfl, h2, hW⟩ := check_nat hm.2
    have cm := meet_m (P := P) (Q := Q) h1 h2 hU hW
    have cj := join_m (P := P) (Q := Q) h1 h2 hU hW
    have l1 := pick_len and U W 40
    have l2 := pick_len or U W 40
    rw [conN_int, conN_int] at cm cj
    by_cases hd : (if GrantP.check (m1 : Int) (toI U) ≠ 0 then GrantP.check (m1 : Int) (toI U) else if p < 0 ∨ 10 < p ∨ w < 0 ∨ 40 < w then 3 else if n < (m1 : Int) ∨ 68719476735 < n then 4 else 0) = 0
    · rw [if_neg (by rw [hm.1]; simp)] at hd
      by_cases h3 : p < 0 ∨ 10 < p ∨ w < 0 ∨ 40 < w
      · rw [if_pos h3] at hd; exact absurd hd (by decide)
      rw [if_neg h3] at hd
      by_cases h4 : n < (m1 : Int) ∨ 68719476735 < n
      · rw [if_pos h4] at hd; exact absurd hd (by decide)
      obtain ⟨q, rfl⟩ := Int.eq_ofNat_of_zero_le (show 0 ≤ p by omega)
      obtain ⟨t, rfl⟩ := Int.eq_ofNat_of_zero_le (show 0 ≤ n by omega)
      have cd := drop_m (g := m1) (n := t) (p := q) (P := P) (w := w) (by omega) (by omega) hU (by omega) (by omega)
      have l3 : (keepV w U).length ≤ 1000 := Nat.le_trans (List.length_filter_le _ _) (by have := right_few hU; omega)
      rw [conN_int] at cd
      exact ConTA.lawA (gm := ((max m1 m2 : Nat) : Int)) (gj := ((max m1 m2 : Nat) : Int)) (Pm := fun i => and (P i) (Q i)) (Pj := fun i => or (P i) (Q i)) (B1 := pick and U W 40) (B2 := pick or U W 40) (gd := ((t : Nat) : Int)) (Pd := dropP q P) (B3 := keepV w U) hL hK cm cj (by omega) (by omega) cd l3
    · exact ConTB.lawB (gm := ((max m1 m2 : Nat) : Int)) (gj := ((max m1 m2 : Nat) : Int)) (Pm := fun i => and (P i) (Q i)) (Pj := fun i => or (P i) (Q i)) (B1 := pick and U W 40) (B2 := pick or U W 40) hL hK cm cj (by omega) (by omega) (dropNo_v hd rfl)
  · have hm' : (if GrantP.check g1 L ≠ 0 then GrantP.check g1 L else GrantP.check g2 K) ≠ 0 := by
      by_cases h : GrantP.check g1 L = 0
      · rw [if_neg (by rw [h]; simp)]; exact fun e => hm ⟨h, e⟩
      · rw [if_pos h]; exact h
    have cm := meetNo_v (P := P) (Q := Q) hm' rfl
    have cj := joinNo_v (P := P) (Q := Q) hm' rfl
    by_cases hd : (if GrantP.check g1 L ≠ 0 then GrantP.check g1 L else if p < 0 ∨ 10 < p ∨ w < 0 ∨ 40 < w then 3 else if n < g1 ∨ 68719476735 < n then 4 else 0) = 0
    · by_cases h0 : GrantP.check g1 L = 0
      · rw [if_neg (by rw [h0]; simp)] at hd
        by_cases h3 : p < 0 ∨ 10 < p ∨ w < 0 ∨ 40 < w
        · rw [if_pos h3] at hd; exact absurd hd (by decide)
        rw [if_neg h3] at hd
        by_cases h4 : n < g1 ∨ 68719476735 < n
        · rw [if_pos h4] at hd; exact absurd hd (by decide)
        obtain ⟨m1, U, rfl, rfl, h1, hU⟩ := check_nat h0
        obtain ⟨q, rfl⟩ := Int.eq_ofNat_of_zero_le (show 0 ≤ p by omega)
        obtain ⟨t, rfl⟩ := Int.eq_ofNat_of_zero_le (show 0 ≤ n by omega)
        have cd := drop_m (g := m1) (n := t) (p := q) (P := P) (w := w) (by omega) (by omega) hU (by omega) (by omega)
        have l3 : (keepV w U).length ≤ 1000 := Nat.le_trans (List.length_filter_le _ _) (by have := right_few hU; omega)
        rw [conN_int] at cd
        exact ConTC.lawC (gd := ((t : Nat) : Int)) (Pd := dropP q P) (B3 := keepV w U) hL hK cm cj cd l3
      · rw [if_pos h0] at hd; exact absurd hd h0
    · exact ConTD.lawD hL hK cm cj (dropNo_v hd rfl)
end Go.Proofs.YtnpokgjehapmjaaDoor.ConU
end
