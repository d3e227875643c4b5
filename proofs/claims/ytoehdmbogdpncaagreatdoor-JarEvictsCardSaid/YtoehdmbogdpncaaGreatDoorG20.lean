/- Texts of the proof, joined: JarX. -/
import Derived.Test.YtoehdmbogdpncaaGreatDoorG19
import Derived.Test.YtoehdmbogdpncaaGreatDoorG8
section
namespace Go.Proofs.YtoehdmbogdpncaaGreatDoor.JarX
open Go.RowKit Mem Abs Scan JarP JarQ JarA JarB JarC JarE JarF JarL JarJ JarK JarM JarS JarT JarH JarR JarU JarV JarD JarW Rdy Globs GoesW

set_option maxRecDepth 100000 in
set_option maxHeartbeats 4000000 in
theorem evicts_law {L : List Cookie} {nx : Int} {c : Cookie} {now i k : Int} : ACallsG Tryz.prog gStr 7 [jarV L nx, c.v, .int .i64 now, .int .i64 i, .int .i64 k] (.bool true) := by
  by_cases h : codePut L nx c now = 0
  · have c3 := pPut_v h
    obtain ⟨r1, r2, r3⟩ := right_of h
    obtain ⟨g1, g2, g3, g4⟩ := put_right r1 r2 r3 (now := now)
    obtain ⟨d, made⟩ := put_made r1 r2 r3 (now := now)
    have hn := r1.nx
    have hlL := r1.len
    generalize (putF L nx c now).1 = E at *
    generalize (putF L nx c now).2 = nx2 at *
    have hml : (L.map Cookie.v).length = L.length := List.length_map _
    have hme : (E.map Cookie.v).length = E.length := List.length_map _
    have hlen := g1.len
    by_cases hi : 0 ≤ i ∧ i < (L.length : Int) ∧ 0 ≤ k ∧ k < (E.length : Int)
    · obtain ⟨i1, i2, k1, k2⟩ := hi
      have hx : L[i.toNat]? = some (L[i.toNat]'(by omega)) := by simp [show i.toNat < L.length by omega]
      have hy : E[k.toNat]? = some (E[k.toNat]'(by omega)) := by simp [show k.toNat < E.length by omega]
      have hxm := List.getElem_mem (show i.toNat < L.length by omega)
      have hym := List.getElem_mem (show k.toNat < E.length by omega)
      generalize L[i.toNat]'(by omega) = x at *
      generalize E[k.toNat]'(by omega) = y at *
      have hmx := at_map (f := Cookie.v) hx
      have hmy := at_map (f := Cookie.v) hy
      have c4 := sameKey_v (a := x) (b := c)
      have c5 := sameKey_v (a := y) (b := c)
      have c6 := goesLive_v (c := x) (now := now)
      have c7 := find_v (L := E) (nx := nx2) (c := x) (by omega)
      by_cases q : sameK x c = false ∧ sameK y c = false ∧ now < x.expiry ∧ E.findIdx? (fun z => sameK z x) = none
      · obtain ⟨q1, q2, q3, q4⟩ := q
        rw [q1] at c4
        rw [q2] at c5
        rw [decide_eq_true q3] at c6
        rw [q4] at c7
        change ACalls _ _ _ (.int .i64 (-1)) at c7
        have hno : x ∉ E := fun hm => by
          have := List.findIdx?_eq_none_iff.1 q4 x hm
          rw [sameK_key.2 ⟨rfl, rfl, rfl⟩] at this
          cases this
        obtain ⟨gg, lu⟩ := made.gone x hxm q3 q1 hno
        have lu : x.domain = y.domain → x.used < y.used ∨ x.used = y.used ∧ x.no < y.no := fun e => lessU_iff.1 (lu y hym e.symm)
        clear made g4 hno
        refine funG5 tb_ok Tryz.func7 rfl Tryz.ntmps7 Tryz.results7 rfl fun N => ?_
        repeat' (first | refine zt ?_ | (refine isR ?_; first | refine zo ?_ | refine zk begun_v ?_ | refine zk c3 ?_ | refine zk c4 ?_ | refine zk c5 ?_ | refine zk c6 ?_ | refine zk c7 ?_ | refine zA ?_ | refine zL ?_ | refine zc1 ?_ | refine zc4 ?_ | refine zc5 ?_ | refine zc6 ?_ | refine zI ?_ | (refine zs1 ?_ ?_ <;> intro hc) | (refine zs4 ?_ ?_ <;> intro hc) | (refine zs5 ?_ ?_ <;> intro hc) | (refine zs6 ?_ ?_ <;> intro hc)) | refine awp_split rfl (fun hb => ?_) (fun hb => ?_) | refine zr ?_ | exact x_le)
        refine awp_for (fun j => ⟨[(6, .fp c.v.cells 0), (11, .loc 0 0 0), (13, .loc 1 0 0), (14, .loc 2 0 0), (15, nV ((E.take j).countP fun z => decide (z.domain = x.domain))), (16, nV j)], [(0, some (.els TJ 2 [jarV E nx2])), (1, some (.els TC 13 [x.v])), (2, some (.els TC 13 [y.v]))], 3, 145⟩) (fun j => j ≤ E.length) E.length 0 (by exact x_le) (Nat.zero_le _) ?_
        intro j hj
        by_cases hj2 : j < E.length
        · have hz : E[j]? = some E[j] := by simp [hj2]
          have hcn : (E.take (j + 1)).countP (fun z => decide (z.domain = x.domain)) = (E.take j).countP (fun z => decide (z.domain = x.domain)) + if (E[j]).domain = x.domain then 1 else 0 := by
            rw [List.take_add_one, hz, List.countP_append]
            by_cases e : (E[j]).domain = x.domain <;> simp [e]
          have hcl : (E.take j).countP (fun z => decide (z.domain = x.domain)) ≤ 100 := Nat.le_trans List.countP_le_length (by rw [List.length_take]; omega)
          generalize E[j] = z at *
          have hmz := at_map (f := Cookie.v) hz
          generalize hq1 : (E.take (j + 1)).countP (fun z => decide (z.domain = x.domain)) = n2 at *
          generalize (E.take j).countP (fun z => decide (z.domain = x.domain)) = n1 at *
          by_cases e : z.domain = x.domain
          · rw [if_pos e] at hcn
            have hq : nV (n1 + 1) = .int .i64 ((n1 : Int) + 1) := rfl
            subst hcn
            repeat' (first | refine zt ?_ | (refine isR ?_; first | refine zo ?_ | refine zA ?_ | refine zL ?_ | refine zc1 ?_ | refine zc4 ?_ | refine zc5 ?_ | refine zc6 ?_ | refine zI ?_ | (refine zs1 ?_ ?_ <;> intro hc) | (refine zs4 ?_ ?_ <;> intro hc) | (refine zs5 ?_ ?_ <;> intro hc) | (refine zs6 ?_ ?_ <;> intro hc)) | refine awp_split rfl (fun hb => ?_) (fun hb => ?_) | refine zr ?_ | exact x_le)
            exact ⟨by omega, hj2, (by exact x_le)⟩
          · rw [if_neg e, Nat.add_zero] at hcn
            subst hcn
            repeat' (first | refine zt ?_ | (refine isR ?_; first | refine zo ?_ | refine zA ?_ | refine zL ?_ | refine zc1 ?_ | refine zc4 ?_ | refine zc5 ?_ | refine zc6 ?_ | refine zI ?_ | (refine zs1 ?_ ?_ <;> intro hc) | (refine zs4 ?_ ?_ <;> intro hc) | (refine zs5 ?_ ?_ <;> intro hc) | (refine zs6 ?_ ?_ <;> intro hc)) | refine awp_split rfl (fun hb => ?_) (fun hb => ?_) | refine zr ?_ | exact x_le)
            exact ⟨by omega, hj2, (by exact x_le)⟩
        · obtain rfl : j = E.length := by omega
          rw [List.take_length]
          generalize E.countP (fun z => decide (z.domain = x.domain)) = n at *
          by_cases hd : x.domain = c.domain
          · have gg : ¬ (E.length : Int) = 12 → (n : Int) = 4 := fun e => by rcases gg with g | ⟨_, g⟩ <;> omega
            by_cases hdy : x.domain = y.domain
            · have lu := lu hdy
              by_cases h12 : (E.length : Int) = 12
              · skip
                repeat' (first | refine zt ?_ | (refine isR ?_; first | refine zo ?_ | refine zA ?_ | refine zL ?_ | refine zc1 ?_ | refine zc4 ?_ | refine zc5 ?_ | refine zc6 ?_ | refine zI ?_ | (refine zs1 ?_ ?_ <;> intro hc) | (refine zs4 ?_ ?_ <;> intro hc) | (refine zs5 ?_ ?_ <;> intro hc) | (refine zs6 ?_ ?_ <;> intro hc)) | refine awp_split rfl (fun hb => ?_) (fun hb => ?_) | refine zr ?_ | exact x_le)
                all_goals first | rfl | (exfalso; omega)
              · have gg := gg h12
                repeat' (first | refine zt ?_ | (refine isR ?_; first | refine zo ?_ | refine zA ?_ | refine zL ?_ | refine zc1 ?_ | refine zc4 ?_ | refine zc5 ?_ | refine zc6 ?_ | refine zI ?_ | (refine zs1 ?_ ?_ <;> intro hc) | (refine zs4 ?_ ?_ <;> intro hc) | (refine zs5 ?_ ?_ <;> intro hc) | (refine zs6 ?_ ?_ <;> intro hc)) | refine awp_split rfl (fun hb => ?_) (fun hb => ?_) | refine zr ?_ | exact x_le)
                all_goals first | rfl | (exfalso; omega)
            · by_cases h12 : (E.length : Int) = 12
              · skip
                repeat' (first | refine zt ?_ | (refine isR ?_; first | refine zo ?_ | refine zA ?_ | refine zL ?_ | refine zc1 ?_ | refine zc4 ?_ | refine zc5 ?_ | refine zc6 ?_ | refine zI ?_ | (refine zs1 ?_ ?_ <;> intro hc) | (refine zs4 ?_ ?_ <;> intro hc) | (refine zs5 ?_ ?_ <;> intro hc) | (refine zs6 ?_ ?_ <;> intro hc)) | refine awp_split rfl (fun hb => ?_) (fun hb => ?_) | refine zr ?_ | exact x_le)
                all_goals first | rfl | (exfalso; omega)
              · have gg := gg h12
                repeat' (first | refine zt ?_ | (refine isR ?_; first | refine zo ?_ | refine zA ?_ | refine zL ?_ | refine zc1 ?_ | refine zc4 ?_ | refine zc5 ?_ | refine zc6 ?_ | refine zI ?_ | (refine zs1 ?_ ?_ <;> intro hc) | (refine zs4 ?_ ?_ <;> intro hc) | (refine zs5 ?_ ?_ <;> intro hc) | (refine zs6 ?_ ?_ <;> intro hc)) | refine awp_split rfl (fun hb => ?_) (fun hb => ?_) | refine zr ?_ | exact x_le)
                all_goals first | rfl | (exfalso; omega)
          · have h12 : (E.length : Int) = 12 := by rcases gg with g | ⟨g, _⟩ <;> first | omega | exact absurd g hd
            by_cases hdy : x.domain = y.domain
            · have lu := lu hdy
              repeat' (first | refine zt ?_ | (refine isR ?_; first | refine zo ?_ | refine zA ?_ | refine zL ?_ | refine zc1 ?_ | refine zc4 ?_ | refine zc5 ?_ | refine zc6 ?_ | refine zI ?_ | (refine zs1 ?_ ?_ <;> intro hc) | (refine zs4 ?_ ?_ <;> intro hc) | (refine zs5 ?_ ?_ <;> intro hc) | (refine zs6 ?_ ?_ <;> intro hc)) | refine awp_split rfl (fun hb => ?_) (fun hb => ?_) | refine zr ?_ | exact x_le)
              all_goals first | rfl | (exfalso; omega)
            · skip
              repeat' (first | refine zt ?_ | (refine isR ?_; first | refine zo ?_ | refine zA ?_ | refine zL ?_ | refine zc1 ?_ | refine zc4 ?_ | refine zc5 ?_ | refine zc6 ?_ | refine zI ?_ | (refine zs1 ?_ ?_ <;> intro hc) | (refine zs4 ?_ ?_ <;> intro hc) | (refine zs5 ?_ ?_ <;> intro hc) | (refine zs6 ?_ ?_ <;> intro hc)) | refine awp_split rfl (fun hb => ?_) (fun hb => ?_) | refine zr ?_ | exact x_le)
              all_goals first | rfl | (exfalso; omega)
      · have q5 : sameK x c = true ∨ (sameK x c = false ∧ sameK y c = true) ∨ (sameK x c = false ∧ sameK y c = false ∧ ¬ now < x.expiry) ∨ (sameK x c = false ∧ sameK y c = false ∧ now < x.expiry ∧ 0 ≤ minI (E.findIdx? fun z => sameK z x)) := by
          cases h1 : sameK x c with
          | true => exact .inl rfl
          | false =>
            cases h2 : sameK y c with
            | true => exact .inr (.inl ⟨rfl, rfl⟩)
            | false =>
              by_cases h3 : now < x.expiry
              · cases h4 : E.findIdx? (fun z => sameK z x) with
                | none => exact absurd ⟨h1, h2, h3, h4⟩ q
                | some a => exact .inr (.inr (.inr ⟨rfl, rfl, h3, Int.natCast_nonneg a⟩))
              · exact .inr (.inr (.inl ⟨rfl, rfl, h3⟩))
        generalize minI (E.findIdx? fun z => sameK z x) = F at *
        clear made g4 q
        rcases q5 with e1 | ⟨e1, e2⟩ | ⟨e1, e2, e3⟩ | ⟨e1, e2, e3, e4⟩
        · rw [e1] at c4
          refine funG5 tb_ok Tryz.func7 rfl Tryz.ntmps7 Tryz.results7 rfl fun N => ?_
          repeat' (first | refine zt ?_ | (refine isR ?_; first | refine zo ?_ | refine zk begun_v ?_ | refine zk c3 ?_ | refine zk c4 ?_ | refine zk c5 ?_ | refine zk c6 ?_ | refine zk c7 ?_ | refine zA ?_ | refine zL ?_ | refine zc1 ?_ | refine zc4 ?_ | refine zc5 ?_ | refine zc6 ?_ | refine zI ?_ | (refine zs1 ?_ ?_ <;> intro hc) | (refine zs4 ?_ ?_ <;> intro hc) | (refine zs5 ?_ ?_ <;> intro hc) | (refine zs6 ?_ ?_ <;> intro hc)) | refine awp_split rfl (fun hb => ?_) (fun hb => ?_) | refine zr ?_ | exact x_le)
          all_goals first | rfl | (exfalso; omega)
        · rw [e1] at c4
          rw [e2] at c5
          refine funG5 tb_ok Tryz.func7 rfl Tryz.ntmps7 Tryz.results7 rfl fun N => ?_
          repeat' (first | refine zt ?_ | (refine isR ?_; first | refine zo ?_ | refine zk begun_v ?_ | refine zk c3 ?_ | refine zk c4 ?_ | refine zk c5 ?_ | refine zk c6 ?_ | refine zk c7 ?_ | refine zA ?_ | refine zL ?_ | refine zc1 ?_ | refine zc4 ?_ | refine zc5 ?_ | refine zc6 ?_ | refine zI ?_ | (refine zs1 ?_ ?_ <;> intro hc) | (refine zs4 ?_ ?_ <;> intro hc) | (refine zs5 ?_ ?_ <;> intro hc) | (refine zs6 ?_ ?_ <;> intro hc)) | refine awp_split rfl (fun hb => ?_) (fun hb => ?_) | refine zr ?_ | exact x_le)
          all_goals first | rfl | (exfalso; omega)
        · rw [e1] at c4
          rw [e2] at c5
          rw [decide_eq_false e3] at c6
          refine funG5 tb_ok Tryz.func7 rfl Tryz.ntmps7 Tryz.results7 rfl fun N => ?_
          repeat' (first | refine zt ?_ | (refine isR ?_; first | refine zo ?_ | refine zk begun_v ?_ | refine zk c3 ?_ | refine zk c4 ?_ | refine zk c5 ?_ | refine zk c6 ?_ | refine zk c7 ?_ | refine zA ?_ | refine zL ?_ | refine zc1 ?_ | refine zc4 ?_ | refine zc5 ?_ | refine zc6 ?_ | refine zI ?_ | (refine zs1 ?_ ?_ <;> intro hc) | (refine zs4 ?_ ?_ <;> intro hc) | (refine zs5 ?_ ?_ <;> intro hc) | (refine zs6 ?_ ?_ <;> intro hc)) | refine awp_split rfl (fun hb => ?_) (fun hb => ?_) | refine zr ?_ | exact x_le)
          all_goals first | rfl | (exfalso; omega)
        · rw [e1] at c4
          rw [e2] at c5
          rw [decide_eq_true e3] at c6
          refine funG5 tb_ok Tryz.func7 rfl Tryz.ntmps7 Tryz.results7 rfl fun N => ?_
          repeat' (first | refine zt ?_ | (refine isR ?_; first | refine zo ?_ | refine zk begun_v ?_ | refine zk c3 ?_ | refine zk c4 ?_ | refine zk c5 ?_ | refine zk c6 ?_ | refine zk c7 ?_ | refine zA ?_ | refine zL ?_ | refine zc1 ?_ | refine zc4 ?_ | refine zc5 ?_ | refine zc6 ?_ | refine zI ?_ | (refine zs1 ?_ ?_ <;> intro hc) | (refine zs4 ?_ ?_ <;> intro hc) | (refine zs5 ?_ ?_ <;> intro hc) | (refine zs6 ?_ ?_ <;> intro hc)) | refine awp_split rfl (fun hb => ?_) (fun hb => ?_) | refine zr ?_ | exact x_le)
          all_goals first | rfl | (exfalso; omega)
    · have hi : i < 0 ∨ (L.length : Int) ≤ i ∨ k < 0 ∨ (E.length : Int) ≤ k := by omega
      clear made g4
      refine funG5 tb_ok Tryz.func7 rfl Tryz.ntmps7 Tryz.results7 rfl fun N => ?_
      repeat' (first | refine zt ?_ | (refine isR ?_; first | refine zo ?_ | refine zk begun_v ?_ | refine zk c3 ?_ | refine zA ?_ | refine zL ?_ | refine zc1 ?_ | refine zc4 ?_ | refine zc5 ?_ | refine zc6 ?_ | refine zI ?_ | (refine zs1 ?_ ?_ <;> intro hc) | (refine zs4 ?_ ?_ <;> intro hc) | (refine zs5 ?_ ?_ <;> intro hc) | (refine zs6 ?_ ?_ <;> intro hc)) | refine awp_split rfl (fun hb => ?_) (fun hb => ?_) | refine zr ?_ | exact x_le)
      all_goals first | rfl | (exfalso; omega)
  · have c3 := pPutBad_v h
    generalize codePut L nx c now = q at *
    refine funG5 tb_ok Tryz.func7 rfl Tryz.ntmps7 Tryz.results7 rfl fun N => ?_
    repeat' (first | refine zt ?_ | (refine isR ?_; first | refine zo ?_ | refine zk begun_v ?_ | refine zk c3 ?_ | refine zA ?_ | refine zL ?_ | refine zc1 ?_ | refine zc4 ?_ | refine zc5 ?_ | refine zc6 ?_ | refine zI ?_ | (refine zs1 ?_ ?_ <;> intro hc) | (refine zs4 ?_ ?_ <;> intro hc) | (refine zs5 ?_ ?_ <;> intro hc) | (refine zs6 ?_ ?_ <;> intro hc)) | refine awp_split rfl (fun hb => ?_) (fun hb => ?_) | refine zr ?_ | exact x_le)
    all_goals first | rfl | (exfalso; omega)
end Go.Proofs.YtoehdmbogdpncaaGreatDoor.JarX
end
