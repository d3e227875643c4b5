/- Texts of the proof, joined: CookM. -/
import Derived.Test.YtkgdkpiacencjaaGreatDoorG9
import Derived.Test.YtkgdkpiacencjaaGreatDoorG19
section
namespace Go.Proofs.YtkgdkpiacencjaaGreatDoor.CookM
open Go.RowKit Mem Abs TreeW WordP WordS HostP HostO HostA HostB HostC HostD PathT Globs StampB StampG ClockP ClockW ClockO ClockV CookP CookQ CookW CookV CookL Both

abbrev TA : Nat := 45
abbrev TR : Nat := 25
theorem filter_step {L : List Attr} {k : Nat} {x : Attr} {n : List UInt8} (h : L[k]? = some x) : (L.take (k + 1)).filter (fun y => !decide (y.name = n)) = if x.name = n then (L.take k).filter (fun y => !decide (y.name = n)) else (L.take k).filter (fun y => !decide (y.name = n)) ++ [x] := by
  obtain ⟨hk, rfl⟩ := List.getElem?_eq_some_iff.1 h
  rw [List.take_succ_eq_append_getElem hk, List.filter_append]
  by_cases hn : L[k].name = n
  · rw [if_pos hn]; simp [hn]
  · rw [if_neg hn]; simp [hn]
theorem one_says {a : Attr} (h : a.name = nPath ∨ a.name = nSite) : saysF a = true := by
  unfold saysF
  rcases h with h | h <;> rw [h] <;> rfl
set_option maxRecDepth 100000 in
set_option maxHeartbeats 4000000 in
theorem last_law {L : List Suffix} {r : Raw} {f : From} {now : Int} {a : Attr} (hr : ∀ x ∈ r.attrs, x.value.length ≤ 140737488355328) (ha : a.value.length ≤ 140737488355328) : ACallsG Tryz.prog gBoth 7 [SufW.sufT L, r.v, f.v, .int .i64 now, a.v] (.bool true) := by
  have s1 : ∀ x ∈ r.attrs ++ [a], x.value.length ≤ 140737488355328 := fun x hx => by
    rcases List.mem_append.1 hx with hx | hx
    · exact hr x hx
    · rw [List.mem_singleton.1 hx]; exact ha
  have s2 : ∀ x ∈ (r.attrs.filter fun x => !decide (x.name = a.name)) ++ [a], x.value.length ≤ 140737488355328 := fun x hx => by
    rcases List.mem_append.1 hx with hx | hx
    · exact hr x (List.mem_filter.1 hx).1
    · rw [List.mem_singleton.1 hx]; exact ha
  have c1 := make_v (L := L) (r := { r with attrs := r.attrs ++ [a] }) (f := f) (now := now) s1
  have c2 := make_v (L := L) (r := { r with attrs := (r.attrs.filter fun x => !decide (x.name = a.name)) ++ [a] }) (f := f) (now := now) s2
  have hla := fun h h2 => cook_last (L := L) (r := r) (f := f) (now := now) (a := a) h h2
  have hx : ((r.attrs.map Attr.v).length : Int) = (r.attrs.length : Int) := by simp
  have hst := fun k x => filter_step (L := r.attrs) (k := k) (x := x) (n := a.name)
  have hf0 : (r.attrs.take r.attrs.length).filter (fun x => !decide (x.name = a.name)) = r.attrs.filter (fun x => !decide (x.name = a.name)) := by rw [List.take_length]
  have hfl := fun k => List.length_filter_le (fun x : Attr => !decide (x.name = a.name)) (r.attrs.take k)
  have hsay := one_says (a := a)
  generalize hF : (fun k => (r.attrs.take k).filter (fun x => !decide (x.name = a.name))) = F
  have e0 : F 0 = [] := by rw [← hF]; rfl
  have est : ∀ k x, r.attrs[k]? = some x → F (k + 1) = if x.name = a.name then F k else F k ++ [x] := fun k x h => by rw [← hF]; exact hst k x h
  have een : F r.attrs.length = r.attrs.filter (fun x => !decide (x.name = a.name)) := by rw [← hF]; exact hf0
  have efl : ∀ k, (F k).length ≤ k := fun k => by
    rw [← hF]
    exact Nat.le_trans (hfl k) (by rw [List.length_take]; exact Nat.min_le_left _ _)
  clear hst hf0 hfl hF
  rw [← een] at c2 hla
  generalize cookF L { r with attrs := r.attrs ++ [a] } f now = q at *
  generalize cookF L { r with attrs := F r.attrs.length ++ [a] } f now = z at *
  obtain ⟨r1, r2, r3⟩ := r
  obtain ⟨n, v⟩ := a
  dsimp only at *
  have c1 : ACallsG Tryz.prog gBoth 9 [SufW.sufT L, .agg [strT r1, strT r2, .fro ((r3 ++ [(⟨n, v⟩ : Attr)]).map Attr.v)], f.v, .int .i64 now] (.tup [q.1.v, .int .i64 q.2]) := c1
  have c2 : ACallsG Tryz.prog gBoth 9 [SufW.sufT L, .agg [strT r1, strT r2, .fro ((F r3.length ++ [(⟨n, v⟩ : Attr)]).map Attr.v)], f.v, .int .i64 now] (.tup [z.1.v, .int .i64 z.2]) := c2
  show ACallsG _ _ _ [SufW.sufT L, .agg [strT r1, strT r2, .fro (r3.map Attr.v)], f.v, .int .i64 now, .agg [strT n, strT v]] _
  by_cases h12 : 12 ≤ r3.length
  · skip
    refine funG5 tb_ok Tryz.func7 rfl Tryz.ntmps7 Tryz.results7 rfl fun N => ?_
    repeat' (first | refine zt ?_ | (refine isR ?_; first | refine zo ?_ | refine zk begun_v ?_ | refine x_bs tb_ok ?_ | refine zA ?_ | refine zL ?_ | refine zc1 ?_ | refine zc4 ?_ | refine zc5 ?_ | refine zc6 ?_ | refine zI ?_ | (refine zs1 ?_ ?_ <;> intro hc) | (refine zs4 ?_ ?_ <;> intro hc) | (refine zs5 ?_ ?_ <;> intro hc) | (refine zs6 ?_ ?_ <;> intro hc)) | refine awp_split rfl (fun hb => ?_) (fun hb => ?_) | refine zr ?_ | exact x_le)
    rfl
  by_cases hn : n = nPath ∨ n = nSite
  · have hla := hla (hsay hn) (by omega)
    have h12' : r3.length < 12 := by omega
    have efr := efl r3.length
    have he := CookL.eq_self q.1
    have hn1 : n = ([112, 97, 116, 104] : List UInt8) ∨ (¬ n = ([112, 97, 116, 104] : List UInt8) ∧ n = ([115, 97, 109, 101, 115, 105, 116, 101] : List UInt8)) := by
      by_cases h : n = ([112, 97, 116, 104] : List UInt8)
      · exact .inl h
      · exact .inr ⟨h, hn.resolve_left h⟩
    obtain ⟨q1, q2⟩ := q
    obtain ⟨z1, z2⟩ := z
    dsimp only at *
    have hx4 : ([] ++ r3 : List Attr).length ≤ 12 := by simp; omega
    have hf1 : List.take (([] ++ r3) ++ [(⟨n, v⟩ : Attr)]).length (List.drop 0 ((([] ++ r3) ++ [(⟨n, v⟩ : Attr)]).map Attr.v)) = (r3 ++ [(⟨n, v⟩ : Attr)]).map Attr.v := by rw [List.drop_zero, List.take_of_length_le (by simp)]; rfl
    have hf2 : List.take (F r3.length ++ [(⟨n, v⟩ : Attr)]).length (List.drop 0 ((F r3.length ++ [(⟨n, v⟩ : Attr)]).map Attr.v)) = (F r3.length ++ [(⟨n, v⟩ : Attr)]).map Attr.v := by rw [List.drop_zero, List.take_of_length_le (by simp)]
    rw [← hf1] at c1
    rw [← hf2] at c2
    have walk : (n = ([112, 97, 116, 104] : List UInt8) → ACallsG Tryz.prog gBoth 7 [SufW.sufT L, .agg [strT r1, strT r2, .fro (r3.map Attr.v)], f.v, .int .i64 now, .agg [strT n, strT v]] (.bool true)) ∧ (¬ n = ([112, 97, 116, 104] : List UInt8) → n = ([115, 97, 109, 101, 115, 105, 116, 101] : List UInt8) → ACallsG Tryz.prog gBoth 7 [SufW.sufT L, .agg [strT r1, strT r2, .fro (r3.map Attr.v)], f.v, .int .i64 now, .agg [strT n, strT v]] (.bool true)) := by
      constructor
      all_goals intros
      all_goals
        refine funG5 tb_ok Tryz.func7 rfl Tryz.ntmps7 Tryz.results7 rfl fun N => ?_
        repeat' (first | refine zt ?_ | (refine isR ?_; first | refine x_far [35] tb_ok rfl ?_ | refine zn ?_ | refine zk begun_v ?_ | refine x_appK Attr.v (L := []) (K' := r3) tb_ok ?_ | refine x_app Attr.v (a1 := (⟨n, v⟩)) tb_ok ?_ | refine x_callz [3] (c1 _) ?_ | refine x_callz [3] (c1) ?_ | refine x_bsO 35 tb_ok ?_ | refine x_bs tb_ok ?_ | refine zA ?_ | refine zL ?_ | refine zc1 ?_ | refine zc4 ?_ | refine zc5 ?_ | refine zc6 ?_ | refine zI ?_ | (refine zs1 ?_ ?_ <;> intro hc) | (refine zs4 ?_ ?_ <;> intro hc) | (refine zs5 ?_ ?_ <;> intro hc) | (refine zs6 ?_ ?_ <;> intro hc)) | refine awp_split rfl (fun hb => ?_) (fun hb => ?_) | refine zr ?_ | exact x_le)
        refine awp_lei (s1 := ⟨[(0, SufW.sufT L), (3, .int .i64 now), (6, .fp [strT r1, strT r2, .fro (r3.map Attr.v)] 0), (7, .fp (fromC f) 0), (9, .fp [strT n, strT v] 0), (12, .loc 4 0 0), (13, .int .i64 q2), (14, .loc 5 0 0), (15, .int .i64 0)], [(4, some (rowC q1)), (5, some (.els TR 3 [.agg [strT r1, strT r2, .nils]]))], 6, 109⟩) (by exact x_le) ?_
        refine awp_nameR 5 2 TA 2 rfl rfl (by decide) rfl ?_
        refine awp_forN (fun k => ⟨[(0, SufW.sufT L), (3, .int .i64 now), (6, .fp [strT r1, strT r2, .fro (r3.map Attr.v)] 0), (7, .fp (fromC f) 0), (9, .fp [strT n, strT v] 0), (12, .loc 4 0 0), (13, .int .i64 q2), (14, .loc 5 0 0), (15, .int .i64 (k : Int))], [(4, some (rowC q1)), (5, some (.els TR 3 [.agg [strT r1, strT r2, .own 6 0 (F k).length]])), (6, some (.els TA 2 ((F k).map Attr.v)))], 7, 109⟩) (fun k => k ≤ r3.length) r3.length 0 ?_ (Nat.zero_le _) ?_
        · rw [e0]
          exact (by exact x_le)
        intro k hk
        by_cases hk2 : k < r3.length
        · have e1 : (r3.map Attr.v)[((k : Int)).toNat]? = some (r3[k]).v := by simp [hk2]
          have e2 := est k r3[k] (by simp [hk2])
          have e3 := efl k
          generalize r3[k] = x at e1 e2
          obtain ⟨xn, xv⟩ := x
          dsimp only at e2
          by_cases hx2 : xn = n
          · rw [if_pos hx2] at e2
            rw [e2]
            repeat' (first | refine zt ?_ | (refine isR ?_; first | refine zo ?_ | refine x_bs tb_ok ?_ | refine zA ?_ | refine zL ?_ | refine zc1 ?_ | refine zc4 ?_ | refine zc5 ?_ | refine zc6 ?_ | refine zI ?_ | (refine zs1 ?_ ?_ <;> intro hc) | (refine zs4 ?_ ?_ <;> intro hc) | (refine zs5 ?_ ?_ <;> intro hc) | (refine zs6 ?_ ?_ <;> intro hc)) | refine awp_split rfl (fun hb => ?_) (fun hb => ?_) | refine zr ?_ | exact x_le)
            refine ⟨by omega, hk2, ?_⟩
            exact (by exact x_len [0,1,2,3,4,5,6])
          · rw [if_neg hx2] at e2
            rw [e2]
            generalize F k = G at e3
            have hl2 : (G ++ [(⟨xn, xv⟩ : Attr)]).length = G.length + 1 := by simp
            repeat' (first | refine zt ?_ | (refine isR ?_; first | refine zo ?_ | refine x_app Attr.v (a1 := (⟨xn, xv⟩)) tb_ok ?_ | refine x_bs tb_ok ?_ | refine zA ?_ | refine zL ?_ | refine zc1 ?_ | refine zc4 ?_ | refine zc5 ?_ | refine zc6 ?_ | refine zI ?_ | (refine zs1 ?_ ?_ <;> intro hc) | (refine zs4 ?_ ?_ <;> intro hc) | (refine zs5 ?_ ?_ <;> intro hc) | (refine zs6 ?_ ?_ <;> intro hc)) | refine awp_split rfl (fun hb => ?_) (fun hb => ?_) | refine zr ?_ | exact x_le)
            refine ⟨by omega, hk2, ?_⟩
            exact (by exact x_len [0,1,2,3,4,5,7])
        · obtain rfl : k = r3.length := by omega
          generalize F r3.length = G at *
          have hl2 : (G ++ [(⟨n, v⟩ : Attr)]).length = G.length + 1 := by simp
          by_cases h1 : q2 = 1
          · skip
            repeat' (first | refine zt ?_ | (refine isR ?_; first | refine zo ?_ | refine x_app Attr.v (a1 := (⟨n, v⟩)) tb_ok ?_ | refine x_callz [7] (c2 _) ?_ | refine x_callz [7] (c2) ?_ | refine x_bs tb_ok ?_ | refine zA ?_ | refine zL ?_ | refine zc1 ?_ | refine zc4 ?_ | refine zc5 ?_ | refine zc6 ?_ | refine zI ?_ | (refine zs1 ?_ ?_ <;> intro hc) | (refine zs4 ?_ ?_ <;> intro hc) | (refine zs5 ?_ ?_ <;> intro hc) | (refine zs6 ?_ ?_ <;> intro hc)) | refine awp_split rfl (fun hb => ?_) (fun hb => ?_) | refine zr ?_ | exact x_le)
            rfl
          · have hqz := hla.resolve_left h1
            cases hqz
            repeat' (first | refine zt ?_ | (refine isR ?_; first | refine zo ?_ | refine x_app Attr.v (a1 := (⟨n, v⟩)) tb_ok ?_ | refine x_callz [7] (c2 _) ?_ | refine x_callz [7] (c2) ?_ | refine x_bs tb_ok ?_ | refine zA ?_ | refine zL ?_ | refine zc1 ?_ | refine zc4 ?_ | refine zc5 ?_ | refine zc6 ?_ | refine zI ?_ | (refine zs1 ?_ ?_ <;> intro hc) | (refine zs4 ?_ ?_ <;> intro hc) | (refine zs5 ?_ ?_ <;> intro hc) | (refine zs6 ?_ ?_ <;> intro hc)) | refine awp_split rfl (fun hb => ?_) (fun hb => ?_) | refine zr ?_ | exact x_le)
            rfl
    rcases hn1 with h | ⟨h, h'⟩
    · exact walk.1 h
    · exact walk.2 h h'
  · have n1 : ¬ n = ([112, 97, 116, 104] : List UInt8) := fun h => hn (.inl h)
    have n2 : ¬ n = ([115, 97, 109, 101, 115, 105, 116, 101] : List UInt8) := fun h => hn (.inr h)
    refine funG5 tb_ok Tryz.func7 rfl Tryz.ntmps7 Tryz.results7 rfl fun N => ?_
    repeat' (first | refine zt ?_ | (refine isR ?_; first | refine zo ?_ | refine zk begun_v ?_ | refine x_bs tb_ok ?_ | refine zA ?_ | refine zL ?_ | refine zc1 ?_ | refine zc4 ?_ | refine zc5 ?_ | refine zc6 ?_ | refine zI ?_ | (refine zs1 ?_ ?_ <;> intro hc) | (refine zs4 ?_ ?_ <;> intro hc) | (refine zs5 ?_ ?_ <;> intro hc) | (refine zs6 ?_ ?_ <;> intro hc)) | refine awp_split rfl (fun hb => ?_) (fun hb => ?_) | refine zr ?_ | exact x_le)
    rfl
end Go.Proofs.YtkgdkpiacencjaaGreatDoor.CookM
end
