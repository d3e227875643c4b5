/- Texts of the proof, joined: CoX, CoD, ConY, ConF, ConL. -/
import Derived.Test.YtnpokgjehapmjaaDoorG10
import Derived.Test.YtnpokgjehapmjaaDoorG13
import Derived.Test.YtnpokgjehapmjaaDoorG12
section
namespace Go.Proofs.YtnpokgjehapmjaaDoor.ConX
open Go.RowKit Mem Abs BitsP BitsS BitsT ConP ConQ ConC ConA ConS ConG ConW

abbrev runV (p : Nat × Nat) : Abs.V := .agg [natV p.1, natV p.2]
abbrev TR : Nat := 65
theorem set_last {α : Type} (d : List α) (x y : α) : (d ++ [x]).set d.length y = d ++ [y] := by simp
theorem at_last {α : Type} (d : List α) (x : α) : (d ++ [x])[d.length]? = some x := by simp
theorem nil_or_last {α : Type} (l : List α) : l = [] ∨ ∃ d x, l = d ++ [x] := by
  rcases List.eq_nil_or_concat l with h | ⟨d, x, h⟩
  · exact .inl h
  · exact .inr ⟨d, x, by rw [h, List.concat_eq_append]⟩
set_option maxRecDepth 100000 in
set_option maxHeartbeats 4000000 in
theorem runs_v {U : List Nat} (hU : RightN U) : ACalls Tryd.prog 28 [natsV U] (.fro ((runsF U).map runV)) := by
  have hf := right_few hU
  have hml : (U.map natV).length = U.length := List.length_map _
  refine fun1 tb_ok Tryd.func28 rfl Tryd.ntmps28 Tryd.results28 rfl fun N => ?_
  repeat' (first | refine zt ?_ | (refine isR ?_; first | refine zo ?_ | refine x_bs tb_ok ?_ | refine zA ?_ | refine zL ?_ | refine zc1 ?_ | refine zc3 ?_ | refine zc5 ?_ | refine zI ?_ | (refine zs1 ?_ ?_ <;> intro hc) | (refine zs3 ?_ ?_ <;> intro hc) | (refine zs5 ?_ ?_ <;> intro hc)) | refine awp_split rfl (fun hb => ?_) (fun hb => ?_) | refine zr ?_ | exact x_le)
  refine awp_name (t := 2) TR 2 (by decide) rfl rfl ?_
  refine awp_forN (fun k => ⟨[(2, .own 0 0 (runsF (U.take k)).length), (6, natsV U), (7, .int .i64 ((U.map natV).length : Int)), (8, .int .i64 (k : Int))], [(0, some (.els TR 2 ((runsF (U.take k)).map runV)))], 1, 41⟩) (fun k => k ≤ U.length) U.length 0 (by exact x_le) (Nat.zero_le _) ?_
  intro k hk
  by_cases hk2 : k < U.length
  · have hx : U[k]? = some U[k] := by simp [hk2]
    have hr := runs_take hx
    have hb := hU.2 _ (List.getElem_mem hk2)
    have hn := runs_len (U.take k)
    rw [List.length_take] at hn
    have hall := runs_all (p := (· ≤ 40)) (U.take k) fun v hv => (hU.2 v (List.mem_of_mem_take hv)).2
    generalize U[k] = v at *
    have hm := at_map (f := natV) hx
    generalize runsF (U.take k) = r at *
    rcases nil_or_last r with rfl | ⟨d, ⟨a, b⟩, rfl⟩
    · have h0 : ([] : List (Nat × Nat)).length = 0 := rfl
      repeat' (first | refine zt ?_ | (refine isR ?_; first | refine zo ?_ | refine x_app runV (L := []) (a1 := (v, v)) tb_ok ?_ (hby := by show _ * (_ : Nat) ≤ _; simp) | refine x_bs tb_ok ?_ | refine zA ?_ | refine zL ?_ | refine zc1 ?_ | refine zc3 ?_ | refine zc5 ?_ | refine zI ?_ | (refine zs1 ?_ ?_ <;> intro hc) | (refine zs3 ?_ ?_ <;> intro hc) | (refine zs5 ?_ ?_ <;> intro hc)) | refine awp_split rfl (fun hb => ?_) (fun hb => ?_) | refine zr ?_ | exact x_le)
      refine ⟨by omega, hk2, ?_⟩
      rw [hr]
      exact (by exact x_len [1])
    · have hl : (d ++ [(a, b)]).length = d.length + 1 := by simp
      have hlast := snocR_last d a b v
      have hat := at_last d (a, b)
      obtain ⟨ha, hb2⟩ := hall (a, b) (by simp)
      have hset := set_last d (a, b) (a, v)
      have hi : ((d.length : Int) + 1 - 1) = (d.length : Int) := by omega
      have hd : d.length ≤ 40 := by omega
      by_cases h : b + 1 = v
      · rw [if_pos h] at hlast
        rw [hlast] at hr
        repeat' (first | (refine isR ?_; refine r_val rfl rfl rfl (law_fieldAddr tb_ok rfl rfl rfl rfl rfl) (hT rfl Abs.h0) ?_) | refine zt ?_ | (refine isR ?_; first | refine zo ?_ | refine x_ldO runV d.length tb_ok ?_ | refine x_stO runV (a1 := (a, v)) d.length tb_ok ?_ | refine x_bs tb_ok ?_ | refine zA ?_ | refine zL ?_ | refine zc1 ?_ | refine zc3 ?_ | refine zc5 ?_ | refine zI ?_ | (refine zs1 ?_ ?_ <;> intro hc) | (refine zs3 ?_ ?_ <;> intro hc) | (refine zs5 ?_ ?_ <;> intro hc)) | refine awp_split rfl (fun hb => ?_) (fun hb => ?_) | refine zr ?_ | exact x_le)
        refine ⟨by omega, hk2, ?_⟩
        rw [hr, ← hset, List.length_set]
        exact (by exact x_len [0])
      · rw [if_neg h] at hlast
        rw [hlast] at hr
        repeat' (first | (refine isR ?_; refine r_val rfl rfl rfl (law_fieldAddr tb_ok rfl rfl rfl rfl rfl) (hT rfl Abs.h0) ?_) | refine zt ?_ | (refine isR ?_; first | refine zo ?_ | refine x_ldO runV d.length tb_ok ?_ | refine x_app runV (a1 := ((v, v))) tb_ok ?_ | refine x_bs tb_ok ?_ | refine zA ?_ | refine zL ?_ | refine zc1 ?_ | refine zc3 ?_ | refine zc5 ?_ | refine zI ?_ | (refine zs1 ?_ ?_ <;> intro hc) | (refine zs3 ?_ ?_ <;> intro hc) | (refine zs5 ?_ ?_ <;> intro hc)) | refine awp_split rfl (fun hb => ?_) (fun hb => ?_) | refine zr ?_ | exact x_le)
        refine ⟨by omega, hk2, ?_⟩
        rw [hr]
        exact (by exact x_len [1])
  · obtain rfl : k = U.length := by omega
    rw [List.take_length]
    repeat' (first | refine zt ?_ | (refine isR ?_; first | refine zo ?_ | refine x_bs tb_ok ?_ | refine zA ?_ | refine zL ?_ | refine zc1 ?_ | refine zc3 ?_ | refine zc5 ?_ | refine zI ?_ | (refine zs1 ?_ ?_ <;> intro hc) | (refine zs3 ?_ ?_ <;> intro hc) | (refine zs5 ?_ ?_ <;> intro hc)) | refine awp_split rfl (fun hb => ?_) (fun hb => ?_) | refine zr ?_ | exact x_le)
    exact fro_all rfl
set_option maxRecDepth 100000 in
set_option maxHeartbeats 4000000 in
theorem wruns_v {T : Nat} {r : List (Nat × Nat)} {l : List Nat} (hl : Bin l) (hs : l.length ≤ 1000000) (hr : r.length ≤ 40) (hall : ∀ x ∈ r, x.1 ≤ 40 ∧ x.2 ≤ 40) :
    MCalls Tryd.prog 30 [.loc 0 0 0, .fro (r.map runV)] [sinkB T 1 l, rowB l] (.tup []) [some (sinkB T 2 ((l ++ bitsOf r.length 6) ++ runsBits r)), none, some (rowB ((l ++ bitsOf r.length 6) ++ runsBits r))] := by
  have hmr : (r.map runV).length = r.length := List.length_map _
  have c0 := number_v (T := T) (n := (r.map runV).length) (W := 6) (l := l) (by omega) (by omega) hl (by omega)
  have e : l ++ bitsOf r.length 6 = l ++ bitsOf (r.map runV).length 6 := by rw [hmr]
  rw [e]
  have hb6 := bitsOf_len (r.map runV).length 6
  have hl6 : Bin (l ++ bitsOf (r.map runV).length 6) := hl.app (bitsOf_bin _ _)
  have hs6 : (l ++ bitsOf (r.map runV).length 6).length ≤ 1000006 := by rw [List.length_append, hb6]; omega
  clear e
  generalize l ++ bitsOf (r.map runV).length 6 = m at *
  have e0 : m = m ++ runsBits (r.take 0) := by rw [List.take_zero]; simp [runsBits]
  refine mfun tb_ok Tryd.func30 rfl Tryd.ntmps30 Tryd.results30 rfl rfl rfl rfl fun N pl => ?_
  repeat' (first | refine zt ?_ | (refine isR ?_; first | refine zo ?_ | refine x_m [0,1] [2] (c0 _) ?_ | refine x_m0 [0,1] [2] (c0 _) ?_ | refine x_m [0,1] [2] (c0) ?_ | refine x_m0 [0,1] [2] (c0) ?_ | refine zA ?_ | refine zL ?_ | refine zc1 ?_ | refine zc6 ?_ | refine zI ?_ | (refine zs1 ?_ ?_ <;> intro hc) | (refine zs6 ?_ ?_ <;> intro hc)) | refine awp_split rfl (fun hb => ?_) (fun hb => ?_) | refine zr ?_ | exact x_le)
  refine awp_whileM (fun k : Nat => ⟨[(0, .loc 0 0 0), (11, .fro (r.map runV)), (12, .int .i64 ((r.map runV).length : Int)), (13, .int .i64 (k : Int))], [(0, some (sinkB T 2 (m ++ runsBits (r.take k)))), (2, some (rowB (m ++ runsBits (r.take k))))], 3, 35⟩) (fun k => k ≤ r.length) (fun k => r.length - k) 0 ?_ (Nat.zero_le _) ?_
  · rw [← e0]
    exact (by exact x_len [0, 1, 2])
  intro k hk
  have hbk : Bin (m ++ runsBits (r.take k)) := hl6.app (runsBits_bin _)
  have hsk : (m ++ runsBits (r.take k)).length ≤ 1000526 := by
    have h1 := sizes_le (r.take k)
    rw [List.length_append, runsBits_len]
    rw [List.length_take] at h1
    omega
  by_cases hk2 : k < r.length
  · have hx : r[k]? = some r[k] := by simp [hk2]
    obtain ⟨ha, hb⟩ := hall _ (List.getElem_mem hk2)
    have hst : m ++ runsBits (r.take (k + 1)) = (m ++ runsBits (r.take k)) ++ runBits r[k] := by
      rw [List.take_add_one, hx, List.append_assoc]
      congr 1
      exact runsBits_snoc _ _
    generalize r[k] = p at *
    obtain ⟨a, b⟩ := p
    have hm := at_map (f := runV) hx
    generalize m ++ runsBits (r.take k) = q at *
    rw [runBits] at hst
    change m ++ runsBits (r.take (k + 1)) = q ++ ((!decide (a = b)).toNat :: (bitsOf a 6 ++ if a = b then [] else bitsOf b 6)) at hst
    have ha : a ≤ 40 := ha
    have hb : b ≤ 40 := hb
    have c1 := mark_v (T := T) (b := !decide (a = b)) (l := q) hbk (by omega)
    have hq1 : Bin (q ++ [(!decide (a = b)).toNat]) := hbk.app (cons_bin (toNat_bin _) bin_nil)
    have hl1 : (q ++ [(!decide (a = b)).toNat]).length ≤ 1000527 := by simp; omega
    have c2 := number_v (T := T) (n := a) (W := 6) (l := q ++ [(!decide (a = b)).toNat]) (by omega) (by omega) hq1 (by omega)
    have hq2 : Bin ((q ++ [(!decide (a = b)).toNat]) ++ bitsOf a 6) := hq1.app (bitsOf_bin _ _)
    have hl2 : ((q ++ [(!decide (a = b)).toNat]) ++ bitsOf a 6).length ≤ 1000533 := by rw [List.length_append, bitsOf_len]; omega
    have c3 := number_v (T := T) (n := b) (W := 6) (l := (q ++ [(!decide (a = b)).toNat]) ++ bitsOf a 6) (by omega) (by omega) hq2 (by omega)
    by_cases hab : a = b
    · subst hab
      have h1 : (a : Int) = (a : Int) := rfl
      rw [if_pos rfl, List.append_nil] at hst
      rw [show q ++ (!decide (a = a)).toNat :: bitsOf a 6 = (q ++ [(!decide (a = a)).toNat]) ++ bitsOf a 6 from by simp] at hst
      simp only [decide_true, Bool.not_true] at *
      generalize q ++ [false.toNat] = q1 at *
      generalize q1 ++ bitsOf a 6 = q2 at *
      repeat' (first | refine zt ?_ | (refine isR ?_; first | refine zo ?_ | refine x_m [0,2] [4] (c1 _) ?_ | refine x_m0 [0,2] [4] (c1 _) ?_ | refine x_m [0,2] [4] (c1) ?_ | refine x_m0 [0,2] [4] (c1) ?_ | refine x_m [0,4] [5] (c2 _) ?_ | refine x_m0 [0,4] [5] (c2 _) ?_ | refine x_m [0,4] [5] (c2) ?_ | refine x_m0 [0,4] [5] (c2) ?_ | refine zA ?_ | refine zL ?_ | refine zc1 ?_ | refine zc6 ?_ | refine zI ?_ | (refine zs1 ?_ ?_ <;> intro hc) | (refine zs6 ?_ ?_ <;> intro hc)) | refine awp_split rfl (fun hb => ?_) (fun hb => ?_) | refine zr ?_ | exact x_le)
      refine ⟨k + 1, by omega, by omega, ?_⟩
      rw [hst]
      exact (by exact x_len [0, 1, 5])
    · have h1 : (a : Int) ≠ (b : Int) := by omega
      rw [if_neg hab] at hst
      rw [show q ++ (!decide (a = b)).toNat :: (bitsOf a 6 ++ bitsOf b 6) = ((q ++ [(!decide (a = b)).toNat]) ++ bitsOf a 6) ++ bitsOf b 6 from by simp] at hst
      simp only [hab, decide_false, Bool.not_false] at *
      generalize q ++ [true.toNat] = q1 at *
      generalize q1 ++ bitsOf a 6 = q2 at *
      generalize q2 ++ bitsOf b 6 = q3 at *
      repeat' (first | refine zt ?_ | (refine isR ?_; first | refine zo ?_ | refine x_m [0,2] [4] (c1 _) ?_ | refine x_m0 [0,2] [4] (c1 _) ?_ | refine x_m [0,2] [4] (c1) ?_ | refine x_m0 [0,2] [4] (c1) ?_ | refine x_m [0,4] [5] (c2 _) ?_ | refine x_m0 [0,4] [5] (c2 _) ?_ | refine x_m [0,4] [5] (c2) ?_ | refine x_m0 [0,4] [5] (c2) ?_ | refine x_m [0,5] [6] (c3 _) ?_ | refine x_m0 [0,5] [6] (c3 _) ?_ | refine x_m [0,5] [6] (c3) ?_ | refine x_m0 [0,5] [6] (c3) ?_ | refine zA ?_ | refine zL ?_ | refine zc1 ?_ | refine zc6 ?_ | refine zI ?_ | (refine zs1 ?_ ?_ <;> intro hc) | (refine zs6 ?_ ?_ <;> intro hc)) | refine awp_split rfl (fun hb => ?_) (fun hb => ?_) | refine zr ?_ | exact x_le)
      refine ⟨k + 1, by omega, by omega, ?_⟩
      rw [hst]
      exact (by exact x_len [0, 1, 6])
  · obtain rfl : k = r.length := by omega
    rw [List.take_length] at *
    generalize m ++ runsBits r = q at *
    repeat' (first | refine zt ?_ | (refine isR ?_; first | refine zo ?_ | refine zA ?_ | refine zL ?_ | refine zc1 ?_ | refine zc6 ?_ | refine zI ?_ | (refine zs1 ?_ ?_ <;> intro hc) | (refine zs6 ?_ ?_ <;> intro hc)) | refine awp_split rfl (fun hb => ?_) (fun hb => ?_) | refine x_mret [0, 1, 2] ?_ ?_ | refine x_mnor [0, 1, 2] ?_ ?_ | refine zr ?_ | exact x_le)
    · rfl
    · exact .on (.ren rfl) (.no (.on (.same (nl_map fun _ => rfl)) .nil))
set_option maxRecDepth 100000 in
set_option maxHeartbeats 4000000 in
theorem number0_v {T n W : Nat} (hn : n < 9223372036854775808) (hW : W ≤ 64) :
    MCalls Tryd.prog 26 [.loc 0 0 0, .int .i64 (n : Int), .int .i64 (W : Int)] [.els T 2 [.agg [.nils, .int .i64 0]]] (.tup []) [some (sinkB T 1 (bitsOf n W)), some (rowB (bitsOf n W))] := by
  have c := put_v (T := T) (n := n) (W := W) (l := []) (by omega) hW bin_nil (by simp)
  have hcv : IntKind.u64.wrap (n : Int) = (n : Int) := by
    simp [IntKind.wrap, IntKind.bits, IntKind.signed]; omega
  rw [List.nil_append] at c
  generalize bitsOf n W = m at *
  refine mfun tb_ok Tryd.func26 rfl Tryd.ntmps26 Tryd.results26 rfl rfl rfl rfl fun N pl => ?_
  refine awp_nameR 0 0 5 1 rfl rfl (by decide) rfl ?_
  repeat' (first | refine zt ?_ | (refine isR ?_; first | refine zo ?_ | refine x_cv .u64 tb_ok ?_ | refine x_m [0,1] [2] (c _) ?_ | refine x_m0 [0,1] [2] (c _) ?_ | refine x_m [0,1] [2] (c) ?_ | refine x_m0 [0,1] [2] (c) ?_ | refine zB ?_) | refine awp_split rfl (fun hb => ?_) (fun hb => ?_) | refine x_mret [0, 2] ?_ ?_ | refine x_mnor [0, 2] ?_ ?_ | refine zr ?_ | exact x_le)
  · rfl
  · exact .on (.ren rfl) (.on (.same (nl_map fun _ => rfl)) .nil)
theorem size_v {p : Nat × Nat} : ACalls Tryd.prog 29 [runV p] (.int .i64 ((sizeR p : Nat) : Int)) := by
  have h := bits_v (a := (p.1 : Int)) (b := (p.2 : Int))
  have e : (if (p.1 : Int) = (p.2 : Int) then (7 : Int) else 13) = ((sizeR p : Nat) : Int) := by
    unfold sizeR
    by_cases hp : p.1 = p.2
    · rw [if_pos (by omega), if_pos hp]; rfl
    · rw [if_neg (by omega), if_neg hp]; rfl
  rw [e] at h
  exact h
theorem pur_at (P : Nat → Bool) {k : Nat} (h : k < 10) : subV (purV P) (((k : Nat) : Int).toNat * 1) false 1 = some (.bool (P k)) := by
  have : k = 0 ∨ k = 1 ∨ k = 2 ∨ k = 3 ∨ k = 4 ∨ k = 5 ∨ k = 6 ∨ k = 7 ∨ k = 8 ∨ k = 9 := by omega
  rcases this with rfl | rfl | rfl | rfl | rfl | rfl | rfl | rfl | rfl | rfl <;> rfl
abbrev TW : Nat := 59
def lastK (r : List (Nat × Nat)) : Nat := (r.getLast?.map Prod.snd).getD 0
theorem lastK_snoc (r : List (Nat × Nat)) (p : Nat × Nat) : lastK (r ++ [p]) = p.2 := by simp [lastK]
end Go.Proofs.YtnpokgjehapmjaaDoor.ConX
namespace Go.Proofs.YtnpokgjehapmjaaDoor.ConZ
open Go.RowKit Mem Abs BitsP BitsS BitsT SixtyP SixtyQ SixtyW ConP ConQ ConC ConA ConS ConG ConW ConX

abbrev rawT (g : Nat) (P : Nat → Bool) (U : List Nat) (h : List Nat) (tm : List (Nat × V)) : S := ⟨[(1, .fp (V.cells (conN g P U)) 0), (3, .loc 0 0 0)] ++ tm, [(0, some (sinkB TW 1 h)), (1, some (rowB h))], 2, 89⟩
set_option maxRecDepth 100000 in
set_option maxHeartbeats 4000000 in
theorem raw_core {g : Nat} {P : Nat → Bool} {U h2 p10 : List Nat} {TX : List UInt8} {e : Int} {h3 : Nat → List Nat} (hU : RightN U)
    (c0 : MCalls Tryd.prog 26 [.loc 0 0 0, .int .i64 1, .int .i64 6] [.els TW 2 [.agg [.nils, .int .i64 0]]] (.tup []) [some (sinkB TW 1 p10), some (rowB p10)])
    (c1 : MCalls Tryd.prog 26 [.loc 0 0 0, .int .i64 (g : Int), .int .i64 36] [sinkB TW 1 p10, rowB p10] (.tup []) [some (sinkB TW 2 h2), none, some (rowB h2)])
    (e0 : h3 0 = h2) (c2 : ∀ k, k < 10 → MCalls Tryd.prog 27 [.loc 0 0 0, .bool (P k)] [sinkB TW 1 (h3 k), rowB (h3 k)] (.tup []) [some (sinkB TW 2 (h3 (k + 1))), none, some (rowB (h3 (k + 1)))])
    (cr : ACalls Tryd.prog 28 [natsV U] (.fro ((runsF U).map runV)))
    {h4 h5 : List Nat} (c3 : MCalls Tryd.prog 26 [.loc 0 0 0, natV (lastOf U), .int .i64 6] [sinkB TW 1 (h3 10), rowB (h3 10)] (.tup []) [some (sinkB TW 2 h4), none, some (rowB h4)])
    (c4 : MCalls Tryd.prog 27 [.loc 0 0 0, .bool (short U)] [sinkB TW 1 h4, rowB h4] (.tup []) [some (sinkB TW 2 h5), none, some (rowB h5)])
    {h6 : List Nat} (c5 : short U = true → MCalls Tryd.prog 30 [.loc 0 0 0, .fro ((runsF U).map runV)] [sinkB TW 1 h5, rowB h5] (.tup []) [some (sinkB TW 2 h6), none, some (rowB h6)])
    {h7 : Nat → List Nat} (e7 : h7 0 = h5) (c6 : ∀ k, k < lastOf U → MCalls Tryd.prog 27 [.loc 0 0 0, .bool (U.contains (k + 1))] [sinkB TW 1 (h7 k), rowB (h7 k)] (.tup []) [some (sinkB TW 2 (h7 (k + 1))), none, some (rowB (h7 (k + 1)))])
    (e8 : short U = false → h7 (lastOf U) = h6) {tx : List UInt8} (cx : MCalls Tryd.prog 32 [.loc 0 0 0] [sinkB TW 1 h6, rowB h6] (strT tx) [some (sinkB TW 1 h6), some (rowB h6)])
    (cw : ACalls Tryd.prog 31 [strT tx] (.tup [strT TX, .int .i64 e])) : ACalls Tryd.prog 18 [conN g P U] (strT TX) := by
  have hf := right_few hU
  have hl40 := lastOf_le hU
  have hmr : ((runsF U).map runV).length = (runsF U).length := List.length_map _
  have hn := runs_len U
  have hlast : lastK (runsF U) = lastOf U := runs_last U
  have hsz := sizes_le (runsF U)
  refine fun1 tb_ok Tryd.func18 rfl Tryd.ntmps18 Tryd.results18 rfl fun N => ?_
  repeat' (first | refine zt ?_ | (refine isR ?_; first | refine zo ?_ | refine x_m [0] [1] (c0 _) ?_ | refine x_m0 [0] [1] (c0 _) ?_ | refine x_m [0] [1] (c0) ?_ | refine x_m0 [0] [1] (c0) ?_ | refine x_m [0,1] [2] (c1 _) ?_ | refine x_m0 [0,1] [2] (c1 _) ?_ | refine x_m [0,1] [2] (c1) ?_ | refine x_m0 [0,1] [2] (c1) ?_ | refine zA ?_ | refine zL ?_ | refine zc1 ?_ | refine zc2 ?_ | refine zc5 ?_ | refine zI ?_ | (refine zs1 ?_ ?_ <;> intro hc) | (refine zs2 ?_ ?_ <;> intro hc) | (refine zs5 ?_ ?_ <;> intro hc)) | refine awp_split rfl (fun hb => ?_) (fun hb => ?_) | refine zr ?_ | exact x_le)
  refine awp_whileM (fun k : Nat => rawT g P U (h3 k) [(24, .agg (purV P)), (25, natV k)]) (fun k => k ≤ 10) (fun k => 10 - k) 0 ?_ (Nat.zero_le _) ?_
  · rw [e0]
    exact (by exact x_len [0, 2])
  intro k hk
  by_cases hk2 : k < 10
  · have c2 := c2 k hk2
    have hpk := pur_at P hk2
    generalize hq1 : h3 (k + 1) = q1 at *
    generalize h3 k = q at *
    repeat' (first | refine zt ?_ | (refine isR ?_; first | refine zo ?_ | refine x_ixA (w := .bool (P k)) (hv := hpk) tb_ok ?_ | refine x_m [0,1] [2] (c2 _) ?_ | refine x_m0 [0,1] [2] (c2 _) ?_ | refine x_m [0,1] [2] (c2) ?_ | refine x_m0 [0,1] [2] (c2) ?_ | refine zA ?_ | refine zL ?_ | refine zc1 ?_ | refine zc2 ?_ | refine zc5 ?_ | refine zI ?_ | (refine zs1 ?_ ?_ <;> intro hc) | (refine zs2 ?_ ?_ <;> intro hc) | (refine zs5 ?_ ?_ <;> intro hc)) | refine awp_split rfl (fun hb => ?_) (fun hb => ?_) | refine zr ?_ | exact x_le)
    refine ⟨k + 1, by omega, by omega, ?_⟩
    rw [hq1]
    exact (by exact x_len [0, 2])
  · obtain rfl : k = 10 := by omega
    clear c0 c1 c2 e0
    generalize h3 10 = q at *
    generalize hr : runsF U = r at *
    repeat' (first | refine zt ?_ | (refine isR ?_; first | refine zo ?_ | refine zk cr ?_ | refine zA ?_ | refine zL ?_ | refine zc1 ?_ | refine zc2 ?_ | refine zc5 ?_ | refine zI ?_ | (refine zs1 ?_ ?_ <;> intro hc) | (refine zs2 ?_ ?_ <;> intro hc) | (refine zs5 ?_ ?_ <;> intro hc)) | refine awp_split rfl (fun hb => ?_) (fun hb => ?_) | refine zr ?_ | exact x_le)
    refine awp_whileM (fun k : Nat => rawT g P U q [(6, natV (lastK (r.take k))), (7, .fro (r.map runV)), (8, .int .i64 ((6 + sizes (r.take k) : Nat) : Int)), (35, .fro (r.map runV)), (36, .int .i64 ((r.map runV).length : Int)), (37, natV k)]) (fun k => k ≤ r.length) (fun k => r.length - k) 0 ?_ (Nat.zero_le _) ?_
    · exact (by exact x_len [0, 1])
    intro k hk
    by_cases hk2 : k < r.length
    · have hx : r[k]? = some r[k] := by simp [hk2]
      have ht : r.take (k + 1) = r.take k ++ [r[k]] := by rw [List.take_add_one, hx]; rfl
      have e1 : lastK (r.take (k + 1)) = (r[k]).2 := by rw [ht, lastK_snoc]
      have e2 : ((6 + sizes (r.take (k + 1)) : Nat) : Int) = ((6 + sizes (r.take k) : Nat) : Int) + ((sizeR r[k] : Nat) : Int) := by rw [ht, sizes_snoc]; omega
      have hs1 := sizes_le (r.take k)
      rw [List.length_take] at hs1
      have cs := size_v (p := r[k])
      have hs2 : sizeR r[k] ≤ 13 := by unfold sizeR; split <;> omega
      generalize r[k] = p at *
      have hm := at_map (f := runV) hx
      generalize sizeR p = z at *
      generalize hA : 6 + sizes (r.take k) = A at *
      repeat' (first | refine zt ?_ | (refine isR ?_; first | refine zo ?_ | refine zk cs ?_ | refine zA ?_ | refine zL ?_ | refine zc1 ?_ | refine zc2 ?_ | refine zc5 ?_ | refine zI ?_ | (refine zs1 ?_ ?_ <;> intro hc) | (refine zs2 ?_ ?_ <;> intro hc) | (refine zs5 ?_ ?_ <;> intro hc)) | refine awp_split rfl (fun hb => ?_) (fun hb => ?_) | refine zr ?_ | exact x_le)
      refine ⟨k + 1, by omega, by omega, ?_⟩
      rw [e1, e2]
      exact (by exact x_len [0, 1])
    · obtain rfl : k = r.length := by omega
      rw [List.take_length, hlast]
      have hsh : short U = decide (6 + sizes r < lastOf U) := by rw [← hr]; rfl
      generalize sizes r = sz at *
      by_cases hc : 6 + sz < lastOf U
      · rw [hsh, decide_eq_true hc] at c4
        have c5 := c5 (by rw [hsh, decide_eq_true hc])
        clear hsh c6 e7 e8 hr
        generalize lastOf U = la at *
        generalize hA : 6 + sz = A at *
        repeat' (first | refine zt ?_ | (refine isR ?_; first | refine zo ?_ | refine x_m [0,1] [2] (c3 _) ?_ | refine x_m0 [0,1] [2] (c3 _) ?_ | refine x_m [0,1] [2] (c3) ?_ | refine x_m0 [0,1] [2] (c3) ?_ | refine x_m [0,2] [3] (c4 _) ?_ | refine x_m0 [0,2] [3] (c4 _) ?_ | refine x_m [0,2] [3] (c4) ?_ | refine x_m0 [0,2] [3] (c4) ?_ | refine x_m [0,3] [4] (c5 _) ?_ | refine x_m0 [0,3] [4] (c5 _) ?_ | refine x_m [0,3] [4] (c5) ?_ | refine x_m0 [0,3] [4] (c5) ?_ | refine x_m [0,4] [] (cx _) ?_ | refine x_m0 [0,4] [] (cx _) ?_ | refine x_m [0,4] [] (cx) ?_ | refine x_m0 [0,4] [] (cx) ?_ | refine zk cw ?_ | refine zA ?_ | refine zL ?_ | refine zc1 ?_ | refine zc2 ?_ | refine zc5 ?_ | refine zI ?_ | (refine zs1 ?_ ?_ <;> intro hc) | (refine zs2 ?_ ?_ <;> intro hc) | (refine zs5 ?_ ?_ <;> intro hc)) | refine awp_split rfl (fun hb => ?_) (fun hb => ?_) | refine zr ?_ | exact x_le)
        rfl
      · rw [hsh, decide_eq_false hc] at c4
        have e8 := e8 (by rw [hsh, decide_eq_false hc])
        clear hsh c5 hr
        generalize hA : 6 + sz = A at *
        repeat' (first | refine zt ?_ | (refine isR ?_; first | refine zo ?_ | refine x_m [0,1] [2] (c3 _) ?_ | refine x_m0 [0,1] [2] (c3 _) ?_ | refine x_m [0,1] [2] (c3) ?_ | refine x_m0 [0,1] [2] (c3) ?_ | refine x_m [0,2] [3] (c4 _) ?_ | refine x_m0 [0,2] [3] (c4 _) ?_ | refine x_m [0,2] [3] (c4) ?_ | refine x_m0 [0,2] [3] (c4) ?_ | refine zA ?_ | refine zL ?_ | refine zc1 ?_ | refine zc2 ?_ | refine zc5 ?_ | refine zI ?_ | (refine zs1 ?_ ?_ <;> intro hc) | (refine zs2 ?_ ?_ <;> intro hc) | (refine zs5 ?_ ?_ <;> intro hc)) | refine awp_split rfl (fun hb => ?_) (fun hb => ?_) | refine zr ?_ | exact x_le)
        refine awp_whileM (fun i : Nat => rawT g P U (h7 i) [(6, natV (lastOf U)), (11, natV (U.takeWhile (fun x => decide (x ≤ i))).length), (12, .int .i64 ((i : Int) + 1))]) (fun i => i ≤ lastOf U) (fun i => lastOf U - i) 0 ?_ (Nat.zero_le _) ?_
        · have e0 : (U.takeWhile (fun x => decide (x ≤ 0))).length = 0 := by
            cases U with
            | nil => rfl
            | cons x U => have := hU.2 x (List.mem_cons_self ..); rw [List.takeWhile_cons_of_neg (by simp; omega)]; rfl
          rw [e0, e7]
          exact (by exact x_len [0, 3])
        intro i hi
        by_cases hi2 : i < lastOf U
        · obtain ⟨h, g1, g2, g3⟩ := tw_step U i hU.1 hi2
          have c6 := c6 i hi2
          have hle : (U.takeWhile (fun x => decide (x ≤ i))).length ≤ 40 := Nat.le_trans (List.takeWhile_sublist _).length_le hf
          have hgm := at_map (f := natV) g1
          have hh := (hU.2 h (List.mem_of_getElem? g1)).2
          generalize hq1 : h7 (i + 1) = q1 at *
          generalize h7 i = q2 at *
          have hi1 : (((i + 1 : Nat) : Int) + 1) = (i : Int) + 1 + 1 := by omega
          generalize hK : (U.takeWhile (fun x => decide (x ≤ i))).length = K at *
          by_cases he : h = i + 1
          · rw [decide_eq_true he] at g2 g3
            rw [← g2] at c6
            have hK1 : natV (K + 1) = .int .i64 ((K : Int) + 1) := rfl
            change _ = K + 1 at g3
            have he' : (h : Int) = (i : Int) + 1 := by omega
            repeat' (first | refine zt ?_ | (refine isR ?_; first | refine zo ?_ | refine x_m [0,1] [2] (c6 _) ?_ | refine x_m0 [0,1] [2] (c6 _) ?_ | refine x_m [0,1] [2] (c6) ?_ | refine x_m0 [0,1] [2] (c6) ?_ | refine zA ?_ | refine zL ?_ | refine zc1 ?_ | refine zc2 ?_ | refine zc5 ?_ | refine zI ?_ | (refine zs1 ?_ ?_ <;> intro hc) | (refine zs2 ?_ ?_ <;> intro hc) | (refine zs5 ?_ ?_ <;> intro hc)) | refine awp_split rfl (fun hb => ?_) (fun hb => ?_) | refine zr ?_ | exact x_le)
            refine ⟨i + 1, by omega, by omega, ?_⟩
            rw [g3, hq1, hK1, hi1]
            exact (by exact x_len [0, 2])
          · rw [decide_eq_false he] at g2 g3
            rw [← g2] at c6
            change _ = K at g3
            have he' : ¬ (h : Int) = (i : Int) + 1 := by omega
            repeat' (first | refine zt ?_ | (refine isR ?_; first | refine zo ?_ | refine x_m [0,1] [2] (c6 _) ?_ | refine x_m0 [0,1] [2] (c6 _) ?_ | refine x_m [0,1] [2] (c6) ?_ | refine x_m0 [0,1] [2] (c6) ?_ | refine zA ?_ | refine zL ?_ | refine zc1 ?_ | refine zc2 ?_ | refine zc5 ?_ | refine zI ?_ | (refine zs1 ?_ ?_ <;> intro hc) | (refine zs2 ?_ ?_ <;> intro hc) | (refine zs5 ?_ ?_ <;> intro hc)) | refine awp_split rfl (fun hb => ?_) (fun hb => ?_) | refine zr ?_ | exact x_le)
            refine ⟨i + 1, by omega, by omega, ?_⟩
            rw [g3, hq1, hi1]
            exact (by exact x_len [0, 2])
        · obtain rfl : i = lastOf U := by omega
          rw [e8]
          generalize lastOf U = la at *
          repeat' (first | refine zt ?_ | (refine isR ?_; first | refine zo ?_ | refine x_m [0,1] [] (cx _) ?_ | refine x_m0 [0,1] [] (cx _) ?_ | refine x_m [0,1] [] (cx) ?_ | refine x_m0 [0,1] [] (cx) ?_ | refine zk cw ?_ | refine zA ?_ | refine zL ?_ | refine zc1 ?_ | refine zc2 ?_ | refine zc5 ?_ | refine zI ?_ | (refine zs1 ?_ ?_ <;> intro hc) | (refine zs2 ?_ ?_ <;> intro hc) | (refine zs5 ?_ ?_ <;> intro hc)) | refine awp_split rfl (fun hb => ?_) (fun hb => ?_) | refine zr ?_ | exact x_le)
          rfl
theorem raw_v {g : Nat} {P : Nat → Bool} {U : List Nat} (hg : g ≤ 68719476735) (hU : RightN U) : ACalls Tryd.prog 18 [conN g P U] (strT (conText g P U)) := by
  have hl40 := lastOf_le hU
  have hf := right_few hU
  have hn := runs_len U
  have hl := conBits_len g P U
  have hB2 : Bin (bitsOf 1 6 ++ bitsOf g 36) := (bitsOf_bin _ _).app (bitsOf_bin _ _)
  have hL2 : (bitsOf 1 6 ++ bitsOf g 36).length = 42 := by rw [List.length_append, bitsOf_len, bitsOf_len]
  have hB3 : ∀ k, Bin ((bitsOf 1 6 ++ bitsOf g 36) ++ purpBits P k) := fun k => hB2.app (purpBits_bin _ _)
  have hL3 : ∀ k, ((bitsOf 1 6 ++ bitsOf g 36) ++ purpBits P k).length = 42 + k := fun k => by rw [List.length_append, hL2, purpBits_len]
  have hB4 : Bin (((bitsOf 1 6 ++ bitsOf g 36) ++ purpBits P 10) ++ bitsOf (lastOf U) 6) := (hB3 10).app (bitsOf_bin _ _)
  have hL4 : (((bitsOf 1 6 ++ bitsOf g 36) ++ purpBits P 10) ++ bitsOf (lastOf U) 6).length = 58 := by rw [List.length_append, hL3, bitsOf_len]
  have hB5 : Bin ((((bitsOf 1 6 ++ bitsOf g 36) ++ purpBits P 10) ++ bitsOf (lastOf U) 6) ++ [(short U).toNat]) := hB4.app (cons_bin (toNat_bin _) bin_nil)
  have hL5 : ((((bitsOf 1 6 ++ bitsOf g 36) ++ purpBits P 10) ++ bitsOf (lastOf U) 6) ++ [(short U).toNat]).length = 59 := by rw [List.length_append, hL4]; rfl
  have hwr : writeF (packT (conBits g P U)) = (conText g P U, 0) := by
    unfold writeF
    rw [if_neg (by rw [packT_len]; omega)]
    rfl
  have cw := sixW_v (l := packT (conBits g P U)) (by rw [packT_len]; omega)
  rw [hwr] at cw
  have cx := text_v (T := TW) (l := conBits g P U) (conBits_bin g P U) (by omega)
  refine raw_core (h3 := fun k => (bitsOf 1 6 ++ bitsOf g 36) ++ purpBits P k) (h7 := fun k => ((((bitsOf 1 6 ++ bitsOf g 36) ++ purpBits P 10) ++ bitsOf (lastOf U) 6) ++ [(short U).toNat]) ++ eachBit U k) hU (number0_v (T := TW) (n := 1) (W := 6) (by omega) (by omega)) (number_v (T := TW) (n := g) (W := 36) (by omega) (by omega) (bitsOf_bin _ _) (by rw [bitsOf_len]; omega)) (by simp [purpBits]) (fun k hk => ?_) (runs_v hU)
    (number_v (T := TW) (n := lastOf U) (W := 6) (by omega) (by omega) (hB3 10) (by rw [hL3]; omega)) (mark_v (T := TW) (b := short U) hB4 (by rw [hL4]; omega)) (h6 := conBits g P U) (fun hs => ?_) (by simp [eachBit]) (fun k hk => ?_) (fun hs => ?_) cx cw
  · have c := mark_v (T := TW) (b := P k) (hB3 k) (by rw [hL3]; omega)
    rw [show ∀ h : List Nat, h ++ purpBits P k ++ [(P k).toNat] = h ++ purpBits P (k + 1) from fun h => by rw [purpBits_succ, List.append_assoc]] at c
    exact c
  · have c := wruns_v (T := TW) (r := runsF U) hB5 (by rw [hL5]; omega) (by omega) (runs_all (p := (· ≤ 40)) U fun v hv => (hU.2 v hv).2)
    have e : conBits g P U = (((((bitsOf 1 6 ++ bitsOf g 36) ++ purpBits P 10) ++ bitsOf (lastOf U) 6) ++ [(short U).toNat]) ++ bitsOf (runsF U).length 6) ++ runsBits (runsF U) := by
      simp [conBits, headBits, vendBits, hs, byRuns]
    rw [← e] at c
    exact c
  · have c := mark_v (T := TW) (b := U.contains (k + 1)) (hB5.app (eachBit_bin U k)) (by rw [List.length_append, hL5, eachBit_len]; omega)
    rw [show ∀ h : List Nat, h ++ eachBit U k ++ [(U.contains (k + 1)).toNat] = h ++ eachBit U (k + 1) from fun h => by rw [eachBit_succ, List.append_assoc]] at c
    exact c
  · simp [conBits, headBits, vendBits, hs, byEach]
/-- What Write makes of a consent. -/
def writeC (g : Int) (P : Nat → Bool) (L : List Int) : List UInt8 × Nat := if GrantP.check g L = 0 then (conText g.toNat P (L.map Int.toNat), 0) else ([], GrantP.check g L)
theorem writeC_nat {g : Nat} {P : Nat → Bool} {U : List Nat} (hg : g ≤ 68719476735) (hU : RightN U) : writeC (g : Int) P (toI U) = (conText g P U, 0) := by
  unfold writeC
  rw [if_pos (nat_check hg hU), Int.toNat_natCast, List.map_map]
  congr 2
  exact List.map_id' U
set_option maxRecDepth 100000 in
set_option maxHeartbeats 4000000 in
theorem write_v {g : Int} {P : Nat → Bool} {L : List Int} : ACalls Tryd.prog 7 [conI g P L] (.tup [strT (writeC g P L).1, .int .i64 ((writeC g P L).2 : Int)]) := by
  have c := check_v (g := g) (P := P) (L := L)
  by_cases h : GrantP.check g L = 0
  · obtain ⟨n, U, rfl, rfl, hn, hU⟩ := check_nat h
    rw [h] at c
    rw [writeC_nat hn hU]
    have cr := raw_v (P := P) hn hU
    rw [conN_int] at cr
    refine fun1 tb_ok Tryd.func7 rfl Tryd.ntmps7 Tryd.results7 rfl fun N => ?_
    repeat' (first | refine zt ?_ | (refine isR ?_; first | refine zo ?_ | refine zk c ?_ | refine zk cr ?_ | refine zc6 ?_ | (refine zs6 ?_ ?_ <;> intro hc)) | refine awp_split rfl (fun hb => ?_) (fun hb => ?_) | refine zr ?_ | exact x_le)
    rfl
  · have hw : writeC g P L = ([], GrantP.check g L) := by unfold writeC; rw [if_neg h]
    rw [hw]
    have h1 : ¬ (GrantP.check g L : Int) = 0 := by omega
    generalize GrantP.check g L = z at *
    refine fun1 tb_ok Tryd.func7 rfl Tryd.ntmps7 Tryd.results7 rfl fun N => ?_
    repeat' (first | refine zt ?_ | (refine isR ?_; first | refine zo ?_ | refine zk c ?_ | refine zc6 ?_ | (refine zs6 ?_ ?_ <;> intro hc)) | refine awp_split rfl (fun hb => ?_) (fun hb => ?_) | refine zr ?_ | exact x_le)
    rfl
end Go.Proofs.YtnpokgjehapmjaaDoor.ConZ
end

section
namespace Go.Proofs.YtnpokgjehapmjaaDoor.ConD
open Go.RowKit Mem Abs BitsP BitsS BitsT SixtyP SixtyQ SixtyW ConP ConQ ConC ConA ConS ConG ConR ConV ConZ

abbrev TE : Nat := 26
abbrev RD : Nat := 37
abbrev rowC (x : V) : Blk := .els TC 12 [x]
abbrev rowE (n : Nat) : Blk := .els TE 1 [.int .i64 (n : Int)]
/-! ### The reader's contracts -/
section
variable {s : List UInt8}
theorem consent_v (hs : s.length ≤ 1048576) {U : List Nat} (hc : codeP (tbits s) = 0) (hv : vends (tbits s) = some U) : MCalls Tryd.prog 38 [.loc 0 0 0] [srcB TS s 0] (conN (given (tbits s)) (purp (tbits s)) U) [none] := by
  refine mfun tb_ok Tryd.func38 rfl Tryd.ntmps38 Tryd.results38 rfl rfl rfl rfl fun N pl => ?_
  refine consent_core hs rfl (fun V s' h1 h2 h3 => ?_) (fun s' h => ?_) fun s' h => ?_
  · rw [hv] at h2
    cases h2
    exact h3
  · rw [hc] at h; cases h
  · rw [hc] at h; cases h
theorem consent_p (hs : s.length ≤ 1048576) {k : Nat} (hk : codeP (tbits s) = k) (h0 : k ≠ 0) : MPan Tryd.prog 38 [.loc 0 0 0] [srcB TS s 0] (gaveUp k) := fun g => by
  refine mpanG_of Tryd.func38 rfl rfl fun bl pl => ?_
  rw [Tryd.ntmps38]
  refine consent_core hs rfl (fun V s' h1 h2 h3 => ?_) (fun s' h => ?_) fun s' h => ?_
  · exact absurd (hk.symm.trans h1) h0
  · rw [hk] at h; subst h; rfl
  · rw [hk] at h; subst h; rfl
theorem codes (l : List Nat) : codeP l = 0 ∨ codeP l = 5 ∨ codeP l = 7 := by
  unfold codeP
  split
  · simp
  · split
    · simp
    · split
      · simp
      · split <;> simp
theorem vends_of {l : List Nat} (h : codeP l = 0) : ∃ U, vends l = some U := by
  unfold codeP at h
  split at h
  · cases h
  · split at h
    · cases h
    · split at h
      · cases h
      · cases hv : vends l with
        | none => rw [hv] at h; cases h
        | some U => exact ⟨U, rfl⟩
end
/-! ### The deferred call -/
abbrev N0 : Env := ⟨⟨fun _ => False, ⟨0, fun _ => True⟩⟩, 0, fun _ => ⟨none, 0, 0⟩, []⟩
set_option maxRecDepth 100000 in
set_option maxHeartbeats 4000000 in
theorem late_no (x y : Value) (w : World) : CallsD Tryd.prog RD #[x, y] .returning w fun e u' w' => (∃ v, e = .returned v) ∧ u' = .returning ∧ Below w.heap.size w w' := by
  refine callsD_of_wpS Tryd.func37 rfl fun c0 cs hu => ?_
  have hnone : recoverD (c0 :: cs) = none := by simp only [recoverD, hu]
  refine wpS_seq (wpS_region ?_)
  refine opsS_no rfl rfl rfl hnone ?_
  refine opsS_val rfl rfl rfl ?_
  refine wpS_of_wp ?_
  have r0 : Rel N0 (fun _ => False) (· < 0) (fun _ => ⟨none, 0, 0⟩) ⟨[], [], 0, 19⟩ { tmps := #[x, y] ++ Array.replicate (19 - 2) undef, defers := [] } w := ⟨fun t v ht => (by cases ht), (by simp), fun n k hk => (by simp [S.blk, lk] at hk), fun n n' k k' b hk => (by simp [S.blk, lk] at hk), fun b hb => hb.elim (fun h => h.elim) fun h => h.elim, fun b hb => hb.elim, rfl, fun n hn => absurd hn (Nat.not_lt_zero n), ⟨Nat.zero_le _, fun b hb => Nat.zero_le _, trivial⟩⟩
  have r1 := rel_dst (dst := some 5) (nx := 0) r0 (v := .nili) (.fz .nili) (fun d h => by cases h; decide)
  have r2 := rel_dst (dst := some 2) (nx := 0) r1 (r1.ev (x := .tmp 5) (v := .nili) rfl) (fun d h => by cases h; decide)
  have hA : ∀ {c : Code}, AWp Tryd.prog N0 c (fun e _ => e = .normal) ⟨[(2, .nili), (5, .nili)], [], 0, 19⟩ → c.wp Tryd.prog (Post N0 (fun e _ => e = .normal) (fun _ => False) w) _ w := fun h => h _ _ _ _ r2
  refine wp_mono (hA ?_) ?_
  · skip
    repeat' (first | refine zt ?_ | (refine isR ?_; first | refine zo ?_ | refine x_bs tb_ok ?_ | refine zA ?_ | refine zL ?_ | refine zc1 ?_ | refine zc2 ?_ | refine zc3 ?_ | refine zc4 ?_ | refine zc5 ?_ | refine zc6 ?_ | refine zI ?_ | refine zS ?_ | refine zB ?_ | (refine zs1 ?_ ?_ <;> intro hc) | (refine zs2 ?_ ?_ <;> intro hc) | (refine zs3 ?_ ?_ <;> intro hc) | (refine zs4 ?_ ?_ <;> intro hc) | (refine zs5 ?_ ?_ <;> intro hc) | (refine zs6 ?_ ?_ <;> intro hc)) | refine awp_split rfl (fun hb => ?_) (fun hb => ?_) | refine zr ?_ | exact x_le)
    rfl
  · rintro e a' w' ⟨M', φ', s', h1, h2, h3, rfl⟩
    obtain ⟨v, k1, _⟩ := ends_run (rs := []) (fn := Tryd.f37) tb_ok rfl h3 (r := .tup []) ⟨[], [], rfl, rfl, trivial, rfl⟩
    exact ⟨h3.df, c0.mode, rfl, v, k1, ⟨v, rfl⟩, hu, h1.below⟩
/-- What the deferred call leaves. -/
def LateQ (k : Nat) (e : Exit) (s' : S) : Prop := e = .normal ∧ s'.blk 0 = some (rowC noC) ∧ s'.blk 1 = some (rowE k)
theorem x_assert {P : Program} {N : Env} {l r : List Oper} {o : Oper} {tm : List (Nat × V)} {st : List (Nat × Option Blk)} {nx nt d T xT : Nat} {tr : List Tr} {K : S → List Tr → Prop} {x : Operand} {v : V} {ds : TypeDesc} (k : ARun P N l K r ⟨(d, .tup [v, .bool true]) :: tm, st, nx, nt⟩ (tr ++ [trOf l o ⟨[(x, .ifc T v)], []⟩ []])) (ho : o.op = .typeAssert x xT T true := by rfl) (hx : S.ev ⟨tm, st, nx, nt⟩ x = some (.ifc T v) := by rfl) (ht : P.underlying T = some ds := by rfl) (hds : (match ds with | .interface _ => false | _ => true) = true := by rfl) (hg : guardV l o ⟨tm, st, nx, nt⟩ = some true := by rfl) (hd : o.dst = some d := by rfl) (hlt : Nat.blt d nt = true := by rfl) : ARun P N l K (o :: r) ⟨tm, st, nx, nt⟩ tr := r_val hg hd hlt (law_assert ho ht hds) (hT hx h0) k
set_option maxRecDepth 100000 in
set_option maxHeartbeats 4000000 in
theorem late_yes {N : Env} {M : Nat → Prop} {φ : Nat → Pl} {s0 : S} {a0 : Act} {w : World} {x y : Value} {k : Nat} (h0 : Rel N M (· < 3) φ s0 a0 w) (hb0 : s0.blk 0 = some (rowC noC)) (hb1 : s0.blk 1 = some (.els TE 1 [.int .i64 0]))
    (hx : Rep (fun b => M b ∨ N b) (· < 3) φ w (.loc 0 0 0) x) (hy : Rep (fun b => M b ∨ N b) (· < 3) φ w (.loc 1 0 0) y) (hk : k ≤ 9) :
    CallsD Tryd.prog RD #[x, y] (.panicking (gaveUp (k : Int))) w fun e u' w' => (∃ v, e = .returned v) ∧ u' = .panicking [{ v := .iface 73 (.agg #[.int .i64 (k : Int)]), recovered := true }] ∧
      ∃ M' φ' s' a', Stays M w w' ∧ (∀ b, b < w.heap.size → M' b → M b) ∧ Rel ⟨N.b, 2, φ, []⟩ M' (· < s'.nx) φ' s' a' w' ∧ s'.blk 0 = some (rowC noC) ∧ s'.blk 1 = some (rowE k) := by
  refine callsD_of_wpS Tryd.func37 rfl fun c0 cs hu => ?_
  have hyes : recoverD (c0 :: cs) = some (.iface 73 (.agg #[.int .i64 (k : Int)]), { c0 with mode := .panicking [{ v := .iface 73 (.agg #[.int .i64 (k : Int)]), recovered := true }] } :: cs) := by simp only [recoverD, hu]
  refine wpS_seq (wpS_region ?_)
  refine opsS_yes rfl rfl rfl hyes ?_
  refine opsS_val rfl rfl rfl ?_
  refine wpS_of_wp ?_
  have hin : InR .i64 (k : Int) := ⟨by show (-9223372036854775808 : Int) ≤ _; omega, by show _ ≤ (9223372036854775807 : Int); omega⟩
  have old : ∀ n b, S.blk ⟨[(0, .loc 0 0 0), (1, .loc 1 0 0)], [(0, some (rowC noC)), (1, some (.els TE 1 [.int .i64 0]))], 3, 19⟩ n = some b → s0.blk n = some b := fun n b hb => by
    have hb2 : S.blk ⟨[(0, .loc 0 0 0), (1, .loc 1 0 0)], [(0, some (rowC noC)), (1, some (.els TE 1 [.int .i64 0]))], 3, 19⟩ n = if 0 = n then some (rowC noC) else if 1 = n then some (.els TE 1 [.int .i64 0]) else none := by
      unfold S.blk
      simp only [lk_put]
      by_cases e : 0 = n <;> by_cases e2 : 1 = n <;> simp [e, e2, lk]
    rw [hb2] at hb
    split at hb
    · rename_i e
      subst e; cases hb
      exact hb0
    · split at hb
      · rename_i e
        subst e; cases hb
        exact hb1
      · cases hb
  have r0 : Rel ⟨N.b, 2, φ, []⟩ M (· < 3) φ ⟨[(0, .loc 0 0 0), (1, .loc 1 0 0)], [(0, some (rowC noC)), (1, some (.els TE 1 [.int .i64 0]))], 3, 19⟩ { tmps := #[x, y] ++ Array.replicate (19 - 2) undef, defers := [] } w := by
    refine ⟨fun t v ht => ?_, by simp, fun n b hb => h0.st n b (old n b hb), fun n n' b b' z e1 e2 e3 e4 => h0.inj n n' b b' z (old n b e1) (old n' b' e2) e3 e4, h0.lim, h0.dis, rfl, fun n hn => ⟨Nat.lt_of_lt_of_le hn (show 2 ≤ 3 from by decide), rfl⟩, h0.gl⟩
    change lk [(0, V.loc 0 0 0), (1, V.loc 1 0 0)] t = some v at ht
    rw [lk_put, lk_put] at ht
    split at ht
    · rename_i e
      subst e; cases ht
      exact ⟨by decide, by simpa using hx⟩
    · split at ht
      · rename_i e
        subst e; cases ht
        exact ⟨by decide, by simpa using hy⟩
      · cases ht
  have hv : Rep (fun b => M b ∨ N b) (· < 3) φ w (.ifc 73 (.agg [natV k])) (.iface 73 (.agg #[.int .i64 (k : Int)])) := by
    refine .ifc (.agg rfl (fun v hv => ?_) fun i v c hv hc => ?_)
    · rw [List.mem_singleton] at hv; subst hv; rfl
    · have hi : i < 1 := (List.getElem?_eq_some_iff.1 hv).1
      obtain rfl : i = 0 := by omega
      cases hv; cases hc
      exact .fz (.int hin)
  have r1 := rel_dst (dst := some 5) (nx := 3) r0 hv (fun d h => by cases h; decide)
  have r2 := rel_dst (dst := some 2) (nx := 3) r1 (r1.ev (x := .tmp 5) (v := .ifc 73 (.agg [natV k])) rfl) (fun d h => by cases h; exact (by decide : 2 < 19))
  have hA : ∀ {c : Code}, AWp Tryd.prog ⟨N.b, 2, φ, []⟩ c (LateQ k) ⟨[(2, .ifc 73 (.agg [natV k])), (5, .ifc 73 (.agg [natV k])), (0, .loc 0 0 0), (1, .loc 1 0 0)], [(0, some (rowC noC)), (1, some (.els TE 1 [.int .i64 0]))], 3, 19⟩ → c.wp Tryd.prog (Post ⟨N.b, 2, φ, []⟩ (LateQ k) M w) _ w := fun h => h _ _ _ _ r2
  refine wp_mono (hA ?_) ?_
  · skip
    repeat' (first | refine zt ?_ | (refine isR ?_; first | refine zo ?_ | refine x_assert ?_ | refine x_bs tb_ok ?_ | refine zA ?_ | refine zL ?_ | refine zc1 ?_ | refine zc2 ?_ | refine zc3 ?_ | refine zc4 ?_ | refine zc5 ?_ | refine zc6 ?_ | refine zI ?_ | refine zS ?_ | refine zB ?_ | (refine zs1 ?_ ?_ <;> intro hc) | (refine zs2 ?_ ?_ <;> intro hc) | (refine zs3 ?_ ?_ <;> intro hc) | (refine zs4 ?_ ?_ <;> intro hc) | (refine zs5 ?_ ?_ <;> intro hc) | (refine zs6 ?_ ?_ <;> intro hc)) | refine awp_split rfl (fun hb => ?_) (fun hb => ?_) | refine zr ?_ | exact x_le)
    exact ⟨rfl, rfl, rfl⟩
  · rintro e a' w' ⟨M', φ', s', h1, h2, h3, rfl, h4, h5⟩
    obtain ⟨v, k1, _⟩ := ends_run (rs := []) (fn := Tryd.f37) tb_ok rfl h3 (r := .tup []) ⟨[], [], rfl, rfl, trivial, rfl⟩
    exact ⟨h3.df, _, rfl, v, k1, ⟨v, rfl⟩, rfl, M', φ', s', a', h1, h2, h3, h4, h5⟩
/-! ### The part that is guarded -/
def InvD (b : Bg) (f : Nat) (Q' : Exit → S → Prop) (M' : Nat → Prop) (φ' : Nat → Pl) (e : Exit) (a' : Act) (w' : World) : Prop :=
  ∃ x y s', a'.defers = [⟨.fn (.func f) #[x, y], #[]⟩] ∧ Rep (fun k => M' k ∨ b.bl k) (· < s'.nx) φ' w' (.loc 0 0 0) x ∧ Rep (fun k => M' k ∨ b.bl k) (· < s'.nx) φ' w' (.loc 1 0 0) y ∧ (∃ pl, Rel ⟨b, 2, pl, a'.defers⟩ M' (· < s'.nx) φ' s' a' w') ∧ Q' e s'
theorem loc_again {X X' A A' : Nat → Prop} {φ φ' : Nat → Pl} {w w' : World} {n i off : Nat} {x : Value} (h : Rep X A φ w (.loc n i off) x) (hA : A' n) (hφ : φ' n = φ n) : Rep X' A' φ' w' (.loc n i off) x := by
  obtain ⟨bk, e1, rfl⟩ := rep_loc h
  rw [← hφ] at e1 ⊢
  exact .loc hA e1
theorem bwp_defer {P : Program} {b : Bg} {pl0 : Nat → Pl} {s : S} {y : Code} {id : Nat} {o1 o2 : Oper} {f d1 t2 t3 : Nat} {Q' : Exit → S → Prop} (k : ∀ pl df, AWp P ⟨b, 2, pl, df⟩ y Q' s) (h1 : o1.op = .makeFunc (.func f) #[] #[.tmp t2, .tmp t3]) (hd1 : o1.dst = some d1) (hg1 : o1.guard = none) (h2 : o2.op = .defer { callee := .value (.tmp d1), args := #[], argTypes := #[] }) (hd2 : o2.dst = none) (hg2 : o2.guard = none)
    (hv2 : lk s.tm t2 = some (.loc 0 0 0)) (hv3 : lk s.tm t3 = some (.loc 1 0 0)) (hn : lk s.tm d1 = none) (hlt : d1 < s.nt) (hnx : 2 ≤ s.nx) : BWp P ⟨b, 0, pl0, []⟩ (.seq (.region id [o1, o2].toArray false) y) (InvD b f Q') s := fun M φ a w hr => by
  refine wp_seq (wp_region_lit ?_)
  have hl1 : d1 < a.tmps.size := by rw [hr.nt]; exact hlt
  refine wpList_step fun K hK => ?_
  rw [if_pos (by unfold Region.wanted; rw [hg1])]
  have run1 : (execOp a.eval o1).run P w = .ok (.value (.func (.func f) #[] #[a.tmps.getD t2 undef, a.tmps.getD t3 undef])) w := by
    have e1 : Array.map a.eval #[Operand.tmp t2, Operand.tmp t3] = #[a.tmps.getD t2 undef, a.tmps.getD t3 undef] := by simp [Act.eval]
    have e2 : Array.map a.eval #[] = #[] := by simp
    unfold execOp
    simp only [h1]
    rw [e1, e2]
    rfl
  unfold Oper.wp
  rw [run1]
  refine hK _ _ ?_
  refine wpList_step fun K hK => ?_
  rw [if_pos (by unfold Region.wanted; rw [hg2])]
  have ev : (a.put o1.dst (.func (.func f) #[] #[a.tmps.getD t2 undef, a.tmps.getD t3 undef])).eval (.tmp d1) = .func (.func f) #[] #[a.tmps.getD t2 undef, a.tmps.getD t3 undef] := by
    rw [hd1]
    show (a.put (some d1) _).tmps.getD d1 undef = _
    rw [put_getD a d1 d1 _ hl1, if_pos rfl]
  have run2 : (execOp (a.put o1.dst (.func (.func f) #[] #[a.tmps.getD t2 undef, a.tmps.getD t3 undef])).eval o2).run P w = .ok (.defer ⟨.fn (.func f) #[a.tmps.getD t2 undef, a.tmps.getD t3 undef], #[]⟩) w := by
    unfold execOp
    simp only [h2, resolve, ev, Deferred.ofValue, List.map_toArray, List.map_nil, Sem.run_bind, Sem.run_pure, Result.andThen_ok]
    rfl
  unfold Oper.wp
  rw [run2]
  refine hK _ _ (wpList_nil ?_)
  have hx := (hr.tm t2 _ hv2).2
  have hy := (hr.tm t3 _ hv3).2
  generalize hX : a.tmps.getD t2 undef = x at *
  generalize hY : a.tmps.getD t3 undef = z at *
  rw [hd1, hd2]
  have hdf : a.defers = [] := hr.df
  have rel : Rel ⟨b, 2, φ, [⟨.fn (.func f) #[x, z], #[]⟩]⟩ M (· < s.nx) φ s ({ a.put (some d1) (.func (.func f) #[] #[x, z]) with defers := ⟨.fn (.func f) #[x, z], #[]⟩ :: (a.put (some d1) (.func (.func f) #[] #[x, z])).defers }.put none undef) w := by
    refine ⟨fun t v ht => ?_, ?_, hr.st, hr.inj, hr.lim, hr.dis, ?_, fun n hn => ⟨Nat.lt_of_lt_of_le hn hnx, rfl⟩, hr.gl⟩
    · obtain ⟨g1, g2⟩ := hr.tm t v ht
      refine ⟨g1, ?_⟩
      show Rep _ _ _ _ v ((a.put (some d1) _).tmps.getD t undef)
      rw [put_getD a d1 t _ hl1, if_neg (fun e => by subst e; rw [hn] at ht; cases ht)]
      exact g2
    · show (a.put (some d1) _).tmps.size = s.nt
      rw [← hr.nt]
      simp [Act.put]
    · show _ :: a.defers = _
      rw [hdf]
  refine wp_mono (k φ _ M φ _ w rel) fun e a' w' ⟨M', φ', s', g1, g2, g3, g4⟩ => ?_
  have p0 := g3.pin 0 (by decide : 0 < 2)
  have p1 := g3.pin 1 (by decide : 1 < 2)
  exact ⟨M', φ', g1, g2, x, z, s', g3.df, loc_again hx p0.1 p0.2, loc_again hy p1.1 p1.2, ⟨φ, g3.df ▸ g3⟩, g4⟩
abbrev rsR : List ResultVar := [.cell 2 TC, .cell 3 TE]
theorem ends_two {s : S} {k : Nat} (h2 : lk s.tm 2 = some (.loc 0 0 0)) (h3 : lk s.tm 3 = some (.loc 1 0 0)) (hb0 : s.blk 0 = some (rowC noC)) (hb1 : s.blk 1 = some (rowE k)) : Abs.Ends tb rsR s (.tup [noC, natV k]) := by
  refine ⟨[noC, natV k], [noC, natV k], ?_, rfl, ?_, rfl⟩
  · have e1 : resV tb s (.cell 2 TC) = some noC := by
      rw [resV, h2]
      show (match s.blk 0 with
        | some (.els _ _ xs) => match nth xs 0 with
          | some el => subV el.cells 0 _ _
          | none => none
        | _ => none) = _
      rw [hb0]
      rfl
    have e2 : resV tb s (.cell 3 TE) = some (natV k) := by
      rw [resV, h3]
      show (match s.blk 1 with
        | some (.els _ _ xs) => match nth xs 0 with
          | some el => subV el.cells 0 _ _
          | none => none
        | _ => none) = _
      rw [hb1]
      rfl
    rw [resVs, e1, resVs, e2, resVs]
  · repeat' first | exact trivial | constructor
/-- What the guarded part comes to: an end that gives r, or a panic that is caught, which gives no consent and a code. -/
def RdQ (r : V) (e : Exit) (s' : S) : Prop := match e with
  | .ret => AEnd tb rsR r .ret s'
  | .panic ch => ∃ k : Nat, k ≤ 9 ∧ ch = gaveUp (k : Int) ∧ r = .tup [noC, natV k] ∧ lk s'.tm 2 = some (.loc 0 0 0) ∧ lk s'.tm 3 = some (.loc 1 0 0) ∧ s'.nx = 3 ∧ s'.blk 0 = some (rowC noC) ∧ s'.blk 1 = some (.els TE 1 [.int .i64 0])
  | _ => False
theorem rd_ret {r : V} {s' : S} (h : AEnd tb rsR r .ret s') : RdQ r .ret s' := h
set_option maxRecDepth 100000 in
set_option maxHeartbeats 4000000 in
theorem caught {t : List UInt8} {r : V} (hB : ∀ b : Bg, ∀ c, Tryd.f23.body = some c → BWp Tryd.prog ⟨b, 0, fun _ => ⟨none, 0, 0⟩, []⟩ c (InvD b RD (RdQ r)) ⟨[(0, strT t)], [], 0, 35⟩) : ACalls Tryd.prog 23 [strT t] r := fun g N w vs hG hN hlen hv => by
  obtain ⟨vs⟩ := vs
  match vs, hlen with
  | [x0], _ =>
    have hx0 := hv 0 _ x0 rfl rfl
    have r0 : Rel ⟨⟨N, g⟩, 0, fun _ => ⟨none, 0, 0⟩, []⟩ (fun _ => False) (· < 0) (fun _ => ⟨none, 0, 0⟩) ⟨[(0, strT t)], [], 0, 35⟩ { tmps := #[x0] ++ Array.replicate (35 - 1) undef, defers := [] } w := by
      refine ⟨fun q v hq => ?_, (by simp), fun n k hk => (by simp [S.blk, lk] at hk), fun n n' k k' b hk => (by simp [S.blk, lk] at hk), fun b hb => hN b (hb.resolve_left id), fun b hb => hb.elim, rfl, fun n hn => absurd hn (Nat.not_lt_zero n), hG.sub fun b hb => hb.resolve_left id⟩
      change lk [(0, strT t)] q = some v at hq
      rw [lk_put] at hq
      split at hq
      · rename_i e
        subst e; cases hq
        have hx1 : Rep (fun b => False ∨ N b) (· < 0) (fun _ => ⟨none, 0, 0⟩) w (strT t) x0 := .fz (hx0.mono (fun b _ h => h.resolve_left id) (.refl _ w))
        exact ⟨(by decide : 0 < 35), by simpa using hx1⟩
      · cases hq
    refine calls_of_wp_defers Tryd.func23 rfl ?_
    refine wp_mono (hB ⟨N, g⟩ _ rfl _ _ _ _ r0) ?_
    rintro e a' w' ⟨M', φ', hs1, hs2, x, y, s', hdf, hx, hy, ⟨pl, hrel⟩, hq⟩
    have hi : (invoke (.fn (.func RD) #[x, y]) #[]).run Tryd.prog w' = .ok (.enter RD #[x, y]) w' := by
      have h := enters (P := Tryd.prog) (f := RD) (by kernel_rfl) #[x, y] w'
      unfold invoke
      simp [h]
    cases e with
    | ret =>
      have hq : AEnd tb rsR r .ret s' := hq
      show Leaves _ _ _ _ a'.defers .returning w'
      rw [hdf]
      refine leaves_cons (fun h => by cases h) hi ((late_no x y w').mono ?_)
      rintro e u' w2 ⟨⟨v, rfl⟩, rfl, hb⟩
      obtain ⟨z, k1, k2⟩ := ends_run (fn := Tryd.f23) tb_ok rfl (hrel.grow hb) hq
      exact ⟨z, k1, z, rfl, (hs1.trans (.of_below (M := fun _ => False) hb) fun _ _ h => h).below, k2⟩
    | panic ch =>
      obtain ⟨k, hk9, rfl, rfl, h2, h3, hnx, hb0, hb1⟩ := hq
      show Leaves _ _ _ _ a'.defers (.panicking (gaveUp (k : Int))) w'
      rw [hdf]
      rw [hnx] at hrel hx hy
      refine leaves_cons (fun h => by cases h) hi ((late_yes hrel hb0 hb1 hx hy hk9).mono ?_)
      rintro e u' w2 ⟨⟨v, rfl⟩, rfl, M2, φ2, s2, a2, g1, g2, g3, g4, g5⟩
      have p0 := g3.pin 0 (by decide : 0 < 2)
      have p1 := g3.pin 1 (by decide : 1 < 2)
      have hrel2 : Rel ⟨⟨N, g⟩, 2, φ', a'.defers⟩ M2 (· < s2.nx) φ2 ⟨[(2, .loc 0 0 0), (3, .loc 1 0 0)], s2.st, s2.nx, s'.nt⟩ a' w2 := by
        refine ⟨fun q v hq => ?_, hrel.nt, g3.st, g3.inj, g3.lim, g3.dis, rfl, g3.pin, g3.gl⟩
        change lk [(2, V.loc 0 0 0), (3, V.loc 1 0 0)] q = some v at hq
        rw [lk_put, lk_put] at hq
        split at hq
        · rename_i e
          subst e; cases hq
          obtain ⟨m1, m2⟩ := hrel.tm 2 _ h2
          exact ⟨m1, loc_again m2 p0.1 p0.2⟩
        · split at hq
          · rename_i e
            subst e; cases hq
            obtain ⟨m1, m2⟩ := hrel.tm 3 _ h3
            exact ⟨m1, loc_again m2 p1.1 p1.2⟩
          · cases hq
      obtain ⟨z, k1, k2⟩ := ends_run (fn := Tryd.f23) tb_ok rfl hrel2 (ends_two rfl rfl g4 g5)
      have hz : Below w.heap.size w w2 := by
        have : Stays (fun _ => False) w w2 := ⟨g1.os.trans hs1.os, g1.tape.trans hs1.tape, g1.output.trans hs1.output, Nat.le_trans hs1.size g1.size, fun q hq _ => by
          rw [g1.block q (Nat.lt_of_lt_of_le hq hs1.size) fun h => hs2 q hq h, hs1.block q hq id]⟩
        exact this.below
      exact ⟨z, k1, z, rfl, hz, k2⟩
    | _ => exact hq.elim
end Go.Proofs.YtnpokgjehapmjaaDoor.ConD
namespace Go.Proofs.YtnpokgjehapmjaaDoor.ConE
open Go.RowKit Mem Abs BitsP BitsS BitsT SixtyP SixtyQ SixtyW ConP ConQ ConC ConA ConS ConG ConR ConV ConZ ConD

/-- What Read gives. -/
def rdV (r : Rd) : V := .tup [if r.2.2.2 = 0 then conN r.1 r.2.1 r.2.2.1 else noC, natV r.2.2.2]
theorem rdV_no {c : Nat} (h : c ≠ 0) : rdV (noRd c) = .tup [noC, natV c] := by
  unfold rdV noRd
  dsimp only
  rw [if_neg h]
set_option maxRecDepth 100000 in
set_option maxHeartbeats 4000000 in
theorem read_v {t : List UInt8} (ht : t.length ≤ 140737488355328) : ACalls Tryd.prog 23 [strT t] (rdV (readC t)) := by
  have cs := sixR_v ht
  have hw := write_read t
  by_cases h1 : (readF t).2 = 0
  · have hlen := (hw h1).1
    rw [show readF t = ((readF t).1, 0) from Prod.ext rfl h1] at cs
    have hrc : readC t = if codeP (tbits (readF t).1) ≠ 0 then noRd (codeP (tbits (readF t).1)) else readL t (tbits (readF t).1) ((vends (tbits (readF t).1)).getD []) := by
      unfold readC
      rw [if_neg (by rw [h1]; decide)]
    rw [hrc]
    clear hrc hw
    generalize (readF t).1 = s at *
    refine caught fun b c hc => ?_
    have hc2 : _ = c := Option.some.inj (hc : some _ = some c)
    subst hc2
    clear hc
    refine bwp_seq ?_
    repeat' (first | refine zt ?_ | (refine isR ?_; first | refine zo ?_ | refine x_bs tb_ok ?_ | refine zA ?_ | refine zL ?_ | refine zc1 ?_ | refine zc2 ?_ | refine zc3 ?_ | refine zc4 ?_ | refine zc5 ?_ | refine zc6 ?_ | refine zI ?_ | refine zS ?_ | refine zB ?_ | (refine zs1 ?_ ?_ <;> intro hc) | (refine zs2 ?_ ?_ <;> intro hc) | (refine zs3 ?_ ?_ <;> intro hc) | (refine zs4 ?_ ?_ <;> intro hc) | (refine zs5 ?_ ?_ <;> intro hc) | (refine zs6 ?_ ?_ <;> intro hc)) | refine awp_split rfl (fun hb => ?_) (fun hb => ?_) | refine zr ?_ | exact x_le)
    refine bwp_seq ?_
    repeat' (first | refine zt ?_ | (refine isR ?_; first | refine zo ?_ | refine zk cs ?_ | refine x_bs tb_ok ?_ | refine zA ?_ | refine zL ?_ | refine zc1 ?_ | refine zc2 ?_ | refine zc3 ?_ | refine zc4 ?_ | refine zc5 ?_ | refine zc6 ?_ | refine zI ?_ | refine zS ?_ | refine zB ?_ | (refine zs1 ?_ ?_ <;> intro hc) | (refine zs2 ?_ ?_ <;> intro hc) | (refine zs3 ?_ ?_ <;> intro hc) | (refine zs4 ?_ ?_ <;> intro hc) | (refine zs5 ?_ ?_ <;> intro hc) | (refine zs6 ?_ ?_ <;> intro hc)) | refine awp_split rfl (fun hb => ?_) (fun hb => ?_) | refine zr ?_ | exact x_le)
    refine bwp_seq ?_
    repeat' (first | refine zt ?_ | (refine isR ?_; first | refine zo ?_ | refine x_bs tb_ok ?_ | refine zA ?_ | refine zL ?_ | refine zc1 ?_ | refine zc2 ?_ | refine zc3 ?_ | refine zc4 ?_ | refine zc5 ?_ | refine zc6 ?_ | refine zI ?_ | refine zS ?_ | refine zB ?_ | (refine zs1 ?_ ?_ <;> intro hc) | (refine zs2 ?_ ?_ <;> intro hc) | (refine zs3 ?_ ?_ <;> intro hc) | (refine zs4 ?_ ?_ <;> intro hc) | (refine zs5 ?_ ?_ <;> intro hc) | (refine zs6 ?_ ?_ <;> intro hc)) | refine awp_split rfl (fun hb => ?_) (fun hb => ?_) | refine zr ?_ | exact x_le)
    refine bwp_defer (d1 := 15) (t2 := 2) (t3 := 3) (fun pl df => ?_) rfl rfl rfl rfl rfl rfl rfl rfl rfl (Nat.le_of_ble_eq_true rfl) (Nat.le_of_ble_eq_true rfl)
    refine awp_lei (s1 := ⟨[(2, .loc 0 0 0), (3, .loc 1 0 0), (4, strT s), (0, strT t)], [(0, some (rowC noC)), (1, some (.els TE 1 [.int .i64 0]))], 2, 35⟩) (by exact x_le) ?_
    have hs : s.length ≤ 1048576 := by omega
    rcases codes (tbits s) with hc | hc | hc
    · obtain ⟨U, hv⟩ := vends_of hc
      have cv := consent_v hs hc hv
      rw [if_neg (by rw [hc]; decide), hv, Option.getD_some]
      have cK := check_v (g := (given (tbits s) : Int)) (P := purp (tbits s)) (L := toI U)
      rw [← conN_int] at cK
      unfold readL
      by_cases hk : GrantP.check (given (tbits s) : Int) (toI U) = 0
      · obtain ⟨hg, hR⟩ := check_iff.1 hk
        have cR := raw_v (g := given (tbits s)) (P := purp (tbits s)) (by omega) (right_toI.1 hR)
        rw [hk] at cK
        by_cases he : conText (given (tbits s)) (purp (tbits s)) U = t
        · rw [if_pos ⟨hk, he⟩]
          have hr : rdV (given (tbits s), purp (tbits s), U, 0) = .tup [conN (given (tbits s)) (purp (tbits s)) U, natV 0] := rfl
          rw [hr]
          clear hr hk hg hR hc hv
          generalize conText (given (tbits s)) (purp (tbits s)) U = TX at *
          generalize given (tbits s) = g at *
          generalize purp (tbits s) = P at *
          repeat' (first | with_reducible refine rd_ret ?_ | refine zt ?_ | (refine isR ?_; first | refine zo ?_ | refine x_m [2] [] (cv _) ?_ | refine x_m0 [2] [] (cv _) ?_ | refine x_m [2] [] (cv) ?_ | refine x_m0 [2] [] (cv) ?_ | refine zk cK ?_ | refine zk cR ?_ | refine x_bs tb_ok ?_ | refine zA ?_ | refine zL ?_ | refine zc1 ?_ | refine zc2 ?_ | refine zc3 ?_ | refine zc4 ?_ | refine zc5 ?_ | refine zc6 ?_ | refine zI ?_ | refine zS ?_ | refine zB ?_ | (refine zs1 ?_ ?_ <;> intro hc) | (refine zs2 ?_ ?_ <;> intro hc) | (refine zs3 ?_ ?_ <;> intro hc) | (refine zs4 ?_ ?_ <;> intro hc) | (refine zs5 ?_ ?_ <;> intro hc) | (refine zs6 ?_ ?_ <;> intro hc)) | refine awp_split rfl (fun hb => ?_) (fun hb => ?_) | refine zr ?_ | exact x_le)
          rfl
        · rw [if_neg fun h => he h.2, rdV_no (by decide)]
          clear hk hg hR hc hv
          generalize conText (given (tbits s)) (purp (tbits s)) U = TX at *
          generalize given (tbits s) = g at *
          generalize purp (tbits s) = P at *
          repeat' (first | with_reducible refine rd_ret ?_ | refine zt ?_ | (refine isR ?_; first | refine zo ?_ | refine x_m [2] [] (cv _) ?_ | refine x_m0 [2] [] (cv _) ?_ | refine x_m [2] [] (cv) ?_ | refine x_m0 [2] [] (cv) ?_ | refine zk cK ?_ | refine zk cR ?_ | refine x_bs tb_ok ?_ | refine zA ?_ | refine zL ?_ | refine zc1 ?_ | refine zc2 ?_ | refine zc3 ?_ | refine zc4 ?_ | refine zc5 ?_ | refine zc6 ?_ | refine zI ?_ | refine zS ?_ | refine zB ?_ | (refine zs1 ?_ ?_ <;> intro hc) | (refine zs2 ?_ ?_ <;> intro hc) | (refine zs3 ?_ ?_ <;> intro hc) | (refine zs4 ?_ ?_ <;> intro hc) | (refine zs5 ?_ ?_ <;> intro hc) | (refine zs6 ?_ ?_ <;> intro hc)) | refine awp_split rfl (fun hb => ?_) (fun hb => ?_) | refine zr ?_ | exact x_le)
          rfl
      · rw [if_neg fun h => hk h.1, rdV_no (by decide)]
        have hk' : (GrantP.check (given (tbits s) : Int) (toI U) : Int) ≠ 0 := by omega
        clear hc hv
        generalize GrantP.check (given (tbits s) : Int) (toI U) = z at *
        generalize given (tbits s) = g at *
        generalize purp (tbits s) = P at *
        repeat' (first | with_reducible refine rd_ret ?_ | refine zt ?_ | (refine isR ?_; first | refine zo ?_ | refine x_m [2] [] (cv _) ?_ | refine x_m0 [2] [] (cv _) ?_ | refine x_m [2] [] (cv) ?_ | refine x_m0 [2] [] (cv) ?_ | refine zk cK ?_ | refine x_bs tb_ok ?_ | refine zA ?_ | refine zL ?_ | refine zc1 ?_ | refine zc2 ?_ | refine zc3 ?_ | refine zc4 ?_ | refine zc5 ?_ | refine zc6 ?_ | refine zI ?_ | refine zS ?_ | refine zB ?_ | (refine zs1 ?_ ?_ <;> intro hc) | (refine zs2 ?_ ?_ <;> intro hc) | (refine zs3 ?_ ?_ <;> intro hc) | (refine zs4 ?_ ?_ <;> intro hc) | (refine zs5 ?_ ?_ <;> intro hc) | (refine zs6 ?_ ?_ <;> intro hc)) | refine awp_split rfl (fun hb => ?_) (fun hb => ?_) | refine zr ?_ | exact x_le)
        rfl
    · have cp := consent_p hs hc (by decide)
      rw [if_pos (by rw [hc]; decide), hc, rdV_no (by decide)]
      repeat' (first | refine awp_regionP (id := 7) 1 ?_ | (refine r_end ?_; refine p_call [2] (cp _) ?_) | refine zt ?_ | (refine isR ?_; first | refine zo ?_ | refine x_bs tb_ok ?_ | refine zA ?_ | refine zL ?_ | refine zc1 ?_ | refine zc2 ?_ | refine zc3 ?_ | refine zc4 ?_ | refine zc5 ?_ | refine zc6 ?_ | refine zI ?_ | refine zS ?_ | refine zB ?_ | (refine zs1 ?_ ?_ <;> intro hc) | (refine zs2 ?_ ?_ <;> intro hc) | (refine zs3 ?_ ?_ <;> intro hc) | (refine zs4 ?_ ?_ <;> intro hc) | (refine zs5 ?_ ?_ <;> intro hc) | (refine zs6 ?_ ?_ <;> intro hc)) | refine awp_split rfl (fun hb => ?_) (fun hb => ?_) | refine zr ?_ | exact x_le)
      exact ⟨5, by decide, rfl, rfl, rfl, rfl, rfl, rfl, rfl⟩
    · have cp := consent_p hs hc (by decide)
      rw [if_pos (by rw [hc]; decide), hc, rdV_no (by decide)]
      repeat' (first | refine awp_regionP (id := 7) 1 ?_ | (refine r_end ?_; refine p_call [2] (cp _) ?_) | refine zt ?_ | (refine isR ?_; first | refine zo ?_ | refine x_bs tb_ok ?_ | refine zA ?_ | refine zL ?_ | refine zc1 ?_ | refine zc2 ?_ | refine zc3 ?_ | refine zc4 ?_ | refine zc5 ?_ | refine zc6 ?_ | refine zI ?_ | refine zS ?_ | refine zB ?_ | (refine zs1 ?_ ?_ <;> intro hc) | (refine zs2 ?_ ?_ <;> intro hc) | (refine zs3 ?_ ?_ <;> intro hc) | (refine zs4 ?_ ?_ <;> intro hc) | (refine zs5 ?_ ?_ <;> intro hc) | (refine zs6 ?_ ?_ <;> intro hc)) | refine awp_split rfl (fun hb => ?_) (fun hb => ?_) | refine zr ?_ | exact x_le)
      exact ⟨7, by decide, rfl, rfl, rfl, rfl, rfl, rfl, rfl⟩
  · have hrc : readC t = noRd (readF t).2 := by unfold readC; rw [if_pos h1]
    rw [hrc, rdV_no h1]
    have h1' : ((readF t).2 : Int) ≠ 0 := by omega
    refine fun1 tb_ok Tryd.func23 rfl Tryd.ntmps23 Tryd.results23 rfl fun N => ?_
    repeat' (first | refine zt ?_ | (refine isR ?_; first | refine zo ?_ | refine zk cs ?_ | refine zc6 ?_ | (refine zs6 ?_ ?_ <;> intro hc)) | refine awp_split rfl (fun hb => ?_) (fun hb => ?_) | refine zr ?_ | exact x_le)
    rfl
end Go.Proofs.YtnpokgjehapmjaaDoor.ConE
end

section
namespace Go.Proofs.YtnpokgjehapmjaaDoor.ConY
open Go.RowKit Mem Abs BitsP BitsS BitsT SixtyP SixtyQ SixtyW ConP ConQ ConC ConA

abbrev TI : Nat := 3
end Go.Proofs.YtnpokgjehapmjaaDoor.ConY
end

section
namespace Go.Proofs.YtnpokgjehapmjaaDoor.ConF
open Go.RowKit Mem Abs BitsP BitsS BitsT SixtyP SixtyQ SixtyW ConP ConQ ConC ConA ConS ConG ConR ConV ConZ ConD ConE ConY

abbrev tkV (n : Nat) (l : List Nat) : V := .tup [natV n, natsV l, .bool true]
abbrev tkN : V := .tup [natV 0, .nils, .bool false]
section
variable {l : List Nat} {W : Nat}
end
abbrev stF (g : Nat) (P : Nat → Bool) (U : List Nat) (t : List UInt8) (tm : List (Nat × V)) : S := ⟨[(0, strT t), (2, .loc 0 0 0), (9, .loc 1 0 0)] ++ tm, [(0, some (rowC noC)), (1, some (cB g P 2 U.length)), (2, some (vB U))], 3, 179⟩
end Go.Proofs.YtnpokgjehapmjaaDoor.ConF
end

section
namespace Go.Proofs.YtnpokgjehapmjaaDoor.ConL
open Go.RowKit Mem Abs BitsP BitsS BitsT SixtyP SixtyQ SixtyW ConP ConQ ConC ConA ConS ConG ConR ConV ConZ ConD ConE ConF

def PA (i : Nat) : Bool := i == 0 || i == 3
abbrev UA : List Nat := [2, 3, 4, 9]
theorem rightA : RightN UA := ⟨by decide, by decide⟩
set_option maxRecDepth 100000 in
set_option maxHeartbeats 4000000 in
theorem agreed_v : ACalls Tryd.prog 19 [] (conN 1000 PA UA) := by
  refine fun0 tb_ok Tryd.func19 rfl Tryd.ntmps19 Tryd.results19 fun N => ?_
  repeat' (first | refine zt ?_ | (refine isR ?_; first | refine zo ?_ | refine x_bs tb_ok ?_) | refine awp_split rfl (fun hb => ?_) (fun hb => ?_) | refine zr ?_ | exact x_le)
  all_goals rfl
theorem lenA : (conText 1000 PA UA).length = 12 := by decide +kernel
theorem readA : rdV (readC (conText 1000 PA UA)) = .tup [conN 1000 PA UA, natV 0] := by
  obtain ⟨h1, h2, h3, h4⟩ := back (g := 1000) (P := PA) (U := UA) (by decide) rightA
  unfold rdV
  rw [h4, if_pos rfl, h1, h3]
  simp only [conN]
  rw [h2 0 (by decide), h2 1 (by decide), h2 2 (by decide), h2 3 (by decide), h2 4 (by decide), h2 5 (by decide), h2 6 (by decide), h2 7 (by decide), h2 8 (by decide), h2 9 (by decide)]
theorem codeCA : (readC [67, 65]).2.2.2 = 7 := by decide +kernel
theorem codeBA : (readC [66, 65]).2.2.2 = 5 := by decide +kernel
theorem rd_code {t : List UInt8} {c : Nat} (h : (readC t).2.2.2 = c) (h0 : c ≠ 0) : rdV (readC t) = .tup [noC, natV c] := by
  rw [read_none (by rw [h]; exact h0), h, rdV_no h0]
theorem check33 : GrantP.check 0 [3, 3] = 4 := by decide +kernel
set_option maxRecDepth 100000 in
set_option maxHeartbeats 4000000 in
theorem begun_v : ACalls Tryd.prog 9 [] (.bool true) := by
  have ca := agreed_v
  have cw := write_v (g := ((1000 : Nat) : Int)) (P := PA) (L := toI UA)
  rw [← conN_int, writeC_nat (by decide) rightA] at cw
  dsimp only at cw
  have cr := read_v (t := conText 1000 PA UA) (by rw [lenA]; decide)
  rw [readA] at cr
  have hl := lenA
  generalize conText 1000 PA UA = TX at *
  have cg := read_v (t := [67, 65]) (by decide)
  rw [rd_code codeCA (by decide)] at cg
  have ch := read_v (t := [66, 65]) (by decide)
  rw [rd_code codeBA (by decide)] at ch
  have cc := check_v (g := 0) (P := fun _ => false) (L := [3, 3])
  rw [check33] at cc
  have cs := same_t (g := ((1000 : Nat) : Int)) (P := PA) (L := toI UA)
  rw [← conN_int] at cs
  refine fun0 tb_ok Tryd.func9 rfl Tryd.ntmps9 Tryd.results9 fun N => ?_
  repeat' (first | refine zt ?_ | (refine isR ?_; first | refine zo ?_ | refine zk ca ?_ | refine zk cw ?_ | refine zk cr ?_ | refine zk cg ?_ | refine zk ch ?_ | refine zk cs ?_ | refine zk cc ?_ | refine x_bs tb_ok ?_ | refine zL ?_ | refine zc5 ?_ | (refine zs5 ?_ ?_ <;> intro hc)) | refine awp_split rfl (fun hb => ?_) (fun hb => ?_) | refine zr ?_ | exact x_le)
  all_goals first | rfl | (exfalso; omega)
end Go.Proofs.YtnpokgjehapmjaaDoor.ConL
end
