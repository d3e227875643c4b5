/- Headers: the walks of Read and of the document's own. -/
import Derived.Test.YtbacakgjhohedaaDoorWk
import Derived.Test.YtbacakgjhohedaaDoorHeadR
namespace Go.Proofs.YtbacakgjhohedaaDoor.HeadS
open Go.RowKit Mem Abs TreeW WordP WordS HeadP Rune Bld HeadW HeadR

theorem split_some (s : List UInt8) : ∃ p r, split 59 s = p :: r := by
  cases h : split 59 s with
  | nil => exact absurd h (split_ne 59 s)
  | cons p r => exact ⟨p, r, rfl⟩
theorem take_filter (r : List (List UInt8)) (k : Nat) (p : List UInt8) (h : r[k]? = some p) : (r.take (k + 1)).filterMap attrF = (r.take k).filterMap attrF ++ (attrF p).toList := by
  obtain ⟨hk, rfl⟩ := List.getElem?_eq_some_iff.1 h
  rw [List.take_succ_eq_append_getElem hk, List.filterMap_append]
  congr 1
theorem filter_len (r : List (List UInt8)) (k : Nat) : ((r.take k).filterMap attrF).length ≤ k :=
  Nat.le_trans (List.length_filterMap_le _ _) (by simp; omega)
abbrev rawE : Abs.V := .agg [strT [], strT [], .nils]
set_option maxRecDepth 100000 in
set_option maxHeartbeats 4000000 in
theorem read_v {s : List UInt8} : ACalls Tryd.prog 7 [strT s] (.tup [(rawF s).1.v, .int .i64 (rawF s).2]) := by
  by_cases h0 : 400 < s.length
  · have e : rawF s = (raw0, 2) := by unfold rawF; rw [if_pos h0]
    rw [e]
    refine ACalls.nfd (r := .tup [rawE, .int .i64 2]) ?_ rfl
    refine fun1 tb_ok Tryd.func7 rfl Tryd.ntmps7 Tryd.results7 rfl fun N => ?_
    repeat' (first | refine zt ?_ | (refine isR ?_; first | refine zo ?_ | refine x_bs tb_ok ?_ | refine zA ?_ | refine zL ?_ | refine zc1 ?_ | refine zc3 ?_ | refine zc5 ?_ | refine zc6 ?_ | refine zI ?_ | refine zS ?_ | (refine zs1 ?_ ?_ <;> intro hc) | (refine zs3 ?_ ?_ <;> intro hc) | (refine zs5 ?_ ?_ <;> intro hc) | (refine zs6 ?_ ?_ <;> intro hc)) | refine awp_split rfl (fun hb => ?_) (fun hb => ?_) | refine zr ?_ | exact x_le)
    rfl
  have c1 := let_v (s := s)
  cases hle : letF s with
  | false =>
    have e : rawF s = (raw0, 1) := by unfold rawF; rw [if_neg h0, if_pos hle]
    rw [hle] at c1
    rw [e]
    refine ACalls.nfd (r := .tup [rawE, .int .i64 1]) ?_ rfl
    refine fun1 tb_ok Tryd.func7 rfl Tryd.ntmps7 Tryd.results7 rfl fun N => ?_
    repeat' (first | refine zt ?_ | (refine isR ?_; first | refine zo ?_ | refine zk c1 ?_ | refine x_bs tb_ok ?_ | refine zA ?_ | refine zL ?_ | refine zc1 ?_ | refine zc3 ?_ | refine zc5 ?_ | refine zc6 ?_ | refine zI ?_ | refine zS ?_ | (refine zs1 ?_ ?_ <;> intro hc) | (refine zs3 ?_ ?_ <;> intro hc) | (refine zs5 ?_ ?_ <;> intro hc) | (refine zs6 ?_ ?_ <;> intro hc)) | refine awp_split rfl (fun hb => ?_) (fun hb => ?_) | refine zr ?_ | exact x_le)
    rfl
  | true =>
    rw [hle] at c1
    have c2 := parts_v (u := 59) (l := s) (by omega)
    obtain ⟨p, r, hs⟩ := split_some s
    have hlen := split_len 59 s
    rw [hs] at c2 hlen
    have e : rawF s = if (pairF p).2.2 = false ∨ (pairF p).1 = [] then (raw0, 1) else if 12 < (r.filterMap attrF).length then (raw0, 2) else (⟨(pairF p).1, (pairF p).2.1, r.filterMap attrF⟩, 0) := by
      unfold rawF; rw [if_neg h0, if_neg (by rw [hle]; simp), hs]
    rw [e]
    have e1 : ((p :: r).map strT)[((0 : Int)).toNat]? = some (strT p) := rfl
    have c3 := cut_v (c := 61) (l := p)
    have c4 := trim_v (l := (cutF 61 p).1)
    have c5 := trim_v (l := (cutF 61 p).2.1)
    rw [show pairF p = (trim (cutF 61 p).1, trim (cutF 61 p).2.1, (cutF 61 p).2.2) from rfl]
    dsimp only
    generalize cutF 61 p = q at *
    obtain ⟨q1, q2, q3⟩ := q
    dsimp only at *
    generalize trim q1 = n at *
    generalize trim q2 = v at *
    cases q3 with
    | false =>
      rw [if_pos (.inl rfl)]
      refine ACalls.nfd (r := .tup [rawE, .int .i64 1]) ?_ rfl
      refine fun1 tb_ok Tryd.func7 rfl Tryd.ntmps7 Tryd.results7 rfl fun N => ?_
      repeat' (first | refine zt ?_ | (refine isR ?_; first | refine zo ?_ | refine zk c1 ?_ | refine zk c2 ?_ | refine zk c3 ?_ | refine zk c4 ?_ | refine x_bs tb_ok ?_ | refine zA ?_ | refine zL ?_ | refine zc1 ?_ | refine zc3 ?_ | refine zc5 ?_ | refine zc6 ?_ | refine zI ?_ | refine zS ?_ | (refine zs1 ?_ ?_ <;> intro hc) | (refine zs3 ?_ ?_ <;> intro hc) | (refine zs5 ?_ ?_ <;> intro hc) | (refine zs6 ?_ ?_ <;> intro hc)) | refine awp_split rfl (fun hb => ?_) (fun hb => ?_) | refine zr ?_ | exact x_le)
      rfl
    | true =>
      by_cases hn : n = []
      · rw [if_pos (.inr hn)]
        refine ACalls.nfd (r := .tup [rawE, .int .i64 1]) ?_ rfl
        refine fun1 tb_ok Tryd.func7 rfl Tryd.ntmps7 Tryd.results7 rfl fun N => ?_
        repeat' (first | refine zt ?_ | (refine isR ?_; first | refine zo ?_ | refine zk c1 ?_ | refine zk c2 ?_ | refine zk c3 ?_ | refine zk c4 ?_ | refine x_bs tb_ok ?_ | refine zA ?_ | refine zL ?_ | refine zc1 ?_ | refine zc3 ?_ | refine zc5 ?_ | refine zc6 ?_ | refine zI ?_ | refine zS ?_ | (refine zs1 ?_ ?_ <;> intro hc) | (refine zs3 ?_ ?_ <;> intro hc) | (refine zs5 ?_ ?_ <;> intro hc) | (refine zs6 ?_ ?_ <;> intro hc)) | refine awp_split rfl (fun hb => ?_) (fun hb => ?_) | refine zr ?_ | exact x_le)
        rfl
      · rw [if_neg (fun h => h.elim (fun h => by cases h) hn)]
        have hrl : r.length ≤ 400 := by simp at hlen; omega
        have hx : ((r.map strT).length : Int) = (r.length : Int) := by simp
        have hx2 : (((p :: r).map strT).length : Int) = (r.length : Int) + 1 := by simp
        have hx3 : ((p :: r).length : Int) = (r.length : Int) + 1 := by simp
        by_cases h12 : 12 < (r.filterMap attrF).length
        · rw [if_pos h12]
          refine ACalls.nfd (r := .tup [rawE, .int .i64 2]) ?_ rfl
          refine fun1 tb_ok Tryd.func7 rfl Tryd.ntmps7 Tryd.results7 rfl fun N => ?_
          repeat' (first | refine zt ?_ | (refine isR ?_; first | refine zo ?_ | refine zk c1 ?_ | refine zk c2 ?_ | refine zk c3 ?_ | refine zk c4 ?_ | refine zk c5 ?_ | refine x_bs tb_ok ?_ | refine zA ?_ | refine zL ?_ | refine zc1 ?_ | refine zc3 ?_ | refine zc5 ?_ | refine zc6 ?_ | refine zI ?_ | refine zS ?_ | (refine zs1 ?_ ?_ <;> intro hc) | (refine zs3 ?_ ?_ <;> intro hc) | (refine zs5 ?_ ?_ <;> intro hc) | (refine zs6 ?_ ?_ <;> intro hc)) | refine awp_split rfl (fun hb => ?_) (fun hb => ?_) | refine zr ?_ | exact x_le)
          refine awp_nameR 0 2 37 2 rfl rfl (by decide) rfl ?_
          refine awp_forN (fun k => ⟨[(2, .loc 0 0 0), (47, .fro (r.map strT)), (48, .int .i64 (r.map strT).length), (49, .int .i64 (k : Int))], [(0, some (.els 24 3 [.agg [strT n, strT v, .own 1 0 ((r.take k).filterMap attrF).length]])), (1, some (.els 37 2 (((r.take k).filterMap attrF).map Attr.v)))], 2, 80⟩) (fun k => k ≤ r.length) r.length 0 (by exact x_le) (Nat.zero_le _) ?_
          intro k hk
          by_cases hk2 : k < r.length
          · have f1 : (r.map strT)[k]? = some (strT r[k]) := by simp [hk2]
            have f2 := take_filter r k r[k] (by simp [hk2])
            have f3 := filter_len r k
            simp only [f2]
            generalize r[k] = x at f1
            generalize (r.take k).filterMap attrF = L at f3
            have d1 := cut_v (c := 61) (l := x)
            have d2 := trim_v (l := (cutF 61 x).1)
            have d3 := fold_v (l := trim (cutF 61 x).1)
            have d4 := trim_v (l := (cutF 61 x).2.1)
            have ha : attrF x = if fold (trim (cutF 61 x).1) = [] then none else some ⟨fold (trim (cutF 61 x).1), trim (cutF 61 x).2.1⟩ := rfl
            rw [ha]
            generalize cutF 61 x = y at *
            obtain ⟨y1, y2, y3⟩ := y
            dsimp only at *
            generalize trim y1 = m at *
            generalize fold m = m2 at *
            generalize trim y2 = u at *
            by_cases hm : m2 = []
            · rw [if_pos hm]
              simp only [Option.toList_none, List.append_nil]
              repeat' (first | refine zt ?_ | (refine isR ?_; first | refine zo ?_ | refine zk d1 ?_ | refine zk d2 ?_ | refine zk d3 ?_ | refine x_bs tb_ok ?_ | refine zA ?_ | refine zL ?_ | refine zc1 ?_ | refine zc3 ?_ | refine zc5 ?_ | refine zc6 ?_ | refine zI ?_ | refine zS ?_ | (refine zs1 ?_ ?_ <;> intro hc) | (refine zs3 ?_ ?_ <;> intro hc) | (refine zs5 ?_ ?_ <;> intro hc) | (refine zs6 ?_ ?_ <;> intro hc)) | refine awp_split rfl (fun hb => ?_) (fun hb => ?_) | refine zr ?_ | exact x_le)
              refine ⟨by omega, hk2, ?_⟩
              exact (by exact x_len [0,1])
            · rw [if_neg hm]
              simp only [Option.toList_some]
              repeat' (first | refine zt ?_ | (refine isR ?_; first | refine zo ?_ | refine zk d1 ?_ | refine zk d2 ?_ | refine zk d3 ?_ | refine zk d4 ?_ | refine x_app Attr.v (a1 := (⟨m2, u⟩)) tb_ok ?_ | refine x_bs tb_ok ?_ | refine zA ?_ | refine zL ?_ | refine zc1 ?_ | refine zc3 ?_ | refine zc5 ?_ | refine zc6 ?_ | refine zI ?_ | refine zS ?_ | (refine zs1 ?_ ?_ <;> intro hc) | (refine zs3 ?_ ?_ <;> intro hc) | (refine zs5 ?_ ?_ <;> intro hc) | (refine zs6 ?_ ?_ <;> intro hc)) | refine awp_split rfl (fun hb => ?_) (fun hb => ?_) | refine zr ?_ | exact x_le)
              refine ⟨by omega, hk2, ?_⟩
              exact (by exact x_len [0,2])
          · obtain rfl : k = r.length := by omega
            rw [List.take_length]
            generalize r.filterMap attrF = L at *
            repeat' (first | refine zt ?_ | (refine isR ?_; first | refine zo ?_ | refine x_bs tb_ok ?_ | refine zA ?_ | refine zL ?_ | refine zc1 ?_ | refine zc3 ?_ | refine zc5 ?_ | refine zc6 ?_ | refine zI ?_ | refine zS ?_ | (refine zs1 ?_ ?_ <;> intro hc) | (refine zs3 ?_ ?_ <;> intro hc) | (refine zs5 ?_ ?_ <;> intro hc) | (refine zs6 ?_ ?_ <;> intro hc)) | refine awp_split rfl (fun hb => ?_) (fun hb => ?_) | refine zr ?_ | exact x_le)
            rfl
        · rw [if_neg h12]
          refine fun1 tb_ok Tryd.func7 rfl Tryd.ntmps7 Tryd.results7 rfl fun N => ?_
          repeat' (first | refine zt ?_ | (refine isR ?_; first | refine zo ?_ | refine zk c1 ?_ | refine zk c2 ?_ | refine zk c3 ?_ | refine zk c4 ?_ | refine zk c5 ?_ | refine x_bs tb_ok ?_ | refine zA ?_ | refine zL ?_ | refine zc1 ?_ | refine zc3 ?_ | refine zc5 ?_ | refine zc6 ?_ | refine zI ?_ | refine zS ?_ | (refine zs1 ?_ ?_ <;> intro hc) | (refine zs3 ?_ ?_ <;> intro hc) | (refine zs5 ?_ ?_ <;> intro hc) | (refine zs6 ?_ ?_ <;> intro hc)) | refine awp_split rfl (fun hb => ?_) (fun hb => ?_) | refine zr ?_ | exact x_le)
          refine awp_nameR 0 2 37 2 rfl rfl (by decide) rfl ?_
          refine awp_forN (fun k => ⟨[(2, .loc 0 0 0), (47, .fro (r.map strT)), (48, .int .i64 (r.map strT).length), (49, .int .i64 (k : Int))], [(0, some (.els 24 3 [.agg [strT n, strT v, .own 1 0 ((r.take k).filterMap attrF).length]])), (1, some (.els 37 2 (((r.take k).filterMap attrF).map Attr.v)))], 2, 80⟩) (fun k => k ≤ r.length) r.length 0 (by exact x_le) (Nat.zero_le _) ?_
          intro k hk
          by_cases hk2 : k < r.length
          · have f1 : (r.map strT)[k]? = some (strT r[k]) := by simp [hk2]
            have f2 := take_filter r k r[k] (by simp [hk2])
            have f3 := filter_len r k
            simp only [f2]
            generalize r[k] = x at f1
            generalize (r.take k).filterMap attrF = L at f3
            have d1 := cut_v (c := 61) (l := x)
            have d2 := trim_v (l := (cutF 61 x).1)
            have d3 := fold_v (l := trim (cutF 61 x).1)
            have d4 := trim_v (l := (cutF 61 x).2.1)
            have ha : attrF x = if fold (trim (cutF 61 x).1) = [] then none else some ⟨fold (trim (cutF 61 x).1), trim (cutF 61 x).2.1⟩ := rfl
            rw [ha]
            generalize cutF 61 x = y at *
            obtain ⟨y1, y2, y3⟩ := y
            dsimp only at *
            generalize trim y1 = m at *
            generalize fold m = m2 at *
            generalize trim y2 = u at *
            by_cases hm : m2 = []
            · rw [if_pos hm]
              simp only [Option.toList_none, List.append_nil]
              repeat' (first | refine zt ?_ | (refine isR ?_; first | refine zo ?_ | refine zk d1 ?_ | refine zk d2 ?_ | refine zk d3 ?_ | refine x_bs tb_ok ?_ | refine zA ?_ | refine zL ?_ | refine zc1 ?_ | refine zc3 ?_ | refine zc5 ?_ | refine zc6 ?_ | refine zI ?_ | refine zS ?_ | (refine zs1 ?_ ?_ <;> intro hc) | (refine zs3 ?_ ?_ <;> intro hc) | (refine zs5 ?_ ?_ <;> intro hc) | (refine zs6 ?_ ?_ <;> intro hc)) | refine awp_split rfl (fun hb => ?_) (fun hb => ?_) | refine zr ?_ | exact x_le)
              refine ⟨by omega, hk2, ?_⟩
              exact (by exact x_len [0,1])
            · rw [if_neg hm]
              simp only [Option.toList_some]
              repeat' (first | refine zt ?_ | (refine isR ?_; first | refine zo ?_ | refine zk d1 ?_ | refine zk d2 ?_ | refine zk d3 ?_ | refine zk d4 ?_ | refine x_app Attr.v (a1 := (⟨m2, u⟩)) tb_ok ?_ | refine x_bs tb_ok ?_ | refine zA ?_ | refine zL ?_ | refine zc1 ?_ | refine zc3 ?_ | refine zc5 ?_ | refine zc6 ?_ | refine zI ?_ | refine zS ?_ | (refine zs1 ?_ ?_ <;> intro hc) | (refine zs3 ?_ ?_ <;> intro hc) | (refine zs5 ?_ ?_ <;> intro hc) | (refine zs6 ?_ ?_ <;> intro hc)) | refine awp_split rfl (fun hb => ?_) (fun hb => ?_) | refine zr ?_ | exact x_le)
              refine ⟨by omega, hk2, ?_⟩
              exact (by exact x_len [0,2])
          · obtain rfl : k = r.length := by omega
            rw [List.take_length]
            generalize r.filterMap attrF = L at *
            repeat' (first | refine zt ?_ | (refine isR ?_; first | refine zo ?_ | refine x_bs tb_ok ?_ | refine zA ?_ | refine zL ?_ | refine zc1 ?_ | refine zc3 ?_ | refine zc5 ?_ | refine zc6 ?_ | refine zI ?_ | refine zS ?_ | (refine zs1 ?_ ?_ <;> intro hc) | (refine zs3 ?_ ?_ <;> intro hc) | (refine zs5 ?_ ?_ <;> intro hc) | (refine zs6 ?_ ?_ <;> intro hc)) | refine awp_split rfl (fun hb => ?_) (fun hb => ?_) | refine zr ?_ | exact x_le)
            have hf : List.take L.length (List.drop 0 (L.map Attr.v)) = L.map Attr.v := by rw [List.drop_zero, List.take_of_length_le (by simp)]
            show V.tup [.agg [strT n, strT v, .fro (List.take L.length (List.drop 0 (L.map Attr.v)))], .int .i64 0] = _
            rw [hf]
set_option maxRecDepth 100000 in
set_option maxHeartbeats 4000000 in
theorem rawOf_v {s : List UInt8} : ACalls Tryd.prog 9 [strT s] (.tup [(rawF s).1.v, .int .i64 (rawF s).2]) := by
  by_cases h0 : 400 < s.length
  · have e : rawF s = (raw0, 2) := by unfold rawF; rw [if_pos h0]
    rw [e]
    refine ACalls.nfd (r := .tup [rawE, .int .i64 2]) ?_ rfl
    refine fun1 tb_ok Tryd.func9 rfl Tryd.ntmps9 Tryd.results9 rfl fun N => ?_
    repeat' (first | refine zt ?_ | (refine isR ?_; first | refine zo ?_ | refine x_bs tb_ok ?_ | refine zA ?_ | refine zL ?_ | refine zc1 ?_ | refine zc3 ?_ | refine zc5 ?_ | refine zc6 ?_ | refine zI ?_ | (refine zs1 ?_ ?_ <;> intro hc) | (refine zs3 ?_ ?_ <;> intro hc) | (refine zs5 ?_ ?_ <;> intro hc) | (refine zs6 ?_ ?_ <;> intro hc)) | refine awp_split rfl (fun hb => ?_) (fun hb => ?_) | refine zr ?_ | exact x_le)
    rfl
  have c1 := letOf_v (s := s)
  cases hle : letF s with
  | false =>
    have e : rawF s = (raw0, 1) := by unfold rawF; rw [if_neg h0, if_pos hle]
    rw [hle] at c1
    rw [e]
    refine ACalls.nfd (r := .tup [rawE, .int .i64 1]) ?_ rfl
    refine fun1 tb_ok Tryd.func9 rfl Tryd.ntmps9 Tryd.results9 rfl fun N => ?_
    repeat' (first | refine zt ?_ | (refine isR ?_; first | refine zo ?_ | refine zk c1 ?_ | refine x_bs tb_ok ?_ | refine zA ?_ | refine zL ?_ | refine zc1 ?_ | refine zc3 ?_ | refine zc5 ?_ | refine zc6 ?_ | refine zI ?_ | (refine zs1 ?_ ?_ <;> intro hc) | (refine zs3 ?_ ?_ <;> intro hc) | (refine zs5 ?_ ?_ <;> intro hc) | (refine zs6 ?_ ?_ <;> intro hc)) | refine awp_split rfl (fun hb => ?_) (fun hb => ?_) | refine zr ?_ | exact x_le)
    rfl
  | true =>
    rw [hle] at c1
    have c2 := partsOf_v (u := 59) (l := s) (by omega)
    obtain ⟨p, r, hs⟩ := split_some s
    have hlen := split_len 59 s
    rw [hs] at c2 hlen
    have e : rawF s = if (pairF p).2.2 = false ∨ (pairF p).1 = [] then (raw0, 1) else if 12 < (r.filterMap attrF).length then (raw0, 2) else (⟨(pairF p).1, (pairF p).2.1, r.filterMap attrF⟩, 0) := by
      unfold rawF; rw [if_neg h0, if_neg (by rw [hle]; simp), hs]
    rw [e]
    have e1 : ((p :: r).map strT)[((0 : Int)).toNat]? = some (strT p) := rfl
    have c3 := pairOf_v (p := p)
    generalize pairF p = q at *
    obtain ⟨n, v, q3⟩ := q
    dsimp only at *
    cases q3 with
    | false =>
      rw [if_pos (.inl rfl)]
      refine ACalls.nfd (r := .tup [rawE, .int .i64 1]) ?_ rfl
      refine fun1 tb_ok Tryd.func9 rfl Tryd.ntmps9 Tryd.results9 rfl fun N => ?_
      repeat' (first | refine zt ?_ | (refine isR ?_; first | refine zo ?_ | refine zk c1 ?_ | refine zk c2 ?_ | refine zk c3 ?_ | refine x_bs tb_ok ?_ | refine zA ?_ | refine zL ?_ | refine zc1 ?_ | refine zc3 ?_ | refine zc5 ?_ | refine zc6 ?_ | refine zI ?_ | (refine zs1 ?_ ?_ <;> intro hc) | (refine zs3 ?_ ?_ <;> intro hc) | (refine zs5 ?_ ?_ <;> intro hc) | (refine zs6 ?_ ?_ <;> intro hc)) | refine awp_split rfl (fun hb => ?_) (fun hb => ?_) | refine zr ?_ | exact x_le)
      rfl
    | true =>
      by_cases hn : n = []
      · rw [if_pos (.inr hn)]
        refine ACalls.nfd (r := .tup [rawE, .int .i64 1]) ?_ rfl
        refine fun1 tb_ok Tryd.func9 rfl Tryd.ntmps9 Tryd.results9 rfl fun N => ?_
        repeat' (first | refine zt ?_ | (refine isR ?_; first | refine zo ?_ | refine zk c1 ?_ | refine zk c2 ?_ | refine zk c3 ?_ | refine x_bs tb_ok ?_ | refine zA ?_ | refine zL ?_ | refine zc1 ?_ | refine zc3 ?_ | refine zc5 ?_ | refine zc6 ?_ | refine zI ?_ | (refine zs1 ?_ ?_ <;> intro hc) | (refine zs3 ?_ ?_ <;> intro hc) | (refine zs5 ?_ ?_ <;> intro hc) | (refine zs6 ?_ ?_ <;> intro hc)) | refine awp_split rfl (fun hb => ?_) (fun hb => ?_) | refine zr ?_ | exact x_le)
        rfl
      · rw [if_neg (fun h => h.elim (fun h => by cases h) hn)]
        have hrl : r.length ≤ 400 := by simp at hlen; omega
        have hx2 : (((p :: r).map strT).length : Int) = (r.length : Int) + 1 := by simp
        by_cases h12 : 12 < (r.filterMap attrF).length
        · rw [if_pos h12]
          refine ACalls.nfd (r := .tup [rawE, .int .i64 2]) ?_ rfl
          refine fun1 tb_ok Tryd.func9 rfl Tryd.ntmps9 Tryd.results9 rfl fun N => ?_
          repeat' (first | refine zt ?_ | (refine isR ?_; first | refine zo ?_ | refine zk c1 ?_ | refine zk c2 ?_ | refine zk c3 ?_ | refine x_bs tb_ok ?_ | refine zA ?_ | refine zL ?_ | refine zc1 ?_ | refine zc3 ?_ | refine zc5 ?_ | refine zc6 ?_ | refine zI ?_ | (refine zs1 ?_ ?_ <;> intro hc) | (refine zs3 ?_ ?_ <;> intro hc) | (refine zs5 ?_ ?_ <;> intro hc) | (refine zs6 ?_ ?_ <;> intro hc)) | refine awp_split rfl (fun hb => ?_) (fun hb => ?_) | refine zr ?_ | exact x_le)
          refine awp_nameR 1 2 37 2 rfl rfl (by decide) rfl ?_
          refine awp_forN (fun k => ⟨[(2, .loc 0 0 0), (4, strsT (p :: r)), (8, .loc 1 0 0), (9, .int .i64 ((k : Int) + 1))], [(0, some (.els 24 3 [rawE])), (1, some (.els 24 3 [.agg [strT n, strT v, .own 2 0 ((r.take k).filterMap attrF).length]])), (2, some (.els 37 2 (((r.take k).filterMap attrF).map Attr.v)))], 3, 73⟩) (fun k => k ≤ r.length) r.length 0 (by exact x_le) (Nat.zero_le _) ?_
          intro k hk
          by_cases hk2 : k < r.length
          · have f0 : ((k : Int) + 1).toNat = k + 1 := by omega
            have f1 : ((p :: r).map strT)[((k : Int) + 1).toNat]? = some (strT r[k]) := by rw [f0]; simp [hk2]
            have f2 := take_filter r k r[k] (by simp [hk2])
            have f3 := filter_len r k
            simp only [f2]
            generalize r[k] = x at f1
            generalize (r.take k).filterMap attrF = L at f3
            have d1 := pairOf_v (p := x)
            have d3 := foldOf_v (l := (pairF x).1)
            have ha : attrF x = if fold (pairF x).1 = [] then none else some ⟨fold (pairF x).1, (pairF x).2.1⟩ := rfl
            rw [ha]
            generalize pairF x = y at *
            obtain ⟨y1, y2, y3⟩ := y
            dsimp only at *
            by_cases hm : y1 = []
            · rw [if_pos (fold_nil.2 hm)]
              simp only [Option.toList_none, List.append_nil]
              repeat' (first | refine zt ?_ | (refine isR ?_; first | refine zo ?_ | refine zk d1 ?_ | refine x_bs tb_ok ?_ | refine zA ?_ | refine zL ?_ | refine zc1 ?_ | refine zc3 ?_ | refine zc5 ?_ | refine zc6 ?_ | refine zI ?_ | (refine zs1 ?_ ?_ <;> intro hc) | (refine zs3 ?_ ?_ <;> intro hc) | (refine zs5 ?_ ?_ <;> intro hc) | (refine zs6 ?_ ?_ <;> intro hc)) | refine awp_split rfl (fun hb => ?_) (fun hb => ?_) | refine zr ?_ | exact x_le)
              refine ⟨by omega, hk2, ?_⟩
              exact (by exact x_len [0,1,2])
            · rw [if_neg (fun h => hm (fold_nil.1 h))]
              generalize fold y1 = m2 at *
              simp only [Option.toList_some]
              repeat' (first | refine zt ?_ | (refine isR ?_; first | refine zo ?_ | refine zk d1 ?_ | refine zk d3 ?_ | refine x_app Attr.v (a1 := (⟨m2, y2⟩)) tb_ok ?_ | refine x_bs tb_ok ?_ | refine zA ?_ | refine zL ?_ | refine zc1 ?_ | refine zc3 ?_ | refine zc5 ?_ | refine zc6 ?_ | refine zI ?_ | (refine zs1 ?_ ?_ <;> intro hc) | (refine zs3 ?_ ?_ <;> intro hc) | (refine zs5 ?_ ?_ <;> intro hc) | (refine zs6 ?_ ?_ <;> intro hc)) | refine awp_split rfl (fun hb => ?_) (fun hb => ?_) | refine zr ?_ | exact x_le)
              refine ⟨by omega, hk2, ?_⟩
              exact (by exact x_len [0,1,3])
          · obtain rfl : k = r.length := by omega
            rw [List.take_length]
            generalize r.filterMap attrF = L at *
            repeat' (first | refine zt ?_ | (refine isR ?_; first | refine zo ?_ | refine x_bs tb_ok ?_ | refine zA ?_ | refine zL ?_ | refine zc1 ?_ | refine zc3 ?_ | refine zc5 ?_ | refine zc6 ?_ | refine zI ?_ | (refine zs1 ?_ ?_ <;> intro hc) | (refine zs3 ?_ ?_ <;> intro hc) | (refine zs5 ?_ ?_ <;> intro hc) | (refine zs6 ?_ ?_ <;> intro hc)) | refine awp_split rfl (fun hb => ?_) (fun hb => ?_) | refine zr ?_ | exact x_le)
            rfl
        · rw [if_neg h12]
          refine fun1 tb_ok Tryd.func9 rfl Tryd.ntmps9 Tryd.results9 rfl fun N => ?_
          repeat' (first | refine zt ?_ | (refine isR ?_; first | refine zo ?_ | refine zk c1 ?_ | refine zk c2 ?_ | refine zk c3 ?_ | refine x_bs tb_ok ?_ | refine zA ?_ | refine zL ?_ | refine zc1 ?_ | refine zc3 ?_ | refine zc5 ?_ | refine zc6 ?_ | refine zI ?_ | (refine zs1 ?_ ?_ <;> intro hc) | (refine zs3 ?_ ?_ <;> intro hc) | (refine zs5 ?_ ?_ <;> intro hc) | (refine zs6 ?_ ?_ <;> intro hc)) | refine awp_split rfl (fun hb => ?_) (fun hb => ?_) | refine zr ?_ | exact x_le)
          refine awp_nameR 1 2 37 2 rfl rfl (by decide) rfl ?_
          refine awp_forN (fun k => ⟨[(2, .loc 0 0 0), (4, strsT (p :: r)), (8, .loc 1 0 0), (9, .int .i64 ((k : Int) + 1))], [(0, some (.els 24 3 [rawE])), (1, some (.els 24 3 [.agg [strT n, strT v, .own 2 0 ((r.take k).filterMap attrF).length]])), (2, some (.els 37 2 (((r.take k).filterMap attrF).map Attr.v)))], 3, 73⟩) (fun k => k ≤ r.length) r.length 0 (by exact x_le) (Nat.zero_le _) ?_
          intro k hk
          by_cases hk2 : k < r.length
          · have f0 : ((k : Int) + 1).toNat = k + 1 := by omega
            have f1 : ((p :: r).map strT)[((k : Int) + 1).toNat]? = some (strT r[k]) := by rw [f0]; simp [hk2]
            have f2 := take_filter r k r[k] (by simp [hk2])
            have f3 := filter_len r k
            simp only [f2]
            generalize r[k] = x at f1
            generalize (r.take k).filterMap attrF = L at f3
            have d1 := pairOf_v (p := x)
            have d3 := foldOf_v (l := (pairF x).1)
            have ha : attrF x = if fold (pairF x).1 = [] then none else some ⟨fold (pairF x).1, (pairF x).2.1⟩ := rfl
            rw [ha]
            generalize pairF x = y at *
            obtain ⟨y1, y2, y3⟩ := y
            dsimp only at *
            by_cases hm : y1 = []
            · rw [if_pos (fold_nil.2 hm)]
              simp only [Option.toList_none, List.append_nil]
              repeat' (first | refine zt ?_ | (refine isR ?_; first | refine zo ?_ | refine zk d1 ?_ | refine x_bs tb_ok ?_ | refine zA ?_ | refine zL ?_ | refine zc1 ?_ | refine zc3 ?_ | refine zc5 ?_ | refine zc6 ?_ | refine zI ?_ | (refine zs1 ?_ ?_ <;> intro hc) | (refine zs3 ?_ ?_ <;> intro hc) | (refine zs5 ?_ ?_ <;> intro hc) | (refine zs6 ?_ ?_ <;> intro hc)) | refine awp_split rfl (fun hb => ?_) (fun hb => ?_) | refine zr ?_ | exact x_le)
              refine ⟨by omega, hk2, ?_⟩
              exact (by exact x_len [0,1,2])
            · rw [if_neg (fun h => hm (fold_nil.1 h))]
              generalize fold y1 = m2 at *
              simp only [Option.toList_some]
              repeat' (first | refine zt ?_ | (refine isR ?_; first | refine zo ?_ | refine zk d1 ?_ | refine zk d3 ?_ | refine x_app Attr.v (a1 := (⟨m2, y2⟩)) tb_ok ?_ | refine x_bs tb_ok ?_ | refine zA ?_ | refine zL ?_ | refine zc1 ?_ | refine zc3 ?_ | refine zc5 ?_ | refine zc6 ?_ | refine zI ?_ | (refine zs1 ?_ ?_ <;> intro hc) | (refine zs3 ?_ ?_ <;> intro hc) | (refine zs5 ?_ ?_ <;> intro hc) | (refine zs6 ?_ ?_ <;> intro hc)) | refine awp_split rfl (fun hb => ?_) (fun hb => ?_) | refine zr ?_ | exact x_le)
              refine ⟨by omega, hk2, ?_⟩
              exact (by exact x_len [0,1,3])
          · obtain rfl : k = r.length := by omega
            rw [List.take_length]
            generalize r.filterMap attrF = L at *
            repeat' (first | refine zt ?_ | (refine isR ?_; first | refine zo ?_ | refine x_bs tb_ok ?_ | refine zA ?_ | refine zL ?_ | refine zc1 ?_ | refine zc3 ?_ | refine zc5 ?_ | refine zc6 ?_ | refine zI ?_ | (refine zs1 ?_ ?_ <;> intro hc) | (refine zs3 ?_ ?_ <;> intro hc) | (refine zs5 ?_ ?_ <;> intro hc) | (refine zs6 ?_ ?_ <;> intro hc)) | refine awp_split rfl (fun hb => ?_) (fun hb => ?_) | refine zr ?_ | exact x_le)
            have hf : List.take L.length (List.drop 0 (L.map Attr.v)) = L.map Attr.v := by rw [List.drop_zero, List.take_of_length_le (by simp)]
            show V.tup [.agg [strT n, strT v, .fro (List.take L.length (List.drop 0 (L.map Attr.v)))], .int .i64 0] = _
            rw [hf]
end Go.Proofs.YtbacakgjhohedaaDoor.HeadS
