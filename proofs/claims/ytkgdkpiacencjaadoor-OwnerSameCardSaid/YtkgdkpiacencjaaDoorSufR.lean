/- Public suffixes: which one, by the program. -/
import Derived.Test.YtkgdkpiacencjaaDoorSufW
namespace Go.Proofs.YtkgdkpiacencjaaDoor.SufR
open Go.RowKit Mem Abs HostP HostO HostA HostB HostC HostD HostE HostF HostG TreeW WordP WordS Globs SufP SufW

theorem zip_fst (L : List Suffix) : L.zipIdx.map (·.1) = L := List.zipIdx_map_fst 0 L
theorem has_r {L : List Suffix} {kd : Int} {d : List UInt8} : MCalls Tryd.prog 77 [.mp 0, .int .i64 kd, strT d] [.map (L.zipIdx.map mk)] (.bool (rIn L kd d)) [some (.map (L.zipIdx.map mk))] := by
  have h := has_v (M := L.zipIdx) (a := ⟨kd, d⟩)
  rw [zip_fst] at h
  exact h
theorem zip_on {L : List Suffix} {k : Nat} {r : Suffix} (h : L[k]? = some r) : (L.take (k + 1)).zipIdx = (L.take k).zipIdx ++ [(r, k)] := by
  obtain ⟨hk, rfl⟩ := List.getElem?_eq_some_iff.1 h
  rw [List.take_succ_eq_append_getElem hk, List.zipIdx_append]
  simp [Nat.min_eq_left (Nat.le_of_lt hk)]
def lastD (h : List UInt8) (xs : List (List UInt8)) : List UInt8 := (xs.getLast?).getD h
theorem last_on {h d : List UInt8} {xs : List (List UInt8)} {k : Nat} (e : xs[k]? = some d) : lastD h (xs.take (k + 1)) = d := by
  obtain ⟨hk, rfl⟩ := List.getElem?_eq_some_iff.1 e
  unfold lastD
  rw [List.take_succ_eq_append_getElem hk, List.getLast?_concat]
  rfl
def bstD (L : List Suffix) (xs : List (List UInt8)) : List UInt8 := (xs.find? (bIn L)).getD []
theorem bst_on {L : List Suffix} {d : List UInt8} {xs : List (List UInt8)} {k : Nat} (e : xs[k]? = some d) (hne : ∀ x ∈ xs, x ≠ []) : bstD L (xs.take (k + 1)) = if bstD L (xs.take k) ≠ [] then bstD L (xs.take k) else if bIn L d then d else [] := by
  unfold bstD
  rw [find_on e]
  cases hf : (xs.take k).find? (bIn L) with
  | none =>
    simp only [Option.none_or, Option.getD_none, ne_eq, not_true_eq_false, if_false]
    cases bIn L d <;> rfl
  | some x =>
    have : x ≠ [] := hne x (List.mem_of_mem_take (List.mem_of_find?_eq_some hf))
    simp [this]
theorem pub_prog {L : List Suffix} {h : List UInt8} (ha : address h = false) (hne : ∀ x ∈ ch h, x ≠ []) (hq : ∀ (j : Nat) c, (ch h)[j]? = some c → rIn L 3 c = false) : pubF L h = if bstD L (ch h) = [] then lastD h (ch h) else bstD L (ch h) := by
  unfold pubF
  rw [ha, find_no.2 hq]
  unfold bstD lastD
  simp only [Bool.false_eq_true, if_false]
  cases hf : (ch h).find? (bIn L) with
  | none => simp
  | some x =>
    have : x ≠ [] := hne x (List.mem_of_find?_eq_some hf)
    simp [this]
theorem pub_exc {L : List Suffix} {h d : List UInt8} {k : Nat} (ha : address h = false) (hd : (ch h)[k]? = some d) (hr : rIn L 3 d = true) (hq : ∀ (j : Nat) c, j < k → (ch h)[j]? = some c → rIn L 3 c = false) : pubF L h = up d := by
  unfold pubF
  rw [ha, find_idx.2 ⟨k, hd, hr, hq⟩]
  rfl
theorem ch_len (h : List UInt8) : (ch h).length ≤ h.length + 1 := by
  have := after_len h
  unfold ch; simp; omega
set_option maxRecDepth 100000 in
set_option maxHeartbeats 4000000 in
theorem raw_v {L : List Suffix} {h : List UInt8} (hL : Rules L) (hh : Hst h) : ACallsG Tryd.prog gStr 57 [sufT L, strT h] (strT (pubF L h)) := ACallsG.lim fun hl => by
  have hlim := (fro_lim hl).1
  have hlen := hh.len
  have c1 := address_v (l := h) (by omega)
  have hx : ((L.map Suffix.v).length : Int) = (L.length : Int) := by simp
  cases ha : address h with
  | true =>
    have e : pubF L h = [] := by unfold pubF; rw [ha]; rfl
    rw [e]
    rw [ha] at c1
    refine funG2 tb_ok Tryd.func57 rfl Tryd.ntmps57 Tryd.results57 rfl fun N => ?_
    repeat' (first
        | with_reducible first | refine awp_seq ?_ | refine awp_region ?_ | refine awp_draw mixed ?_ | refine then_n ?_ | refine awp_skip ?_ | refine awp_block ?_ | refine awp_exit ?_ | refine awp_ret ?_ | refine awp_label ?_ | refine then_exit ?_ | refine then_ret ?_ | refine blk_n ?_ | refine blk_ret ?_ | refine blk_exit ?_ | refine blk_other rfl ?_ | refine then_k ?_
        | refine awp_true rfl ?_
        | refine awp_false rfl ?_
        | refine awp_split rfl (fun hb => ?_) (fun hb => ?_)
        | (refine isR ?_; first | refine x_far [] tb_ok rfl ?_ | refine r_nil ?_ | refine r_nild (by kernel_rfl) ?_ | refine x_call (c1 _) ?_ | refine x_call (c1) ?_ | refine x_addE ?_ | refine x_add ?_ | refine x_cat ?_ | refine x_lenF tb_ok ?_ | refine x_lenO tb_ok ?_ | refine x_lenN tb_ok ?_ | refine x_lenS ?_ | refine x_lssT ?_ | refine x_lssF ?_ | refine x_lss (fun hc => ?_) (fun hc => ?_) | refine x_eqlT ?_ | refine x_eqlF ?_ | refine x_eql (fun hc => ?_) (fun hc => ?_) | refine x_neqT ?_ | refine x_neqF ?_ | refine x_neq (fun hc => ?_) (fun hc => ?_) | refine x_eqlB ?_ | refine x_eqlST ?_ | refine x_eqlSF ?_ | refine x_eqlS (fun hc => ?_) (fun hc => ?_) | refine x_eqlI ?_ | refine x_eqlN ?_ | refine x_neqB ?_ | refine x_neqST ?_ | refine x_neqSF ?_ | refine x_neqS (fun hc => ?_) (fun hc => ?_) | refine x_neqI ?_ | refine x_neqN ?_ | refine x_iaF tb_ok ?_ | refine x_iaO tb_ok ?_ | refine x_iaA tb_ok ?_ | refine x_iaAF tb_ok ?_ | refine x_eqlA tb_ok ?_ | refine x_eqlAS tb_ok (fun hc => ?_) (fun hc => ?_) | refine x_neqA tb_ok ?_ | refine x_neqAS tb_ok (fun hc => ?_) (fun hc => ?_))
        | refine x_ret ?_
        | refine x_nor ?_
        | exact x_le)
    rfl
  | false =>
    rw [ha] at c1
    have c2 := ups_v (l := h) (by omega)
    rw [ups_ch hh.ne ha] at c2
    have hne : ∀ x ∈ ch h, x ≠ [] := fun x hx => (hh.mem hx).ne
    have hcl := ch_len h
    have hp1 := pub_prog (L := L) ha hne
    have hp2 : ∀ k d, _ → _ → _ → _ := fun k d => pub_exc (L := L) (h := h) (d := d) (k := k) ha
    generalize pubF L h = p at *
    generalize ch h = xs at *
    have hxs : ((xs.map strT).length : Int) = (xs.length : Int) := by simp
    refine funG2 tb_ok Tryd.func57 rfl Tryd.ntmps57 Tryd.results57 rfl fun N => ?_
    repeat' (first
        | with_reducible first | refine awp_seq ?_ | refine awp_region ?_ | refine awp_draw mixed ?_ | refine then_n ?_ | refine awp_skip ?_ | refine awp_block ?_ | refine awp_exit ?_ | refine awp_ret ?_ | refine awp_label ?_ | refine then_exit ?_ | refine then_ret ?_ | refine blk_n ?_ | refine blk_ret ?_ | refine blk_exit ?_ | refine blk_other rfl ?_ | refine then_k ?_
        | refine awp_true rfl ?_
        | refine awp_false rfl ?_
        | refine awp_split rfl (fun hb => ?_) (fun hb => ?_)
        | (refine isR ?_; first | refine x_far [] tb_ok rfl ?_ | refine r_nil ?_ | refine r_nild (by kernel_rfl) ?_ | refine x_call (c1 _) ?_ | refine x_call (c1) ?_ | refine x_addE ?_ | refine x_add ?_ | refine x_cat ?_ | refine x_lenF tb_ok ?_ | refine x_lenO tb_ok ?_ | refine x_lenN tb_ok ?_ | refine x_lenS ?_ | refine x_lssT ?_ | refine x_lssF ?_ | refine x_lss (fun hc => ?_) (fun hc => ?_) | refine x_eqlT ?_ | refine x_eqlF ?_ | refine x_eql (fun hc => ?_) (fun hc => ?_) | refine x_neqT ?_ | refine x_neqF ?_ | refine x_neq (fun hc => ?_) (fun hc => ?_) | refine x_eqlB ?_ | refine x_eqlST ?_ | refine x_eqlSF ?_ | refine x_eqlS (fun hc => ?_) (fun hc => ?_) | refine x_eqlI ?_ | refine x_eqlN ?_ | refine x_neqB ?_ | refine x_neqST ?_ | refine x_neqSF ?_ | refine x_neqS (fun hc => ?_) (fun hc => ?_) | refine x_neqI ?_ | refine x_neqN ?_ | refine x_iaF tb_ok ?_ | refine x_iaO tb_ok ?_ | refine x_iaA tb_ok ?_ | refine x_iaAF tb_ok ?_ | refine x_eqlA tb_ok ?_ | refine x_eqlAS tb_ok (fun hc => ?_) (fun hc => ?_) | refine x_neqA tb_ok ?_ | refine x_neqAS tb_ok (fun hc => ?_) (fun hc => ?_) | refine x_mk ?_ | refine x_lookAtOk tb_ok ?_ | refine x_lookNoOk tb_ok ?_ | refine x_lookAt tb_ok ?_ | refine x_lookNo tb_ok ?_)
        | refine x_ret ?_
        | refine x_nor ?_
        | exact x_le)
    refine awp_for (fun k => ⟨[(0, sufT L), (1, strT h), (5, .mp 0), (15, sufT L), (16, .int .i64 (L.map Suffix.v).length), (17, .int .i64 (k : Int))], [(0, some (.map ((L.take k).zipIdx.map mk)))], 1, 63⟩) (fun k => k ≤ L.length) L.length 0 (by exact x_le) (Nat.zero_le _) ?_
    intro k hk
    by_cases hk2 : k < L.length
    · have e1 : (L.map Suffix.v)[k]? = some (L[k]).v := by simp [hk2]
      have e2 : L[k]? = some L[k] := by simp [hk2]
      generalize L[k] = r at e1 e2
      have hnew : findE ekS r.v ((L.take k).zipIdx.map mk) 0 = none := by
        rcases find_suf r (L.take k).zipIdx with ⟨_, h⟩ | ⟨h, _⟩
        · exact h
        · rw [zip_fst] at h
          exact absurd h (hL.once k r e2)
      have ez := zip_on e2
      repeat' (first
          | with_reducible first | refine awp_seq ?_ | refine awp_region ?_ | refine awp_draw mixed ?_ | refine then_n ?_ | refine awp_skip ?_ | refine awp_block ?_ | refine awp_exit ?_ | refine awp_ret ?_ | refine awp_label ?_ | refine then_exit ?_ | refine then_ret ?_ | refine blk_n ?_ | refine blk_ret ?_ | refine blk_exit ?_ | refine blk_other rfl ?_ | refine then_k ?_
          | refine awp_true rfl ?_
          | refine awp_false rfl ?_
          | refine awp_split rfl (fun hb => ?_) (fun hb => ?_)
          | (refine isR ?_; first | refine x_far [] tb_ok rfl ?_ | refine r_nil ?_ | refine r_nild (by kernel_rfl) ?_ | refine x_putNew mk (r, k) tb_ok ?_ | refine x_addE ?_ | refine x_add ?_ | refine x_cat ?_ | refine x_lenF tb_ok ?_ | refine x_lenO tb_ok ?_ | refine x_lenN tb_ok ?_ | refine x_lenS ?_ | refine x_lssT ?_ | refine x_lssF ?_ | refine x_lss (fun hc => ?_) (fun hc => ?_) | refine x_eqlT ?_ | refine x_eqlF ?_ | refine x_eql (fun hc => ?_) (fun hc => ?_) | refine x_neqT ?_ | refine x_neqF ?_ | refine x_neq (fun hc => ?_) (fun hc => ?_) | refine x_eqlB ?_ | refine x_eqlST ?_ | refine x_eqlSF ?_ | refine x_eqlS (fun hc => ?_) (fun hc => ?_) | refine x_eqlI ?_ | refine x_eqlN ?_ | refine x_neqB ?_ | refine x_neqST ?_ | refine x_neqSF ?_ | refine x_neqS (fun hc => ?_) (fun hc => ?_) | refine x_neqI ?_ | refine x_neqN ?_ | refine x_iaF tb_ok ?_ | refine x_iaO tb_ok ?_ | refine x_iaA tb_ok ?_ | refine x_iaAF tb_ok ?_ | refine x_eqlA tb_ok ?_ | refine x_eqlAS tb_ok (fun hc => ?_) (fun hc => ?_) | refine x_neqA tb_ok ?_ | refine x_neqAS tb_ok (fun hc => ?_) (fun hc => ?_) | refine x_mk ?_ | refine x_lookAtOk tb_ok ?_ | refine x_lookNoOk tb_ok ?_ | refine x_lookAt tb_ok ?_ | refine x_lookNo tb_ok ?_)
          | refine x_ret ?_
          | refine x_nor ?_
          | exact x_le)
      rw [ez]
      exact ⟨by omega, hk2, (by exact x_le)⟩
    · have ek : L.take k = L := List.take_of_length_le (by omega)
      rw [ek]
      repeat' (first
          | with_reducible first | refine awp_seq ?_ | refine awp_region ?_ | refine awp_draw mixed ?_ | refine then_n ?_ | refine awp_skip ?_ | refine awp_block ?_ | refine awp_exit ?_ | refine awp_ret ?_ | refine awp_label ?_ | refine then_exit ?_ | refine then_ret ?_ | refine blk_n ?_ | refine blk_ret ?_ | refine blk_exit ?_ | refine blk_other rfl ?_ | refine then_k ?_
          | refine awp_true rfl ?_
          | refine awp_false rfl ?_
          | refine awp_split rfl (fun hb => ?_) (fun hb => ?_)
          | (refine isR ?_; first | refine x_far [] tb_ok rfl ?_ | refine r_nil ?_ | refine r_nild (by kernel_rfl) ?_ | refine x_call (c2 _) ?_ | refine x_call (c2) ?_ | refine x_addE ?_ | refine x_add ?_ | refine x_cat ?_ | refine x_lenF tb_ok ?_ | refine x_lenO tb_ok ?_ | refine x_lenN tb_ok ?_ | refine x_lenS ?_ | refine x_lssT ?_ | refine x_lssF ?_ | refine x_lss (fun hc => ?_) (fun hc => ?_) | refine x_eqlT ?_ | refine x_eqlF ?_ | refine x_eql (fun hc => ?_) (fun hc => ?_) | refine x_neqT ?_ | refine x_neqF ?_ | refine x_neq (fun hc => ?_) (fun hc => ?_) | refine x_eqlB ?_ | refine x_eqlST ?_ | refine x_eqlSF ?_ | refine x_eqlS (fun hc => ?_) (fun hc => ?_) | refine x_eqlI ?_ | refine x_eqlN ?_ | refine x_neqB ?_ | refine x_neqST ?_ | refine x_neqSF ?_ | refine x_neqS (fun hc => ?_) (fun hc => ?_) | refine x_neqI ?_ | refine x_neqN ?_ | refine x_iaF tb_ok ?_ | refine x_iaO tb_ok ?_ | refine x_iaA tb_ok ?_ | refine x_iaAF tb_ok ?_ | refine x_eqlA tb_ok ?_ | refine x_eqlAS tb_ok (fun hc => ?_) (fun hc => ?_) | refine x_neqA tb_ok ?_ | refine x_neqAS tb_ok (fun hc => ?_) (fun hc => ?_))
          | refine x_ret ?_
          | refine x_nor ?_
          | exact x_le)
      refine awp_for (fun k => ⟨[(0, sufT L), (1, strT h), (5, .mp 0), (8, strT (bstD L (xs.take k))), (9, strT (lastD h (xs.take k))), (28, strsT xs), (29, .int .i64 (xs.map strT).length), (30, .int .i64 (k : Int))], [(0, some (.map (L.zipIdx.map mk)))], 1, 63⟩) (fun k => k ≤ xs.length ∧ Upto (fun d => !rIn L 3 d) xs k) xs.length 0 (by exact x_le) ⟨Nat.zero_le _, upto0⟩ ?_
      intro k ⟨hk, hq⟩
      by_cases hk2 : k < xs.length
      · have e1 : (xs.map strT)[k]? = some (strT xs[k]) := by simp [hk2]
        have e2 : xs[k]? = some xs[k] := by simp [hk2]
        generalize xs[k] = d at e1 e2
        have c3 := has_r (L := L) (kd := 3) (d := d)
        have c4 := has_r (L := L) (kd := 1) (d := d)
        have c5 := has_r (L := L) (kd := 2) (d := up d)
        have c6 := above_v (l := d)
        cases h3 : rIn L 3 d with
        | true =>
          rw [h3] at c3
          repeat' (first
              | with_reducible first | refine awp_seq ?_ | refine awp_region ?_ | refine awp_draw mixed ?_ | refine then_n ?_ | refine awp_skip ?_ | refine awp_block ?_ | refine awp_exit ?_ | refine awp_ret ?_ | refine awp_label ?_ | refine then_exit ?_ | refine then_ret ?_ | refine blk_n ?_ | refine blk_ret ?_ | refine blk_exit ?_ | refine blk_other rfl ?_ | refine then_k ?_
              | refine awp_true rfl ?_
              | refine awp_false rfl ?_
              | refine awp_split rfl (fun hb => ?_) (fun hb => ?_)
              | (refine isR ?_; first | refine x_far [] tb_ok rfl ?_ | refine r_nil ?_ | refine r_nild (by kernel_rfl) ?_ | refine x_m [0] [] (c3 _) ?_ | refine x_m0 [0] [] (c3 _) ?_ | refine x_m [0] [] (c3) ?_ | refine x_m0 [0] [] (c3) ?_ | refine x_call (c6 _) ?_ | refine x_call (c6) ?_ | refine x_addE ?_ | refine x_add ?_ | refine x_cat ?_ | refine x_lenF tb_ok ?_ | refine x_lenO tb_ok ?_ | refine x_lenN tb_ok ?_ | refine x_lenS ?_ | refine x_lssT ?_ | refine x_lssF ?_ | refine x_lss (fun hc => ?_) (fun hc => ?_) | refine x_eqlT ?_ | refine x_eqlF ?_ | refine x_eql (fun hc => ?_) (fun hc => ?_) | refine x_neqT ?_ | refine x_neqF ?_ | refine x_neq (fun hc => ?_) (fun hc => ?_) | refine x_eqlB ?_ | refine x_eqlST ?_ | refine x_eqlSF ?_ | refine x_eqlS (fun hc => ?_) (fun hc => ?_) | refine x_eqlI ?_ | refine x_eqlN ?_ | refine x_neqB ?_ | refine x_neqST ?_ | refine x_neqSF ?_ | refine x_neqS (fun hc => ?_) (fun hc => ?_) | refine x_neqI ?_ | refine x_neqN ?_ | refine x_iaF tb_ok ?_ | refine x_iaO tb_ok ?_ | refine x_iaA tb_ok ?_ | refine x_iaAF tb_ok ?_ | refine x_eqlA tb_ok ?_ | refine x_eqlAS tb_ok (fun hc => ?_) (fun hc => ?_) | refine x_neqA tb_ok ?_ | refine x_neqAS tb_ok (fun hc => ?_) (fun hc => ?_))
              | refine x_ret ?_
              | refine x_nor ?_
              | exact x_le)
          rw [hp2 k d e2 h3 fun j c hj hc => by have := hq j c hj hc; simpa using this]
          rfl
        | false =>
          rw [h3] at c3
          have hb := bst_on (L := L) e2 hne
          have hla := last_on (h := h) e2
          have hB : bIn L d = (rIn L 1 d || rIn L 2 (up d)) := rfl
          have hq2 := hq.on e2 (by rw [h3]; rfl)
          generalize bstD L (xs.take k) = b at *
          generalize lastD h (xs.take k) = la at *
          by_cases hb0 : b = []
          · subst hb0
            simp only [ne_eq, not_true_eq_false, if_false] at hb
            cases h1 : rIn L 1 d with
            | true =>
              rw [h1] at c4 hB
              rw [hB, Bool.true_or, if_pos rfl] at hb
              repeat' (first
                  | with_reducible first | refine awp_seq ?_ | refine awp_region ?_ | refine awp_draw mixed ?_ | refine then_n ?_ | refine awp_skip ?_ | refine awp_block ?_ | refine awp_exit ?_ | refine awp_ret ?_ | refine awp_label ?_ | refine then_exit ?_ | refine then_ret ?_ | refine blk_n ?_ | refine blk_ret ?_ | refine blk_exit ?_ | refine blk_other rfl ?_ | refine then_k ?_
                  | refine awp_true rfl ?_
                  | refine awp_false rfl ?_
                  | refine awp_split rfl (fun hb => ?_) (fun hb => ?_)
                  | (refine isR ?_; first | refine x_far [] tb_ok rfl ?_ | refine r_nil ?_ | refine r_nild (by kernel_rfl) ?_ | refine x_m [0] [] (c3 _) ?_ | refine x_m0 [0] [] (c3 _) ?_ | refine x_m [0] [] (c3) ?_ | refine x_m0 [0] [] (c3) ?_ | refine x_m [0] [] (c4 _) ?_ | refine x_m0 [0] [] (c4 _) ?_ | refine x_m [0] [] (c4) ?_ | refine x_m0 [0] [] (c4) ?_ | refine x_call (c6 _) ?_ | refine x_call (c6) ?_ | refine x_addE ?_ | refine x_add ?_ | refine x_cat ?_ | refine x_lenF tb_ok ?_ | refine x_lenO tb_ok ?_ | refine x_lenN tb_ok ?_ | refine x_lenS ?_ | refine x_lssT ?_ | refine x_lssF ?_ | refine x_lss (fun hc => ?_) (fun hc => ?_) | refine x_eqlT ?_ | refine x_eqlF ?_ | refine x_eql (fun hc => ?_) (fun hc => ?_) | refine x_neqT ?_ | refine x_neqF ?_ | refine x_neq (fun hc => ?_) (fun hc => ?_) | refine x_eqlB ?_ | refine x_eqlST ?_ | refine x_eqlSF ?_ | refine x_eqlS (fun hc => ?_) (fun hc => ?_) | refine x_eqlI ?_ | refine x_eqlN ?_ | refine x_neqB ?_ | refine x_neqST ?_ | refine x_neqSF ?_ | refine x_neqS (fun hc => ?_) (fun hc => ?_) | refine x_neqI ?_ | refine x_neqN ?_ | refine x_iaF tb_ok ?_ | refine x_iaO tb_ok ?_ | refine x_iaA tb_ok ?_ | refine x_iaAF tb_ok ?_ | refine x_eqlA tb_ok ?_ | refine x_eqlAS tb_ok (fun hc => ?_) (fun hc => ?_) | refine x_neqA tb_ok ?_ | refine x_neqAS tb_ok (fun hc => ?_) (fun hc => ?_))
                  | refine x_ret ?_
                  | refine x_nor ?_
                  | exact x_le)
              rw [hb, hla]
              exact ⟨⟨by omega, hq2⟩, hk2, (by exact x_le)⟩
            | false =>
              rw [h1] at c4 hB
              rw [Bool.false_or] at hB
              by_cases hu : up d = []
              · have h2 : rIn L 2 (up d) = false := by
                  unfold rIn
                  rw [decide_eq_false_iff_not, hu]
                  intro hmem
                  exact ((bad_ok (hL.ok _ hmem)).2.2.1.ne) rfl
                rw [hB, h2] at hb
                rw [hu] at c6
                repeat' (first
                    | with_reducible first | refine awp_seq ?_ | refine awp_region ?_ | refine awp_draw mixed ?_ | refine then_n ?_ | refine awp_skip ?_ | refine awp_block ?_ | refine awp_exit ?_ | refine awp_ret ?_ | refine awp_label ?_ | refine then_exit ?_ | refine then_ret ?_ | refine blk_n ?_ | refine blk_ret ?_ | refine blk_exit ?_ | refine blk_other rfl ?_ | refine then_k ?_
                    | refine awp_true rfl ?_
                    | refine awp_false rfl ?_
                    | refine awp_split rfl (fun hb => ?_) (fun hb => ?_)
                    | (refine isR ?_; first | refine x_far [] tb_ok rfl ?_ | refine r_nil ?_ | refine r_nild (by kernel_rfl) ?_ | refine x_m [0] [] (c3 _) ?_ | refine x_m0 [0] [] (c3 _) ?_ | refine x_m [0] [] (c3) ?_ | refine x_m0 [0] [] (c3) ?_ | refine x_m [0] [] (c4 _) ?_ | refine x_m0 [0] [] (c4 _) ?_ | refine x_m [0] [] (c4) ?_ | refine x_m0 [0] [] (c4) ?_ | refine x_call (c6 _) ?_ | refine x_call (c6) ?_ | refine x_addE ?_ | refine x_add ?_ | refine x_cat ?_ | refine x_lenF tb_ok ?_ | refine x_lenO tb_ok ?_ | refine x_lenN tb_ok ?_ | refine x_lenS ?_ | refine x_lssT ?_ | refine x_lssF ?_ | refine x_lss (fun hc => ?_) (fun hc => ?_) | refine x_eqlT ?_ | refine x_eqlF ?_ | refine x_eql (fun hc => ?_) (fun hc => ?_) | refine x_neqT ?_ | refine x_neqF ?_ | refine x_neq (fun hc => ?_) (fun hc => ?_) | refine x_eqlB ?_ | refine x_eqlST ?_ | refine x_eqlSF ?_ | refine x_eqlS (fun hc => ?_) (fun hc => ?_) | refine x_eqlI ?_ | refine x_eqlN ?_ | refine x_neqB ?_ | refine x_neqST ?_ | refine x_neqSF ?_ | refine x_neqS (fun hc => ?_) (fun hc => ?_) | refine x_neqI ?_ | refine x_neqN ?_ | refine x_iaF tb_ok ?_ | refine x_iaO tb_ok ?_ | refine x_iaA tb_ok ?_ | refine x_iaAF tb_ok ?_ | refine x_eqlA tb_ok ?_ | refine x_eqlAS tb_ok (fun hc => ?_) (fun hc => ?_) | refine x_neqA tb_ok ?_ | refine x_neqAS tb_ok (fun hc => ?_) (fun hc => ?_))
                    | refine x_ret ?_
                    | refine x_nor ?_
                    | exact x_le)
                rw [hb, hla]
                exact ⟨⟨by omega, hq2⟩, hk2, (by exact x_le)⟩
              · cases h2 : rIn L 2 (up d) with
                | true =>
                  rw [h2] at c5
                  rw [hB, h2, if_pos rfl] at hb
                  repeat' (first
                      | with_reducible first | refine awp_seq ?_ | refine awp_region ?_ | refine awp_draw mixed ?_ | refine then_n ?_ | refine awp_skip ?_ | refine awp_block ?_ | refine awp_exit ?_ | refine awp_ret ?_ | refine awp_label ?_ | refine then_exit ?_ | refine then_ret ?_ | refine blk_n ?_ | refine blk_ret ?_ | refine blk_exit ?_ | refine blk_other rfl ?_ | refine then_k ?_
                      | refine awp_true rfl ?_
                      | refine awp_false rfl ?_
                      | refine awp_split rfl (fun hb => ?_) (fun hb => ?_)
                      | (refine isR ?_; first | refine x_far [] tb_ok rfl ?_ | refine r_nil ?_ | refine r_nild (by kernel_rfl) ?_ | refine x_m [0] [] (c3 _) ?_ | refine x_m0 [0] [] (c3 _) ?_ | refine x_m [0] [] (c3) ?_ | refine x_m0 [0] [] (c3) ?_ | refine x_m [0] [] (c4 _) ?_ | refine x_m0 [0] [] (c4 _) ?_ | refine x_m [0] [] (c4) ?_ | refine x_m0 [0] [] (c4) ?_ | refine x_m [0] [] (c5 _) ?_ | refine x_m0 [0] [] (c5 _) ?_ | refine x_m [0] [] (c5) ?_ | refine x_m0 [0] [] (c5) ?_ | refine x_call (c6 _) ?_ | refine x_call (c6) ?_ | refine x_addE ?_ | refine x_add ?_ | refine x_cat ?_ | refine x_lenF tb_ok ?_ | refine x_lenO tb_ok ?_ | refine x_lenN tb_ok ?_ | refine x_lenS ?_ | refine x_lssT ?_ | refine x_lssF ?_ | refine x_lss (fun hc => ?_) (fun hc => ?_) | refine x_eqlT ?_ | refine x_eqlF ?_ | refine x_eql (fun hc => ?_) (fun hc => ?_) | refine x_neqT ?_ | refine x_neqF ?_ | refine x_neq (fun hc => ?_) (fun hc => ?_) | refine x_eqlB ?_ | refine x_eqlST ?_ | refine x_eqlSF ?_ | refine x_eqlS (fun hc => ?_) (fun hc => ?_) | refine x_eqlI ?_ | refine x_eqlN ?_ | refine x_neqB ?_ | refine x_neqST ?_ | refine x_neqSF ?_ | refine x_neqS (fun hc => ?_) (fun hc => ?_) | refine x_neqI ?_ | refine x_neqN ?_ | refine x_iaF tb_ok ?_ | refine x_iaO tb_ok ?_ | refine x_iaA tb_ok ?_ | refine x_iaAF tb_ok ?_ | refine x_eqlA tb_ok ?_ | refine x_eqlAS tb_ok (fun hc => ?_) (fun hc => ?_) | refine x_neqA tb_ok ?_ | refine x_neqAS tb_ok (fun hc => ?_) (fun hc => ?_))
                      | refine x_ret ?_
                      | refine x_nor ?_
                      | exact x_le)
                  rw [hb, hla]
                  exact ⟨⟨by omega, hq2⟩, hk2, (by exact x_le)⟩
                | false =>
                  rw [h2] at c5
                  rw [hB, h2] at hb
                  repeat' (first
                      | with_reducible first | refine awp_seq ?_ | refine awp_region ?_ | refine awp_draw mixed ?_ | refine then_n ?_ | refine awp_skip ?_ | refine awp_block ?_ | refine awp_exit ?_ | refine awp_ret ?_ | refine awp_label ?_ | refine then_exit ?_ | refine then_ret ?_ | refine blk_n ?_ | refine blk_ret ?_ | refine blk_exit ?_ | refine blk_other rfl ?_ | refine then_k ?_
                      | refine awp_true rfl ?_
                      | refine awp_false rfl ?_
                      | refine awp_split rfl (fun hb => ?_) (fun hb => ?_)
                      | (refine isR ?_; first | refine x_far [] tb_ok rfl ?_ | refine r_nil ?_ | refine r_nild (by kernel_rfl) ?_ | refine x_m [0] [] (c3 _) ?_ | refine x_m0 [0] [] (c3 _) ?_ | refine x_m [0] [] (c3) ?_ | refine x_m0 [0] [] (c3) ?_ | refine x_m [0] [] (c4 _) ?_ | refine x_m0 [0] [] (c4 _) ?_ | refine x_m [0] [] (c4) ?_ | refine x_m0 [0] [] (c4) ?_ | refine x_m [0] [] (c5 _) ?_ | refine x_m0 [0] [] (c5 _) ?_ | refine x_m [0] [] (c5) ?_ | refine x_m0 [0] [] (c5) ?_ | refine x_call (c6 _) ?_ | refine x_call (c6) ?_ | refine x_addE ?_ | refine x_add ?_ | refine x_cat ?_ | refine x_lenF tb_ok ?_ | refine x_lenO tb_ok ?_ | refine x_lenN tb_ok ?_ | refine x_lenS ?_ | refine x_lssT ?_ | refine x_lssF ?_ | refine x_lss (fun hc => ?_) (fun hc => ?_) | refine x_eqlT ?_ | refine x_eqlF ?_ | refine x_eql (fun hc => ?_) (fun hc => ?_) | refine x_neqT ?_ | refine x_neqF ?_ | refine x_neq (fun hc => ?_) (fun hc => ?_) | refine x_eqlB ?_ | refine x_eqlST ?_ | refine x_eqlSF ?_ | refine x_eqlS (fun hc => ?_) (fun hc => ?_) | refine x_eqlI ?_ | refine x_eqlN ?_ | refine x_neqB ?_ | refine x_neqST ?_ | refine x_neqSF ?_ | refine x_neqS (fun hc => ?_) (fun hc => ?_) | refine x_neqI ?_ | refine x_neqN ?_ | refine x_iaF tb_ok ?_ | refine x_iaO tb_ok ?_ | refine x_iaA tb_ok ?_ | refine x_iaAF tb_ok ?_ | refine x_eqlA tb_ok ?_ | refine x_eqlAS tb_ok (fun hc => ?_) (fun hc => ?_) | refine x_neqA tb_ok ?_ | refine x_neqAS tb_ok (fun hc => ?_) (fun hc => ?_))
                      | refine x_ret ?_
                      | refine x_nor ?_
                      | exact x_le)
                  rw [hb, hla]
                  exact ⟨⟨by omega, hq2⟩, hk2, (by exact x_le)⟩
          · rw [if_pos hb0] at hb
            repeat' (first
                | with_reducible first | refine awp_seq ?_ | refine awp_region ?_ | refine awp_draw mixed ?_ | refine then_n ?_ | refine awp_skip ?_ | refine awp_block ?_ | refine awp_exit ?_ | refine awp_ret ?_ | refine awp_label ?_ | refine then_exit ?_ | refine then_ret ?_ | refine blk_n ?_ | refine blk_ret ?_ | refine blk_exit ?_ | refine blk_other rfl ?_ | refine then_k ?_
                | refine awp_true rfl ?_
                | refine awp_false rfl ?_
                | refine awp_split rfl (fun hb => ?_) (fun hb => ?_)
                | (refine isR ?_; first | refine x_far [] tb_ok rfl ?_ | refine r_nil ?_ | refine r_nild (by kernel_rfl) ?_ | refine x_m [0] [] (c3 _) ?_ | refine x_m0 [0] [] (c3 _) ?_ | refine x_m [0] [] (c3) ?_ | refine x_m0 [0] [] (c3) ?_ | refine x_addE ?_ | refine x_add ?_ | refine x_cat ?_ | refine x_lenF tb_ok ?_ | refine x_lenO tb_ok ?_ | refine x_lenN tb_ok ?_ | refine x_lenS ?_ | refine x_lssT ?_ | refine x_lssF ?_ | refine x_lss (fun hc => ?_) (fun hc => ?_) | refine x_eqlT ?_ | refine x_eqlF ?_ | refine x_eql (fun hc => ?_) (fun hc => ?_) | refine x_neqT ?_ | refine x_neqF ?_ | refine x_neq (fun hc => ?_) (fun hc => ?_) | refine x_eqlB ?_ | refine x_eqlST ?_ | refine x_eqlSF ?_ | refine x_eqlS (fun hc => ?_) (fun hc => ?_) | refine x_eqlI ?_ | refine x_eqlN ?_ | refine x_neqB ?_ | refine x_neqST ?_ | refine x_neqSF ?_ | refine x_neqS (fun hc => ?_) (fun hc => ?_) | refine x_neqI ?_ | refine x_neqN ?_ | refine x_iaF tb_ok ?_ | refine x_iaO tb_ok ?_ | refine x_iaA tb_ok ?_ | refine x_iaAF tb_ok ?_ | refine x_eqlA tb_ok ?_ | refine x_eqlAS tb_ok (fun hc => ?_) (fun hc => ?_) | refine x_neqA tb_ok ?_ | refine x_neqAS tb_ok (fun hc => ?_) (fun hc => ?_))
                | refine x_ret ?_
                | refine x_nor ?_
                | exact x_le)
            rw [hb, hla]
            exact ⟨⟨by omega, hq2⟩, hk2, (by exact x_le)⟩
      · have ek : xs.take k = xs := List.take_of_length_le (by omega)
        rw [ek]
        have hp1 := hp1 fun j c hc => by
          have := hq j c (by have := (List.getElem?_eq_some_iff.1 hc).1; omega) hc
          simpa using this
        generalize bstD L xs = b at *
        generalize lastD h xs = la at *
        by_cases hb0 : b = []
        · rw [if_pos hb0] at hp1
          repeat' (first
              | with_reducible first | refine awp_seq ?_ | refine awp_region ?_ | refine awp_draw mixed ?_ | refine then_n ?_ | refine awp_skip ?_ | refine awp_block ?_ | refine awp_exit ?_ | refine awp_ret ?_ | refine awp_label ?_ | refine then_exit ?_ | refine then_ret ?_ | refine blk_n ?_ | refine blk_ret ?_ | refine blk_exit ?_ | refine blk_other rfl ?_ | refine then_k ?_
              | refine awp_true rfl ?_
              | refine awp_false rfl ?_
              | refine awp_split rfl (fun hb => ?_) (fun hb => ?_)
              | (refine isR ?_; first | refine x_far [] tb_ok rfl ?_ | refine r_nil ?_ | refine r_nild (by kernel_rfl) ?_ | refine x_addE ?_ | refine x_add ?_ | refine x_cat ?_ | refine x_lenF tb_ok ?_ | refine x_lenO tb_ok ?_ | refine x_lenN tb_ok ?_ | refine x_lenS ?_ | refine x_lssT ?_ | refine x_lssF ?_ | refine x_lss (fun hc => ?_) (fun hc => ?_) | refine x_eqlT ?_ | refine x_eqlF ?_ | refine x_eql (fun hc => ?_) (fun hc => ?_) | refine x_neqT ?_ | refine x_neqF ?_ | refine x_neq (fun hc => ?_) (fun hc => ?_) | refine x_eqlB ?_ | refine x_eqlST ?_ | refine x_eqlSF ?_ | refine x_eqlS (fun hc => ?_) (fun hc => ?_) | refine x_eqlI ?_ | refine x_eqlN ?_ | refine x_neqB ?_ | refine x_neqST ?_ | refine x_neqSF ?_ | refine x_neqS (fun hc => ?_) (fun hc => ?_) | refine x_neqI ?_ | refine x_neqN ?_ | refine x_iaF tb_ok ?_ | refine x_iaO tb_ok ?_ | refine x_iaA tb_ok ?_ | refine x_iaAF tb_ok ?_ | refine x_eqlA tb_ok ?_ | refine x_eqlAS tb_ok (fun hc => ?_) (fun hc => ?_) | refine x_neqA tb_ok ?_ | refine x_neqAS tb_ok (fun hc => ?_) (fun hc => ?_))
              | refine x_ret ?_
              | refine x_nor ?_
              | exact x_le)
          rw [hp1]; rfl
        · rw [if_neg hb0] at hp1
          repeat' (first
              | with_reducible first | refine awp_seq ?_ | refine awp_region ?_ | refine awp_draw mixed ?_ | refine then_n ?_ | refine awp_skip ?_ | refine awp_block ?_ | refine awp_exit ?_ | refine awp_ret ?_ | refine awp_label ?_ | refine then_exit ?_ | refine then_ret ?_ | refine blk_n ?_ | refine blk_ret ?_ | refine blk_exit ?_ | refine blk_other rfl ?_ | refine then_k ?_
              | refine awp_true rfl ?_
              | refine awp_false rfl ?_
              | refine awp_split rfl (fun hb => ?_) (fun hb => ?_)
              | (refine isR ?_; first | refine x_far [] tb_ok rfl ?_ | refine r_nil ?_ | refine r_nild (by kernel_rfl) ?_ | refine x_addE ?_ | refine x_add ?_ | refine x_cat ?_ | refine x_lenF tb_ok ?_ | refine x_lenO tb_ok ?_ | refine x_lenN tb_ok ?_ | refine x_lenS ?_ | refine x_lssT ?_ | refine x_lssF ?_ | refine x_lss (fun hc => ?_) (fun hc => ?_) | refine x_eqlT ?_ | refine x_eqlF ?_ | refine x_eql (fun hc => ?_) (fun hc => ?_) | refine x_neqT ?_ | refine x_neqF ?_ | refine x_neq (fun hc => ?_) (fun hc => ?_) | refine x_eqlB ?_ | refine x_eqlST ?_ | refine x_eqlSF ?_ | refine x_eqlS (fun hc => ?_) (fun hc => ?_) | refine x_eqlI ?_ | refine x_eqlN ?_ | refine x_neqB ?_ | refine x_neqST ?_ | refine x_neqSF ?_ | refine x_neqS (fun hc => ?_) (fun hc => ?_) | refine x_neqI ?_ | refine x_neqN ?_ | refine x_iaF tb_ok ?_ | refine x_iaO tb_ok ?_ | refine x_iaA tb_ok ?_ | refine x_iaAF tb_ok ?_ | refine x_eqlA tb_ok ?_ | refine x_eqlAS tb_ok (fun hc => ?_) (fun hc => ?_) | refine x_neqA tb_ok ?_ | refine x_neqAS tb_ok (fun hc => ?_) (fun hc => ?_))
              | refine x_ret ?_
              | refine x_nor ?_
              | exact x_le)
          rw [hp1]; rfl
end Go.Proofs.YtkgdkpiacencjaaDoor.SufR
