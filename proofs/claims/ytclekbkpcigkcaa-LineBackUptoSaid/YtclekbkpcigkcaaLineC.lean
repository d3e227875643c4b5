/- Lines: the walks of Write and Read, and of the document's own. -/
import Derived.Test.YtclekbkpcigkcaaLineB
import Derived.Test.YtclekbkpcigkcaaBld
namespace Go.Proofs.Ytclekbkpcigkcaa.LineC
open Go.RowKit Mem Abs TreeW WordS PathT SortP SortW SortM SortN LineA LineP LineB Bld

theorem take_on {L : List Cookie} {k : Nat} {c : Cookie} (h : L[k]? = some c) : lineT (L.take (k + 1)) = if k = 0 then ckT c else (lineT (L.take k) ++ [59, 32]) ++ ckT c := by
  obtain ⟨hk, rfl⟩ := List.getElem?_eq_some_iff.1 h
  rw [List.take_succ_eq_append_getElem hk, lineT_snoc]
  by_cases h0 : k = 0
  · subst h0; simp
  · rw [if_neg h0, if_neg (by intro e; have := congrArg List.length e; rw [List.length_take, List.length_nil] at this; omega)]
theorem take_small {L : List Cookie} (h : SmallC L) (k : Nat) : (lineT (L.take k)).length ≤ 2199026401280 := by
  have h1 := lineT_len (L := L.take k) fun c hc => h.2 c (List.mem_of_mem_take hc)
  have h2 : (L.take k).length ≤ 1048576 := by have := h.1; simp; omega
  have h3 : (L.take k).length * 2097155 ≤ 1048576 * 2097155 := Nat.mul_le_mul_right _ h2
  omega
/-- What the writer's loop stands on. -/
def stW (L : List Cookie) : Nat → S
  | 0 => ⟨[(3, .loc 0 0 0), (6, .fro (L.map Cookie.v)), (7, .int .i64 (L.map Cookie.v).length), (8, .int .i64 ((0 : Nat) : Int))], [(0, some fresh)], 1, 25⟩
  | k + 1 => ⟨[(3, .loc 0 0 0), (6, .fro (L.map Cookie.v)), (7, .int .i64 (L.map Cookie.v).length), (8, .int .i64 ((k + 1 : Nat) : Int))], [(0, some (used 0 1 (lineT (L.take (k + 1))))), (1, some (bytesB (lineT (L.take (k + 1)))))], 2, 25⟩
set_option maxRecDepth 100000 in
set_option maxHeartbeats 4000000 in
theorem write_v {L : List Cookie} (hs : SmallC L) : ACalls Try.prog 15 [.fro (L.map Cookie.v)] (strT (lineT L)) := by
  have hx : ((L.map Cookie.v).length : Int) = (L.length : Int) := by simp
  have hsz := hs.1
  have hsm := take_small hs
  have hall := hs.2
  have hend : lineT (L.take L.length) = lineT L := by rw [List.take_length]
  have hne : ∀ k, k < L.length → lineT (L.take (k + 1)) ≠ [] := fun k hk => lineT_ne (by intro e; have := congrArg List.length e; rw [List.length_take, List.length_nil] at this; omega)
  have hon := fun k c => take_on (L := L) (k := k) (c := c)
  have hz : lineT (L.take 0) = [] := by simp [lineT]
  rw [← hend]
  have hst : ∀ k, stW L (k + 1) = ⟨[(3, .loc 0 0 0), (6, .fro (L.map Cookie.v)), (7, .int .i64 (L.map Cookie.v).length), (8, .int .i64 ((k + 1 : Nat) : Int))], [(0, some (used 0 1 (lineT (L.take (k + 1))))), (1, some (bytesB (lineT (L.take (k + 1)))))], 2, 25⟩ := fun _ => rfl
  have hst0 : stW L 0 = ⟨[(3, .loc 0 0 0), (6, .fro (L.map Cookie.v)), (7, .int .i64 (L.map Cookie.v).length), (8, .int .i64 ((0 : Nat) : Int))], [(0, some fresh)], 1, 25⟩ := rfl
  clear hs
  generalize hacc : (fun k => lineT (L.take k)) = acc at *
  have ha : ∀ k, lineT (L.take k) = acc k := fun k => by rw [← hacc]
  simp only [ha] at *
  generalize stW L = st at *
  refine fun1 tb_ok Try.func15 rfl Try.ntmps15 Try.results15 rfl fun N => ?_
  repeat' (first
      | with_reducible first | refine awp_seq ?_ | refine awp_region ?_ | refine awp_draw mixed ?_ | refine then_n ?_ | refine awp_skip ?_ | refine awp_block ?_ | refine awp_exit ?_ | refine awp_ret ?_ | refine awp_label ?_ | refine then_exit ?_ | refine then_ret ?_ | refine blk_n ?_ | refine blk_ret ?_ | refine blk_exit ?_ | refine blk_other rfl ?_ | refine then_k ?_
      | refine awp_true rfl ?_
      | refine awp_false rfl ?_
      | refine awp_split rfl (fun hb => ?_) (fun hb => ?_)
      | (refine isR ?_; first | refine x_far [3] tb_ok rfl ?_ | refine r_nil ?_ | refine r_nild (by kernel_rfl) ?_ | refine x_addE ?_ | refine x_add ?_ | refine x_cat ?_ | refine x_lenF tb_ok ?_ | refine x_lenO tb_ok ?_ | refine x_lenN tb_ok ?_ | refine x_lenS ?_ | refine x_lssT ?_ | refine x_lssF ?_ | refine x_lss (fun hc => ?_) (fun hc => ?_) | refine x_gtrT ?_ | refine x_gtrF ?_ | refine x_gtr (fun hc => ?_) (fun hc => ?_) | refine x_iaF tb_ok ?_ | refine x_iaO tb_ok ?_ | refine x_iaA tb_ok ?_ | refine x_iaAF tb_ok ?_)
      | refine x_ret ?_
      | refine x_nor ?_
      | exact x_le)
  refine awp_forN st (fun k => k ≤ L.length) L.length 0 (by rw [hst0]; exact (by exact x_le)) (Nat.zero_le _) ?_
  intro k hk
  rcases k with _ | k
  · rw [hst0, hst 0]
    by_cases hk2 : 0 < L.length
    · have e1 : (L.map Cookie.v)[0]? = some (L[0]).v := by simp [hk2]
      have e2 : L[0]? = some L[0] := by simp [hk2]
      have e3 := hon 0 L[0] e2
      rw [if_pos rfl] at e3
      have s4 := hall L[0] (List.getElem_mem hk2)
      rw [e3]
      generalize L[0] = c at *
      obtain ⟨c1, c2, c3, c4, c5, c6, c7, c8, c9, c10, c11, c12, c13⟩ := c
      unfold ckT
      dsimp only at *
      have w0 := write0 (q := (c1 ++ [61]) ++ c2) (by simp; omega)
      repeat' (first
          | with_reducible first | refine awp_seq ?_ | refine awp_region ?_ | refine awp_draw mixed ?_ | refine then_n ?_ | refine awp_skip ?_ | refine awp_block ?_ | refine awp_exit ?_ | refine awp_ret ?_ | refine awp_label ?_ | refine then_exit ?_ | refine then_ret ?_ | refine blk_n ?_ | refine blk_ret ?_ | refine blk_exit ?_ | refine blk_other rfl ?_ | refine then_k ?_
          | refine awp_true rfl ?_
          | refine awp_false rfl ?_
          | refine awp_split rfl (fun hb => ?_) (fun hb => ?_)
          | (refine isR ?_; first | refine x_far [] tb_ok rfl ?_ | refine r_nil ?_ | refine r_nild (by kernel_rfl) ?_ | refine x_m [0] [2] (w0 _) ?_ | refine x_m0 [0] [2] (w0 _) ?_ | refine x_m [0] [2] (w0) ?_ | refine x_m0 [0] [2] (w0) ?_ | refine x_addE ?_ | refine x_add ?_ | refine x_cat ?_ | refine x_lenF tb_ok ?_ | refine x_lenO tb_ok ?_ | refine x_lenN tb_ok ?_ | refine x_lenS ?_ | refine x_lssT ?_ | refine x_lssF ?_ | refine x_lss (fun hc => ?_) (fun hc => ?_) | refine x_gtrT ?_ | refine x_gtrF ?_ | refine x_gtr (fun hc => ?_) (fun hc => ?_) | refine x_iaF tb_ok ?_ | refine x_iaO tb_ok ?_ | refine x_iaA tb_ok ?_ | refine x_iaAF tb_ok ?_)
          | refine x_ret ?_
          | refine x_nor ?_
          | exact x_le)
      refine ⟨by omega, hk2, ?_⟩
      exact (by exact x_len [0, 2])
    · have hl : L.length = 0 := by omega
      rw [hl, hz]
      have w3 := string0
      repeat' (first
          | with_reducible first | refine awp_seq ?_ | refine awp_region ?_ | refine awp_draw mixed ?_ | refine then_n ?_ | refine awp_skip ?_ | refine awp_block ?_ | refine awp_exit ?_ | refine awp_ret ?_ | refine awp_label ?_ | refine then_exit ?_ | refine then_ret ?_ | refine blk_n ?_ | refine blk_ret ?_ | refine blk_exit ?_ | refine blk_other rfl ?_ | refine then_k ?_
          | refine awp_true rfl ?_
          | refine awp_false rfl ?_
          | refine awp_split rfl (fun hb => ?_) (fun hb => ?_)
          | (refine isR ?_; first | refine x_far [] tb_ok rfl ?_ | refine r_nil ?_ | refine r_nild (by kernel_rfl) ?_ | refine x_m [0] [] (w3 _) ?_ | refine x_m0 [0] [] (w3 _) ?_ | refine x_m [0] [] (w3) ?_ | refine x_m0 [0] [] (w3) ?_ | refine x_addE ?_ | refine x_add ?_ | refine x_cat ?_ | refine x_lenF tb_ok ?_ | refine x_lenO tb_ok ?_ | refine x_lenN tb_ok ?_ | refine x_lenS ?_ | refine x_lssT ?_ | refine x_lssF ?_ | refine x_lss (fun hc => ?_) (fun hc => ?_) | refine x_gtrT ?_ | refine x_gtrF ?_ | refine x_gtr (fun hc => ?_) (fun hc => ?_) | refine x_iaF tb_ok ?_ | refine x_iaO tb_ok ?_ | refine x_iaA tb_ok ?_ | refine x_iaAF tb_ok ?_)
          | refine x_ret ?_
          | refine x_nor ?_
          | exact x_le)
      rfl
  · rw [hst k, hst (k + 1)]
    have hlk := hsm (k + 1)
    by_cases hk2 : k + 1 < L.length
    · have e1 : (L.map Cookie.v)[k + 1]? = some (L[k + 1]).v := by simp [hk2]
      have e2 : L[k + 1]? = some L[k + 1] := by simp [hk2]
      have e3 := hon (k + 1) L[k + 1] e2
      rw [if_neg (by omega)] at e3
      have s4 := hall L[k + 1] (List.getElem_mem hk2)
      rw [e3]
      generalize L[k + 1] = c at *
      generalize acc (k + 1) = p at *
      obtain ⟨c1, c2, c3, c4, c5, c6, c7, c8, c9, c10, c11, c12, c13⟩ := c
      unfold ckT
      dsimp only at *
      have w1 := write1 (p := p) (q := [59, 32]) (by simp; omega)
      have w2 := write1 (p := p ++ [59, 32]) (q := (c1 ++ [61]) ++ c2) (by simp; omega)
      repeat' (first
          | with_reducible first | refine awp_seq ?_ | refine awp_region ?_ | refine awp_draw mixed ?_ | refine then_n ?_ | refine awp_skip ?_ | refine awp_block ?_ | refine awp_exit ?_ | refine awp_ret ?_ | refine awp_label ?_ | refine then_exit ?_ | refine then_ret ?_ | refine blk_n ?_ | refine blk_ret ?_ | refine blk_exit ?_ | refine blk_other rfl ?_ | refine then_k ?_
          | refine awp_true rfl ?_
          | refine awp_false rfl ?_
          | refine awp_split rfl (fun hb => ?_) (fun hb => ?_)
          | (refine isR ?_; first | refine x_far [] tb_ok rfl ?_ | refine r_nil ?_ | refine r_nild (by kernel_rfl) ?_ | refine x_m [0,1] [3] (w1 _) ?_ | refine x_m0 [0,1] [3] (w1 _) ?_ | refine x_m [0,1] [3] (w1) ?_ | refine x_m0 [0,1] [3] (w1) ?_ | refine x_m [0,3] [4] (w2 _) ?_ | refine x_m0 [0,3] [4] (w2 _) ?_ | refine x_m [0,3] [4] (w2) ?_ | refine x_m0 [0,3] [4] (w2) ?_ | refine x_addE ?_ | refine x_add ?_ | refine x_cat ?_ | refine x_lenF tb_ok ?_ | refine x_lenO tb_ok ?_ | refine x_lenN tb_ok ?_ | refine x_lenS ?_ | refine x_lssT ?_ | refine x_lssF ?_ | refine x_lss (fun hc => ?_) (fun hc => ?_) | refine x_gtrT ?_ | refine x_gtrF ?_ | refine x_gtr (fun hc => ?_) (fun hc => ?_) | refine x_iaF tb_ok ?_ | refine x_iaO tb_ok ?_ | refine x_iaA tb_ok ?_ | refine x_iaAF tb_ok ?_)
          | refine x_ret ?_
          | refine x_nor ?_
          | exact x_le)
      refine ⟨by omega, hk2, ?_⟩
      exact (by exact x_len [0, 4])
    · have hl : L.length = k + 1 := by omega
      have hn := hne k (by omega)
      rw [hl]
      generalize acc (k + 1) = p at *
      have w4 := string1 (p := p) hn
      repeat' (first
          | with_reducible first | refine awp_seq ?_ | refine awp_region ?_ | refine awp_draw mixed ?_ | refine then_n ?_ | refine awp_skip ?_ | refine awp_block ?_ | refine awp_exit ?_ | refine awp_ret ?_ | refine awp_label ?_ | refine then_exit ?_ | refine then_ret ?_ | refine blk_n ?_ | refine blk_ret ?_ | refine blk_exit ?_ | refine blk_other rfl ?_ | refine then_k ?_
          | refine awp_true rfl ?_
          | refine awp_false rfl ?_
          | refine awp_split rfl (fun hb => ?_) (fun hb => ?_)
          | (refine isR ?_; first | refine x_far [] tb_ok rfl ?_ | refine r_nil ?_ | refine r_nild (by kernel_rfl) ?_ | refine x_m [0,1] [] (w4 _) ?_ | refine x_m0 [0,1] [] (w4 _) ?_ | refine x_m [0,1] [] (w4) ?_ | refine x_m0 [0,1] [] (w4) ?_ | refine x_addE ?_ | refine x_add ?_ | refine x_cat ?_ | refine x_lenF tb_ok ?_ | refine x_lenO tb_ok ?_ | refine x_lenN tb_ok ?_ | refine x_lenS ?_ | refine x_lssT ?_ | refine x_lssF ?_ | refine x_lss (fun hc => ?_) (fun hc => ?_) | refine x_gtrT ?_ | refine x_gtrF ?_ | refine x_gtr (fun hc => ?_) (fun hc => ?_) | refine x_iaF tb_ok ?_ | refine x_iaO tb_ok ?_ | refine x_iaA tb_ok ?_ | refine x_iaAF tb_ok ?_)
          | refine x_ret ?_
          | refine x_nor ?_
          | exact x_le)
      rfl
set_option maxRecDepth 100000 in
set_option maxHeartbeats 4000000 in
theorem lineOf_v {L : List Cookie} (hs : SmallC L) : ACalls Try.prog 16 [.fro (L.map Cookie.v)] (strT (lineT L)) := by
  have hx : ((L.map Cookie.v).length : Int) = (L.length : Int) := by simp
  have hsz := hs.1
  have hsm : ∀ k, (lineT (L.drop k)).length ≤ 2199026401280 := fun k => by
    have h1 := lineT_len (L := L.drop k) fun c hc => hs.2 c (List.mem_of_mem_drop hc)
    have h2 : (L.drop k).length ≤ 1048576 := by simp; omega
    have h3 : (L.drop k).length * 2097155 ≤ 1048576 * 2097155 := Nat.mul_le_mul_right _ h2
    omega
  have hall := hs.2
  have hon : ∀ q c, L[q]? = some c → lineT (L.drop q) = if L.length = q + 1 then ckT c else ckT c ++ ([59, 32] ++ lineT (L.drop (q + 1))) := fun q c h => by
    obtain ⟨hq, rfl⟩ := List.getElem?_eq_some_iff.1 h
    rw [List.drop_eq_getElem_cons hq]
    by_cases e : L.length = q + 1
    · rw [if_pos e, List.drop_eq_nil_of_le (by omega)]; rfl
    · rw [if_neg e, lineT_cons _ (by intro h; have := congrArg List.length h; simp at this; omega)]
  have hne : ∀ q, q < L.length → lineT (L.drop q) ≠ [] := fun q hq => lineT_ne (by intro h; have := congrArg List.length h; simp at this; omega)
  have hz : lineT (L.drop L.length) = [] := by simp [lineT]
  have hend : lineT (L.drop 0) = lineT L := by rw [List.drop_zero]
  rw [← hend]
  clear hs
  generalize hacc : (fun k => lineT (L.drop k)) = acc at *
  have ha : ∀ k, lineT (L.drop k) = acc k := fun k => by rw [← hacc]
  simp only [ha] at *
  refine fun1 tb_ok Try.func16 rfl Try.ntmps16 Try.results16 rfl fun N => ?_
  repeat' (first
      | with_reducible first | refine awp_seq ?_ | refine awp_region ?_ | refine awp_draw mixed ?_ | refine then_n ?_ | refine awp_skip ?_ | refine awp_block ?_ | refine awp_exit ?_ | refine awp_ret ?_ | refine awp_label ?_ | refine then_exit ?_ | refine then_ret ?_ | refine blk_n ?_ | refine blk_ret ?_ | refine blk_exit ?_ | refine blk_other rfl ?_ | refine then_k ?_
      | refine awp_true rfl ?_
      | refine awp_false rfl ?_
      | refine awp_split rfl (fun hb => ?_) (fun hb => ?_)
      | (refine isR ?_; first | refine x_far [] tb_ok rfl ?_ | refine r_nil ?_ | refine r_nild (by kernel_rfl) ?_ | refine x_addE ?_ | refine x_add ?_ | refine x_subE ?_ | refine x_sub ?_ | refine x_cat ?_ | refine x_lenF tb_ok ?_ | refine x_lenO tb_ok ?_ | refine x_lenN tb_ok ?_ | refine x_lenS ?_ | refine x_lssT ?_ | refine x_lssF ?_ | refine x_lss (fun hc => ?_) (fun hc => ?_) | refine x_geqT ?_ | refine x_geqF ?_ | refine x_geq (fun hc => ?_) (fun hc => ?_) | refine x_neqT ?_ | refine x_neqF ?_ | refine x_neq (fun hc => ?_) (fun hc => ?_) | refine x_neqB ?_ | refine x_neqST ?_ | refine x_neqSF ?_ | refine x_neqS (fun hc => ?_) (fun hc => ?_) | refine x_neqI ?_ | refine x_neqN ?_ | refine x_iaF tb_ok ?_ | refine x_iaO tb_ok ?_ | refine x_iaA tb_ok ?_ | refine x_iaAF tb_ok ?_ | refine x_neqA tb_ok ?_ | refine x_neqAS tb_ok (fun hc => ?_) (fun hc => ?_))
      | refine x_ret ?_
      | refine x_nor ?_
      | exact x_le)
  refine awp_while (α := Nat) (fun j => ⟨[(0, .fro (L.map Cookie.v)), (3, strT (acc j)), (4, .int .i64 ((j : Int) - 1))], [], 0, 38⟩) (fun j => j ≤ L.length) (fun j => j) L.length (by simp only [hz, ← hx]; exact (by exact x_le)) (Nat.le_refl _) ?_
  intro j hj
  rcases j with _ | q
  · skip
    repeat' (first
        | with_reducible first | refine awp_seq ?_ | refine awp_region ?_ | refine awp_draw mixed ?_ | refine then_n ?_ | refine awp_skip ?_ | refine awp_block ?_ | refine awp_exit ?_ | refine awp_ret ?_ | refine awp_label ?_ | refine then_exit ?_ | refine then_ret ?_ | refine blk_n ?_ | refine blk_ret ?_ | refine blk_exit ?_ | refine blk_other rfl ?_ | refine then_k ?_
        | refine awp_true rfl ?_
        | refine awp_false rfl ?_
        | refine awp_split rfl (fun hb => ?_) (fun hb => ?_)
        | (refine isR ?_; first | refine x_far [] tb_ok rfl ?_ | refine r_nil ?_ | refine r_nild (by kernel_rfl) ?_ | refine x_addE ?_ | refine x_add ?_ | refine x_subE ?_ | refine x_sub ?_ | refine x_cat ?_ | refine x_lenF tb_ok ?_ | refine x_lenO tb_ok ?_ | refine x_lenN tb_ok ?_ | refine x_lenS ?_ | refine x_lssT ?_ | refine x_lssF ?_ | refine x_lss (fun hc => ?_) (fun hc => ?_) | refine x_geqT ?_ | refine x_geqF ?_ | refine x_geq (fun hc => ?_) (fun hc => ?_) | refine x_neqT ?_ | refine x_neqF ?_ | refine x_neq (fun hc => ?_) (fun hc => ?_) | refine x_neqB ?_ | refine x_neqST ?_ | refine x_neqSF ?_ | refine x_neqS (fun hc => ?_) (fun hc => ?_) | refine x_neqI ?_ | refine x_neqN ?_ | refine x_iaF tb_ok ?_ | refine x_iaO tb_ok ?_ | refine x_iaA tb_ok ?_ | refine x_iaAF tb_ok ?_ | refine x_neqA tb_ok ?_ | refine x_neqAS tb_ok (fun hc => ?_) (fun hc => ?_))
        | refine x_ret ?_
        | refine x_nor ?_
        | exact x_le)
    rfl
  · have ek : (q : Int) = ((q + 1 : Nat) : Int) - 1 := by omega
    have hq : q < L.length := hj
    have e1 : (L.map Cookie.v)[(((q + 1 : Nat) : Int) - 1).toNat]? = some (L[q]).v := by rw [← ek]; simp [hq]
    have e2 : L[q]? = some L[q] := by simp [hq]
    have e3 := hon q L[q] e2
    have s4 := hall L[q] (List.getElem_mem hq)
    have hlk := hsm (q + 1)
    by_cases hl : L.length = q + 1
    · rw [if_pos hl] at e3
      have hz2 : acc (q + 1) = [] := by rw [← hl]; exact hz
      rw [hz2]
      generalize L[q] = c at *
      obtain ⟨c1, c2, c3, c4, c5, c6, c7, c8, c9, c10, c11, c12, c13⟩ := c
      unfold ckT at e3
      dsimp only at *
      repeat' (first
          | with_reducible first | refine awp_seq ?_ | refine awp_region ?_ | refine awp_draw mixed ?_ | refine then_n ?_ | refine awp_skip ?_ | refine awp_block ?_ | refine awp_exit ?_ | refine awp_ret ?_ | refine awp_label ?_ | refine then_exit ?_ | refine then_ret ?_ | refine blk_n ?_ | refine blk_ret ?_ | refine blk_exit ?_ | refine blk_other rfl ?_ | refine then_k ?_
          | refine awp_true rfl ?_
          | refine awp_false rfl ?_
          | refine awp_split rfl (fun hb => ?_) (fun hb => ?_)
          | (refine isR ?_; first | refine x_far [] tb_ok rfl ?_ | refine r_nil ?_ | refine r_nild (by kernel_rfl) ?_ | refine x_addE ?_ | refine x_add ?_ | refine x_subE ?_ | refine x_sub ?_ | refine x_cat ?_ | refine x_lenF tb_ok ?_ | refine x_lenO tb_ok ?_ | refine x_lenN tb_ok ?_ | refine x_lenS ?_ | refine x_lssT ?_ | refine x_lssF ?_ | refine x_lss (fun hc => ?_) (fun hc => ?_) | refine x_geqT ?_ | refine x_geqF ?_ | refine x_geq (fun hc => ?_) (fun hc => ?_) | refine x_neqT ?_ | refine x_neqF ?_ | refine x_neq (fun hc => ?_) (fun hc => ?_) | refine x_neqB ?_ | refine x_neqST ?_ | refine x_neqSF ?_ | refine x_neqS (fun hc => ?_) (fun hc => ?_) | refine x_neqI ?_ | refine x_neqN ?_ | refine x_iaF tb_ok ?_ | refine x_iaO tb_ok ?_ | refine x_iaA tb_ok ?_ | refine x_iaAF tb_ok ?_ | refine x_neqA tb_ok ?_ | refine x_neqAS tb_ok (fun hc => ?_) (fun hc => ?_))
          | refine x_ret ?_
          | refine x_nor ?_
          | exact x_le)
      refine ⟨q, by omega, by omega, ?_⟩
      dsimp only
      rw [e3, show (c1 ++ [61]) ++ c2 = ((c1 ++ [61]) ++ c2) ++ [] by simp, ek]
      exact (by exact x_le)
    · rw [if_neg hl] at e3
      have hn := hne (q + 1) (by omega)
      generalize L[q] = c at *
      generalize acc (q + 1) = p at *
      obtain ⟨c1, c2, c3, c4, c5, c6, c7, c8, c9, c10, c11, c12, c13⟩ := c
      unfold ckT at e3
      dsimp only at *
      repeat' (first
          | with_reducible first | refine awp_seq ?_ | refine awp_region ?_ | refine awp_draw mixed ?_ | refine then_n ?_ | refine awp_skip ?_ | refine awp_block ?_ | refine awp_exit ?_ | refine awp_ret ?_ | refine awp_label ?_ | refine then_exit ?_ | refine then_ret ?_ | refine blk_n ?_ | refine blk_ret ?_ | refine blk_exit ?_ | refine blk_other rfl ?_ | refine then_k ?_
          | refine awp_true rfl ?_
          | refine awp_false rfl ?_
          | refine awp_split rfl (fun hb => ?_) (fun hb => ?_)
          | (refine isR ?_; first | refine x_far [] tb_ok rfl ?_ | refine r_nil ?_ | refine r_nild (by kernel_rfl) ?_ | refine x_addE ?_ | refine x_add ?_ | refine x_subE ?_ | refine x_sub ?_ | refine x_cat ?_ | refine x_lenF tb_ok ?_ | refine x_lenO tb_ok ?_ | refine x_lenN tb_ok ?_ | refine x_lenS ?_ | refine x_lssT ?_ | refine x_lssF ?_ | refine x_lss (fun hc => ?_) (fun hc => ?_) | refine x_geqT ?_ | refine x_geqF ?_ | refine x_geq (fun hc => ?_) (fun hc => ?_) | refine x_neqT ?_ | refine x_neqF ?_ | refine x_neq (fun hc => ?_) (fun hc => ?_) | refine x_neqB ?_ | refine x_neqST ?_ | refine x_neqSF ?_ | refine x_neqS (fun hc => ?_) (fun hc => ?_) | refine x_neqI ?_ | refine x_neqN ?_ | refine x_iaF tb_ok ?_ | refine x_iaO tb_ok ?_ | refine x_iaA tb_ok ?_ | refine x_iaAF tb_ok ?_ | refine x_neqA tb_ok ?_ | refine x_neqAS tb_ok (fun hc => ?_) (fun hc => ?_))
          | refine x_ret ?_
          | refine x_nor ?_
          | exact x_le)
      refine ⟨q, by omega, by omega, ?_⟩
      dsimp only
      rw [e3, ek]
      exact (by exact x_le)
theorem snoc_len {α : Type} (l : List α) (a : α) : (l ++ [a]).length = l.length + 1 := by simp
theorem go_end (k : Nat) (out : List Attr) : goF k [] out = some out := rfl
theorem go_on (k : Nat) (p : List UInt8) (r : List (List UInt8)) (out : List Attr) : goF k (p :: r) out = match pieceF k p with
    | none => none
    | some a => goF (k + 1) r (out ++ [a]) := rfl
theorem cutP_len (l m : List UInt8) : (cutP l m).1.length ≤ l.length := by
  unfold cutP
  split
  · simp
  · exact Nat.le_refl _
theorem piece0 (p : List UInt8) : pieceF 0 p = if (cutF 61 p).2.2 = false ∨ (cutF 61 p).1 = [] then none else some ⟨(cutF 61 p).1, (cutF 61 p).2.1⟩ := by
  unfold pieceF
  simp only [Nat.lt_irrefl, if_false, false_and, false_or]
theorem piece1 (k : Nat) (p : List UInt8) : pieceF (k + 1) p = if (cutP p [32]).2 = false ∨ (cutF 61 (cutP p [32]).1).2.2 = false ∨ (cutF 61 (cutP p [32]).1).1 = [] then none else some ⟨(cutF 61 (cutP p [32]).1).1, (cutF 61 (cutP p [32]).1).2.1⟩ := by
  unfold pieceF
  simp only [Nat.zero_lt_succ, if_true, true_and]
set_option maxRecDepth 100000 in
set_option maxHeartbeats 4000000 in
theorem read_v {s : List UInt8} : ACalls Try.prog 9 [strT s] (.tup [.fro ((pairsF s).1.map Attr.v), .int .i64 (pairsF s).2]) := by
  unfold pairsF
  by_cases h0 : 8000 < s.length
  · rw [if_pos h0]
    refine ACalls.nfd (r := .tup [.nils, .int .i64 2]) ?_ rfl
    refine fun1 tb_ok Try.func9 rfl Try.ntmps9 Try.results9 rfl fun N => ?_
    repeat' (first
        | with_reducible first | refine awp_seq ?_ | refine awp_region ?_ | refine awp_draw mixed ?_ | refine then_n ?_ | refine awp_skip ?_ | refine awp_block ?_ | refine awp_exit ?_ | refine awp_ret ?_ | refine awp_label ?_ | refine then_exit ?_ | refine then_ret ?_ | refine blk_n ?_ | refine blk_ret ?_ | refine blk_exit ?_ | refine blk_other rfl ?_ | refine then_k ?_
        | refine awp_true rfl ?_
        | refine awp_false rfl ?_
        | refine awp_split rfl (fun hb => ?_) (fun hb => ?_)
        | (refine isR ?_; first | refine x_far [] tb_ok rfl ?_ | refine r_nil ?_ | refine r_nild (by kernel_rfl) ?_ | refine x_bs tb_ok ?_ | refine x_addE ?_ | refine x_add ?_ | refine x_cat ?_ | refine x_lenF tb_ok ?_ | refine x_lenO tb_ok ?_ | refine x_lenN tb_ok ?_ | refine x_lenS ?_ | refine x_lssT ?_ | refine x_lssF ?_ | refine x_lss (fun hc => ?_) (fun hc => ?_) | refine x_gtrT ?_ | refine x_gtrF ?_ | refine x_gtr (fun hc => ?_) (fun hc => ?_) | refine x_eqlT ?_ | refine x_eqlF ?_ | refine x_eql (fun hc => ?_) (fun hc => ?_) | refine x_eqlB ?_ | refine x_eqlST ?_ | refine x_eqlSF ?_ | refine x_eqlS (fun hc => ?_) (fun hc => ?_) | refine x_eqlI ?_ | refine x_eqlN ?_ | refine x_iaF tb_ok ?_ | refine x_iaO tb_ok ?_ | refine x_iaA tb_ok ?_ | refine x_iaAF tb_ok ?_ | refine x_eqlA tb_ok ?_ | refine x_eqlAS tb_ok (fun hc => ?_) (fun hc => ?_))
        | refine x_ret ?_
        | refine x_nor ?_
        | exact x_le)
    rfl
  rw [if_neg h0]
  by_cases h1 : s = []
  · rw [if_pos h1]
    refine ACalls.nfd (r := .tup [.nils, .int .i64 0]) ?_ rfl
    refine fun1 tb_ok Try.func9 rfl Try.ntmps9 Try.results9 rfl fun N => ?_
    repeat' (first
        | with_reducible first | refine awp_seq ?_ | refine awp_region ?_ | refine awp_draw mixed ?_ | refine then_n ?_ | refine awp_skip ?_ | refine awp_block ?_ | refine awp_exit ?_ | refine awp_ret ?_ | refine awp_label ?_ | refine then_exit ?_ | refine then_ret ?_ | refine blk_n ?_ | refine blk_ret ?_ | refine blk_exit ?_ | refine blk_other rfl ?_ | refine then_k ?_
        | refine awp_true rfl ?_
        | refine awp_false rfl ?_
        | refine awp_split rfl (fun hb => ?_) (fun hb => ?_)
        | (refine isR ?_; first | refine x_far [] tb_ok rfl ?_ | refine r_nil ?_ | refine r_nild (by kernel_rfl) ?_ | refine x_bs tb_ok ?_ | refine x_addE ?_ | refine x_add ?_ | refine x_cat ?_ | refine x_lenF tb_ok ?_ | refine x_lenO tb_ok ?_ | refine x_lenN tb_ok ?_ | refine x_lenS ?_ | refine x_lssT ?_ | refine x_lssF ?_ | refine x_lss (fun hc => ?_) (fun hc => ?_) | refine x_gtrT ?_ | refine x_gtrF ?_ | refine x_gtr (fun hc => ?_) (fun hc => ?_) | refine x_eqlT ?_ | refine x_eqlF ?_ | refine x_eql (fun hc => ?_) (fun hc => ?_) | refine x_eqlB ?_ | refine x_eqlST ?_ | refine x_eqlSF ?_ | refine x_eqlS (fun hc => ?_) (fun hc => ?_) | refine x_eqlI ?_ | refine x_eqlN ?_ | refine x_iaF tb_ok ?_ | refine x_iaO tb_ok ?_ | refine x_iaA tb_ok ?_ | refine x_iaAF tb_ok ?_ | refine x_eqlA tb_ok ?_ | refine x_eqlAS tb_ok (fun hc => ?_) (fun hc => ?_))
        | refine x_ret ?_
        | refine x_nor ?_
        | exact x_le)
    rfl
  rw [if_neg h1]
  have c1 := parts_v (u := 59) (l := s) (by omega)
  have hlen := split_len 59 s
  generalize split 59 s = ps at *
  have hx : ((ps.map strT).length : Int) = (ps.length : Int) := by simp
  cases hG : goF 0 ps [] with
  | none =>
    refine ACalls.nfd (r := .tup [.nils, .int .i64 1]) ?_ rfl
    refine fun1 tb_ok Try.func9 rfl Try.ntmps9 Try.results9 rfl fun N => ?_
    repeat' (first
        | with_reducible first | refine awp_seq ?_ | refine awp_region ?_ | refine awp_draw mixed ?_ | refine then_n ?_ | refine awp_skip ?_ | refine awp_block ?_ | refine awp_exit ?_ | refine awp_ret ?_ | refine awp_label ?_ | refine then_exit ?_ | refine then_ret ?_ | refine blk_n ?_ | refine blk_ret ?_ | refine blk_exit ?_ | refine blk_other rfl ?_ | refine then_k ?_
        | refine awp_true rfl ?_
        | refine awp_false rfl ?_
        | refine awp_split rfl (fun hb => ?_) (fun hb => ?_)
        | (refine isR ?_; first | refine x_far [] tb_ok rfl ?_ | refine r_nil ?_ | refine r_nild (by kernel_rfl) ?_ | refine x_call (c1 _) ?_ | refine x_call (c1) ?_ | refine x_bs tb_ok ?_ | refine x_addE ?_ | refine x_add ?_ | refine x_cat ?_ | refine x_lenF tb_ok ?_ | refine x_lenO tb_ok ?_ | refine x_lenN tb_ok ?_ | refine x_lenS ?_ | refine x_lssT ?_ | refine x_lssF ?_ | refine x_lss (fun hc => ?_) (fun hc => ?_) | refine x_gtrT ?_ | refine x_gtrF ?_ | refine x_gtr (fun hc => ?_) (fun hc => ?_) | refine x_eqlT ?_ | refine x_eqlF ?_ | refine x_eql (fun hc => ?_) (fun hc => ?_) | refine x_eqlB ?_ | refine x_eqlST ?_ | refine x_eqlSF ?_ | refine x_eqlS (fun hc => ?_) (fun hc => ?_) | refine x_eqlI ?_ | refine x_eqlN ?_ | refine x_iaF tb_ok ?_ | refine x_iaO tb_ok ?_ | refine x_iaA tb_ok ?_ | refine x_iaAF tb_ok ?_ | refine x_eqlA tb_ok ?_ | refine x_eqlAS tb_ok (fun hc => ?_) (fun hc => ?_))
        | refine x_ret ?_
        | refine x_nor ?_
        | exact x_le)
    refine awp_name (t := 2) 39 2 (by decide) rfl rfl ?_
    refine awp_whileN (α := Nat × List Attr) (fun x => ⟨[(18, .fro (ps.map strT)), (19, .int .i64 (ps.map strT).length), (20, .int .i64 (x.1 : Int)), (2, .own 0 0 x.2.length)], [(0, some (.els 39 2 (x.2.map Attr.v)))], 1, 56⟩) (fun x => x.1 ≤ ps.length ∧ x.2.length ≤ x.1 ∧ goF x.1 (ps.drop x.1) x.2 = none) (fun x => ps.length - x.1) (0, []) (by exact x_le) ⟨Nat.zero_le _, Nat.le_refl _, hG⟩ ?_
    rintro ⟨k, out⟩ ⟨g1, g2, g3⟩
    dsimp only at g1 g2 g3 ⊢
    by_cases hk : k < ps.length
    · have f1 : (ps.map strT)[k]? = some (strT ps[k]) := by simp [hk]
      rw [List.drop_eq_getElem_cons hk, go_on] at g3
      generalize ps[k] = p at *
      rcases k with _ | k
      · rw [piece0] at g3
        have d1 := cut_v (c := 61) (l := p)
        generalize cutF 61 p = y at *
        obtain ⟨y1, y2, y3⟩ := y
        dsimp only at *
        cases y3 with
        | false =>
          repeat' (first
              | with_reducible first | refine awp_seq ?_ | refine awp_region ?_ | refine awp_draw mixed ?_ | refine then_n ?_ | refine awp_skip ?_ | refine awp_block ?_ | refine awp_exit ?_ | refine awp_ret ?_ | refine awp_label ?_ | refine then_exit ?_ | refine then_ret ?_ | refine blk_n ?_ | refine blk_ret ?_ | refine blk_exit ?_ | refine blk_other rfl ?_ | refine then_k ?_
              | refine awp_true rfl ?_
              | refine awp_false rfl ?_
              | refine awp_split rfl (fun hb => ?_) (fun hb => ?_)
              | (refine isR ?_; first | refine x_far [] tb_ok rfl ?_ | refine r_nil ?_ | refine r_nild (by kernel_rfl) ?_ | refine x_call (d1 _) ?_ | refine x_call (d1) ?_ | refine x_bs tb_ok ?_ | refine x_addE ?_ | refine x_add ?_ | refine x_cat ?_ | refine x_lenF tb_ok ?_ | refine x_lenO tb_ok ?_ | refine x_lenN tb_ok ?_ | refine x_lenS ?_ | refine x_lssT ?_ | refine x_lssF ?_ | refine x_lss (fun hc => ?_) (fun hc => ?_) | refine x_gtrT ?_ | refine x_gtrF ?_ | refine x_gtr (fun hc => ?_) (fun hc => ?_) | refine x_eqlT ?_ | refine x_eqlF ?_ | refine x_eql (fun hc => ?_) (fun hc => ?_) | refine x_eqlB ?_ | refine x_eqlST ?_ | refine x_eqlSF ?_ | refine x_eqlS (fun hc => ?_) (fun hc => ?_) | refine x_eqlI ?_ | refine x_eqlN ?_ | refine x_iaF tb_ok ?_ | refine x_iaO tb_ok ?_ | refine x_iaA tb_ok ?_ | refine x_iaAF tb_ok ?_ | refine x_eqlA tb_ok ?_ | refine x_eqlAS tb_ok (fun hc => ?_) (fun hc => ?_))
              | refine x_ret ?_
              | refine x_nor ?_
              | exact x_le)
          rfl
        | true =>
          by_cases hn : y1 = []
          · skip
            repeat' (first
                | with_reducible first | refine awp_seq ?_ | refine awp_region ?_ | refine awp_draw mixed ?_ | refine then_n ?_ | refine awp_skip ?_ | refine awp_block ?_ | refine awp_exit ?_ | refine awp_ret ?_ | refine awp_label ?_ | refine then_exit ?_ | refine then_ret ?_ | refine blk_n ?_ | refine blk_ret ?_ | refine blk_exit ?_ | refine blk_other rfl ?_ | refine then_k ?_
                | refine awp_true rfl ?_
                | refine awp_false rfl ?_
                | refine awp_split rfl (fun hb => ?_) (fun hb => ?_)
                | (refine isR ?_; first | refine x_far [] tb_ok rfl ?_ | refine r_nil ?_ | refine r_nild (by kernel_rfl) ?_ | refine x_call (d1 _) ?_ | refine x_call (d1) ?_ | refine x_bs tb_ok ?_ | refine x_addE ?_ | refine x_add ?_ | refine x_cat ?_ | refine x_lenF tb_ok ?_ | refine x_lenO tb_ok ?_ | refine x_lenN tb_ok ?_ | refine x_lenS ?_ | refine x_lssT ?_ | refine x_lssF ?_ | refine x_lss (fun hc => ?_) (fun hc => ?_) | refine x_gtrT ?_ | refine x_gtrF ?_ | refine x_gtr (fun hc => ?_) (fun hc => ?_) | refine x_eqlT ?_ | refine x_eqlF ?_ | refine x_eql (fun hc => ?_) (fun hc => ?_) | refine x_eqlB ?_ | refine x_eqlST ?_ | refine x_eqlSF ?_ | refine x_eqlS (fun hc => ?_) (fun hc => ?_) | refine x_eqlI ?_ | refine x_eqlN ?_ | refine x_iaF tb_ok ?_ | refine x_iaO tb_ok ?_ | refine x_iaA tb_ok ?_ | refine x_iaAF tb_ok ?_ | refine x_eqlA tb_ok ?_ | refine x_eqlAS tb_ok (fun hc => ?_) (fun hc => ?_))
                | refine x_ret ?_
                | refine x_nor ?_
                | exact x_le)
            rfl
          · rw [if_neg (by simp [hn])] at g3
            repeat' (first
                | with_reducible first | refine awp_seq ?_ | refine awp_region ?_ | refine awp_draw mixed ?_ | refine then_n ?_ | refine awp_skip ?_ | refine awp_block ?_ | refine awp_exit ?_ | refine awp_ret ?_ | refine awp_label ?_ | refine then_exit ?_ | refine then_ret ?_ | refine blk_n ?_ | refine blk_ret ?_ | refine blk_exit ?_ | refine blk_other rfl ?_ | refine then_k ?_
                | refine awp_true rfl ?_
                | refine awp_false rfl ?_
                | refine awp_split rfl (fun hb => ?_) (fun hb => ?_)
                | (refine isR ?_; first | refine x_far [] tb_ok rfl ?_ | refine r_nil ?_ | refine r_nild (by kernel_rfl) ?_ | refine x_call (d1 _) ?_ | refine x_call (d1) ?_ | refine x_app Attr.v (a1 := (⟨y1, y2⟩)) tb_ok ?_ | refine x_bs tb_ok ?_ | refine x_addE ?_ | refine x_add ?_ | refine x_cat ?_ | refine x_lenF tb_ok ?_ | refine x_lenO tb_ok ?_ | refine x_lenN tb_ok ?_ | refine x_lenS ?_ | refine x_lssT ?_ | refine x_lssF ?_ | refine x_lss (fun hc => ?_) (fun hc => ?_) | refine x_gtrT ?_ | refine x_gtrF ?_ | refine x_gtr (fun hc => ?_) (fun hc => ?_) | refine x_eqlT ?_ | refine x_eqlF ?_ | refine x_eql (fun hc => ?_) (fun hc => ?_) | refine x_eqlB ?_ | refine x_eqlST ?_ | refine x_eqlSF ?_ | refine x_eqlS (fun hc => ?_) (fun hc => ?_) | refine x_eqlI ?_ | refine x_eqlN ?_ | refine x_iaF tb_ok ?_ | refine x_iaO tb_ok ?_ | refine x_iaA tb_ok ?_ | refine x_iaAF tb_ok ?_ | refine x_eqlA tb_ok ?_ | refine x_eqlAS tb_ok (fun hc => ?_) (fun hc => ?_))
                | refine x_ret ?_
                | refine x_nor ?_
                | exact x_le)
            refine ⟨(0 + 1, out ++ [⟨y1, y2⟩]), ⟨by dsimp only; omega, by dsimp only; rw [snoc_len]; omega, g3⟩, by dsimp only; omega, ?_⟩
            exact (by exact x_len [1])
      · rw [piece1] at g3
        have d0 := cutPrefix_v (l := p) (m := [32])
        have d1 := cut_v (c := 61) (l := (cutP p [32]).1)
        generalize cutP p [32] = z at *
        obtain ⟨z1, z2⟩ := z
        dsimp only at *
        generalize cutF 61 z1 = y at *
        obtain ⟨y1, y2, y3⟩ := y
        dsimp only at *
        cases z2 with
        | false =>
          repeat' (first
              | with_reducible first | refine awp_seq ?_ | refine awp_region ?_ | refine awp_draw mixed ?_ | refine then_n ?_ | refine awp_skip ?_ | refine awp_block ?_ | refine awp_exit ?_ | refine awp_ret ?_ | refine awp_label ?_ | refine then_exit ?_ | refine then_ret ?_ | refine blk_n ?_ | refine blk_ret ?_ | refine blk_exit ?_ | refine blk_other rfl ?_ | refine then_k ?_
              | refine awp_true rfl ?_
              | refine awp_false rfl ?_
              | refine awp_split rfl (fun hb => ?_) (fun hb => ?_)
              | (refine isR ?_; first | refine x_far [] tb_ok rfl ?_ | refine r_nil ?_ | refine r_nild (by kernel_rfl) ?_ | refine x_call (d0 _) ?_ | refine x_call (d0) ?_ | refine x_call (d1 _) ?_ | refine x_call (d1) ?_ | refine x_bs tb_ok ?_ | refine x_addE ?_ | refine x_add ?_ | refine x_cat ?_ | refine x_lenF tb_ok ?_ | refine x_lenO tb_ok ?_ | refine x_lenN tb_ok ?_ | refine x_lenS ?_ | refine x_lssT ?_ | refine x_lssF ?_ | refine x_lss (fun hc => ?_) (fun hc => ?_) | refine x_gtrT ?_ | refine x_gtrF ?_ | refine x_gtr (fun hc => ?_) (fun hc => ?_) | refine x_eqlT ?_ | refine x_eqlF ?_ | refine x_eql (fun hc => ?_) (fun hc => ?_) | refine x_eqlB ?_ | refine x_eqlST ?_ | refine x_eqlSF ?_ | refine x_eqlS (fun hc => ?_) (fun hc => ?_) | refine x_eqlI ?_ | refine x_eqlN ?_ | refine x_iaF tb_ok ?_ | refine x_iaO tb_ok ?_ | refine x_iaA tb_ok ?_ | refine x_iaAF tb_ok ?_ | refine x_eqlA tb_ok ?_ | refine x_eqlAS tb_ok (fun hc => ?_) (fun hc => ?_))
              | refine x_ret ?_
              | refine x_nor ?_
              | exact x_le)
          rfl
        | true =>
          cases y3 with
          | false =>
            repeat' (first
                | with_reducible first | refine awp_seq ?_ | refine awp_region ?_ | refine awp_draw mixed ?_ | refine then_n ?_ | refine awp_skip ?_ | refine awp_block ?_ | refine awp_exit ?_ | refine awp_ret ?_ | refine awp_label ?_ | refine then_exit ?_ | refine then_ret ?_ | refine blk_n ?_ | refine blk_ret ?_ | refine blk_exit ?_ | refine blk_other rfl ?_ | refine then_k ?_
                | refine awp_true rfl ?_
                | refine awp_false rfl ?_
                | refine awp_split rfl (fun hb => ?_) (fun hb => ?_)
                | (refine isR ?_; first | refine x_far [] tb_ok rfl ?_ | refine r_nil ?_ | refine r_nild (by kernel_rfl) ?_ | refine x_call (d0 _) ?_ | refine x_call (d0) ?_ | refine x_call (d1 _) ?_ | refine x_call (d1) ?_ | refine x_bs tb_ok ?_ | refine x_addE ?_ | refine x_add ?_ | refine x_cat ?_ | refine x_lenF tb_ok ?_ | refine x_lenO tb_ok ?_ | refine x_lenN tb_ok ?_ | refine x_lenS ?_ | refine x_lssT ?_ | refine x_lssF ?_ | refine x_lss (fun hc => ?_) (fun hc => ?_) | refine x_gtrT ?_ | refine x_gtrF ?_ | refine x_gtr (fun hc => ?_) (fun hc => ?_) | refine x_eqlT ?_ | refine x_eqlF ?_ | refine x_eql (fun hc => ?_) (fun hc => ?_) | refine x_eqlB ?_ | refine x_eqlST ?_ | refine x_eqlSF ?_ | refine x_eqlS (fun hc => ?_) (fun hc => ?_) | refine x_eqlI ?_ | refine x_eqlN ?_ | refine x_iaF tb_ok ?_ | refine x_iaO tb_ok ?_ | refine x_iaA tb_ok ?_ | refine x_iaAF tb_ok ?_ | refine x_eqlA tb_ok ?_ | refine x_eqlAS tb_ok (fun hc => ?_) (fun hc => ?_))
                | refine x_ret ?_
                | refine x_nor ?_
                | exact x_le)
            rfl
          | true =>
            by_cases hn : y1 = []
            · skip
              repeat' (first
                  | with_reducible first | refine awp_seq ?_ | refine awp_region ?_ | refine awp_draw mixed ?_ | refine then_n ?_ | refine awp_skip ?_ | refine awp_block ?_ | refine awp_exit ?_ | refine awp_ret ?_ | refine awp_label ?_ | refine then_exit ?_ | refine then_ret ?_ | refine blk_n ?_ | refine blk_ret ?_ | refine blk_exit ?_ | refine blk_other rfl ?_ | refine then_k ?_
                  | refine awp_true rfl ?_
                  | refine awp_false rfl ?_
                  | refine awp_split rfl (fun hb => ?_) (fun hb => ?_)
                  | (refine isR ?_; first | refine x_far [] tb_ok rfl ?_ | refine r_nil ?_ | refine r_nild (by kernel_rfl) ?_ | refine x_call (d0 _) ?_ | refine x_call (d0) ?_ | refine x_call (d1 _) ?_ | refine x_call (d1) ?_ | refine x_bs tb_ok ?_ | refine x_addE ?_ | refine x_add ?_ | refine x_cat ?_ | refine x_lenF tb_ok ?_ | refine x_lenO tb_ok ?_ | refine x_lenN tb_ok ?_ | refine x_lenS ?_ | refine x_lssT ?_ | refine x_lssF ?_ | refine x_lss (fun hc => ?_) (fun hc => ?_) | refine x_gtrT ?_ | refine x_gtrF ?_ | refine x_gtr (fun hc => ?_) (fun hc => ?_) | refine x_eqlT ?_ | refine x_eqlF ?_ | refine x_eql (fun hc => ?_) (fun hc => ?_) | refine x_eqlB ?_ | refine x_eqlST ?_ | refine x_eqlSF ?_ | refine x_eqlS (fun hc => ?_) (fun hc => ?_) | refine x_eqlI ?_ | refine x_eqlN ?_ | refine x_iaF tb_ok ?_ | refine x_iaO tb_ok ?_ | refine x_iaA tb_ok ?_ | refine x_iaAF tb_ok ?_ | refine x_eqlA tb_ok ?_ | refine x_eqlAS tb_ok (fun hc => ?_) (fun hc => ?_))
                  | refine x_ret ?_
                  | refine x_nor ?_
                  | exact x_le)
              rfl
            · rw [if_neg (by simp [hn])] at g3
              repeat' (first
                  | with_reducible first | refine awp_seq ?_ | refine awp_region ?_ | refine awp_draw mixed ?_ | refine then_n ?_ | refine awp_skip ?_ | refine awp_block ?_ | refine awp_exit ?_ | refine awp_ret ?_ | refine awp_label ?_ | refine then_exit ?_ | refine then_ret ?_ | refine blk_n ?_ | refine blk_ret ?_ | refine blk_exit ?_ | refine blk_other rfl ?_ | refine then_k ?_
                  | refine awp_true rfl ?_
                  | refine awp_false rfl ?_
                  | refine awp_split rfl (fun hb => ?_) (fun hb => ?_)
                  | (refine isR ?_; first | refine x_far [] tb_ok rfl ?_ | refine r_nil ?_ | refine r_nild (by kernel_rfl) ?_ | refine x_call (d0 _) ?_ | refine x_call (d0) ?_ | refine x_call (d1 _) ?_ | refine x_call (d1) ?_ | refine x_app Attr.v (a1 := (⟨y1, y2⟩)) tb_ok ?_ | refine x_bs tb_ok ?_ | refine x_addE ?_ | refine x_add ?_ | refine x_cat ?_ | refine x_lenF tb_ok ?_ | refine x_lenO tb_ok ?_ | refine x_lenN tb_ok ?_ | refine x_lenS ?_ | refine x_lssT ?_ | refine x_lssF ?_ | refine x_lss (fun hc => ?_) (fun hc => ?_) | refine x_gtrT ?_ | refine x_gtrF ?_ | refine x_gtr (fun hc => ?_) (fun hc => ?_) | refine x_eqlT ?_ | refine x_eqlF ?_ | refine x_eql (fun hc => ?_) (fun hc => ?_) | refine x_eqlB ?_ | refine x_eqlST ?_ | refine x_eqlSF ?_ | refine x_eqlS (fun hc => ?_) (fun hc => ?_) | refine x_eqlI ?_ | refine x_eqlN ?_ | refine x_iaF tb_ok ?_ | refine x_iaO tb_ok ?_ | refine x_iaA tb_ok ?_ | refine x_iaAF tb_ok ?_ | refine x_eqlA tb_ok ?_ | refine x_eqlAS tb_ok (fun hc => ?_) (fun hc => ?_))
                  | refine x_ret ?_
                  | refine x_nor ?_
                  | exact x_le)
              refine ⟨(k + 1 + 1, out ++ [⟨y1, y2⟩]), ⟨by dsimp only; omega, by dsimp only; rw [snoc_len]; omega, g3⟩, by dsimp only; omega, ?_⟩
              exact (by exact x_len [1])
    · rw [List.drop_eq_nil_of_le (by omega), go_end] at g3
      cases g3
  | some res =>
    refine fun1 tb_ok Try.func9 rfl Try.ntmps9 Try.results9 rfl fun N => ?_
    repeat' (first
        | with_reducible first | refine awp_seq ?_ | refine awp_region ?_ | refine awp_draw mixed ?_ | refine then_n ?_ | refine awp_skip ?_ | refine awp_block ?_ | refine awp_exit ?_ | refine awp_ret ?_ | refine awp_label ?_ | refine then_exit ?_ | refine then_ret ?_ | refine blk_n ?_ | refine blk_ret ?_ | refine blk_exit ?_ | refine blk_other rfl ?_ | refine then_k ?_
        | refine awp_true rfl ?_
        | refine awp_false rfl ?_
        | refine awp_split rfl (fun hb => ?_) (fun hb => ?_)
        | (refine isR ?_; first | refine x_far [] tb_ok rfl ?_ | refine r_nil ?_ | refine r_nild (by kernel_rfl) ?_ | refine x_call (c1 _) ?_ | refine x_call (c1) ?_ | refine x_bs tb_ok ?_ | refine x_addE ?_ | refine x_add ?_ | refine x_cat ?_ | refine x_lenF tb_ok ?_ | refine x_lenO tb_ok ?_ | refine x_lenN tb_ok ?_ | refine x_lenS ?_ | refine x_lssT ?_ | refine x_lssF ?_ | refine x_lss (fun hc => ?_) (fun hc => ?_) | refine x_gtrT ?_ | refine x_gtrF ?_ | refine x_gtr (fun hc => ?_) (fun hc => ?_) | refine x_eqlT ?_ | refine x_eqlF ?_ | refine x_eql (fun hc => ?_) (fun hc => ?_) | refine x_eqlB ?_ | refine x_eqlST ?_ | refine x_eqlSF ?_ | refine x_eqlS (fun hc => ?_) (fun hc => ?_) | refine x_eqlI ?_ | refine x_eqlN ?_ | refine x_iaF tb_ok ?_ | refine x_iaO tb_ok ?_ | refine x_iaA tb_ok ?_ | refine x_iaAF tb_ok ?_ | refine x_eqlA tb_ok ?_ | refine x_eqlAS tb_ok (fun hc => ?_) (fun hc => ?_))
        | refine x_ret ?_
        | refine x_nor ?_
        | exact x_le)
    refine awp_name (t := 2) 39 2 (by decide) rfl rfl ?_
    refine awp_whileN (α := Nat × List Attr) (fun x => ⟨[(18, .fro (ps.map strT)), (19, .int .i64 (ps.map strT).length), (20, .int .i64 (x.1 : Int)), (2, .own 0 0 x.2.length)], [(0, some (.els 39 2 (x.2.map Attr.v)))], 1, 56⟩) (fun x => x.1 ≤ ps.length ∧ x.2.length ≤ x.1 ∧ goF x.1 (ps.drop x.1) x.2 = some res) (fun x => ps.length - x.1) (0, []) (by exact x_le) ⟨Nat.zero_le _, Nat.le_refl _, hG⟩ ?_
    rintro ⟨k, out⟩ ⟨g1, g2, g3⟩
    dsimp only at g1 g2 g3 ⊢
    by_cases hk : k < ps.length
    · have f1 : (ps.map strT)[k]? = some (strT ps[k]) := by simp [hk]
      rw [List.drop_eq_getElem_cons hk, go_on] at g3
      generalize ps[k] = p at *
      rcases k with _ | k
      · rw [piece0] at g3
        have d1 := cut_v (c := 61) (l := p)
        generalize cutF 61 p = y at *
        obtain ⟨y1, y2, y3⟩ := y
        dsimp only at *
        by_cases hn : y3 = false ∨ y1 = []
        · rw [if_pos hn] at g3; cases g3
        · rw [if_neg hn] at g3
          obtain ⟨hn1, hn2⟩ := not_or.1 hn
          obtain rfl : y3 = true := by simpa using hn1
          clear hn hn1
          repeat' (first
              | with_reducible first | refine awp_seq ?_ | refine awp_region ?_ | refine awp_draw mixed ?_ | refine then_n ?_ | refine awp_skip ?_ | refine awp_block ?_ | refine awp_exit ?_ | refine awp_ret ?_ | refine awp_label ?_ | refine then_exit ?_ | refine then_ret ?_ | refine blk_n ?_ | refine blk_ret ?_ | refine blk_exit ?_ | refine blk_other rfl ?_ | refine then_k ?_
              | refine awp_true rfl ?_
              | refine awp_false rfl ?_
              | refine awp_split rfl (fun hb => ?_) (fun hb => ?_)
              | (refine isR ?_; first | refine x_far [] tb_ok rfl ?_ | refine r_nil ?_ | refine r_nild (by kernel_rfl) ?_ | refine x_call (d1 _) ?_ | refine x_call (d1) ?_ | refine x_app Attr.v (a1 := (⟨y1, y2⟩)) tb_ok ?_ | refine x_bs tb_ok ?_ | refine x_addE ?_ | refine x_add ?_ | refine x_cat ?_ | refine x_lenF tb_ok ?_ | refine x_lenO tb_ok ?_ | refine x_lenN tb_ok ?_ | refine x_lenS ?_ | refine x_lssT ?_ | refine x_lssF ?_ | refine x_lss (fun hc => ?_) (fun hc => ?_) | refine x_gtrT ?_ | refine x_gtrF ?_ | refine x_gtr (fun hc => ?_) (fun hc => ?_) | refine x_eqlT ?_ | refine x_eqlF ?_ | refine x_eql (fun hc => ?_) (fun hc => ?_) | refine x_eqlB ?_ | refine x_eqlST ?_ | refine x_eqlSF ?_ | refine x_eqlS (fun hc => ?_) (fun hc => ?_) | refine x_eqlI ?_ | refine x_eqlN ?_ | refine x_iaF tb_ok ?_ | refine x_iaO tb_ok ?_ | refine x_iaA tb_ok ?_ | refine x_iaAF tb_ok ?_ | refine x_eqlA tb_ok ?_ | refine x_eqlAS tb_ok (fun hc => ?_) (fun hc => ?_))
              | refine x_ret ?_
              | refine x_nor ?_
              | exact x_le)
          refine ⟨(0 + 1, out ++ [⟨y1, y2⟩]), ⟨by dsimp only; omega, by dsimp only; rw [snoc_len]; omega, g3⟩, by dsimp only; omega, ?_⟩
          exact (by exact x_len [1])
      · rw [piece1] at g3
        have d0 := cutPrefix_v (l := p) (m := [32])
        have d1 := cut_v (c := 61) (l := (cutP p [32]).1)
        generalize cutP p [32] = z at *
        obtain ⟨z1, z2⟩ := z
        dsimp only at *
        generalize cutF 61 z1 = y at *
        obtain ⟨y1, y2, y3⟩ := y
        dsimp only at *
        by_cases hn : z2 = false ∨ y3 = false ∨ y1 = []
        · rw [if_pos hn] at g3; cases g3
        · rw [if_neg hn] at g3
          obtain ⟨hn0, hn⟩ := not_or.1 hn
          obtain ⟨hn1, hn2⟩ := not_or.1 hn
          obtain rfl : y3 = true := by simpa using hn1
          obtain rfl : z2 = true := by simpa using hn0
          clear hn hn1 hn0
          repeat' (first
              | with_reducible first | refine awp_seq ?_ | refine awp_region ?_ | refine awp_draw mixed ?_ | refine then_n ?_ | refine awp_skip ?_ | refine awp_block ?_ | refine awp_exit ?_ | refine awp_ret ?_ | refine awp_label ?_ | refine then_exit ?_ | refine then_ret ?_ | refine blk_n ?_ | refine blk_ret ?_ | refine blk_exit ?_ | refine blk_other rfl ?_ | refine then_k ?_
              | refine awp_true rfl ?_
              | refine awp_false rfl ?_
              | refine awp_split rfl (fun hb => ?_) (fun hb => ?_)
              | (refine isR ?_; first | refine x_far [] tb_ok rfl ?_ | refine r_nil ?_ | refine r_nild (by kernel_rfl) ?_ | refine x_call (d0 _) ?_ | refine x_call (d0) ?_ | refine x_call (d1 _) ?_ | refine x_call (d1) ?_ | refine x_app Attr.v (a1 := (⟨y1, y2⟩)) tb_ok ?_ | refine x_bs tb_ok ?_ | refine x_addE ?_ | refine x_add ?_ | refine x_cat ?_ | refine x_lenF tb_ok ?_ | refine x_lenO tb_ok ?_ | refine x_lenN tb_ok ?_ | refine x_lenS ?_ | refine x_lssT ?_ | refine x_lssF ?_ | refine x_lss (fun hc => ?_) (fun hc => ?_) | refine x_gtrT ?_ | refine x_gtrF ?_ | refine x_gtr (fun hc => ?_) (fun hc => ?_) | refine x_eqlT ?_ | refine x_eqlF ?_ | refine x_eql (fun hc => ?_) (fun hc => ?_) | refine x_eqlB ?_ | refine x_eqlST ?_ | refine x_eqlSF ?_ | refine x_eqlS (fun hc => ?_) (fun hc => ?_) | refine x_eqlI ?_ | refine x_eqlN ?_ | refine x_iaF tb_ok ?_ | refine x_iaO tb_ok ?_ | refine x_iaA tb_ok ?_ | refine x_iaAF tb_ok ?_ | refine x_eqlA tb_ok ?_ | refine x_eqlAS tb_ok (fun hc => ?_) (fun hc => ?_))
              | refine x_ret ?_
              | refine x_nor ?_
              | exact x_le)
          refine ⟨(k + 1 + 1, out ++ [⟨y1, y2⟩]), ⟨by dsimp only; omega, by dsimp only; rw [snoc_len]; omega, g3⟩, by dsimp only; omega, ?_⟩
          exact (by exact x_len [1])
    · rw [List.drop_eq_nil_of_le (by omega), go_end] at g3
      have e : out = res := Option.some.inj g3
      subst e
      repeat' (first
          | with_reducible first | refine awp_seq ?_ | refine awp_region ?_ | refine awp_draw mixed ?_ | refine then_n ?_ | refine awp_skip ?_ | refine awp_block ?_ | refine awp_exit ?_ | refine awp_ret ?_ | refine awp_label ?_ | refine then_exit ?_ | refine then_ret ?_ | refine blk_n ?_ | refine blk_ret ?_ | refine blk_exit ?_ | refine blk_other rfl ?_ | refine then_k ?_
          | refine awp_true rfl ?_
          | refine awp_false rfl ?_
          | refine awp_split rfl (fun hb => ?_) (fun hb => ?_)
          | (refine isR ?_; first | refine x_far [] tb_ok rfl ?_ | refine r_nil ?_ | refine r_nild (by kernel_rfl) ?_ | refine x_bs tb_ok ?_ | refine x_addE ?_ | refine x_add ?_ | refine x_cat ?_ | refine x_lenF tb_ok ?_ | refine x_lenO tb_ok ?_ | refine x_lenN tb_ok ?_ | refine x_lenS ?_ | refine x_lssT ?_ | refine x_lssF ?_ | refine x_lss (fun hc => ?_) (fun hc => ?_) | refine x_gtrT ?_ | refine x_gtrF ?_ | refine x_gtr (fun hc => ?_) (fun hc => ?_) | refine x_eqlT ?_ | refine x_eqlF ?_ | refine x_eql (fun hc => ?_) (fun hc => ?_) | refine x_eqlB ?_ | refine x_eqlST ?_ | refine x_eqlSF ?_ | refine x_eqlS (fun hc => ?_) (fun hc => ?_) | refine x_eqlI ?_ | refine x_eqlN ?_ | refine x_iaF tb_ok ?_ | refine x_iaO tb_ok ?_ | refine x_iaA tb_ok ?_ | refine x_iaAF tb_ok ?_ | refine x_eqlA tb_ok ?_ | refine x_eqlAS tb_ok (fun hc => ?_) (fun hc => ?_))
          | refine x_ret ?_
          | refine x_nor ?_
          | exact x_le)
      show V.tup [V.fro (List.take out.length (List.drop 0 (out.map Attr.v))), _] = _
      rw [List.drop_zero, List.take_of_length_le (by simp)]; rfl
theorem cutP_cons (b : UInt8) (r : List UInt8) : cutP (b :: r) [32] = if b = 32 then (r, true) else (b :: r, false) := by
  unfold cutP pre
  by_cases h : b = 32
  · subst h; rfl
  · rw [if_neg h, if_neg (by simp [h])]
theorem cut_pos (q : List UInt8) : ((cutF 61 q).2.2 = false ∨ (cutF 61 q).1 = []) ↔ posB 61 q < 1 := by
  have h1 := pos_none (c := 61) (l := q)
  have h2 := pos_in 61 q
  unfold cutF
  cases hc : q.contains 61 with
  | false =>
    simp
    have := h1.2 hc
    omega
  | true =>
    have hn : ¬ posB 61 q < 0 := fun h => by rw [h1.1 h] at hc; cases hc
    simp
    constructor
    · rintro (h | h)
      · omega
      · subst h; simp at hc
    · intro h; left; omega
theorem cut_eq (q : List UInt8) (h : ¬ posB 61 q < 1) : (⟨(cutF 61 q).1, (cutF 61 q).2.1⟩ : Attr) = ⟨q.take (posB 61 q).toNat, q.drop (posB 61 q + 1).toNat⟩ := by
  have h1 := pos_none (c := 61) (l := q)
  unfold cutF
  cases hc : q.contains 61 with
  | false => have := h1.2 hc; omega
  | true =>
    rw [if_pos rfl, show (posB 61 q + 1).toNat = (posB 61 q).toNat + 1 by omega]
theorem pieceP (q : List UInt8) : (if (cutF 61 q).2.2 = false ∨ (cutF 61 q).1 = [] then none else some (⟨(cutF 61 q).1, (cutF 61 q).2.1⟩ : Attr)) = if posB 61 q < 1 then none else some ⟨q.take (posB 61 q).toNat, q.drop (posB 61 q + 1).toNat⟩ := by
  by_cases h : posB 61 q < 1
  · rw [if_pos h, if_pos ((cut_pos q).2 h)]
  · rw [if_neg h, if_neg (fun e => h ((cut_pos q).1 e)), cut_eq q h]
theorem piece2 (k : Nat) (p : List UInt8) : pieceF (k + 1) p = match p with
    | [] => none
    | b :: q => if b = 32 then (if posB 61 q < 1 then none else some ⟨q.take (posB 61 q).toNat, q.drop (posB 61 q + 1).toNat⟩) else none := by
  rw [piece1]
  cases p with
  | nil => rfl
  | cons b q =>
    dsimp only
    rw [cutP_cons]
    by_cases h : b = 32
    · simp only [if_pos h]
      rw [← pieceP]
      simp
    · simp only [if_neg h]
      simp
set_option maxRecDepth 100000 in
set_option maxHeartbeats 4000000 in
theorem pairsOf_v {s : List UInt8} : ACalls Try.prog 10 [strT s] (.tup [.fro ((pairsF s).1.map Attr.v), .int .i64 (pairsF s).2]) := by
  unfold pairsF
  by_cases h0 : 8000 < s.length
  · rw [if_pos h0]
    refine ACalls.nfd (r := .tup [.nils, .int .i64 2]) ?_ rfl
    refine fun1 tb_ok Try.func10 rfl Try.ntmps10 Try.results10 rfl fun N => ?_
    repeat' (first
        | with_reducible first | refine awp_seq ?_ | refine awp_region ?_ | refine awp_draw mixed ?_ | refine then_n ?_ | refine awp_skip ?_ | refine awp_block ?_ | refine awp_exit ?_ | refine awp_ret ?_ | refine awp_label ?_ | refine then_exit ?_ | refine then_ret ?_ | refine blk_n ?_ | refine blk_ret ?_ | refine blk_exit ?_ | refine blk_other rfl ?_ | refine then_k ?_
        | refine awp_true rfl ?_
        | refine awp_false rfl ?_
        | refine awp_split rfl (fun hb => ?_) (fun hb => ?_)
        | (refine isR ?_; first | refine x_far [] tb_ok rfl ?_ | refine r_nil ?_ | refine r_nild (by kernel_rfl) ?_ | refine x_bs tb_ok ?_ | refine x_addE ?_ | refine x_add ?_ | refine x_cat ?_ | refine x_lenF tb_ok ?_ | refine x_lenO tb_ok ?_ | refine x_lenN tb_ok ?_ | refine x_lenS ?_ | refine x_lssT ?_ | refine x_lssF ?_ | refine x_lss (fun hc => ?_) (fun hc => ?_) | refine x_gtrT ?_ | refine x_gtrF ?_ | refine x_gtr (fun hc => ?_) (fun hc => ?_) | refine x_eqlT ?_ | refine x_eqlF ?_ | refine x_eql (fun hc => ?_) (fun hc => ?_) | refine x_neqT ?_ | refine x_neqF ?_ | refine x_neq (fun hc => ?_) (fun hc => ?_) | refine x_eqlB ?_ | refine x_eqlST ?_ | refine x_eqlSF ?_ | refine x_eqlS (fun hc => ?_) (fun hc => ?_) | refine x_eqlI ?_ | refine x_eqlN ?_ | refine x_neqB ?_ | refine x_neqST ?_ | refine x_neqSF ?_ | refine x_neqS (fun hc => ?_) (fun hc => ?_) | refine x_neqI ?_ | refine x_neqN ?_ | refine x_ixS tb_ok ?_ | refine x_ixA tb_ok ?_ | refine x_iaF tb_ok ?_ | refine x_iaO tb_ok ?_ | refine x_iaA tb_ok ?_ | refine x_iaAF tb_ok ?_ | refine x_slSf tb_ok ?_ | refine x_slSt tb_ok ?_ | refine x_slSm tb_ok ?_ | refine x_slFf tb_ok ?_ | refine x_slFt tb_ok ?_ | refine x_slFm tb_ok ?_ | refine x_eqlA tb_ok ?_ | refine x_eqlAS tb_ok (fun hc => ?_) (fun hc => ?_) | refine x_neqA tb_ok ?_ | refine x_neqAS tb_ok (fun hc => ?_) (fun hc => ?_))
        | refine x_ret ?_
        | refine x_nor ?_
        | exact x_le)
    rfl
  rw [if_neg h0]
  by_cases h1 : s = []
  · rw [if_pos h1]
    refine ACalls.nfd (r := .tup [.nils, .int .i64 0]) ?_ rfl
    subst h1
    have z0 : ([] : List UInt8).length = 0 := rfl
    refine fun1 tb_ok Try.func10 rfl Try.ntmps10 Try.results10 rfl fun N => ?_
    repeat' (first
        | with_reducible first | refine awp_seq ?_ | refine awp_region ?_ | refine awp_draw mixed ?_ | refine then_n ?_ | refine awp_skip ?_ | refine awp_block ?_ | refine awp_exit ?_ | refine awp_ret ?_ | refine awp_label ?_ | refine then_exit ?_ | refine then_ret ?_ | refine blk_n ?_ | refine blk_ret ?_ | refine blk_exit ?_ | refine blk_other rfl ?_ | refine then_k ?_
        | refine awp_true rfl ?_
        | refine awp_false rfl ?_
        | refine awp_split rfl (fun hb => ?_) (fun hb => ?_)
        | (refine isR ?_; first | refine x_far [] tb_ok rfl ?_ | refine r_nil ?_ | refine r_nild (by kernel_rfl) ?_ | refine x_bs tb_ok ?_ | refine x_addE ?_ | refine x_add ?_ | refine x_cat ?_ | refine x_lenF tb_ok ?_ | refine x_lenO tb_ok ?_ | refine x_lenN tb_ok ?_ | refine x_lenS ?_ | refine x_lssT ?_ | refine x_lssF ?_ | refine x_lss (fun hc => ?_) (fun hc => ?_) | refine x_gtrT ?_ | refine x_gtrF ?_ | refine x_gtr (fun hc => ?_) (fun hc => ?_) | refine x_eqlT ?_ | refine x_eqlF ?_ | refine x_eql (fun hc => ?_) (fun hc => ?_) | refine x_neqT ?_ | refine x_neqF ?_ | refine x_neq (fun hc => ?_) (fun hc => ?_) | refine x_eqlB ?_ | refine x_eqlST ?_ | refine x_eqlSF ?_ | refine x_eqlS (fun hc => ?_) (fun hc => ?_) | refine x_eqlI ?_ | refine x_eqlN ?_ | refine x_neqB ?_ | refine x_neqST ?_ | refine x_neqSF ?_ | refine x_neqS (fun hc => ?_) (fun hc => ?_) | refine x_neqI ?_ | refine x_neqN ?_ | refine x_ixS tb_ok ?_ | refine x_ixA tb_ok ?_ | refine x_iaF tb_ok ?_ | refine x_iaO tb_ok ?_ | refine x_iaA tb_ok ?_ | refine x_iaAF tb_ok ?_ | refine x_slSf tb_ok ?_ | refine x_slSt tb_ok ?_ | refine x_slSm tb_ok ?_ | refine x_slFf tb_ok ?_ | refine x_slFt tb_ok ?_ | refine x_slFm tb_ok ?_ | refine x_eqlA tb_ok ?_ | refine x_eqlAS tb_ok (fun hc => ?_) (fun hc => ?_) | refine x_neqA tb_ok ?_ | refine x_neqAS tb_ok (fun hc => ?_) (fun hc => ?_))
        | refine x_ret ?_
        | refine x_nor ?_
        | exact x_le)
    rfl
  have h2 : 0 < s.length := List.length_pos_iff.2 h1
  rw [if_neg h1]
  have c1 := partsOf_v (u := 59) (l := s) (by omega)
  have hlen := split_len 59 s
  have hpl : ∀ x ∈ split 59 s, x.length ≤ 8000 := fun x hx => Nat.le_trans (split_in (u := 59) (fun _ _ => trivial) x hx) (by omega)
  generalize split 59 s = ps at *
  have hx : ((ps.map strT).length : Int) = (ps.length : Int) := by simp
  cases hG : goF 0 ps [] with
  | none =>
    refine ACalls.nfd (r := .tup [.nils, .int .i64 1]) ?_ rfl
    refine fun1 tb_ok Try.func10 rfl Try.ntmps10 Try.results10 rfl fun N => ?_
    repeat' (first
        | with_reducible first | refine awp_seq ?_ | refine awp_region ?_ | refine awp_draw mixed ?_ | refine then_n ?_ | refine awp_skip ?_ | refine awp_block ?_ | refine awp_exit ?_ | refine awp_ret ?_ | refine awp_label ?_ | refine then_exit ?_ | refine then_ret ?_ | refine blk_n ?_ | refine blk_ret ?_ | refine blk_exit ?_ | refine blk_other rfl ?_ | refine then_k ?_
        | refine awp_true rfl ?_
        | refine awp_false rfl ?_
        | refine awp_split rfl (fun hb => ?_) (fun hb => ?_)
        | (refine isR ?_; first | refine x_far [] tb_ok rfl ?_ | refine r_nil ?_ | refine r_nild (by kernel_rfl) ?_ | refine x_call (c1 _) ?_ | refine x_call (c1) ?_ | refine x_bs tb_ok ?_ | refine x_addE ?_ | refine x_add ?_ | refine x_cat ?_ | refine x_lenF tb_ok ?_ | refine x_lenO tb_ok ?_ | refine x_lenN tb_ok ?_ | refine x_lenS ?_ | refine x_lssT ?_ | refine x_lssF ?_ | refine x_lss (fun hc => ?_) (fun hc => ?_) | refine x_gtrT ?_ | refine x_gtrF ?_ | refine x_gtr (fun hc => ?_) (fun hc => ?_) | refine x_eqlT ?_ | refine x_eqlF ?_ | refine x_eql (fun hc => ?_) (fun hc => ?_) | refine x_neqT ?_ | refine x_neqF ?_ | refine x_neq (fun hc => ?_) (fun hc => ?_) | refine x_eqlB ?_ | refine x_eqlST ?_ | refine x_eqlSF ?_ | refine x_eqlS (fun hc => ?_) (fun hc => ?_) | refine x_eqlI ?_ | refine x_eqlN ?_ | refine x_neqB ?_ | refine x_neqST ?_ | refine x_neqSF ?_ | refine x_neqS (fun hc => ?_) (fun hc => ?_) | refine x_neqI ?_ | refine x_neqN ?_ | refine x_ixS tb_ok ?_ | refine x_ixA tb_ok ?_ | refine x_iaF tb_ok ?_ | refine x_iaO tb_ok ?_ | refine x_iaA tb_ok ?_ | refine x_iaAF tb_ok ?_ | refine x_slSf tb_ok ?_ | refine x_slSt tb_ok ?_ | refine x_slSm tb_ok ?_ | refine x_slFf tb_ok ?_ | refine x_slFt tb_ok ?_ | refine x_slFm tb_ok ?_ | refine x_eqlA tb_ok ?_ | refine x_eqlAS tb_ok (fun hc => ?_) (fun hc => ?_) | refine x_neqA tb_ok ?_ | refine x_neqAS tb_ok (fun hc => ?_) (fun hc => ?_))
        | refine x_ret ?_
        | refine x_nor ?_
        | exact x_le)
    refine awp_name (t := 5) 39 2 (by decide) rfl rfl ?_
    refine awp_whileN (α := Nat × List Attr) (fun x => ⟨[(2, .nils), (4, .fro (ps.map strT)), (5, .own 0 0 x.2.length), (6, .int .i64 (x.1 : Int))], [(0, some (.els 39 2 (x.2.map Attr.v)))], 1, 55⟩) (fun x => x.1 ≤ ps.length ∧ x.2.length ≤ x.1 ∧ goF x.1 (ps.drop x.1) x.2 = none) (fun x => ps.length - x.1) (0, []) (by exact x_le) ⟨Nat.zero_le _, Nat.le_refl _, hG⟩ ?_
    rintro ⟨k, out⟩ ⟨g1, g2, g3⟩
    dsimp only at g1 g2 g3 ⊢
    by_cases hk : k < ps.length
    · have f1 : (ps.map strT)[k]? = some (strT ps[k]) := by simp [hk]
      have f2 := hpl ps[k] (List.getElem_mem hk)
      rw [List.drop_eq_getElem_cons hk, go_on] at g3
      generalize ps[k] = p at *
      rcases k with _ | k
      · rw [piece0, pieceP] at g3
        have d1 := placeOf_v (c := 61) (l := p)
        have d2 := pos_in 61 p
        generalize posB 61 p = y at *
        by_cases hn : y < 1
        · skip
          repeat' (first
              | with_reducible first | refine awp_seq ?_ | refine awp_region ?_ | refine awp_draw mixed ?_ | refine then_n ?_ | refine awp_skip ?_ | refine awp_block ?_ | refine awp_exit ?_ | refine awp_ret ?_ | refine awp_label ?_ | refine then_exit ?_ | refine then_ret ?_ | refine blk_n ?_ | refine blk_ret ?_ | refine blk_exit ?_ | refine blk_other rfl ?_ | refine then_k ?_
              | refine awp_true rfl ?_
              | refine awp_false rfl ?_
              | refine awp_split rfl (fun hb => ?_) (fun hb => ?_)
              | (refine isR ?_; first | refine x_far [] tb_ok rfl ?_ | refine r_nil ?_ | refine r_nild (by kernel_rfl) ?_ | refine x_call (d1 _) ?_ | refine x_call (d1) ?_ | refine x_bs tb_ok ?_ | refine x_addE ?_ | refine x_add ?_ | refine x_cat ?_ | refine x_lenF tb_ok ?_ | refine x_lenO tb_ok ?_ | refine x_lenN tb_ok ?_ | refine x_lenS ?_ | refine x_lssT ?_ | refine x_lssF ?_ | refine x_lss (fun hc => ?_) (fun hc => ?_) | refine x_gtrT ?_ | refine x_gtrF ?_ | refine x_gtr (fun hc => ?_) (fun hc => ?_) | refine x_eqlT ?_ | refine x_eqlF ?_ | refine x_eql (fun hc => ?_) (fun hc => ?_) | refine x_neqT ?_ | refine x_neqF ?_ | refine x_neq (fun hc => ?_) (fun hc => ?_) | refine x_eqlB ?_ | refine x_eqlST ?_ | refine x_eqlSF ?_ | refine x_eqlS (fun hc => ?_) (fun hc => ?_) | refine x_eqlI ?_ | refine x_eqlN ?_ | refine x_neqB ?_ | refine x_neqST ?_ | refine x_neqSF ?_ | refine x_neqS (fun hc => ?_) (fun hc => ?_) | refine x_neqI ?_ | refine x_neqN ?_ | refine x_ixS tb_ok ?_ | refine x_ixA tb_ok ?_ | refine x_iaF tb_ok ?_ | refine x_iaO tb_ok ?_ | refine x_iaA tb_ok ?_ | refine x_iaAF tb_ok ?_ | refine x_slSf tb_ok ?_ | refine x_slSt tb_ok ?_ | refine x_slSm tb_ok ?_ | refine x_slFf tb_ok ?_ | refine x_slFt tb_ok ?_ | refine x_slFm tb_ok ?_ | refine x_eqlA tb_ok ?_ | refine x_eqlAS tb_ok (fun hc => ?_) (fun hc => ?_) | refine x_neqA tb_ok ?_ | refine x_neqAS tb_ok (fun hc => ?_) (fun hc => ?_))
              | refine x_ret ?_
              | refine x_nor ?_
              | exact x_le)
          rfl
        · rw [if_neg hn] at g3
          repeat' (first
              | with_reducible first | refine awp_seq ?_ | refine awp_region ?_ | refine awp_draw mixed ?_ | refine then_n ?_ | refine awp_skip ?_ | refine awp_block ?_ | refine awp_exit ?_ | refine awp_ret ?_ | refine awp_label ?_ | refine then_exit ?_ | refine then_ret ?_ | refine blk_n ?_ | refine blk_ret ?_ | refine blk_exit ?_ | refine blk_other rfl ?_ | refine then_k ?_
              | refine awp_true rfl ?_
              | refine awp_false rfl ?_
              | refine awp_split rfl (fun hb => ?_) (fun hb => ?_)
              | (refine isR ?_; first | refine x_far [] tb_ok rfl ?_ | refine r_nil ?_ | refine r_nild (by kernel_rfl) ?_ | refine x_call (d1 _) ?_ | refine x_call (d1) ?_ | refine x_app Attr.v (a1 := (⟨p.take y.toNat, p.drop (y + 1).toNat⟩)) tb_ok ?_ | refine x_bs tb_ok ?_ | refine x_addE ?_ | refine x_add ?_ | refine x_cat ?_ | refine x_lenF tb_ok ?_ | refine x_lenO tb_ok ?_ | refine x_lenN tb_ok ?_ | refine x_lenS ?_ | refine x_lssT ?_ | refine x_lssF ?_ | refine x_lss (fun hc => ?_) (fun hc => ?_) | refine x_gtrT ?_ | refine x_gtrF ?_ | refine x_gtr (fun hc => ?_) (fun hc => ?_) | refine x_eqlT ?_ | refine x_eqlF ?_ | refine x_eql (fun hc => ?_) (fun hc => ?_) | refine x_neqT ?_ | refine x_neqF ?_ | refine x_neq (fun hc => ?_) (fun hc => ?_) | refine x_eqlB ?_ | refine x_eqlST ?_ | refine x_eqlSF ?_ | refine x_eqlS (fun hc => ?_) (fun hc => ?_) | refine x_eqlI ?_ | refine x_eqlN ?_ | refine x_neqB ?_ | refine x_neqST ?_ | refine x_neqSF ?_ | refine x_neqS (fun hc => ?_) (fun hc => ?_) | refine x_neqI ?_ | refine x_neqN ?_ | refine x_ixS tb_ok ?_ | refine x_ixA tb_ok ?_ | refine x_iaF tb_ok ?_ | refine x_iaO tb_ok ?_ | refine x_iaA tb_ok ?_ | refine x_iaAF tb_ok ?_ | refine x_slSf tb_ok ?_ | refine x_slSt tb_ok ?_ | refine x_slSm tb_ok ?_ | refine x_slFf tb_ok ?_ | refine x_slFt tb_ok ?_ | refine x_slFm tb_ok ?_ | refine x_eqlA tb_ok ?_ | refine x_eqlAS tb_ok (fun hc => ?_) (fun hc => ?_) | refine x_neqA tb_ok ?_ | refine x_neqAS tb_ok (fun hc => ?_) (fun hc => ?_))
              | refine x_ret ?_
              | refine x_nor ?_
              | exact x_le)
          refine ⟨(0 + 1, out ++ [⟨p.take y.toNat, p.drop (y + 1).toNat⟩]), ⟨by dsimp only; omega, by dsimp only; rw [snoc_len]; omega, g3⟩, by dsimp only; omega, ?_⟩
          exact (by exact x_len [1])
      · rw [piece2] at g3
        cases p with
        | nil =>
          have z1 : ([] : List UInt8).length = 0 := rfl
          repeat' (first
              | with_reducible first | refine awp_seq ?_ | refine awp_region ?_ | refine awp_draw mixed ?_ | refine then_n ?_ | refine awp_skip ?_ | refine awp_block ?_ | refine awp_exit ?_ | refine awp_ret ?_ | refine awp_label ?_ | refine then_exit ?_ | refine then_ret ?_ | refine blk_n ?_ | refine blk_ret ?_ | refine blk_exit ?_ | refine blk_other rfl ?_ | refine then_k ?_
              | refine awp_true rfl ?_
              | refine awp_false rfl ?_
              | refine awp_split rfl (fun hb => ?_) (fun hb => ?_)
              | (refine isR ?_; first | refine x_far [] tb_ok rfl ?_ | refine r_nil ?_ | refine r_nild (by kernel_rfl) ?_ | refine x_bs tb_ok ?_ | refine x_addE ?_ | refine x_add ?_ | refine x_cat ?_ | refine x_lenF tb_ok ?_ | refine x_lenO tb_ok ?_ | refine x_lenN tb_ok ?_ | refine x_lenS ?_ | refine x_lssT ?_ | refine x_lssF ?_ | refine x_lss (fun hc => ?_) (fun hc => ?_) | refine x_gtrT ?_ | refine x_gtrF ?_ | refine x_gtr (fun hc => ?_) (fun hc => ?_) | refine x_eqlT ?_ | refine x_eqlF ?_ | refine x_eql (fun hc => ?_) (fun hc => ?_) | refine x_neqT ?_ | refine x_neqF ?_ | refine x_neq (fun hc => ?_) (fun hc => ?_) | refine x_eqlB ?_ | refine x_eqlST ?_ | refine x_eqlSF ?_ | refine x_eqlS (fun hc => ?_) (fun hc => ?_) | refine x_eqlI ?_ | refine x_eqlN ?_ | refine x_neqB ?_ | refine x_neqST ?_ | refine x_neqSF ?_ | refine x_neqS (fun hc => ?_) (fun hc => ?_) | refine x_neqI ?_ | refine x_neqN ?_ | refine x_ixS tb_ok ?_ | refine x_ixA tb_ok ?_ | refine x_iaF tb_ok ?_ | refine x_iaO tb_ok ?_ | refine x_iaA tb_ok ?_ | refine x_iaAF tb_ok ?_ | refine x_slSf tb_ok ?_ | refine x_slSt tb_ok ?_ | refine x_slSm tb_ok ?_ | refine x_slFf tb_ok ?_ | refine x_slFt tb_ok ?_ | refine x_slFm tb_ok ?_ | refine x_eqlA tb_ok ?_ | refine x_eqlAS tb_ok (fun hc => ?_) (fun hc => ?_) | refine x_neqA tb_ok ?_ | refine x_neqAS tb_ok (fun hc => ?_) (fun hc => ?_))
              | refine x_ret ?_
              | refine x_nor ?_
              | exact x_le)
          rfl
        | cons b q =>
          have z1 : (b :: q).length = q.length + 1 := rfl
          rw [z1] at f2
          have z4 : ((b :: q).drop ((1 : Int)).toNat).length = q.length := rfl
          have z2 : (b :: q)[((0 : Int)).toNat]? = some b := rfl
          have hb := byte_eq (c := b) (d := 32)
          by_cases hq : b = 32
          · have hb2 : (b.toNat : Int) = 32 := hb.1 hq
            dsimp only at g3
            rw [if_pos hq] at g3
            have d1 := placeOf_v (c := 61) (l := q)
            have d2 := pos_in 61 q
            generalize posB 61 q = y at *
            clear hb
            by_cases hn : y < 1
            · skip
              repeat' (first
                  | with_reducible first | refine awp_seq ?_ | refine awp_region ?_ | refine awp_draw mixed ?_ | refine then_n ?_ | refine awp_skip ?_ | refine awp_block ?_ | refine awp_exit ?_ | refine awp_ret ?_ | refine awp_label ?_ | refine then_exit ?_ | refine then_ret ?_ | refine blk_n ?_ | refine blk_ret ?_ | refine blk_exit ?_ | refine blk_other rfl ?_ | refine then_k ?_
                  | refine awp_true rfl ?_
                  | refine awp_false rfl ?_
                  | refine awp_split rfl (fun hb => ?_) (fun hb => ?_)
                  | (refine isR ?_; first | refine x_far [] tb_ok rfl ?_ | refine r_nil ?_ | refine r_nild (by kernel_rfl) ?_ | refine x_call (d1 _) ?_ | refine x_call (d1) ?_ | refine x_bs tb_ok ?_ | refine x_addE ?_ | refine x_add ?_ | refine x_cat ?_ | refine x_lenF tb_ok ?_ | refine x_lenO tb_ok ?_ | refine x_lenN tb_ok ?_ | refine x_lenS ?_ | refine x_lssT ?_ | refine x_lssF ?_ | refine x_lss (fun hc => ?_) (fun hc => ?_) | refine x_gtrT ?_ | refine x_gtrF ?_ | refine x_gtr (fun hc => ?_) (fun hc => ?_) | refine x_eqlT ?_ | refine x_eqlF ?_ | refine x_eql (fun hc => ?_) (fun hc => ?_) | refine x_neqT ?_ | refine x_neqF ?_ | refine x_neq (fun hc => ?_) (fun hc => ?_) | refine x_eqlB ?_ | refine x_eqlST ?_ | refine x_eqlSF ?_ | refine x_eqlS (fun hc => ?_) (fun hc => ?_) | refine x_eqlI ?_ | refine x_eqlN ?_ | refine x_neqB ?_ | refine x_neqST ?_ | refine x_neqSF ?_ | refine x_neqS (fun hc => ?_) (fun hc => ?_) | refine x_neqI ?_ | refine x_neqN ?_ | refine x_ixS tb_ok ?_ | refine x_ixA tb_ok ?_ | refine x_iaF tb_ok ?_ | refine x_iaO tb_ok ?_ | refine x_iaA tb_ok ?_ | refine x_iaAF tb_ok ?_ | refine x_slSf tb_ok ?_ | refine x_slSt tb_ok ?_ | refine x_slSm tb_ok ?_ | refine x_slFf tb_ok ?_ | refine x_slFt tb_ok ?_ | refine x_slFm tb_ok ?_ | refine x_eqlA tb_ok ?_ | refine x_eqlAS tb_ok (fun hc => ?_) (fun hc => ?_) | refine x_neqA tb_ok ?_ | refine x_neqAS tb_ok (fun hc => ?_) (fun hc => ?_))
                  | refine x_ret ?_
                  | refine x_nor ?_
                  | exact x_le)
              rfl
            · rw [if_neg hn] at g3
              repeat' (first
                  | with_reducible first | refine awp_seq ?_ | refine awp_region ?_ | refine awp_draw mixed ?_ | refine then_n ?_ | refine awp_skip ?_ | refine awp_block ?_ | refine awp_exit ?_ | refine awp_ret ?_ | refine awp_label ?_ | refine then_exit ?_ | refine then_ret ?_ | refine blk_n ?_ | refine blk_ret ?_ | refine blk_exit ?_ | refine blk_other rfl ?_ | refine then_k ?_
                  | refine awp_true rfl ?_
                  | refine awp_false rfl ?_
                  | refine awp_split rfl (fun hb => ?_) (fun hb => ?_)
                  | (refine isR ?_; first | refine x_far [] tb_ok rfl ?_ | refine r_nil ?_ | refine r_nild (by kernel_rfl) ?_ | refine x_call (d1 _) ?_ | refine x_call (d1) ?_ | refine x_app Attr.v (a1 := (⟨q.take y.toNat, q.drop (y + 1).toNat⟩)) tb_ok ?_ | refine x_bs tb_ok ?_ | refine x_addE ?_ | refine x_add ?_ | refine x_cat ?_ | refine x_lenF tb_ok ?_ | refine x_lenO tb_ok ?_ | refine x_lenN tb_ok ?_ | refine x_lenS ?_ | refine x_lssT ?_ | refine x_lssF ?_ | refine x_lss (fun hc => ?_) (fun hc => ?_) | refine x_gtrT ?_ | refine x_gtrF ?_ | refine x_gtr (fun hc => ?_) (fun hc => ?_) | refine x_eqlT ?_ | refine x_eqlF ?_ | refine x_eql (fun hc => ?_) (fun hc => ?_) | refine x_neqT ?_ | refine x_neqF ?_ | refine x_neq (fun hc => ?_) (fun hc => ?_) | refine x_eqlB ?_ | refine x_eqlST ?_ | refine x_eqlSF ?_ | refine x_eqlS (fun hc => ?_) (fun hc => ?_) | refine x_eqlI ?_ | refine x_eqlN ?_ | refine x_neqB ?_ | refine x_neqST ?_ | refine x_neqSF ?_ | refine x_neqS (fun hc => ?_) (fun hc => ?_) | refine x_neqI ?_ | refine x_neqN ?_ | refine x_ixS tb_ok ?_ | refine x_ixA tb_ok ?_ | refine x_iaF tb_ok ?_ | refine x_iaO tb_ok ?_ | refine x_iaA tb_ok ?_ | refine x_iaAF tb_ok ?_ | refine x_slSf tb_ok ?_ | refine x_slSt tb_ok ?_ | refine x_slSm tb_ok ?_ | refine x_slFf tb_ok ?_ | refine x_slFt tb_ok ?_ | refine x_slFm tb_ok ?_ | refine x_eqlA tb_ok ?_ | refine x_eqlAS tb_ok (fun hc => ?_) (fun hc => ?_) | refine x_neqA tb_ok ?_ | refine x_neqAS tb_ok (fun hc => ?_) (fun hc => ?_))
                  | refine x_ret ?_
                  | refine x_nor ?_
                  | exact x_le)
              refine ⟨(k + 1 + 1, out ++ [⟨q.take y.toNat, q.drop (y + 1).toNat⟩]), ⟨by dsimp only; omega, by dsimp only; rw [snoc_len]; omega, g3⟩, by dsimp only; omega, ?_⟩
              exact (by exact x_len [1])
          · have hb2 : ¬ (b.toNat : Int) = 32 := fun e => hq (hb.2 e)
            clear hb
            repeat' (first
                | with_reducible first | refine awp_seq ?_ | refine awp_region ?_ | refine awp_draw mixed ?_ | refine then_n ?_ | refine awp_skip ?_ | refine awp_block ?_ | refine awp_exit ?_ | refine awp_ret ?_ | refine awp_label ?_ | refine then_exit ?_ | refine then_ret ?_ | refine blk_n ?_ | refine blk_ret ?_ | refine blk_exit ?_ | refine blk_other rfl ?_ | refine then_k ?_
                | refine awp_true rfl ?_
                | refine awp_false rfl ?_
                | refine awp_split rfl (fun hb => ?_) (fun hb => ?_)
                | (refine isR ?_; first | refine x_far [] tb_ok rfl ?_ | refine r_nil ?_ | refine r_nild (by kernel_rfl) ?_ | refine x_bs tb_ok ?_ | refine x_addE ?_ | refine x_add ?_ | refine x_cat ?_ | refine x_lenF tb_ok ?_ | refine x_lenO tb_ok ?_ | refine x_lenN tb_ok ?_ | refine x_lenS ?_ | refine x_lssT ?_ | refine x_lssF ?_ | refine x_lss (fun hc => ?_) (fun hc => ?_) | refine x_gtrT ?_ | refine x_gtrF ?_ | refine x_gtr (fun hc => ?_) (fun hc => ?_) | refine x_eqlT ?_ | refine x_eqlF ?_ | refine x_eql (fun hc => ?_) (fun hc => ?_) | refine x_neqT ?_ | refine x_neqF ?_ | refine x_neq (fun hc => ?_) (fun hc => ?_) | refine x_eqlB ?_ | refine x_eqlST ?_ | refine x_eqlSF ?_ | refine x_eqlS (fun hc => ?_) (fun hc => ?_) | refine x_eqlI ?_ | refine x_eqlN ?_ | refine x_neqB ?_ | refine x_neqST ?_ | refine x_neqSF ?_ | refine x_neqS (fun hc => ?_) (fun hc => ?_) | refine x_neqI ?_ | refine x_neqN ?_ | refine x_ixS tb_ok ?_ | refine x_ixA tb_ok ?_ | refine x_iaF tb_ok ?_ | refine x_iaO tb_ok ?_ | refine x_iaA tb_ok ?_ | refine x_iaAF tb_ok ?_ | refine x_slSf tb_ok ?_ | refine x_slSt tb_ok ?_ | refine x_slSm tb_ok ?_ | refine x_slFf tb_ok ?_ | refine x_slFt tb_ok ?_ | refine x_slFm tb_ok ?_ | refine x_eqlA tb_ok ?_ | refine x_eqlAS tb_ok (fun hc => ?_) (fun hc => ?_) | refine x_neqA tb_ok ?_ | refine x_neqAS tb_ok (fun hc => ?_) (fun hc => ?_))
                | refine x_ret ?_
                | refine x_nor ?_
                | exact x_le)
            rfl
    · rw [List.drop_eq_nil_of_le (by omega), go_end] at g3
      cases g3
  | some res =>
    refine fun1 tb_ok Try.func10 rfl Try.ntmps10 Try.results10 rfl fun N => ?_
    repeat' (first
        | with_reducible first | refine awp_seq ?_ | refine awp_region ?_ | refine awp_draw mixed ?_ | refine then_n ?_ | refine awp_skip ?_ | refine awp_block ?_ | refine awp_exit ?_ | refine awp_ret ?_ | refine awp_label ?_ | refine then_exit ?_ | refine then_ret ?_ | refine blk_n ?_ | refine blk_ret ?_ | refine blk_exit ?_ | refine blk_other rfl ?_ | refine then_k ?_
        | refine awp_true rfl ?_
        | refine awp_false rfl ?_
        | refine awp_split rfl (fun hb => ?_) (fun hb => ?_)
        | (refine isR ?_; first | refine x_far [] tb_ok rfl ?_ | refine r_nil ?_ | refine r_nild (by kernel_rfl) ?_ | refine x_call (c1 _) ?_ | refine x_call (c1) ?_ | refine x_bs tb_ok ?_ | refine x_addE ?_ | refine x_add ?_ | refine x_cat ?_ | refine x_lenF tb_ok ?_ | refine x_lenO tb_ok ?_ | refine x_lenN tb_ok ?_ | refine x_lenS ?_ | refine x_lssT ?_ | refine x_lssF ?_ | refine x_lss (fun hc => ?_) (fun hc => ?_) | refine x_gtrT ?_ | refine x_gtrF ?_ | refine x_gtr (fun hc => ?_) (fun hc => ?_) | refine x_eqlT ?_ | refine x_eqlF ?_ | refine x_eql (fun hc => ?_) (fun hc => ?_) | refine x_neqT ?_ | refine x_neqF ?_ | refine x_neq (fun hc => ?_) (fun hc => ?_) | refine x_eqlB ?_ | refine x_eqlST ?_ | refine x_eqlSF ?_ | refine x_eqlS (fun hc => ?_) (fun hc => ?_) | refine x_eqlI ?_ | refine x_eqlN ?_ | refine x_neqB ?_ | refine x_neqST ?_ | refine x_neqSF ?_ | refine x_neqS (fun hc => ?_) (fun hc => ?_) | refine x_neqI ?_ | refine x_neqN ?_ | refine x_ixS tb_ok ?_ | refine x_ixA tb_ok ?_ | refine x_iaF tb_ok ?_ | refine x_iaO tb_ok ?_ | refine x_iaA tb_ok ?_ | refine x_iaAF tb_ok ?_ | refine x_slSf tb_ok ?_ | refine x_slSt tb_ok ?_ | refine x_slSm tb_ok ?_ | refine x_slFf tb_ok ?_ | refine x_slFt tb_ok ?_ | refine x_slFm tb_ok ?_ | refine x_eqlA tb_ok ?_ | refine x_eqlAS tb_ok (fun hc => ?_) (fun hc => ?_) | refine x_neqA tb_ok ?_ | refine x_neqAS tb_ok (fun hc => ?_) (fun hc => ?_))
        | refine x_ret ?_
        | refine x_nor ?_
        | exact x_le)
    refine awp_name (t := 5) 39 2 (by decide) rfl rfl ?_
    refine awp_whileN (α := Nat × List Attr) (fun x => ⟨[(2, .nils), (4, .fro (ps.map strT)), (5, .own 0 0 x.2.length), (6, .int .i64 (x.1 : Int))], [(0, some (.els 39 2 (x.2.map Attr.v)))], 1, 55⟩) (fun x => x.1 ≤ ps.length ∧ x.2.length ≤ x.1 ∧ goF x.1 (ps.drop x.1) x.2 = some res) (fun x => ps.length - x.1) (0, []) (by exact x_le) ⟨Nat.zero_le _, Nat.le_refl _, hG⟩ ?_
    rintro ⟨k, out⟩ ⟨g1, g2, g3⟩
    dsimp only at g1 g2 g3 ⊢
    by_cases hk : k < ps.length
    · have f1 : (ps.map strT)[k]? = some (strT ps[k]) := by simp [hk]
      have f2 := hpl ps[k] (List.getElem_mem hk)
      rw [List.drop_eq_getElem_cons hk, go_on] at g3
      generalize ps[k] = p at *
      rcases k with _ | k
      · rw [piece0, pieceP] at g3
        have d1 := placeOf_v (c := 61) (l := p)
        have d2 := pos_in 61 p
        generalize posB 61 p = y at *
        by_cases hn : y < 1
        · rw [if_pos hn] at g3; cases g3
        · rw [if_neg hn] at g3
          repeat' (first
              | with_reducible first | refine awp_seq ?_ | refine awp_region ?_ | refine awp_draw mixed ?_ | refine then_n ?_ | refine awp_skip ?_ | refine awp_block ?_ | refine awp_exit ?_ | refine awp_ret ?_ | refine awp_label ?_ | refine then_exit ?_ | refine then_ret ?_ | refine blk_n ?_ | refine blk_ret ?_ | refine blk_exit ?_ | refine blk_other rfl ?_ | refine then_k ?_
              | refine awp_true rfl ?_
              | refine awp_false rfl ?_
              | refine awp_split rfl (fun hb => ?_) (fun hb => ?_)
              | (refine isR ?_; first | refine x_far [] tb_ok rfl ?_ | refine r_nil ?_ | refine r_nild (by kernel_rfl) ?_ | refine x_call (d1 _) ?_ | refine x_call (d1) ?_ | refine x_app Attr.v (a1 := (⟨p.take y.toNat, p.drop (y + 1).toNat⟩)) tb_ok ?_ | refine x_bs tb_ok ?_ | refine x_addE ?_ | refine x_add ?_ | refine x_cat ?_ | refine x_lenF tb_ok ?_ | refine x_lenO tb_ok ?_ | refine x_lenN tb_ok ?_ | refine x_lenS ?_ | refine x_lssT ?_ | refine x_lssF ?_ | refine x_lss (fun hc => ?_) (fun hc => ?_) | refine x_gtrT ?_ | refine x_gtrF ?_ | refine x_gtr (fun hc => ?_) (fun hc => ?_) | refine x_eqlT ?_ | refine x_eqlF ?_ | refine x_eql (fun hc => ?_) (fun hc => ?_) | refine x_neqT ?_ | refine x_neqF ?_ | refine x_neq (fun hc => ?_) (fun hc => ?_) | refine x_eqlB ?_ | refine x_eqlST ?_ | refine x_eqlSF ?_ | refine x_eqlS (fun hc => ?_) (fun hc => ?_) | refine x_eqlI ?_ | refine x_eqlN ?_ | refine x_neqB ?_ | refine x_neqST ?_ | refine x_neqSF ?_ | refine x_neqS (fun hc => ?_) (fun hc => ?_) | refine x_neqI ?_ | refine x_neqN ?_ | refine x_ixS tb_ok ?_ | refine x_ixA tb_ok ?_ | refine x_iaF tb_ok ?_ | refine x_iaO tb_ok ?_ | refine x_iaA tb_ok ?_ | refine x_iaAF tb_ok ?_ | refine x_slSf tb_ok ?_ | refine x_slSt tb_ok ?_ | refine x_slSm tb_ok ?_ | refine x_slFf tb_ok ?_ | refine x_slFt tb_ok ?_ | refine x_slFm tb_ok ?_ | refine x_eqlA tb_ok ?_ | refine x_eqlAS tb_ok (fun hc => ?_) (fun hc => ?_) | refine x_neqA tb_ok ?_ | refine x_neqAS tb_ok (fun hc => ?_) (fun hc => ?_))
              | refine x_ret ?_
              | refine x_nor ?_
              | exact x_le)
          refine ⟨(0 + 1, out ++ [⟨p.take y.toNat, p.drop (y + 1).toNat⟩]), ⟨by dsimp only; omega, by dsimp only; rw [snoc_len]; omega, g3⟩, by dsimp only; omega, ?_⟩
          exact (by exact x_len [1])
      · rw [piece2] at g3
        cases p with
        | nil => cases g3
        | cons b q =>
          have z1 : (b :: q).length = q.length + 1 := rfl
          rw [z1] at f2
          have z4 : ((b :: q).drop ((1 : Int)).toNat).length = q.length := rfl
          have z2 : (b :: q)[((0 : Int)).toNat]? = some b := rfl
          have hb := byte_eq (c := b) (d := 32)
          dsimp only at g3
          by_cases hq : b = 32
          · have hb2 : (b.toNat : Int) = 32 := hb.1 hq
            rw [if_pos hq] at g3
            have d1 := placeOf_v (c := 61) (l := q)
            have d2 := pos_in 61 q
            generalize posB 61 q = y at *
            clear hb
            by_cases hn : y < 1
            · rw [if_pos hn] at g3; cases g3
            · rw [if_neg hn] at g3
              repeat' (first
                  | with_reducible first | refine awp_seq ?_ | refine awp_region ?_ | refine awp_draw mixed ?_ | refine then_n ?_ | refine awp_skip ?_ | refine awp_block ?_ | refine awp_exit ?_ | refine awp_ret ?_ | refine awp_label ?_ | refine then_exit ?_ | refine then_ret ?_ | refine blk_n ?_ | refine blk_ret ?_ | refine blk_exit ?_ | refine blk_other rfl ?_ | refine then_k ?_
                  | refine awp_true rfl ?_
                  | refine awp_false rfl ?_
                  | refine awp_split rfl (fun hb => ?_) (fun hb => ?_)
                  | (refine isR ?_; first | refine x_far [] tb_ok rfl ?_ | refine r_nil ?_ | refine r_nild (by kernel_rfl) ?_ | refine x_call (d1 _) ?_ | refine x_call (d1) ?_ | refine x_app Attr.v (a1 := (⟨q.take y.toNat, q.drop (y + 1).toNat⟩)) tb_ok ?_ | refine x_bs tb_ok ?_ | refine x_addE ?_ | refine x_add ?_ | refine x_cat ?_ | refine x_lenF tb_ok ?_ | refine x_lenO tb_ok ?_ | refine x_lenN tb_ok ?_ | refine x_lenS ?_ | refine x_lssT ?_ | refine x_lssF ?_ | refine x_lss (fun hc => ?_) (fun hc => ?_) | refine x_gtrT ?_ | refine x_gtrF ?_ | refine x_gtr (fun hc => ?_) (fun hc => ?_) | refine x_eqlT ?_ | refine x_eqlF ?_ | refine x_eql (fun hc => ?_) (fun hc => ?_) | refine x_neqT ?_ | refine x_neqF ?_ | refine x_neq (fun hc => ?_) (fun hc => ?_) | refine x_eqlB ?_ | refine x_eqlST ?_ | refine x_eqlSF ?_ | refine x_eqlS (fun hc => ?_) (fun hc => ?_) | refine x_eqlI ?_ | refine x_eqlN ?_ | refine x_neqB ?_ | refine x_neqST ?_ | refine x_neqSF ?_ | refine x_neqS (fun hc => ?_) (fun hc => ?_) | refine x_neqI ?_ | refine x_neqN ?_ | refine x_ixS tb_ok ?_ | refine x_ixA tb_ok ?_ | refine x_iaF tb_ok ?_ | refine x_iaO tb_ok ?_ | refine x_iaA tb_ok ?_ | refine x_iaAF tb_ok ?_ | refine x_slSf tb_ok ?_ | refine x_slSt tb_ok ?_ | refine x_slSm tb_ok ?_ | refine x_slFf tb_ok ?_ | refine x_slFt tb_ok ?_ | refine x_slFm tb_ok ?_ | refine x_eqlA tb_ok ?_ | refine x_eqlAS tb_ok (fun hc => ?_) (fun hc => ?_) | refine x_neqA tb_ok ?_ | refine x_neqAS tb_ok (fun hc => ?_) (fun hc => ?_))
                  | refine x_ret ?_
                  | refine x_nor ?_
                  | exact x_le)
              refine ⟨(k + 1 + 1, out ++ [⟨q.take y.toNat, q.drop (y + 1).toNat⟩]), ⟨by dsimp only; omega, by dsimp only; rw [snoc_len]; omega, g3⟩, by dsimp only; omega, ?_⟩
              exact (by exact x_len [1])
          · rw [if_neg hq] at g3; cases g3
    · rw [List.drop_eq_nil_of_le (by omega), go_end] at g3
      have e : out = res := Option.some.inj g3
      subst e
      repeat' (first
          | with_reducible first | refine awp_seq ?_ | refine awp_region ?_ | refine awp_draw mixed ?_ | refine then_n ?_ | refine awp_skip ?_ | refine awp_block ?_ | refine awp_exit ?_ | refine awp_ret ?_ | refine awp_label ?_ | refine then_exit ?_ | refine then_ret ?_ | refine blk_n ?_ | refine blk_ret ?_ | refine blk_exit ?_ | refine blk_other rfl ?_ | refine then_k ?_
          | refine awp_true rfl ?_
          | refine awp_false rfl ?_
          | refine awp_split rfl (fun hb => ?_) (fun hb => ?_)
          | (refine isR ?_; first | refine x_far [] tb_ok rfl ?_ | refine r_nil ?_ | refine r_nild (by kernel_rfl) ?_ | refine x_bs tb_ok ?_ | refine x_addE ?_ | refine x_add ?_ | refine x_cat ?_ | refine x_lenF tb_ok ?_ | refine x_lenO tb_ok ?_ | refine x_lenN tb_ok ?_ | refine x_lenS ?_ | refine x_lssT ?_ | refine x_lssF ?_ | refine x_lss (fun hc => ?_) (fun hc => ?_) | refine x_gtrT ?_ | refine x_gtrF ?_ | refine x_gtr (fun hc => ?_) (fun hc => ?_) | refine x_eqlT ?_ | refine x_eqlF ?_ | refine x_eql (fun hc => ?_) (fun hc => ?_) | refine x_neqT ?_ | refine x_neqF ?_ | refine x_neq (fun hc => ?_) (fun hc => ?_) | refine x_eqlB ?_ | refine x_eqlST ?_ | refine x_eqlSF ?_ | refine x_eqlS (fun hc => ?_) (fun hc => ?_) | refine x_eqlI ?_ | refine x_eqlN ?_ | refine x_neqB ?_ | refine x_neqST ?_ | refine x_neqSF ?_ | refine x_neqS (fun hc => ?_) (fun hc => ?_) | refine x_neqI ?_ | refine x_neqN ?_ | refine x_ixS tb_ok ?_ | refine x_ixA tb_ok ?_ | refine x_iaF tb_ok ?_ | refine x_iaO tb_ok ?_ | refine x_iaA tb_ok ?_ | refine x_iaAF tb_ok ?_ | refine x_slSf tb_ok ?_ | refine x_slSt tb_ok ?_ | refine x_slSm tb_ok ?_ | refine x_slFf tb_ok ?_ | refine x_slFt tb_ok ?_ | refine x_slFm tb_ok ?_ | refine x_eqlA tb_ok ?_ | refine x_eqlAS tb_ok (fun hc => ?_) (fun hc => ?_) | refine x_neqA tb_ok ?_ | refine x_neqAS tb_ok (fun hc => ?_) (fun hc => ?_))
          | refine x_ret ?_
          | refine x_nor ?_
          | exact x_le)
      show V.tup [V.fro (List.take out.length (List.drop 0 (out.map Attr.v))), _] = _
      rw [List.drop_zero, List.take_of_length_le (by simp)]; rfl
end Go.Proofs.Ytclekbkpcigkcaa.LineC
