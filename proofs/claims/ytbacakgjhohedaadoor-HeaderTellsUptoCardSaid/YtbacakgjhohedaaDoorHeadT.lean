/- Headers: the walks of Write and of the document's own. -/
import Derived.Test.YtbacakgjhohedaaDoorWk
import Derived.Test.YtbacakgjhohedaaDoorHeadS
namespace Go.Proofs.YtbacakgjhohedaaDoor.HeadT
open Go.RowKit Mem Abs TreeW WordP WordS HeadP Rune Bld HeadW HeadR

/-- No text of a raw cookie is long. -/
def Small (r : Raw) : Prop := r.name.length ≤ 1048576 ∧ r.value.length ≤ 1048576 ∧ ∀ a ∈ r.attrs, a.name.length ≤ 1048576 ∧ a.value.length ≤ 1048576
def accF (X : List UInt8) (L : List Attr) (k : Nat) : List UInt8 := X ++ (L.take k).flatMap attrT
theorem acc0 (X : List UInt8) (L : List Attr) : accF X L 0 = X := by simp [accF]
theorem acc_on {X : List UInt8} {L : List Attr} {k : Nat} {a : Attr} (h : L[k]? = some a) : accF X L (k + 1) = if a.value = [] then accF X L k ++ ([59, 32] ++ a.name) else (accF X L k ++ ([59, 32] ++ a.name)) ++ ([61] ++ a.value) := by
  obtain ⟨hk, rfl⟩ := List.getElem?_eq_some_iff.1 h
  unfold accF
  rw [List.take_succ_eq_append_getElem hk, List.flatMap_append]
  by_cases hv : (L[k]).value = []
  · rw [if_pos hv]; simp [attrT, hv]
  · rw [if_neg hv]; simp [attrT, hv]
theorem acc_len {X : List UInt8} {L : List Attr} (h : ∀ a ∈ L, a.name.length ≤ 1048576 ∧ a.value.length ≤ 1048576) (k : Nat) : (accF X L k).length ≤ X.length + k * 2097155 := by
  induction k with
  | zero => rw [acc0]; exact Nat.le_add_right _ _
  | succ k ih =>
    rw [Nat.succ_mul]
    by_cases hk : k < L.length
    · have := h L[k] (List.getElem_mem hk)
      rw [acc_on (List.getElem?_eq_getElem hk)]
      split
      · simp only [List.length_append, List.length_cons, List.length_nil]; omega
      · simp only [List.length_append, List.length_cons, List.length_nil]; omega
    · have e : accF X L (k + 1) = accF X L k := by unfold accF; rw [List.take_of_length_le (by omega), List.take_of_length_le (by omega)]
      rw [e]; exact Nat.le_trans ih (Nat.add_le_add_left (Nat.le_add_right _ _) _)
theorem acc_end (n v : List UInt8) (L : List Attr) : accF ((n ++ [61]) ++ v) L L.length = textF ⟨n, v, L⟩ := by
  unfold accF textF
  rw [List.take_length]; simp
theorem check_len {r : Raw} (h : checkF r = 0) : r.attrs.length ≤ 12 := by
  unfold checkF at h
  split at h
  · split at h
    · cases h
    · omega
  · cases h
set_option maxRecDepth 100000 in
set_option maxHeartbeats 4000000 in
theorem rawText_v {r : Raw} (hs : Small r) : ACalls Tryd.prog 10 [r.v] (.tup [strT (writeF r).1, .int .i64 (writeF r).2]) := by
  have c1 := rawCheck_v (r := r)
  unfold writeF
  by_cases h0 : checkF r = 0
  · rw [if_pos h0]
    rw [h0] at c1
    have h12 := check_len h0
    obtain ⟨n, v, L⟩ := r
    obtain ⟨s1, s2, s3⟩ := hs
    dsimp only at s1 s2 s3 h12
    have hx : ((L.map Attr.v).length : Int) = (L.length : Int) := by simp
    show ACalls _ _ [.agg [strT n, strT v, .fro (L.map Attr.v)]] _
    have c1 : ACalls Tryd.prog 14 [.agg [strT n, strT v, .fro (L.map Attr.v)]] (.int .i64 0) := c1
    have hlen := acc_len (X := (n ++ [61]) ++ v) s3
    have hX : ((n ++ [61]) ++ v).length ≤ 2097153 := by simp; omega
    have hend := acc_end n v L
    have hon := fun k a => acc_on (X := (n ++ [61]) ++ v) (L := L) (k := k) (a := a)
    have h00 := acc0 ((n ++ [61]) ++ v) L
    generalize hacc : accF ((n ++ [61]) ++ v) L = acc at *
    refine fun1 tb_ok Tryd.func10 rfl Tryd.ntmps10 Tryd.results10 rfl fun N => ?_
    repeat' (first | refine zt ?_ | (refine isR ?_; first | refine zo ?_ | refine zk c1 ?_ | refine zA ?_ | refine zL ?_ | refine zc1 ?_ | refine zc3 ?_ | refine zc6 ?_ | refine zI ?_ | (refine zs1 ?_ ?_ <;> intro hc) | (refine zs3 ?_ ?_ <;> intro hc) | (refine zs6 ?_ ?_ <;> intro hc)) | refine awp_split rfl (fun hb => ?_) (fun hb => ?_) | refine zr ?_ | exact x_le)
    refine awp_for (fun k => ⟨[(1, .fp [strT n, strT v, .fro (L.map Attr.v)] 0), (5, strT (acc k)), (6, .int .i64 (k : Int))], [], 0, 54⟩) (fun k => k ≤ L.length) L.length 0 (by simp only [h00]; exact (by exact x_le)) (Nat.zero_le _) ?_
    intro k hk
    by_cases hk2 : k < L.length
    · have e1 : (L.map Attr.v)[k]? = some (L[k]).v := by simp [hk2]
      have e2 : L[k]? = some L[k] := by simp [hk2]
      have e3 := hon k L[k] e2
      have s4 := s3 L[k] (List.getElem_mem hk2)
      have hlk := hlen k
      simp only [e3]
      generalize L[k] = a at *
      generalize acc k = p at *
      obtain ⟨an, av⟩ := a
      dsimp only at *
      by_cases hv : av = []
      · rw [if_pos hv]
        repeat' (first | refine zt ?_ | (refine isR ?_; first | refine zo ?_ | refine zA ?_ | refine zL ?_ | refine zc1 ?_ | refine zc3 ?_ | refine zc6 ?_ | refine zI ?_ | (refine zs1 ?_ ?_ <;> intro hc) | (refine zs3 ?_ ?_ <;> intro hc) | (refine zs6 ?_ ?_ <;> intro hc)) | refine awp_split rfl (fun hb => ?_) (fun hb => ?_) | refine zr ?_ | exact x_le)
        refine ⟨by omega, hk2, ?_⟩
        exact (by exact x_le)
      · rw [if_neg hv]
        repeat' (first | refine zt ?_ | (refine isR ?_; first | refine zo ?_ | refine zA ?_ | refine zL ?_ | refine zc1 ?_ | refine zc3 ?_ | refine zc6 ?_ | refine zI ?_ | (refine zs1 ?_ ?_ <;> intro hc) | (refine zs3 ?_ ?_ <;> intro hc) | (refine zs6 ?_ ?_ <;> intro hc)) | refine awp_split rfl (fun hb => ?_) (fun hb => ?_) | refine zr ?_ | exact x_le)
        refine ⟨by omega, hk2, ?_⟩
        exact (by exact x_le)
    · obtain rfl : k = L.length := by omega
      rw [← hend]
      generalize acc L.length = p at *
      by_cases hp : 400 < p.length
      · rw [if_pos hp]
        repeat' (first | refine zt ?_ | (refine isR ?_; first | refine zo ?_ | refine zA ?_ | refine zL ?_ | refine zc1 ?_ | refine zc3 ?_ | refine zc6 ?_ | refine zI ?_ | (refine zs1 ?_ ?_ <;> intro hc) | (refine zs3 ?_ ?_ <;> intro hc) | (refine zs6 ?_ ?_ <;> intro hc)) | refine awp_split rfl (fun hb => ?_) (fun hb => ?_) | refine zr ?_ | exact x_le)
        rfl
      · rw [if_neg hp]
        repeat' (first | refine zt ?_ | (refine isR ?_; first | refine zo ?_ | refine zA ?_ | refine zL ?_ | refine zc1 ?_ | refine zc3 ?_ | refine zc6 ?_ | refine zI ?_ | (refine zs1 ?_ ?_ <;> intro hc) | (refine zs3 ?_ ?_ <;> intro hc) | (refine zs6 ?_ ?_ <;> intro hc)) | refine awp_split rfl (fun hb => ?_) (fun hb => ?_) | refine zr ?_ | exact x_le)
        rfl
  · rw [if_neg h0]
    generalize checkF r = m at *
    refine fun1 tb_ok Tryd.func10 rfl Tryd.ntmps10 Tryd.results10 rfl fun N => ?_
    repeat' (first | refine zt ?_ | (refine isR ?_; first | refine zo ?_ | refine zk c1 ?_ | refine zA ?_ | refine zL ?_ | refine zc1 ?_ | refine zc3 ?_ | refine zc6 ?_ | refine zI ?_ | (refine zs1 ?_ ?_ <;> intro hc) | (refine zs3 ?_ ?_ <;> intro hc) | (refine zs6 ?_ ?_ <;> intro hc)) | refine awp_split rfl (fun hb => ?_) (fun hb => ?_) | refine zr ?_ | exact x_le)
    rfl
set_option maxRecDepth 100000 in
set_option maxHeartbeats 4000000 in
theorem write_v {r : Raw} (hs : Small r) : ACalls Tryd.prog 8 [r.v] (.tup [strT (writeF r).1, .int .i64 (writeF r).2]) := by
  have c1 := check_v (r := r)
  unfold writeF
  by_cases h0 : checkF r = 0
  · rw [if_pos h0]
    rw [h0] at c1
    have h12 := check_len h0
    obtain ⟨n, v, L⟩ := r
    obtain ⟨s1, s2, s3⟩ := hs
    dsimp only at s1 s2 s3 h12
    have hx : ((L.map Attr.v).length : Int) = (L.length : Int) := by simp
    show ACalls _ _ [.agg [strT n, strT v, .fro (L.map Attr.v)]] _
    have c1 : ACalls Tryd.prog 13 [.agg [strT n, strT v, .fro (L.map Attr.v)]] (.int .i64 0) := c1
    have hlen := acc_len (X := (n ++ [61]) ++ v) s3
    have hX : ((n ++ [61]) ++ v).length ≤ 2097153 := by simp; omega
    have hend := acc_end n v L
    have hon := fun k a => acc_on (X := (n ++ [61]) ++ v) (L := L) (k := k) (a := a)
    have h00 := acc0 ((n ++ [61]) ++ v) L
    have hne : ∀ k, accF ((n ++ [61]) ++ v) L k ≠ [] := fun k => by unfold accF; simp
    have w0 := write0 (q := (n ++ [61]) ++ v) (by omega)
    generalize hacc : accF ((n ++ [61]) ++ v) L = acc at *
    refine fun1 tb_ok Tryd.func8 rfl Tryd.ntmps8 Tryd.results8 rfl fun N => ?_
    repeat' (first | refine zt ?_ | (refine isR ?_; first | refine zo ?_ | refine zk c1 ?_ | refine x_mv [0] [1] (w0 _) ?_ | refine x_m0v [0] [1] (w0 _) ?_ | refine x_mv [0] [1] (w0) ?_ | refine x_m0v [0] [1] (w0) ?_ | refine zA ?_ | refine zL ?_ | refine zc1 ?_ | refine zc3 ?_ | refine zc6 ?_ | refine zI ?_ | (refine zs1 ?_ ?_ <;> intro hc) | (refine zs3 ?_ ?_ <;> intro hc) | (refine zs6 ?_ ?_ <;> intro hc)) | refine awp_split rfl (fun hb => ?_) (fun hb => ?_) | refine zr ?_ | exact x_le)
    refine awp_forN (fun k => ⟨[(1, .fp [strT n, strT v, .fro (L.map Attr.v)] 0), (5, .loc 0 0 0), (6, .fn (.func 20) [.loc 0 0 0] []), (24, .fro (L.map Attr.v)), (25, .int .i64 (L.map Attr.v).length), (26, .int .i64 (k : Int))], [(0, some (used 0 1 (acc k))), (1, some (bytesB (acc k)))], 2, 47⟩) (fun k => k ≤ L.length) L.length 0 (by simp only [h00]; exact (by exact x_le)) (Nat.zero_le _) ?_
    intro k hk
    have hlk := hlen k
    by_cases hk2 : k < L.length
    · have e1 : (L.map Attr.v)[k]? = some (L[k]).v := by simp [hk2]
      have e2 : L[k]? = some L[k] := by simp [hk2]
      have e3 := hon k L[k] e2
      have s4 := s3 L[k] (List.getElem_mem hk2)
      simp only [e3]
      generalize L[k] = a at *
      generalize acc k = p at *
      obtain ⟨an, av⟩ := a
      dsimp only at *
      have w1 := write1 (p := p) (q := [59, 32] ++ an) (by simp; omega)
      have w2 := write1 (p := p ++ ([59, 32] ++ an)) (q := [61] ++ av) (by simp; omega)
      by_cases hv : av = []
      · rw [if_pos hv]
        repeat' (first | refine zt ?_ | (refine isR ?_; first | refine zo ?_ | refine x_mv [0,1] [2] (w1 _) ?_ | refine x_m0v [0,1] [2] (w1 _) ?_ | refine x_mv [0,1] [2] (w1) ?_ | refine x_m0v [0,1] [2] (w1) ?_ | refine x_mv [0,1] [3] (w1 _) ?_ | refine x_m0v [0,1] [3] (w1 _) ?_ | refine x_mv [0,1] [3] (w1) ?_ | refine x_m0v [0,1] [3] (w1) ?_ | refine zA ?_ | refine zL ?_ | refine zc1 ?_ | refine zc3 ?_ | refine zc6 ?_ | refine zI ?_ | (refine zs1 ?_ ?_ <;> intro hc) | (refine zs3 ?_ ?_ <;> intro hc) | (refine zs6 ?_ ?_ <;> intro hc)) | refine awp_split rfl (fun hb => ?_) (fun hb => ?_) | refine zr ?_ | exact x_le)
        refine ⟨by omega, hk2, ?_⟩
        exact (by exact x_len [0,3])
      · rw [if_neg hv]
        repeat' (first | refine zt ?_ | (refine isR ?_; first | refine zo ?_ | refine x_mv [0,1] [3] (w1 _) ?_ | refine x_m0v [0,1] [3] (w1 _) ?_ | refine x_mv [0,1] [3] (w1) ?_ | refine x_m0v [0,1] [3] (w1) ?_ | refine x_mv [0,3] [4] (w2 _) ?_ | refine x_m0v [0,3] [4] (w2 _) ?_ | refine x_mv [0,3] [4] (w2) ?_ | refine x_m0v [0,3] [4] (w2) ?_ | refine zA ?_ | refine zL ?_ | refine zc1 ?_ | refine zc3 ?_ | refine zc6 ?_ | refine zI ?_ | (refine zs1 ?_ ?_ <;> intro hc) | (refine zs3 ?_ ?_ <;> intro hc) | (refine zs6 ?_ ?_ <;> intro hc)) | refine awp_split rfl (fun hb => ?_) (fun hb => ?_) | refine zr ?_ | exact x_le)
        refine ⟨by omega, hk2, ?_⟩
        exact (by exact x_len [0,4])
    · obtain rfl : k = L.length := by omega
      rw [← hend]
      have hne2 := hne L.length
      generalize acc L.length = p at *
      have w3 := len1 (p := p)
      have w4 := string1 (p := p) hne2
      by_cases hp : 400 < p.length
      · rw [if_pos hp]
        repeat' (first | refine zt ?_ | (refine isR ?_; first | refine zo ?_ | refine x_m [0,1] [] (w3 _) ?_ | refine x_m0 [0,1] [] (w3 _) ?_ | refine x_m [0,1] [] (w3) ?_ | refine x_m0 [0,1] [] (w3) ?_ | refine zA ?_ | refine zL ?_ | refine zc1 ?_ | refine zc3 ?_ | refine zc6 ?_ | refine zI ?_ | (refine zs1 ?_ ?_ <;> intro hc) | (refine zs3 ?_ ?_ <;> intro hc) | (refine zs6 ?_ ?_ <;> intro hc)) | refine awp_split rfl (fun hb => ?_) (fun hb => ?_) | refine zr ?_ | exact x_le)
        rfl
      · rw [if_neg hp]
        repeat' (first | refine zt ?_ | (refine isR ?_; first | refine zo ?_ | refine x_m [0,1] [] (w3 _) ?_ | refine x_m0 [0,1] [] (w3 _) ?_ | refine x_m [0,1] [] (w3) ?_ | refine x_m0 [0,1] [] (w3) ?_ | refine x_m [0,1] [] (w4 _) ?_ | refine x_m0 [0,1] [] (w4 _) ?_ | refine x_m [0,1] [] (w4) ?_ | refine x_m0 [0,1] [] (w4) ?_ | refine zA ?_ | refine zL ?_ | refine zc1 ?_ | refine zc3 ?_ | refine zc6 ?_ | refine zI ?_ | (refine zs1 ?_ ?_ <;> intro hc) | (refine zs3 ?_ ?_ <;> intro hc) | (refine zs6 ?_ ?_ <;> intro hc)) | refine awp_split rfl (fun hb => ?_) (fun hb => ?_) | refine zr ?_ | exact x_le)
        rfl
  · rw [if_neg h0]
    generalize checkF r = m at *
    refine fun1 tb_ok Tryd.func8 rfl Tryd.ntmps8 Tryd.results8 rfl fun N => ?_
    repeat' (first | refine zt ?_ | (refine isR ?_; first | refine zo ?_ | refine zk c1 ?_ | refine zA ?_ | refine zL ?_ | refine zc1 ?_ | refine zc3 ?_ | refine zc6 ?_ | refine zI ?_ | (refine zs1 ?_ ?_ <;> intro hc) | (refine zs3 ?_ ?_ <;> intro hc) | (refine zs6 ?_ ?_ <;> intro hc)) | refine awp_split rfl (fun hb => ?_) (fun hb => ?_) | refine zr ?_ | exact x_le)
    rfl
end Go.Proofs.YtbacakgjhohedaaDoor.HeadT
