/- Headers: the walks of the laws. -/
import Derived.Test.YtbacakgjhohedaaDoorWk
import Derived.Test.YtbacakgjhohedaaDoorHeadT
import Derived.Test.YtbacakgjhohedaaDoorHeadL
namespace Go.Proofs.YtbacakgjhohedaaDoor.HeadM
open Go.RowKit Mem Abs TreeW WordP WordS HeadP Rune Bld HeadW HeadR HeadS HeadT HeadL

def wantR : Raw := ⟨([105, 100] : List UInt8), ([97, 61, 98] : List UInt8), [⟨([112, 97, 116, 104] : List UInt8), ([47, 120] : List UInt8)⟩, ⟨([115, 101, 99, 117, 114, 101] : List UInt8), []⟩]⟩
theorem b1 : rawF ([32, 105, 100, 32, 61, 32, 97, 61, 98, 32, 59, 59, 32, 80, 97, 116, 104, 61, 47, 120, 59, 32, 83, 69, 67, 85, 82, 69, 59, 61, 122] : List UInt8) = (wantR, 0) := by decide +kernel
theorem b2 : writeF wantR = (([105, 100, 61, 97, 61, 98, 59, 32, 112, 97, 116, 104, 61, 47, 120, 59, 32, 115, 101, 99, 117, 114, 101] : List UInt8), 0) := by decide +kernel
theorem b3 : rawF ([110, 111, 32, 112, 97, 105, 114, 59, 32, 112, 97, 116, 104, 61, 47] : List UInt8) = (raw0, 1) := by decide +kernel
theorem b4 : checkF ⟨([97, 61, 98] : List UInt8), [], []⟩ = 1 := by decide +kernel
theorem wantS : Small wantR := ⟨by decide, by decide, fun a ha => by
  simp only [wantR, List.mem_cons, List.not_mem_nil, or_false] at ha
  rcases ha with rfl | rfl <;> exact ⟨by decide, by decide⟩⟩
set_option maxRecDepth 100000 in
set_option maxHeartbeats 4000000 in
theorem begun_v : ACalls Tryd.prog 11 [] (.bool true) := by
  have c1 := read_v (s := ([32, 105, 100, 32, 61, 32, 97, 61, 98, 32, 59, 59, 32, 80, 97, 116, 104, 61, 47, 120, 59, 32, 83, 69, 67, 85, 82, 69, 59, 61, 122] : List UInt8))
  have c2 := write_v wantS
  have c3 := read_v (s := ([110, 111, 32, 112, 97, 105, 114, 59, 32, 112, 97, 116, 104, 61, 47] : List UInt8))
  have c4 := check_v (r := ⟨([97, 61, 98] : List UInt8), [], []⟩)
  have c5 := sameRaw_v (a := wantR) (b := wantR)
  rw [b1] at c1; rw [b2] at c2; rw [b3] at c3; rw [b4] at c4
  rw [decide_eq_true rfl] at c5
  have c4 : ACalls Tryd.prog 13 [.agg [strT ([97, 61, 98] : List UInt8), strT [], .nils]] (.int .i64 1) := c4.nf rfl
  dsimp only at c1 c2 c3
  refine fun0 tb_ok Tryd.func11 rfl Tryd.ntmps11 Tryd.results11 fun N => ?_
  repeat' (first | refine zt ?_ | (refine isR ?_; first | refine zo ?_ | refine zk c1 ?_ | refine zk c2 ?_ | refine zk c3 ?_ | refine zk c4 ?_ | refine zk c5 ?_ | refine x_bs tb_ok ?_ | refine zc5 ?_ | (refine zs5 ?_ ?_ <;> intro hc)) | refine awp_split rfl (fun hb => ?_) (fun hb => ?_) | refine zr ?_ | exact x_le)
  rfl
set_option maxRecDepth 100000 in
set_option maxHeartbeats 4000000 in
theorem tells_law {s : List UInt8} {r : Raw} (hr : Small r) : ACalls Tryd.prog 3 [strT s, r.v] (.bool true) := by
  have c1 := read_v (s := s)
  have c2 := write_v hr
  have c3 := rawOf_v (s := s)
  have c4 := rawText_v hr
  have c5 := check_v (r := r)
  have c6 := rawCheck_v (r := r)
  have c7 := sameRaw_v (a := (rawF s).1) (b := (rawF s).1)
  rw [decide_eq_true rfl] at c7
  generalize rawF s = p at *
  generalize writeF r = q at *
  generalize checkF r = n at *
  refine fun2 tb_ok Tryd.func3 rfl Tryd.ntmps3 Tryd.results3 rfl fun N => ?_
  repeat' (first | refine zt ?_ | (refine isR ?_; first | refine zo ?_ | refine zk c1 ?_ | refine zk c2 ?_ | refine zk c3 ?_ | refine zk c4 ?_ | refine zk c5 ?_ | refine zk c6 ?_ | refine zk c7 ?_ | refine zk begun_v ?_ | refine zc5 ?_ | (refine zs5 ?_ ?_ <;> intro hc)) | refine awp_split rfl (fun hb => ?_) (fun hb => ?_) | refine zr ?_ | exact x_le)
  rfl
set_option maxRecDepth 100000 in
set_option maxHeartbeats 4000000 in
theorem back_law {r : Raw} (hr : Small r) : ACalls Tryd.prog 4 [r.v] (.bool true) := by
  have c1 := write_v hr
  by_cases h0 : checkF r = 0
  · by_cases hl : 400 < (textF r).length
    · rw [show writeF r = ([], 2) by unfold writeF; rw [if_pos h0, if_pos hl]] at c1
      refine fun1 tb_ok Tryd.func4 rfl Tryd.ntmps4 Tryd.results4 rfl fun N => ?_
      repeat' (first | refine zt ?_ | (refine isR ?_; first | refine zo ?_ | refine zk c1 ?_ | refine zk begun_v ?_ | refine zc5 ?_ | refine zc6 ?_ | (refine zs5 ?_ ?_ <;> intro hc) | (refine zs6 ?_ ?_ <;> intro hc)) | refine awp_split rfl (fun hb => ?_) (fun hb => ?_) | refine zr ?_ | exact x_le)
      rfl
    · rw [show writeF r = (textF r, 0) by unfold writeF; rw [if_pos h0, if_neg hl]] at c1
      have c2 := read_v (s := textF r)
      rw [back h0 (by omega)] at c2
      have c3 := sameRaw_v (a := r) (b := r)
      rw [decide_eq_true rfl] at c3
      generalize textF r = t at *
      refine fun1 tb_ok Tryd.func4 rfl Tryd.ntmps4 Tryd.results4 rfl fun N => ?_
      repeat' (first | refine zt ?_ | (refine isR ?_; first | refine zo ?_ | refine zk c1 ?_ | refine zk begun_v ?_ | refine zk c2 ?_ | refine zk c3 ?_ | refine zc5 ?_ | refine zc6 ?_ | (refine zs5 ?_ ?_ <;> intro hc) | (refine zs6 ?_ ?_ <;> intro hc)) | refine awp_split rfl (fun hb => ?_) (fun hb => ?_) | refine zr ?_ | exact x_le)
      rfl
  · rw [show writeF r = ([], checkF r) by unfold writeF; rw [if_neg h0]] at c1
    generalize checkF r = n at *
    refine fun1 tb_ok Tryd.func4 rfl Tryd.ntmps4 Tryd.results4 rfl fun N => ?_
    repeat' (first | refine zt ?_ | (refine isR ?_; first | refine zo ?_ | refine zk c1 ?_ | refine zk begun_v ?_ | refine zc5 ?_ | refine zc6 ?_ | (refine zs5 ?_ ?_ <;> intro hc) | (refine zs6 ?_ ?_ <;> intro hc)) | refine awp_split rfl (fun hb => ?_) (fun hb => ?_) | refine zr ?_ | exact x_le)
    rfl
theorem read_err {s : List UInt8} (h : (rawF s).2 ≠ 0) : (rawF s).1 = raw0 := by
  by_cases h1 : 400 < s.length
  · unfold rawF; rw [if_pos h1]
  cases h2 : letF s with
  | false => unfold rawF; rw [if_neg h1, if_pos h2]
  | true =>
    cases h3 : split 59 s with
    | nil => exact absurd h3 (split_ne 59 s)
    | cons p q =>
      rw [read_of (by omega) h2 h3] at h ⊢
      by_cases g1 : (pairF p).2.2 = false ∨ (pairF p).1 = []
      · rw [if_pos g1]
      · rw [if_neg g1] at h ⊢
        by_cases g2 : 12 < (q.filterMap attrF).length
        · rw [if_pos g2]
        · rw [if_neg g2] at h
          exact absurd rfl h
set_option maxRecDepth 100000 in
set_option maxHeartbeats 4000000 in
theorem twice_law {s : List UInt8} : ACalls Tryd.prog 5 [strT s] (.bool true) := by
  have c1 := read_v (s := s)
  by_cases h0 : (rawF s).2 = 0
  · obtain ⟨r, hr⟩ : ∃ r, rawF s = (r, 0) := ⟨(rawF s).1, by rw [← h0]⟩
    rw [hr] at c1
    have hc := read_check hr
    obtain ⟨s1, s2, s3⟩ := read_small hr
    have hs : Small r := ⟨by omega, by omega, fun a ha => by have := s3 a ha; omega⟩
    have c2 := write_v hs
    have c3 := check_v (r := r)
    rw [hc] at c3
    by_cases hl : 400 < (textF r).length
    · rw [show writeF r = ([], 2) by unfold writeF; rw [if_pos hc, if_pos hl]] at c2
      have c4 := read_v (s := [])
      rw [show rawF [] = (raw0, 1) by decide +kernel] at c4
      refine fun1 tb_ok Tryd.func5 rfl Tryd.ntmps5 Tryd.results5 rfl fun N => ?_
      repeat' (first | refine zt ?_ | (refine isR ?_; first | refine zo ?_ | refine zk c1 ?_ | refine zk begun_v ?_ | refine zk c2 ?_ | refine zk c3 ?_ | refine zk c4 ?_ | refine zc5 ?_ | refine zc6 ?_ | (refine zs5 ?_ ?_ <;> intro hc) | (refine zs6 ?_ ?_ <;> intro hc)) | refine awp_split rfl (fun hb => ?_) (fun hb => ?_) | refine zr ?_ | exact x_le)
      rfl
    · rw [show writeF r = (textF r, 0) by unfold writeF; rw [if_pos hc, if_neg hl]] at c2
      have c4 := read_v (s := textF r)
      rw [back hc (by omega)] at c4
      have c5 := sameRaw_v (a := r) (b := r)
      rw [decide_eq_true rfl] at c5
      generalize textF r = t at *
      refine fun1 tb_ok Tryd.func5 rfl Tryd.ntmps5 Tryd.results5 rfl fun N => ?_
      repeat' (first | refine zt ?_ | (refine isR ?_; first | refine zo ?_ | refine zk c1 ?_ | refine zk begun_v ?_ | refine zk c2 ?_ | refine zk c3 ?_ | refine zk c4 ?_ | refine zk c5 ?_ | refine zc5 ?_ | refine zc6 ?_ | (refine zs5 ?_ ?_ <;> intro hc) | (refine zs6 ?_ ?_ <;> intro hc)) | refine awp_split rfl (fun hb => ?_) (fun hb => ?_) | refine zr ?_ | exact x_le)
      rfl
  · have h1 := read_err h0
    have c5 : ACalls Tryd.prog 12 [raw0.v, .agg [strT [], strT [], .nils]] (.bool true) := by
      have := sameRaw_v (a := raw0) (b := raw0)
      rw [decide_eq_true rfl] at this
      exact this.nf rfl
    rw [h1] at c1
    generalize (rawF s).2 = n at *
    refine fun1 tb_ok Tryd.func5 rfl Tryd.ntmps5 Tryd.results5 rfl fun N => ?_
    repeat' (first | refine zt ?_ | (refine isR ?_; first | refine zo ?_ | refine zk c1 ?_ | refine zk begun_v ?_ | refine zk c5 ?_ | refine zc5 ?_ | refine zc6 ?_ | (refine zs5 ?_ ?_ <;> intro hc) | (refine zs6 ?_ ?_ <;> intro hc)) | refine awp_split rfl (fun hb => ?_) (fun hb => ?_) | refine zr ?_ | exact x_le)
    rfl
set_option maxRecDepth 100000 in
set_option maxHeartbeats 4000000 in
theorem adds_law {s : List UInt8} {a : Attr} (ha1 : a.name.length ≤ 140737488355328) (ha2 : a.value.length ≤ 140737488355328) : ACalls Tryd.prog 6 [strT s, a.v] (.bool true) := by
  have c1 := read_v (s := s)
  by_cases h0 : (rawF s).2 = 0
  · obtain ⟨r, hr⟩ : ∃ r, rawF s = (r, 0) := ⟨(rawF s).1, by rw [← h0]⟩
    have hsl := (read_is hr).1
    have h12 := (check_iff.1 (read_check hr)).2.2.2
    rw [hr] at c1
    have c2 := check_v (r := ⟨([97] : List UInt8), [], [a]⟩)
    by_cases hc : checkF ⟨([97] : List UInt8), [], [a]⟩ = 0
    · have hok : okA a = true := (check_iff.1 hc).2.2.1 a (by simp)
      rw [hc] at c2
      have had := adds hr hok
      obtain ⟨an, av⟩ := a
      obtain ⟨n, v, L⟩ := r
      dsimp only at *
      have c3 := read_v (s := (((s ++ [59]) ++ an) ++ [61]) ++ av)
      rcases had with e | e
      · rw [e] at c3
        refine fun2 tb_ok Tryd.func6 rfl Tryd.ntmps6 Tryd.results6 rfl fun N => ?_
        repeat' (first | refine zt ?_ | (refine isR ?_; first | refine zo ?_ | refine zk c1 ?_ | refine zk begun_v ?_ | refine zk c2 ?_ | refine zk c3 ?_ | refine x_bs tb_ok ?_ | refine zA ?_ | refine zc5 ?_ | refine zc6 ?_ | (refine zs5 ?_ ?_ <;> intro hc) | (refine zs6 ?_ ?_ <;> intro hc)) | refine awp_split rfl (fun hb => ?_) (fun hb => ?_) | refine zr ?_ | exact x_le)
        rfl
      · rw [e] at c3
        have c4 := sameRaw_v (a := ⟨n, v, L ++ [⟨an, av⟩]⟩) (b := ⟨n, v, L ++ [⟨an, av⟩]⟩)
        rw [decide_eq_true rfl] at c4
        have hf : List.take (([] ++ L) ++ [(⟨an, av⟩ : Attr)]).length (List.drop 0 ((([] ++ L) ++ [(⟨an, av⟩ : Attr)]).map Attr.v)) = (L ++ [(⟨an, av⟩ : Attr)]).map Attr.v := by rw [List.drop_zero, List.take_of_length_le (by simp)]; rfl
        have c4 : ACalls Tryd.prog 12 [.agg [strT n, strT v, .fro ((L ++ [(⟨an, av⟩ : Attr)]).map Attr.v)], .agg [strT n, strT v, .fro (List.take (([] ++ L) ++ [(⟨an, av⟩ : Attr)]).length (List.drop 0 ((([] ++ L) ++ [(⟨an, av⟩ : Attr)]).map Attr.v)))]] (.bool true) := by rw [hf]; exact c4
        have hx4 : ([] ++ L : List Attr).length ≤ 12 := by simpa using h12
        refine fun2 tb_ok Tryd.func6 rfl Tryd.ntmps6 Tryd.results6 rfl fun N => ?_
        repeat' (first | refine zt ?_ | (refine isR ?_; first | refine x_far [42] tb_ok rfl ?_ | refine zn ?_ | refine zk c1 ?_ | refine zk begun_v ?_ | refine zk c2 ?_ | refine zk c3 ?_ | refine x_appK Attr.v (L := []) (K' := L) tb_ok ?_ | refine x_app Attr.v (a1 := (⟨an, av⟩)) tb_ok ?_ | refine x_callz [4] (c4 _) ?_ | refine x_callz [4] (c4) ?_ | refine x_bsO 42 tb_ok ?_ | refine x_bs tb_ok ?_ | refine zA ?_ | refine zc5 ?_ | refine zc6 ?_ | (refine zs5 ?_ ?_ <;> intro hc) | (refine zs6 ?_ ?_ <;> intro hc)) | refine awp_split rfl (fun hb => ?_) (fun hb => ?_) | refine zr ?_ | exact x_le)
        rfl
    · generalize checkF ⟨([97] : List UInt8), [], [a]⟩ = m at *
      refine fun2 tb_ok Tryd.func6 rfl Tryd.ntmps6 Tryd.results6 rfl fun N => ?_
      repeat' (first | refine zt ?_ | (refine isR ?_; first | refine zo ?_ | refine zk c1 ?_ | refine zk begun_v ?_ | refine zk c2 ?_ | refine x_bs tb_ok ?_ | refine zA ?_ | refine zc5 ?_ | refine zc6 ?_ | (refine zs5 ?_ ?_ <;> intro hc) | (refine zs6 ?_ ?_ <;> intro hc)) | refine awp_split rfl (fun hb => ?_) (fun hb => ?_) | refine zr ?_ | exact x_le)
      rfl
  · generalize rawF s = p at *
    refine fun2 tb_ok Tryd.func6 rfl Tryd.ntmps6 Tryd.results6 rfl fun N => ?_
    repeat' (first | refine zt ?_ | (refine isR ?_; first | refine zo ?_ | refine zk c1 ?_ | refine zk begun_v ?_ | refine x_bs tb_ok ?_ | refine zA ?_ | refine zc5 ?_ | refine zc6 ?_ | (refine zs5 ?_ ?_ <;> intro hc) | (refine zs6 ?_ ?_ <;> intro hc)) | refine awp_split rfl (fun hb => ?_) (fun hb => ?_) | refine zr ?_ | exact x_le)
    rfl
end Go.Proofs.YtbacakgjhohedaaDoor.HeadM
