/- Dates: the document's own reading. -/
import Derived.Test.YtaojlikkaajpmaaWk
import Derived.Test.YtaojlikkaajpmaaDateC
namespace Go.Proofs.Ytaojlikkaajpmaa.StampJ
open Go.RowKit Mem Abs TreeW WordP WordS HostP HostO HostA PathT StampP StampA StampB StampC StampD StampE StampF StampG StampH StampI Lead ClockP ClockV

theorem awp_share {P : Program} {N : Env} {c : Code} {Q : Exit → S → Prop} {s1 : S} {G : Prop} (p : Prop) (main : (p → AWp P N c Q s1) → G) (k : p → AWp P N c Q s1) : G := main k
theorem awp_cutc {P : Program} {N : Env} {d : Nat} {x y : Code} {Q : Exit → S → Prop} {s s1 : S} (k : AWp P N (.cond (.tmp d) x y) Q s1) (h : LeI N.K s1 s) : AWp P N (.cond (.tmp d) x y) Q s := awp_lei h k
theorem day_same (w : List UInt8) (h mi s : Int) : (dayTimeF w h mi s).1 = (dayTimeF w 0 0 0).1 ∧ ((dayTimeF w 0 0 0).1 = true → dayTimeF w h mi s = dayTimeF w 0 0 0) := by
  unfold dayTimeF
  repeat' split
  all_goals exact ⟨rfl, fun h => by first | rfl | cases h⟩
theorem doc0 {r : RD} {w : List UInt8} (h : r.f0 = true ∨ (dayTimeF w 0 0 0).1 = false) : takeF r w = T1 r w := by
  rw [take_eq, (day_same w r.h r.mi r.s).1, if_neg]
  rcases h with h | h <;> simp [h]
theorem doc0' {r : RD} {w : List UInt8} {a b c : Int} (h : r.f0 = false) (hp : dayTimeF w 0 0 0 = (true, a, b, c)) : takeF r w = ⟨r.y, r.m, r.d, a, b, c, true, r.f1, r.f2, r.f3⟩ := by
  have h1 : (dayTimeF w 0 0 0).1 = true := by rw [hp]
  have h2 := (day_same w r.h r.mi r.s).2 h1
  rw [take_eq, h2, hp, if_pos (by rw [h]; rfl)]
theorem doc1 {r : RD} {w : List UInt8} (h : r.f1 = true ∨ (lead w).length < 1 ∨ 2 < (lead w).length) : T1 r w = T2 r w := by
  unfold T1
  rw [if_neg]
  rcases h with h | h
  · simp [h]
  · rcases dig_is (w := w) (lo := 1) (hi := 2) (by decide) with ⟨d1, d2, d3, d4⟩ | ⟨d1, d2⟩
    · omega
    · simp [d1]
theorem doc1' {r : RD} {w : List UInt8} (h : r.f1 = false) (h1 : 1 ≤ (lead w).length) (h2 : (lead w).length ≤ 2) : T1 r w = ⟨r.y, r.m, (leadN w : Nat), r.h, r.mi, r.s, r.f0, true, r.f2, r.f3⟩ := by
  unfold T1
  rcases dig_is (w := w) (lo := 1) (hi := 2) (by decide) with ⟨d1, d2, d3, d4⟩ | ⟨d1, d2⟩
  · rw [d4, if_pos (by rw [h]; rfl)]
  · omega
theorem doc2 {r : RD} {w : List UInt8} (h : r.f2 = true ∨ monthF w = 0) : T2 r w = T3 r w := by
  unfold T2
  rw [if_neg]
  rcases h with h | h <;> simp [h]
theorem doc2' {r : RD} {w : List UInt8} (h : r.f2 = false) (h1 : 0 < monthF w) : T2 r w = ⟨r.y, (monthF w : Nat), r.d, r.h, r.mi, r.s, r.f0, r.f1, true, r.f3⟩ := by
  unfold T2
  rw [if_pos (by simp [h, h1])]
theorem doc3 {r : RD} {w : List UInt8} (h : r.f3 = true ∨ (lead w).length < 2 ∨ 4 < (lead w).length) : T3 r w = r := by
  unfold T3
  rw [if_neg]
  rcases h with h | h
  · simp [h]
  · rcases dig_is (w := w) (lo := 2) (hi := 4) (by decide) with ⟨d1, d2, d3, d4⟩ | ⟨d1, d2⟩
    · omega
    · simp [d1]
theorem doc3' {r : RD} {w : List UInt8} (h : r.f3 = false) (h1 : 2 ≤ (lead w).length) (h2 : (lead w).length ≤ 4) : T3 r w = ⟨yearF (leadN w : Nat), r.m, r.d, r.h, r.mi, r.s, r.f0, r.f1, r.f2, true⟩ := by
  unfold T3
  rcases dig_is (w := w) (lo := 2) (hi := 4) (by decide) with ⟨d1, d2, d3, d4⟩ | ⟨d1, d2⟩
  · rw [d4, if_pos (by rw [h]; rfl)]
  · omega
theorem day_list {w : List UInt8} : ((dayTimeF w 0 0 0).1 = false) ∨ ∃ a b c, dayTimeF w 0 0 0 = (true, a, b, c) ∧ dayL w = [a, b, c] := by
  unfold dayL
  generalize dayTimeF w 0 0 0 = p
  obtain ⟨o, a, b, c⟩ := p
  cases o
  · exact .inl rfl
  · exact .inr ⟨a, b, c, rfl, rfl⟩
theorem month_le (w : List UInt8) : monthF w ≤ 12 := by
  unfold monthF
  split
  · omega
  · split
    · rename_i i h
      have := (List.findIdx?_eq_some_iff_getElem.1 h).1
      have h2 : months.length = 12 := rfl
      omega
    · omega
abbrev timeR (a b c d e f : Int) : Blk := .els 47 6 [timeT a b c d e f]
end Go.Proofs.Ytaojlikkaajpmaa.StampJ
namespace Go.Proofs.Ytaojlikkaajpmaa.StampK
open Go.RowKit Mem Abs TreeW WordP WordS HostP HostO HostA PathT StampP StampA StampB StampC StampD StampE StampF StampG StampH StampI StampJ Lead ClockP ClockV

set_option maxRecDepth 100000 in
set_option maxHeartbeats 4000000 in
theorem stampOf_v {s : List UInt8} : ACalls Try.prog 10 [strT s] (.tup [.int .i64 (readF s).1, .int .i64 (readF s).2]) := by
  by_cases hl : 400 < s.length
  · have e : readF s = (0, 2) := by unfold readF; rw [if_pos hl]
    rw [e]
    refine fun1 tb_ok Try.func10 rfl Try.ntmps10 Try.results10 rfl fun N => ?_
    repeat' (first | refine zt ?_ | (refine isR ?_; first | refine zo ?_ | refine zA ?_ | refine zL ?_ | refine zc1 ?_ | refine zc2 ?_ | refine zc3 ?_ | refine zc4 ?_ | refine zI ?_ | (refine zs1 ?_ ?_ <;> intro hc) | (refine zs2 ?_ ?_ <;> intro hc) | (refine zs3 ?_ ?_ <;> intro hc) | (refine zs4 ?_ ?_ <;> intro hc)) | refine awp_split rfl (fun hb => ?_) (fun hb => ?_) | refine zr ?_ | exact x_le)
    rfl
  · have e : readF s = if (foundF s).f0 && ((foundF s).f1 && ((foundF s).f2 && (foundF s).f3)) then ofF (foundF s).y (foundF s).m (foundF s).d (foundF s).h (foundF s).mi (foundF s).s else (0, 1) := by unfold readF; rw [if_neg hl]
    have c1 := stampWords_v (s := s) (by omega)
    have hf : (wordsF s).foldl takeF rd0 = foundF s := rfl
    have hwl : (wordsF s).length ≤ s.length + 1 := words_len s []
    generalize wordsF s = ws at *
    have hx : ((ws.map strT).length : Int) = (ws.length : Int) := by simp
    refine fun1 tb_ok Try.func10 rfl Try.ntmps10 Try.results10 rfl fun N => ?_
    repeat' (first | refine zt ?_ | (refine isR ?_; first | refine zo ?_ | refine zk c1 ?_ | refine zA ?_ | refine zL ?_ | refine zc1 ?_ | refine zc2 ?_ | refine zc3 ?_ | refine zc4 ?_ | refine zI ?_ | (refine zs1 ?_ ?_ <;> intro hc) | (refine zs2 ?_ ?_ <;> intro hc) | (refine zs3 ?_ ?_ <;> intro hc) | (refine zs4 ?_ ?_ <;> intro hc)) | refine awp_split rfl (fun hb => ?_) (fun hb => ?_) | refine zr ?_ | exact x_le)
    refine awp_for (fun k => ⟨[(4, strsT ws), (5, .loc 0 0 0), (6, .bool ((ws.take k).foldl takeF rd0).f0), (7, .bool ((ws.take k).foldl takeF rd0).f1), (8, .bool ((ws.take k).foldl takeF rd0).f2), (9, .bool ((ws.take k).foldl takeF rd0).f3), (10, .int .i64 (k : Int))], [(0, some (timeR ((ws.take k).foldl takeF rd0).y ((ws.take k).foldl takeF rd0).m ((ws.take k).foldl takeF rd0).d ((ws.take k).foldl takeF rd0).h ((ws.take k).foldl takeF rd0).mi ((ws.take k).foldl takeF rd0).s))], 1, 129⟩) (fun k => k ≤ ws.length) ws.length 0 (by exact x_le) (Nat.zero_le _) ?_
    intro k hk
    by_cases hk2 : k < ws.length
    · have e1 : (ws.map strT)[((k : Int)).toNat]? = some (strT ws[k]) := by show (ws.map strT)[k]? = _; simp [hk2]
      have e2 : (ws.take (k + 1)).foldl takeF rd0 = takeF ((ws.take k).foldl takeF rd0) ws[k] := by rw [List.take_succ_eq_append_getElem hk2, List.foldl_append]; rfl
      simp only [e2]
      generalize ws[k] = w at *
      generalize (ws.take k).foldl takeF rd0 = r at *
      clear e e2 hf
      have c2 := leadDigits_v (l := w)
      have c3 := dayTime_v (w := w)
      have c4 := monthOf_v (w := w)
      have hn := leadN_lt w
      have hm := month_le w
      have hd := day_list (w := w)
      have d0 := @doc0 r w
      have d0' := @doc0' r w
      have d1 := @doc1 r w
      have d1' := @doc1' r w
      have d2 := @doc2 r w
      have d2' := @doc2' r w
      have d3 := @doc3 r w
      have d3' := @doc3' r w
      generalize takeF r w = z at *
      generalize T1 r w = z1 at *
      generalize T2 r w = z2 at *
      generalize T3 r w = z3 at *
      generalize dayTimeF w 0 0 0 = p at *
      generalize dayL w = L at *
      generalize (lead w).length = kk at *
      generalize leadN w = n at *
      generalize monthF w = mo at *
      obtain ⟨r1, r2, r3, r4, r5, r6, r7, r8, r9, r10⟩ := r
      obtain ⟨ok, pa, pb, pc⟩ := p
      dsimp only at *
      apply awp_share (s1 := ⟨[(4, strsT ws), (5, .loc 0 0 0), (6, .bool r7), (7, .bool r8), (8, .bool r9), (9, .bool r10), (10, .int .i64 (k : Int)), (11, .int .i64 (kk : Int)), (12, .int .i64 (n : Int)), (46, .bool false)], [(0, some (timeR r1 r2 r3 r4 r5 r6))], 1, 129⟩) (z = z1)
      case main =>
        intro H
        cases h7 : r7 with
        | true =>
          rw [h7] at H
          have H := H (d0 (.inl h7))
          repeat' (first | ((with_reducible refine awp_cutc (d := 46) H ?_); exact x_le) | refine zt ?_ | (refine isR ?_; first | refine zo ?_ | refine zk c2 ?_ | refine zk c3 ?_ | refine zA ?_ | refine zL ?_ | refine zc1 ?_ | refine zc2 ?_ | refine zc3 ?_ | refine zc4 ?_ | refine zI ?_ | (refine zs1 ?_ ?_ <;> intro hc) | (refine zs2 ?_ ?_ <;> intro hc) | (refine zs3 ?_ ?_ <;> intro hc) | (refine zs4 ?_ ?_ <;> intro hc)) | refine awp_split rfl (fun hb => ?_) (fun hb => ?_) | refine zr ?_ | exact x_le)
        | false =>
          rw [h7] at H
          rcases hd with hd | ⟨a, b, c, hp, hL⟩
          · subst hd
            have H := H (d0 (.inr rfl))
            repeat' (first | ((with_reducible refine awp_cutc (d := 46) H ?_); exact x_le) | refine zt ?_ | (refine isR ?_; first | refine zo ?_ | refine zk c2 ?_ | refine zk c3 ?_ | refine zA ?_ | refine zL ?_ | refine zc1 ?_ | refine zc2 ?_ | refine zc3 ?_ | refine zc4 ?_ | refine zI ?_ | (refine zs1 ?_ ?_ <;> intro hc) | (refine zs2 ?_ ?_ <;> intro hc) | (refine zs3 ?_ ?_ <;> intro hc) | (refine zs4 ?_ ?_ <;> intro hc)) | refine awp_split rfl (fun hb => ?_) (fun hb => ?_) | refine zr ?_ | exact x_le)
          · subst hL
            cases hp
            rw [d0' h7 rfl]
            have q0 : ([pa, pb, pc].map intT)[((0 : Int)).toNat]? = some (intT pa) := rfl
            have q1 : ([pa, pb, pc].map intT)[((1 : Int)).toNat]? = some (intT pb) := rfl
            have q2 : ([pa, pb, pc].map intT)[((2 : Int)).toNat]? = some (intT pc) := rfl
            have q3 : ([pa, pb, pc].map intT).length = 3 := rfl
            repeat' (first | refine zt ?_ | (refine isR ?_; first | refine zo ?_ | refine zk c2 ?_ | refine zk c3 ?_ | refine zA ?_ | refine zL ?_ | refine zc1 ?_ | refine zc2 ?_ | refine zc3 ?_ | refine zc4 ?_ | refine zI ?_ | (refine zs1 ?_ ?_ <;> intro hc) | (refine zs2 ?_ ?_ <;> intro hc) | (refine zs3 ?_ ?_ <;> intro hc) | (refine zs4 ?_ ?_ <;> intro hc)) | refine awp_split rfl (fun hb => ?_) (fun hb => ?_) | refine zr ?_ | exact x_le)
            refine ⟨by omega, hk2, ?_⟩
            exact (by exact x_le)
      case k =>
        intro hz
        apply awp_share (s1 := ⟨[(4, strsT ws), (5, .loc 0 0 0), (6, .bool r7), (7, .bool r8), (8, .bool r9), (9, .bool r10), (10, .int .i64 (k : Int)), (11, .int .i64 (kk : Int)), (12, .int .i64 (n : Int)), (68, .bool false)], [(0, some (timeR r1 r2 r3 r4 r5 r6))], 1, 129⟩) (z = z2)
        case main =>
          intro H
          cases h8 : r8 with
          | true =>
            rw [h8] at H
            have H := H (hz.trans (d1 (.inl h8)))
            repeat' (first | ((with_reducible refine awp_cutc (d := 68) H ?_); exact x_le) | refine zt ?_ | (refine isR ?_; first | refine zo ?_ | refine zA ?_ | refine zL ?_ | refine zc1 ?_ | refine zc2 ?_ | refine zc3 ?_ | refine zc4 ?_ | refine zI ?_ | (refine zs1 ?_ ?_ <;> intro hc) | (refine zs2 ?_ ?_ <;> intro hc) | (refine zs3 ?_ ?_ <;> intro hc) | (refine zs4 ?_ ?_ <;> intro hc)) | refine awp_split rfl (fun hb => ?_) (fun hb => ?_) | refine zr ?_ | exact x_le)
          | false =>
            rw [h8] at H
            by_cases k1 : 1 ≤ kk
            · by_cases k2 : kk ≤ 2
              · rw [hz, d1' h8 k1 k2]
                repeat' (first | refine zt ?_ | (refine isR ?_; first | refine zo ?_ | refine zA ?_ | refine zL ?_ | refine zc1 ?_ | refine zc2 ?_ | refine zc3 ?_ | refine zc4 ?_ | refine zI ?_ | (refine zs1 ?_ ?_ <;> intro hc) | (refine zs2 ?_ ?_ <;> intro hc) | (refine zs3 ?_ ?_ <;> intro hc) | (refine zs4 ?_ ?_ <;> intro hc)) | refine awp_split rfl (fun hb => ?_) (fun hb => ?_) | refine zr ?_ | exact x_le)
                refine ⟨by omega, hk2, ?_⟩
                exact (by exact x_le)
              · have H := H (hz.trans (d1 (.inr (.inr (by omega)))))
                repeat' (first | ((with_reducible refine awp_cutc (d := 68) H ?_); exact x_le) | refine zt ?_ | (refine isR ?_; first | refine zo ?_ | refine zA ?_ | refine zL ?_ | refine zc1 ?_ | refine zc2 ?_ | refine zc3 ?_ | refine zc4 ?_ | refine zI ?_ | (refine zs1 ?_ ?_ <;> intro hc) | (refine zs2 ?_ ?_ <;> intro hc) | (refine zs3 ?_ ?_ <;> intro hc) | (refine zs4 ?_ ?_ <;> intro hc)) | refine awp_split rfl (fun hb => ?_) (fun hb => ?_) | refine zr ?_ | exact x_le)
            · have H := H (hz.trans (d1 (.inr (.inl (by omega)))))
              repeat' (first | ((with_reducible refine awp_cutc (d := 68) H ?_); exact x_le) | refine zt ?_ | (refine isR ?_; first | refine zo ?_ | refine zA ?_ | refine zL ?_ | refine zc1 ?_ | refine zc2 ?_ | refine zc3 ?_ | refine zc4 ?_ | refine zI ?_ | (refine zs1 ?_ ?_ <;> intro hc) | (refine zs2 ?_ ?_ <;> intro hc) | (refine zs3 ?_ ?_ <;> intro hc) | (refine zs4 ?_ ?_ <;> intro hc)) | refine awp_split rfl (fun hb => ?_) (fun hb => ?_) | refine zr ?_ | exact x_le)
        case k =>
          intro hz
          apply awp_share (s1 := ⟨[(4, strsT ws), (5, .loc 0 0 0), (6, .bool r7), (7, .bool r8), (8, .bool r9), (9, .bool r10), (10, .int .i64 (k : Int)), (11, .int .i64 (kk : Int)), (12, .int .i64 (n : Int)), (80, .bool false)], [(0, some (timeR r1 r2 r3 r4 r5 r6))], 1, 129⟩) (z = z3)
          case main =>
            intro H
            cases h9 : r9 with
            | true =>
              rw [h9] at H
              have H := H (hz.trans (d2 (.inl h9)))
              repeat' (first | ((with_reducible refine awp_cutc (d := 80) H ?_); exact x_le) | refine zt ?_ | (refine isR ?_; first | refine zo ?_ | refine zA ?_ | refine zL ?_ | refine zc1 ?_ | refine zc2 ?_ | refine zc3 ?_ | refine zc4 ?_ | refine zI ?_ | (refine zs1 ?_ ?_ <;> intro hc) | (refine zs2 ?_ ?_ <;> intro hc) | (refine zs3 ?_ ?_ <;> intro hc) | (refine zs4 ?_ ?_ <;> intro hc)) | refine awp_split rfl (fun hb => ?_) (fun hb => ?_) | refine zr ?_ | exact x_le)
            | false =>
              rw [h9] at H
              by_cases k1 : 0 < mo
              · rw [hz, d2' h9 k1]
                repeat' (first | refine zt ?_ | (refine isR ?_; first | refine zo ?_ | refine zk c4 ?_ | refine zA ?_ | refine zL ?_ | refine zc1 ?_ | refine zc2 ?_ | refine zc3 ?_ | refine zc4 ?_ | refine zI ?_ | (refine zs1 ?_ ?_ <;> intro hc) | (refine zs2 ?_ ?_ <;> intro hc) | (refine zs3 ?_ ?_ <;> intro hc) | (refine zs4 ?_ ?_ <;> intro hc)) | refine awp_split rfl (fun hb => ?_) (fun hb => ?_) | refine zr ?_ | exact x_le)
                refine ⟨by omega, hk2, ?_⟩
                exact (by exact x_le)
              · have H := H (hz.trans (d2 (.inr (by omega))))
                repeat' (first | ((with_reducible refine awp_cutc (d := 80) H ?_); exact x_le) | refine zt ?_ | (refine isR ?_; first | refine zo ?_ | refine zk c4 ?_ | refine zA ?_ | refine zL ?_ | refine zc1 ?_ | refine zc2 ?_ | refine zc3 ?_ | refine zc4 ?_ | refine zI ?_ | (refine zs1 ?_ ?_ <;> intro hc) | (refine zs2 ?_ ?_ <;> intro hc) | (refine zs3 ?_ ?_ <;> intro hc) | (refine zs4 ?_ ?_ <;> intro hc)) | refine awp_split rfl (fun hb => ?_) (fun hb => ?_) | refine zr ?_ | exact x_le)
          case k =>
            intro hz
            cases h10 : r10 with
            | true =>
              rw [hz, d3 (.inl h10), h10]
              repeat' (first | refine zt ?_ | (refine isR ?_; first | refine zo ?_ | refine zA ?_ | refine zL ?_ | refine zc1 ?_ | refine zc2 ?_ | refine zc3 ?_ | refine zc4 ?_ | refine zI ?_ | (refine zs1 ?_ ?_ <;> intro hc) | (refine zs2 ?_ ?_ <;> intro hc) | (refine zs3 ?_ ?_ <;> intro hc) | (refine zs4 ?_ ?_ <;> intro hc)) | refine awp_split rfl (fun hb => ?_) (fun hb => ?_) | refine zr ?_ | exact x_le)
              refine ⟨by omega, hk2, ?_⟩
              exact (by exact x_le)
            | false =>
              by_cases k1 : 2 ≤ kk
              · by_cases k2 : kk ≤ 4
                · rw [hz, d3' h10 k1 k2]
                  by_cases y1 : n < 70
                  · have ey : yearF (n : Nat) = (n : Int) + 2000 := by unfold yearF; rw [if_pos (by omega)]
                    rw [ey]
                    repeat' (first | refine zt ?_ | (refine isR ?_; first | refine zo ?_ | refine zA ?_ | refine zL ?_ | refine zc1 ?_ | refine zc2 ?_ | refine zc3 ?_ | refine zc4 ?_ | refine zI ?_ | (refine zs1 ?_ ?_ <;> intro hc) | (refine zs2 ?_ ?_ <;> intro hc) | (refine zs3 ?_ ?_ <;> intro hc) | (refine zs4 ?_ ?_ <;> intro hc)) | refine awp_split rfl (fun hb => ?_) (fun hb => ?_) | refine zr ?_ | exact x_le)
                    refine ⟨by omega, hk2, ?_⟩
                    exact (by exact x_le)
                  · by_cases y2 : n < 100
                    · have ey : yearF (n : Nat) = (n : Int) + 1900 := by unfold yearF; rw [if_neg (by omega), if_pos (by omega)]
                      rw [ey]
                      repeat' (first | refine zt ?_ | (refine isR ?_; first | refine zo ?_ | refine zA ?_ | refine zL ?_ | refine zc1 ?_ | refine zc2 ?_ | refine zc3 ?_ | refine zc4 ?_ | refine zI ?_ | (refine zs1 ?_ ?_ <;> intro hc) | (refine zs2 ?_ ?_ <;> intro hc) | (refine zs3 ?_ ?_ <;> intro hc) | (refine zs4 ?_ ?_ <;> intro hc)) | refine awp_split rfl (fun hb => ?_) (fun hb => ?_) | refine zr ?_ | exact x_le)
                      refine ⟨by omega, hk2, ?_⟩
                      exact (by exact x_le)
                    · have ey : yearF (n : Nat) = (n : Int) := by unfold yearF; rw [if_neg (by omega), if_neg (by omega)]
                      rw [ey]
                      repeat' (first | refine zt ?_ | (refine isR ?_; first | refine zo ?_ | refine zA ?_ | refine zL ?_ | refine zc1 ?_ | refine zc2 ?_ | refine zc3 ?_ | refine zc4 ?_ | refine zI ?_ | (refine zs1 ?_ ?_ <;> intro hc) | (refine zs2 ?_ ?_ <;> intro hc) | (refine zs3 ?_ ?_ <;> intro hc) | (refine zs4 ?_ ?_ <;> intro hc)) | refine awp_split rfl (fun hb => ?_) (fun hb => ?_) | refine zr ?_ | exact x_le)
                      refine ⟨by omega, hk2, ?_⟩
                      exact (by exact x_le)
                · rw [hz, d3 (.inr (.inr (by omega))), h10]
                  repeat' (first | refine zt ?_ | (refine isR ?_; first | refine zo ?_ | refine zA ?_ | refine zL ?_ | refine zc1 ?_ | refine zc2 ?_ | refine zc3 ?_ | refine zc4 ?_ | refine zI ?_ | (refine zs1 ?_ ?_ <;> intro hc) | (refine zs2 ?_ ?_ <;> intro hc) | (refine zs3 ?_ ?_ <;> intro hc) | (refine zs4 ?_ ?_ <;> intro hc)) | refine awp_split rfl (fun hb => ?_) (fun hb => ?_) | refine zr ?_ | exact x_le)
                  refine ⟨by omega, hk2, ?_⟩
                  exact (by exact x_le)
              · rw [hz, d3 (.inr (.inl (by omega))), h10]
                repeat' (first | refine zt ?_ | (refine isR ?_; first | refine zo ?_ | refine zA ?_ | refine zL ?_ | refine zc1 ?_ | refine zc2 ?_ | refine zc3 ?_ | refine zc4 ?_ | refine zI ?_ | (refine zs1 ?_ ?_ <;> intro hc) | (refine zs2 ?_ ?_ <;> intro hc) | (refine zs3 ?_ ?_ <;> intro hc) | (refine zs4 ?_ ?_ <;> intro hc)) | refine awp_split rfl (fun hb => ?_) (fun hb => ?_) | refine zr ?_ | exact x_le)
                refine ⟨by omega, hk2, ?_⟩
                exact (by exact x_le)
    · obtain rfl : k = ws.length := by omega
      rw [List.take_length, hf]
      rw [e]
      clear e hf
      generalize foundF s = r at *
      obtain ⟨r1, r2, r3, r4, r5, r6, r7, r8, r9, r10⟩ := r
      dsimp only
      have c4 := momentOf_v (y := r1) (m := r2) (d := r3) (h := r4) (mi := r5) (s := r6)
      generalize ofF r1 r2 r3 r4 r5 r6 = o at *
      cases r7
      · skip
        repeat' (first | refine zt ?_ | (refine isR ?_; first | refine zo ?_ | refine zk c4 ?_ | refine zA ?_ | refine zL ?_ | refine zc1 ?_ | refine zc2 ?_ | refine zc3 ?_ | refine zc4 ?_ | refine zI ?_ | (refine zs1 ?_ ?_ <;> intro hc) | (refine zs2 ?_ ?_ <;> intro hc) | (refine zs3 ?_ ?_ <;> intro hc) | (refine zs4 ?_ ?_ <;> intro hc)) | refine awp_split rfl (fun hb => ?_) (fun hb => ?_) | refine zr ?_ | exact x_le)
        rfl
      · cases r8
        · skip
          repeat' (first | refine zt ?_ | (refine isR ?_; first | refine zo ?_ | refine zk c4 ?_ | refine zA ?_ | refine zL ?_ | refine zc1 ?_ | refine zc2 ?_ | refine zc3 ?_ | refine zc4 ?_ | refine zI ?_ | (refine zs1 ?_ ?_ <;> intro hc) | (refine zs2 ?_ ?_ <;> intro hc) | (refine zs3 ?_ ?_ <;> intro hc) | (refine zs4 ?_ ?_ <;> intro hc)) | refine awp_split rfl (fun hb => ?_) (fun hb => ?_) | refine zr ?_ | exact x_le)
          rfl
        · cases r9
          · skip
            repeat' (first | refine zt ?_ | (refine isR ?_; first | refine zo ?_ | refine zk c4 ?_ | refine zA ?_ | refine zL ?_ | refine zc1 ?_ | refine zc2 ?_ | refine zc3 ?_ | refine zc4 ?_ | refine zI ?_ | (refine zs1 ?_ ?_ <;> intro hc) | (refine zs2 ?_ ?_ <;> intro hc) | (refine zs3 ?_ ?_ <;> intro hc) | (refine zs4 ?_ ?_ <;> intro hc)) | refine awp_split rfl (fun hb => ?_) (fun hb => ?_) | refine zr ?_ | exact x_le)
            rfl
          · cases r10
            · skip
              repeat' (first | refine zt ?_ | (refine isR ?_; first | refine zo ?_ | refine zk c4 ?_ | refine zA ?_ | refine zL ?_ | refine zc1 ?_ | refine zc2 ?_ | refine zc3 ?_ | refine zc4 ?_ | refine zI ?_ | (refine zs1 ?_ ?_ <;> intro hc) | (refine zs2 ?_ ?_ <;> intro hc) | (refine zs3 ?_ ?_ <;> intro hc) | (refine zs4 ?_ ?_ <;> intro hc)) | refine awp_split rfl (fun hb => ?_) (fun hb => ?_) | refine zr ?_ | exact x_le)
              rfl
            · skip
              repeat' (first | refine zt ?_ | (refine isR ?_; first | refine zo ?_ | refine zk c4 ?_ | refine zA ?_ | refine zL ?_ | refine zc1 ?_ | refine zc2 ?_ | refine zc3 ?_ | refine zc4 ?_ | refine zI ?_ | (refine zs1 ?_ ?_ <;> intro hc) | (refine zs2 ?_ ?_ <;> intro hc) | (refine zs3 ?_ ?_ <;> intro hc) | (refine zs4 ?_ ?_ <;> intro hc)) | refine awp_split rfl (fun hb => ?_) (fun hb => ?_) | refine zr ?_ | exact x_le)
              rfl
end Go.Proofs.Ytaojlikkaajpmaa.StampK
namespace Go.Proofs.Ytaojlikkaajpmaa.StampL
open Go.RowKit Mem Abs TreeW WordP WordS HostP HostO HostA PathT StampP StampA StampB StampC StampD StampE StampF StampG StampH StampI StampJ StampK Lead ClockP ClockV

/-- The last digit of a number, as a byte. -/
def dgt (m : Nat) : UInt8 := UInt8.ofNat (48 + m % 10)
theorem dgt_nat (m : Nat) : (dgt m).toNat = 48 + m % 10 := by
  unfold dgt
  rw [UInt8.toNat_ofNat']
  omega
theorem dgt_int (m : Nat) : (48 + ((m % 10 : Nat) : Int)) = ((dgt m).toNat : Int) := by rw [dgt_nat]; omega
theorem dg (m : Nat) : (m : Int).tmod 10 = ((m % 10 : Nat) : Int) ∧ InR .i64 ((m % 10 : Nat) : Int) ∧ IntKind.u8.wrap (48 + ((m % 10 : Nat) : Int)) = ((dgt m).toNat : Int) := by
  refine ⟨by rw [Int.tmod_eq_emod_of_nonneg (by omega)]; omega, ⟨by simp only [rng]; omega, by simp only [rng]; omega⟩, ?_⟩
  rw [dgt_int]
  have := (dgt m).toNat_lt
  simp only [IntKind.wrap, IntKind.bits, IntKind.signed]
  simp
  omega
theorem dq (m : Nat) (hm : m < 1000000) : IntKind.i64.wrap ((m : Int).tdiv 10) = ((m / 10 : Nat) : Int) := by
  rw [Int.tdiv_eq_ediv_of_nonneg (by omega)]
  simp only [IntKind.wrap, IntKind.bits, IntKind.signed]
  simp
  omega
set_option maxRecDepth 100000 in
set_option maxHeartbeats 4000000 in
theorem oneByte_v {n : Int} {c : UInt8} (h : n = (c.toNat : Int)) : ACalls Try.prog 65 [.int .i64 n] (strT [c]) := by
  have hc := c.toNat_lt
  have hw : IntKind.u8.wrap n = (c.toNat : Int) := by
    rw [h]
    simp only [IntKind.wrap, IntKind.bits, IntKind.signed]
    simp
    omega
  have z1 : [c].length = 1 := rfl
  refine fun1 tb_ok Try.func65 rfl Try.ntmps65 Try.results65 rfl fun N => ?_
  repeat' (first | refine zt ?_ | (refine isR ?_; first | refine x_far [5] tb_ok rfl ?_ | refine zn ?_ | refine x_cv .u8 tb_ok ?_ | refine x_bstr (p := [c]) tb_ok ?_ | refine x_bsO 5 tb_ok ?_ | refine x_bs tb_ok ?_ | refine zB ?_) | refine awp_split rfl (fun hb => ?_) (fun hb => ?_) | refine zr ?_ | exact x_le)
  rfl
theorem twoDigits_v {m : Nat} (hm : m < 1000000) : ACalls Try.prog 36 [.int .i64 (m : Int)] (strT [dgt (m / 10), dgt m]) := by
  obtain ⟨a1, a2, a3⟩ := dg m
  obtain ⟨b1, b2, b3⟩ := dg (m / 10)
  have q1 := dq m hm
  have c1 := oneByte_v (dgt_int m)
  have c2 := oneByte_v (dgt_int (m / 10))
  have z1 : [dgt m].length = 1 := rfl
  have z2 : [dgt (m / 10)].length = 1 := rfl
  refine fun1 tb_ok Try.func36 rfl Try.ntmps36 Try.results36 rfl fun N => ?_
  repeat' (first | refine zt ?_ | (refine isR ?_; first | refine zo ?_ | refine x_quo ?_ | refine x_rem ?_ | refine zk c1 ?_ | refine zk c2 ?_ | refine zA ?_) | refine awp_split rfl (fun hb => ?_) (fun hb => ?_) | refine zr ?_ | exact x_le)
  rfl
theorem padded2_v {m : Nat} (hm : m < 1000000) : ACalls Try.prog 28 [.int .i64 (m : Int), .int .i64 2] (strT [dgt (m / 10), dgt m]) := by
  obtain ⟨a1, a2, a3⟩ := dg m
  obtain ⟨b1, b2, b3⟩ := dg (m / 10)
  have q1 := dq m hm
  have q2 := dq (m / 10) (by omega)
  have l0 : (List.replicate 2 (0 : UInt8))[1]? = some 0 := rfl
  have z1 : [dgt (m / 10), dgt m].length = 2 := rfl
  have l1 : ((List.replicate 2 (0 : UInt8)).set 1 (dgt m))[0]? = some 0 := rfl
  refine fun2 tb_ok Try.func28 rfl Try.ntmps28 Try.results28 rfl fun N => ?_
  repeat' (first | with_reducible refine rounds_on ?_ | with_reducible refine awp_rounds 3 ?_ | refine zt ?_ | (refine isR ?_; first | refine zo ?_ | refine x_mkN byteT 0 2 tb_ok ?_ | refine x_quo ?_ | refine x_rem ?_ | refine x_cv .u8 tb_ok ?_ | refine x_stI byteT (a1 := dgt m) 1 tb_ok ?_ | refine x_stI byteT (a1 := dgt (m / 10)) 0 tb_ok ?_ | refine x_bstr (p := [dgt (m / 10), dgt m]) tb_ok ?_ | refine zA ?_ | refine zL ?_ | refine zc1 ?_ | refine zI ?_ | refine zB ?_ | (refine zs1 ?_ ?_ <;> intro hc)) | refine awp_split rfl (fun hb => ?_) (fun hb => ?_) | refine zr ?_ | exact x_le)
  rfl
theorem padded4_v {m : Nat} (hm : m < 1000000) : ACalls Try.prog 28 [.int .i64 (m : Int), .int .i64 4] (strT [dgt (m / 10 / 10 / 10), dgt (m / 10 / 10), dgt (m / 10), dgt m]) := by
  obtain ⟨a1, a2, a3⟩ := dg m
  obtain ⟨b1, b2, b3⟩ := dg (m / 10)
  obtain ⟨d1, d2, d3⟩ := dg (m / 10 / 10)
  obtain ⟨e1, e2, e3⟩ := dg (m / 10 / 10 / 10)
  have q1 := dq m hm
  have q2 := dq (m / 10) (by omega)
  have q3 := dq (m / 10 / 10) (by omega)
  have q4 := dq (m / 10 / 10 / 10) (by omega)
  have l0 : (List.replicate 4 (0 : UInt8))[3]? = some 0 := rfl
  have z1 : [dgt (m / 10 / 10 / 10), dgt (m / 10 / 10), dgt (m / 10), dgt m].length = 4 := rfl
  have l1 : ((List.replicate 4 (0 : UInt8)).set 3 (dgt m))[2]? = some 0 := rfl
  have l2 : (((List.replicate 4 (0 : UInt8)).set 3 (dgt m)).set 2 (dgt (m / 10)))[1]? = some 0 := rfl
  have l3 : ((((List.replicate 4 (0 : UInt8)).set 3 (dgt m)).set 2 (dgt (m / 10))).set 1 (dgt (m / 10 / 10)))[0]? = some 0 := rfl
  refine fun2 tb_ok Try.func28 rfl Try.ntmps28 Try.results28 rfl fun N => ?_
  repeat' (first | with_reducible refine rounds_on ?_ | with_reducible refine awp_rounds 5 ?_ | refine zt ?_ | (refine isR ?_; first | refine zo ?_ | refine x_mkN byteT 0 4 tb_ok ?_ | refine x_quo ?_ | refine x_rem ?_ | refine x_cv .u8 tb_ok ?_ | refine x_stI byteT (a1 := dgt m) 3 tb_ok ?_ | refine x_stI byteT (a1 := dgt (m / 10)) 2 tb_ok ?_ | refine x_stI byteT (a1 := dgt (m / 10 / 10)) 1 tb_ok ?_ | refine x_stI byteT (a1 := dgt (m / 10 / 10 / 10)) 0 tb_ok ?_ | refine x_bstr (p := [dgt (m / 10 / 10 / 10), dgt (m / 10 / 10), dgt (m / 10), dgt m]) tb_ok ?_ | refine zA ?_ | refine zL ?_ | refine zc1 ?_ | refine zI ?_ | refine zB ?_ | (refine zs1 ?_ ?_ <;> intro hc)) | refine awp_split rfl (fun hb => ?_) (fun hb => ?_) | refine zr ?_ | exact x_le)
  rfl
end Go.Proofs.Ytaojlikkaajpmaa.StampL
