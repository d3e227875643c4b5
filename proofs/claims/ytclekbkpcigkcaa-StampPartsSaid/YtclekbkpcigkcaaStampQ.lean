/- Dates: how many bytes part two words is no matter. -/
import Derived.Test.YtclekbkpcigkcaaDateE
namespace Go.Proofs.Ytclekbkpcigkcaa.StampQ
open Go.RowKit Mem Abs TreeW WordP WordS HostP HostO HostA PathT StampP StampA StampB StampC StampD StampE StampF StampG StampH StampI StampJ StampK StampL StampM StampN StampO Lead ClockP ClockW ClockO ClockR ClockM ClockT ClockI ClockV

theorem words_cons (cur : List UInt8) (c : UInt8) (r : List UInt8) : wordsG cur (c :: r) = if sepB c then (if cur = [] then wordsG [] r else cur :: wordsG [] r) else wordsG (cur ++ [c]) r := rfl
theorem words_cong {x y : List UInt8} (h : ∀ cur, wordsG cur x = wordsG cur y) : ∀ (l cur : List UInt8), wordsG cur (l ++ x) = wordsG cur (l ++ y)
  | [], cur => h cur
  | c :: l, cur => by
    show wordsG cur (c :: (l ++ x)) = wordsG cur (c :: (l ++ y))
    rw [words_cons, words_cons, words_cong h l [], words_cong h l (cur ++ [c])]
theorem sep47 : sepB 47 = true := rfl
theorem sep45 : sepB 45 = true := rfl
theorem sep32 : sepB 32 = true := rfl
theorem ins_end (cur : List UInt8) : wordsG cur [47, 45] = wordsG cur [] := by
  rw [words_cons cur 47, if_pos sep47, words_cons [] 45, if_pos sep45, if_pos rfl]
  by_cases h : cur = []
  · subst h; rfl
  · rw [if_neg h]
    show _ = if cur = [] then [] else [cur]
    rw [if_neg h]; rfl
theorem ins_pre {c : UInt8} {r : List UInt8} (hc : sepB c = true) (cur : List UInt8) : wordsG cur (47 :: 45 :: c :: r) = wordsG cur (c :: r) := by
  rw [words_cons cur 47, if_pos sep47, words_cons [] 45, if_pos sep45, if_pos rfl, words_cons [] c, if_pos hc, if_pos rfl, words_cons cur c, if_pos hc]
theorem ins_post {c : UInt8} {r : List UInt8} (hc : sepB c = true) (cur : List UInt8) : wordsG cur (c :: 47 :: 45 :: r) = wordsG cur (c :: r) := by
  rw [words_cons cur c, if_pos hc, words_cons [] 47, if_pos sep47, if_pos rfl, words_cons [] 45, if_pos sep45, if_pos rfl, words_cons cur c, if_pos hc]
theorem ins {s : List UInt8} {k : Nat} (h : k = 0 ∨ k = s.length ∨ s[k]? = some 32 ∨ (0 < k ∧ s[k - 1]? = some 32)) : wordsF (s.take k ++ [47, 45] ++ s.drop k) = wordsF s := by
  unfold wordsF
  rcases h with rfl | rfl | h | ⟨h0, h⟩
  · show wordsG [] (47 :: 45 :: s) = _
    rw [words_cons [] 47, if_pos sep47, if_pos rfl, words_cons [] 45, if_pos sep45, if_pos rfl]
  · rw [List.take_length, List.drop_length, List.append_nil]
    have := words_cong ins_end s []
    rw [List.append_nil] at this
    exact this
  · have hd := drop_cons h
    have := words_cong (ins_pre (r := s.drop (k + 1)) sep32) (s.take k) []
    rw [← hd, List.take_append_drop] at this
    rw [List.append_assoc, hd]
    rw [hd] at this
    exact this
  · have hd := drop_cons h
    rw [show k - 1 + 1 = k by omega] at hd
    have hlt := (List.getElem?_eq_some_iff.1 h)
    have ht : s.take k = s.take (k - 1) ++ [32] := by
      obtain ⟨h1, h2⟩ := hlt
      have := List.take_succ_eq_append_getElem h1
      rw [show k - 1 + 1 = k by omega, h2] at this
      exact this
    have := words_cong (ins_post (r := s.drop k) sep32) (s.take (k - 1)) []
    rw [← hd, List.take_append_drop] at this
    rw [ht, ← this]
    simp
theorem read_ins {s t : List UInt8} (hw : wordsF t = wordsF s) (hl : s.length ≤ t.length) : readF t = (0, 2) ∨ readF t = readF s := by
  by_cases h : 400 < t.length
  · exact .inl (by unfold readF; rw [if_pos h])
  · refine .inr ?_
    have hf : foundF t = foundF s := by unfold foundF; rw [hw]
    have h2 : ¬ 400 < s.length := by omega
    unfold readF
    simp only [if_neg h, if_neg h2, hf]
set_option maxRecDepth 100000 in
set_option maxHeartbeats 4000000 in
theorem parts_law {g : Glob} (hg : HasMax g) {s : List UInt8} (hs : s.length ≤ 140737488351232) {i : Int} : ACallsG Try.prog g 8 [strT s, .int .i64 i] (.bool true) := by
  have c0 := begun_v hg
  have c1 := read_v hg (s := s)
  by_cases h1 : i < 0
  · generalize readF s = r at *
    refine funG2 tb_ok Try.func8 rfl Try.ntmps8 Try.results8 rfl fun N => ?_
    repeat' (first
        | with_reducible first | refine awp_seq ?_ | refine awp_region ?_ | refine awp_draw mixed ?_ | refine then_n ?_ | refine awp_skip ?_ | refine awp_block ?_ | refine awp_exit ?_ | refine awp_ret ?_ | refine awp_label ?_ | refine then_exit ?_ | refine then_ret ?_ | refine blk_n ?_ | refine blk_ret ?_ | refine blk_exit ?_ | refine blk_other rfl ?_ | refine then_k ?_
        | refine awp_true rfl ?_
        | refine awp_false rfl ?_
        | refine awp_split rfl (fun hb => ?_) (fun hb => ?_)
        | (refine isR ?_; first | refine x_far [] tb_ok rfl ?_ | refine r_nil ?_ | refine r_nild (by kernel_rfl) ?_ | refine x_call (c0 _) ?_ | refine x_call (c0) ?_ | refine x_call (c1 _) ?_ | refine x_call (c1) ?_ | refine x_addE ?_ | refine x_add ?_ | refine x_subE ?_ | refine x_sub ?_ | refine x_cat ?_ | refine x_lenF tb_ok ?_ | refine x_lenO tb_ok ?_ | refine x_lenN tb_ok ?_ | refine x_lenS ?_ | refine x_lssT ?_ | refine x_lssF ?_ | refine x_lss (fun hc => ?_) (fun hc => ?_) | refine x_gtrT ?_ | refine x_gtrF ?_ | refine x_gtr (fun hc => ?_) (fun hc => ?_) | refine x_eqlT ?_ | refine x_eqlF ?_ | refine x_eql (fun hc => ?_) (fun hc => ?_) | refine x_neqT ?_ | refine x_neqF ?_ | refine x_neq (fun hc => ?_) (fun hc => ?_) | refine x_eqlB ?_ | refine x_eqlST ?_ | refine x_eqlSF ?_ | refine x_eqlS (fun hc => ?_) (fun hc => ?_) | refine x_eqlI ?_ | refine x_eqlN ?_ | refine x_neqB ?_ | refine x_neqST ?_ | refine x_neqSF ?_ | refine x_neqS (fun hc => ?_) (fun hc => ?_) | refine x_neqI ?_ | refine x_neqN ?_ | refine x_ixS tb_ok ?_ | refine x_ixA tb_ok ?_ | refine x_slSf tb_ok ?_ | refine x_slSt tb_ok ?_ | refine x_slSm tb_ok ?_ | refine x_slFf tb_ok ?_ | refine x_slFt tb_ok ?_ | refine x_slFm tb_ok ?_ | refine x_eqlA tb_ok ?_ | refine x_eqlAS tb_ok (fun hc => ?_) (fun hc => ?_) | refine x_neqA tb_ok ?_ | refine x_neqAS tb_ok (fun hc => ?_) (fun hc => ?_))
        | refine x_ret ?_
        | refine x_nor ?_
        | exact x_le)
    rfl
  by_cases h2 : (s.length : Int) < i
  · generalize readF s = r at *
    refine funG2 tb_ok Try.func8 rfl Try.ntmps8 Try.results8 rfl fun N => ?_
    repeat' (first
        | with_reducible first | refine awp_seq ?_ | refine awp_region ?_ | refine awp_draw mixed ?_ | refine then_n ?_ | refine awp_skip ?_ | refine awp_block ?_ | refine awp_exit ?_ | refine awp_ret ?_ | refine awp_label ?_ | refine then_exit ?_ | refine then_ret ?_ | refine blk_n ?_ | refine blk_ret ?_ | refine blk_exit ?_ | refine blk_other rfl ?_ | refine then_k ?_
        | refine awp_true rfl ?_
        | refine awp_false rfl ?_
        | refine awp_split rfl (fun hb => ?_) (fun hb => ?_)
        | (refine isR ?_; first | refine x_far [] tb_ok rfl ?_ | refine r_nil ?_ | refine r_nild (by kernel_rfl) ?_ | refine x_call (c0 _) ?_ | refine x_call (c0) ?_ | refine x_call (c1 _) ?_ | refine x_call (c1) ?_ | refine x_addE ?_ | refine x_add ?_ | refine x_subE ?_ | refine x_sub ?_ | refine x_cat ?_ | refine x_lenF tb_ok ?_ | refine x_lenO tb_ok ?_ | refine x_lenN tb_ok ?_ | refine x_lenS ?_ | refine x_lssT ?_ | refine x_lssF ?_ | refine x_lss (fun hc => ?_) (fun hc => ?_) | refine x_gtrT ?_ | refine x_gtrF ?_ | refine x_gtr (fun hc => ?_) (fun hc => ?_) | refine x_eqlT ?_ | refine x_eqlF ?_ | refine x_eql (fun hc => ?_) (fun hc => ?_) | refine x_neqT ?_ | refine x_neqF ?_ | refine x_neq (fun hc => ?_) (fun hc => ?_) | refine x_eqlB ?_ | refine x_eqlST ?_ | refine x_eqlSF ?_ | refine x_eqlS (fun hc => ?_) (fun hc => ?_) | refine x_eqlI ?_ | refine x_eqlN ?_ | refine x_neqB ?_ | refine x_neqST ?_ | refine x_neqSF ?_ | refine x_neqS (fun hc => ?_) (fun hc => ?_) | refine x_neqI ?_ | refine x_neqN ?_ | refine x_ixS tb_ok ?_ | refine x_ixA tb_ok ?_ | refine x_slSf tb_ok ?_ | refine x_slSt tb_ok ?_ | refine x_slSm tb_ok ?_ | refine x_slFf tb_ok ?_ | refine x_slFt tb_ok ?_ | refine x_slFm tb_ok ?_ | refine x_eqlA tb_ok ?_ | refine x_eqlAS tb_ok (fun hc => ?_) (fun hc => ?_) | refine x_neqA tb_ok ?_ | refine x_neqAS tb_ok (fun hc => ?_) (fun hc => ?_))
        | refine x_ret ?_
        | refine x_nor ?_
        | exact x_le)
    rfl
  obtain ⟨k, rfl⟩ : ∃ k : Nat, i = k := ⟨i.toNat, by omega⟩
  have hk : k ≤ s.length := by omega
  have c2 := read_v hg (s := s.take ((k : Int)).toNat ++ [47, 45] ++ s.drop ((k : Int)).toNat)
  have l1 : (s.take ((k : Int)).toNat).length = k := by simp; omega
  have l2 : (s.drop ((k : Int)).toNat).length = s.length - k := by simp
  have l3 : ([47, 45] : List UInt8).length = 2 := rfl
  have g0 : (((32 : UInt8).toNat : Int)) = 32 := rfl
  have key : (k = 0 ∨ k = s.length ∨ s[k]? = some 32 ∨ (0 < k ∧ s[k - 1]? = some 32)) → readF (s.take ((k : Int)).toNat ++ [47, 45] ++ s.drop ((k : Int)).toNat) = (0, 2) ∨ readF (s.take ((k : Int)).toNat ++ [47, 45] ++ s.drop ((k : Int)).toNat) = readF s := fun h =>
    read_ins (ins h) (by rw [List.length_append, List.length_append, l1, l2, l3]; omega)
  generalize readF s = r at *
  generalize readF (s.take ((k : Int)).toNat ++ [47, 45] ++ s.drop ((k : Int)).toNat) = o at *
  obtain ⟨r1, r2⟩ := r
  obtain ⟨o1, o2⟩ := o
  dsimp only at *
  by_cases e1 : k = s.length
  · rcases key (.inr (.inl e1)) with ho | ho
    · cases ho
      refine funG2 tb_ok Try.func8 rfl Try.ntmps8 Try.results8 rfl fun N => ?_
      repeat' (first
          | with_reducible first | refine awp_seq ?_ | refine awp_region ?_ | refine awp_draw mixed ?_ | refine then_n ?_ | refine awp_skip ?_ | refine awp_block ?_ | refine awp_exit ?_ | refine awp_ret ?_ | refine awp_label ?_ | refine then_exit ?_ | refine then_ret ?_ | refine blk_n ?_ | refine blk_ret ?_ | refine blk_exit ?_ | refine blk_other rfl ?_ | refine then_k ?_
          | refine awp_true rfl ?_
          | refine awp_false rfl ?_
          | refine awp_split rfl (fun hb => ?_) (fun hb => ?_)
          | (refine isR ?_; first | refine x_far [] tb_ok rfl ?_ | refine r_nil ?_ | refine r_nild (by kernel_rfl) ?_ | refine x_call (c0 _) ?_ | refine x_call (c0) ?_ | refine x_call (c1 _) ?_ | refine x_call (c1) ?_ | refine x_call (c2 _) ?_ | refine x_call (c2) ?_ | refine x_addE ?_ | refine x_add ?_ | refine x_subE ?_ | refine x_sub ?_ | refine x_cat ?_ | refine x_lenF tb_ok ?_ | refine x_lenO tb_ok ?_ | refine x_lenN tb_ok ?_ | refine x_lenS ?_ | refine x_lssT ?_ | refine x_lssF ?_ | refine x_lss (fun hc => ?_) (fun hc => ?_) | refine x_gtrT ?_ | refine x_gtrF ?_ | refine x_gtr (fun hc => ?_) (fun hc => ?_) | refine x_eqlT ?_ | refine x_eqlF ?_ | refine x_eql (fun hc => ?_) (fun hc => ?_) | refine x_neqT ?_ | refine x_neqF ?_ | refine x_neq (fun hc => ?_) (fun hc => ?_) | refine x_eqlB ?_ | refine x_eqlST ?_ | refine x_eqlSF ?_ | refine x_eqlS (fun hc => ?_) (fun hc => ?_) | refine x_eqlI ?_ | refine x_eqlN ?_ | refine x_neqB ?_ | refine x_neqST ?_ | refine x_neqSF ?_ | refine x_neqS (fun hc => ?_) (fun hc => ?_) | refine x_neqI ?_ | refine x_neqN ?_ | refine x_ixS tb_ok ?_ | refine x_ixA tb_ok ?_ | refine x_slSf tb_ok ?_ | refine x_slSt tb_ok ?_ | refine x_slSm tb_ok ?_ | refine x_slFf tb_ok ?_ | refine x_slFt tb_ok ?_ | refine x_slFm tb_ok ?_ | refine x_eqlA tb_ok ?_ | refine x_eqlAS tb_ok (fun hc => ?_) (fun hc => ?_) | refine x_neqA tb_ok ?_ | refine x_neqAS tb_ok (fun hc => ?_) (fun hc => ?_))
          | refine x_ret ?_
          | refine x_nor ?_
          | exact x_le)
      all_goals first | rfl | (exfalso; omega)
    · cases ho
      refine funG2 tb_ok Try.func8 rfl Try.ntmps8 Try.results8 rfl fun N => ?_
      repeat' (first
          | with_reducible first | refine awp_seq ?_ | refine awp_region ?_ | refine awp_draw mixed ?_ | refine then_n ?_ | refine awp_skip ?_ | refine awp_block ?_ | refine awp_exit ?_ | refine awp_ret ?_ | refine awp_label ?_ | refine then_exit ?_ | refine then_ret ?_ | refine blk_n ?_ | refine blk_ret ?_ | refine blk_exit ?_ | refine blk_other rfl ?_ | refine then_k ?_
          | refine awp_true rfl ?_
          | refine awp_false rfl ?_
          | refine awp_split rfl (fun hb => ?_) (fun hb => ?_)
          | (refine isR ?_; first | refine x_far [] tb_ok rfl ?_ | refine r_nil ?_ | refine r_nild (by kernel_rfl) ?_ | refine x_call (c0 _) ?_ | refine x_call (c0) ?_ | refine x_call (c1 _) ?_ | refine x_call (c1) ?_ | refine x_call (c2 _) ?_ | refine x_call (c2) ?_ | refine x_addE ?_ | refine x_add ?_ | refine x_subE ?_ | refine x_sub ?_ | refine x_cat ?_ | refine x_lenF tb_ok ?_ | refine x_lenO tb_ok ?_ | refine x_lenN tb_ok ?_ | refine x_lenS ?_ | refine x_lssT ?_ | refine x_lssF ?_ | refine x_lss (fun hc => ?_) (fun hc => ?_) | refine x_gtrT ?_ | refine x_gtrF ?_ | refine x_gtr (fun hc => ?_) (fun hc => ?_) | refine x_eqlT ?_ | refine x_eqlF ?_ | refine x_eql (fun hc => ?_) (fun hc => ?_) | refine x_neqT ?_ | refine x_neqF ?_ | refine x_neq (fun hc => ?_) (fun hc => ?_) | refine x_eqlB ?_ | refine x_eqlST ?_ | refine x_eqlSF ?_ | refine x_eqlS (fun hc => ?_) (fun hc => ?_) | refine x_eqlI ?_ | refine x_eqlN ?_ | refine x_neqB ?_ | refine x_neqST ?_ | refine x_neqSF ?_ | refine x_neqS (fun hc => ?_) (fun hc => ?_) | refine x_neqI ?_ | refine x_neqN ?_ | refine x_ixS tb_ok ?_ | refine x_ixA tb_ok ?_ | refine x_slSf tb_ok ?_ | refine x_slSt tb_ok ?_ | refine x_slSm tb_ok ?_ | refine x_slFf tb_ok ?_ | refine x_slFt tb_ok ?_ | refine x_slFm tb_ok ?_ | refine x_eqlA tb_ok ?_ | refine x_eqlAS tb_ok (fun hc => ?_) (fun hc => ?_) | refine x_neqA tb_ok ?_ | refine x_neqAS tb_ok (fun hc => ?_) (fun hc => ?_))
          | refine x_ret ?_
          | refine x_nor ?_
          | exact x_le)
      all_goals first | rfl | (exfalso; omega)
  by_cases e2 : k = 0
  · rcases key (.inl e2) with ho | ho
    · cases ho
      refine funG2 tb_ok Try.func8 rfl Try.ntmps8 Try.results8 rfl fun N => ?_
      repeat' (first
          | with_reducible first | refine awp_seq ?_ | refine awp_region ?_ | refine awp_draw mixed ?_ | refine then_n ?_ | refine awp_skip ?_ | refine awp_block ?_ | refine awp_exit ?_ | refine awp_ret ?_ | refine awp_label ?_ | refine then_exit ?_ | refine then_ret ?_ | refine blk_n ?_ | refine blk_ret ?_ | refine blk_exit ?_ | refine blk_other rfl ?_ | refine then_k ?_
          | refine awp_true rfl ?_
          | refine awp_false rfl ?_
          | refine awp_split rfl (fun hb => ?_) (fun hb => ?_)
          | (refine isR ?_; first | refine x_far [] tb_ok rfl ?_ | refine r_nil ?_ | refine r_nild (by kernel_rfl) ?_ | refine x_call (c0 _) ?_ | refine x_call (c0) ?_ | refine x_call (c1 _) ?_ | refine x_call (c1) ?_ | refine x_call (c2 _) ?_ | refine x_call (c2) ?_ | refine x_addE ?_ | refine x_add ?_ | refine x_subE ?_ | refine x_sub ?_ | refine x_cat ?_ | refine x_lenF tb_ok ?_ | refine x_lenO tb_ok ?_ | refine x_lenN tb_ok ?_ | refine x_lenS ?_ | refine x_lssT ?_ | refine x_lssF ?_ | refine x_lss (fun hc => ?_) (fun hc => ?_) | refine x_gtrT ?_ | refine x_gtrF ?_ | refine x_gtr (fun hc => ?_) (fun hc => ?_) | refine x_eqlT ?_ | refine x_eqlF ?_ | refine x_eql (fun hc => ?_) (fun hc => ?_) | refine x_neqT ?_ | refine x_neqF ?_ | refine x_neq (fun hc => ?_) (fun hc => ?_) | refine x_eqlB ?_ | refine x_eqlST ?_ | refine x_eqlSF ?_ | refine x_eqlS (fun hc => ?_) (fun hc => ?_) | refine x_eqlI ?_ | refine x_eqlN ?_ | refine x_neqB ?_ | refine x_neqST ?_ | refine x_neqSF ?_ | refine x_neqS (fun hc => ?_) (fun hc => ?_) | refine x_neqI ?_ | refine x_neqN ?_ | refine x_ixS tb_ok ?_ | refine x_ixA tb_ok ?_ | refine x_slSf tb_ok ?_ | refine x_slSt tb_ok ?_ | refine x_slSm tb_ok ?_ | refine x_slFf tb_ok ?_ | refine x_slFt tb_ok ?_ | refine x_slFm tb_ok ?_ | refine x_eqlA tb_ok ?_ | refine x_eqlAS tb_ok (fun hc => ?_) (fun hc => ?_) | refine x_neqA tb_ok ?_ | refine x_neqAS tb_ok (fun hc => ?_) (fun hc => ?_))
          | refine x_ret ?_
          | refine x_nor ?_
          | exact x_le)
      all_goals first | rfl | (exfalso; omega)
    · cases ho
      refine funG2 tb_ok Try.func8 rfl Try.ntmps8 Try.results8 rfl fun N => ?_
      repeat' (first
          | with_reducible first | refine awp_seq ?_ | refine awp_region ?_ | refine awp_draw mixed ?_ | refine then_n ?_ | refine awp_skip ?_ | refine awp_block ?_ | refine awp_exit ?_ | refine awp_ret ?_ | refine awp_label ?_ | refine then_exit ?_ | refine then_ret ?_ | refine blk_n ?_ | refine blk_ret ?_ | refine blk_exit ?_ | refine blk_other rfl ?_ | refine then_k ?_
          | refine awp_true rfl ?_
          | refine awp_false rfl ?_
          | refine awp_split rfl (fun hb => ?_) (fun hb => ?_)
          | (refine isR ?_; first | refine x_far [] tb_ok rfl ?_ | refine r_nil ?_ | refine r_nild (by kernel_rfl) ?_ | refine x_call (c0 _) ?_ | refine x_call (c0) ?_ | refine x_call (c1 _) ?_ | refine x_call (c1) ?_ | refine x_call (c2 _) ?_ | refine x_call (c2) ?_ | refine x_addE ?_ | refine x_add ?_ | refine x_subE ?_ | refine x_sub ?_ | refine x_cat ?_ | refine x_lenF tb_ok ?_ | refine x_lenO tb_ok ?_ | refine x_lenN tb_ok ?_ | refine x_lenS ?_ | refine x_lssT ?_ | refine x_lssF ?_ | refine x_lss (fun hc => ?_) (fun hc => ?_) | refine x_gtrT ?_ | refine x_gtrF ?_ | refine x_gtr (fun hc => ?_) (fun hc => ?_) | refine x_eqlT ?_ | refine x_eqlF ?_ | refine x_eql (fun hc => ?_) (fun hc => ?_) | refine x_neqT ?_ | refine x_neqF ?_ | refine x_neq (fun hc => ?_) (fun hc => ?_) | refine x_eqlB ?_ | refine x_eqlST ?_ | refine x_eqlSF ?_ | refine x_eqlS (fun hc => ?_) (fun hc => ?_) | refine x_eqlI ?_ | refine x_eqlN ?_ | refine x_neqB ?_ | refine x_neqST ?_ | refine x_neqSF ?_ | refine x_neqS (fun hc => ?_) (fun hc => ?_) | refine x_neqI ?_ | refine x_neqN ?_ | refine x_ixS tb_ok ?_ | refine x_ixA tb_ok ?_ | refine x_slSf tb_ok ?_ | refine x_slSt tb_ok ?_ | refine x_slSm tb_ok ?_ | refine x_slFf tb_ok ?_ | refine x_slFt tb_ok ?_ | refine x_slFm tb_ok ?_ | refine x_eqlA tb_ok ?_ | refine x_eqlAS tb_ok (fun hc => ?_) (fun hc => ?_) | refine x_neqA tb_ok ?_ | refine x_neqAS tb_ok (fun hc => ?_) (fun hc => ?_))
          | refine x_ret ?_
          | refine x_nor ?_
          | exact x_le)
      all_goals first | rfl | (exfalso; omega)
  have e3 : s[k]? = some s[k] := by simp [show k < s.length by omega]
  have e4 : s[((k : Int)).toNat]? = some s[k] := e3
  have e5 : s[k - 1]? = some s[k - 1] := by simp [show k - 1 < s.length by omega]
  have e6 : s[((k : Int) - 1).toNat]? = some s[k - 1] := by rw [show ((k : Int) - 1).toNat = k - 1 by omega]; exact e5
  generalize s[k] = b at *
  generalize s[k - 1] = d at *
  by_cases e7 : b = 32
  · subst e7
    rcases key (.inr (.inr (.inl e3))) with ho | ho
    · cases ho
      refine funG2 tb_ok Try.func8 rfl Try.ntmps8 Try.results8 rfl fun N => ?_
      repeat' (first
          | with_reducible first | refine awp_seq ?_ | refine awp_region ?_ | refine awp_draw mixed ?_ | refine then_n ?_ | refine awp_skip ?_ | refine awp_block ?_ | refine awp_exit ?_ | refine awp_ret ?_ | refine awp_label ?_ | refine then_exit ?_ | refine then_ret ?_ | refine blk_n ?_ | refine blk_ret ?_ | refine blk_exit ?_ | refine blk_other rfl ?_ | refine then_k ?_
          | refine awp_true rfl ?_
          | refine awp_false rfl ?_
          | refine awp_split rfl (fun hb => ?_) (fun hb => ?_)
          | (refine isR ?_; first | refine x_far [] tb_ok rfl ?_ | refine r_nil ?_ | refine r_nild (by kernel_rfl) ?_ | refine x_call (c0 _) ?_ | refine x_call (c0) ?_ | refine x_call (c1 _) ?_ | refine x_call (c1) ?_ | refine x_call (c2 _) ?_ | refine x_call (c2) ?_ | refine x_addE ?_ | refine x_add ?_ | refine x_subE ?_ | refine x_sub ?_ | refine x_cat ?_ | refine x_lenF tb_ok ?_ | refine x_lenO tb_ok ?_ | refine x_lenN tb_ok ?_ | refine x_lenS ?_ | refine x_lssT ?_ | refine x_lssF ?_ | refine x_lss (fun hc => ?_) (fun hc => ?_) | refine x_gtrT ?_ | refine x_gtrF ?_ | refine x_gtr (fun hc => ?_) (fun hc => ?_) | refine x_eqlT ?_ | refine x_eqlF ?_ | refine x_eql (fun hc => ?_) (fun hc => ?_) | refine x_neqT ?_ | refine x_neqF ?_ | refine x_neq (fun hc => ?_) (fun hc => ?_) | refine x_eqlB ?_ | refine x_eqlST ?_ | refine x_eqlSF ?_ | refine x_eqlS (fun hc => ?_) (fun hc => ?_) | refine x_eqlI ?_ | refine x_eqlN ?_ | refine x_neqB ?_ | refine x_neqST ?_ | refine x_neqSF ?_ | refine x_neqS (fun hc => ?_) (fun hc => ?_) | refine x_neqI ?_ | refine x_neqN ?_ | refine x_ixS tb_ok ?_ | refine x_ixA tb_ok ?_ | refine x_slSf tb_ok ?_ | refine x_slSt tb_ok ?_ | refine x_slSm tb_ok ?_ | refine x_slFf tb_ok ?_ | refine x_slFt tb_ok ?_ | refine x_slFm tb_ok ?_ | refine x_eqlA tb_ok ?_ | refine x_eqlAS tb_ok (fun hc => ?_) (fun hc => ?_) | refine x_neqA tb_ok ?_ | refine x_neqAS tb_ok (fun hc => ?_) (fun hc => ?_))
          | refine x_ret ?_
          | refine x_nor ?_
          | exact x_le)
      all_goals first | rfl | (exfalso; omega)
    · cases ho
      refine funG2 tb_ok Try.func8 rfl Try.ntmps8 Try.results8 rfl fun N => ?_
      repeat' (first
          | with_reducible first | refine awp_seq ?_ | refine awp_region ?_ | refine awp_draw mixed ?_ | refine then_n ?_ | refine awp_skip ?_ | refine awp_block ?_ | refine awp_exit ?_ | refine awp_ret ?_ | refine awp_label ?_ | refine then_exit ?_ | refine then_ret ?_ | refine blk_n ?_ | refine blk_ret ?_ | refine blk_exit ?_ | refine blk_other rfl ?_ | refine then_k ?_
          | refine awp_true rfl ?_
          | refine awp_false rfl ?_
          | refine awp_split rfl (fun hb => ?_) (fun hb => ?_)
          | (refine isR ?_; first | refine x_far [] tb_ok rfl ?_ | refine r_nil ?_ | refine r_nild (by kernel_rfl) ?_ | refine x_call (c0 _) ?_ | refine x_call (c0) ?_ | refine x_call (c1 _) ?_ | refine x_call (c1) ?_ | refine x_call (c2 _) ?_ | refine x_call (c2) ?_ | refine x_addE ?_ | refine x_add ?_ | refine x_subE ?_ | refine x_sub ?_ | refine x_cat ?_ | refine x_lenF tb_ok ?_ | refine x_lenO tb_ok ?_ | refine x_lenN tb_ok ?_ | refine x_lenS ?_ | refine x_lssT ?_ | refine x_lssF ?_ | refine x_lss (fun hc => ?_) (fun hc => ?_) | refine x_gtrT ?_ | refine x_gtrF ?_ | refine x_gtr (fun hc => ?_) (fun hc => ?_) | refine x_eqlT ?_ | refine x_eqlF ?_ | refine x_eql (fun hc => ?_) (fun hc => ?_) | refine x_neqT ?_ | refine x_neqF ?_ | refine x_neq (fun hc => ?_) (fun hc => ?_) | refine x_eqlB ?_ | refine x_eqlST ?_ | refine x_eqlSF ?_ | refine x_eqlS (fun hc => ?_) (fun hc => ?_) | refine x_eqlI ?_ | refine x_eqlN ?_ | refine x_neqB ?_ | refine x_neqST ?_ | refine x_neqSF ?_ | refine x_neqS (fun hc => ?_) (fun hc => ?_) | refine x_neqI ?_ | refine x_neqN ?_ | refine x_ixS tb_ok ?_ | refine x_ixA tb_ok ?_ | refine x_slSf tb_ok ?_ | refine x_slSt tb_ok ?_ | refine x_slSm tb_ok ?_ | refine x_slFf tb_ok ?_ | refine x_slFt tb_ok ?_ | refine x_slFm tb_ok ?_ | refine x_eqlA tb_ok ?_ | refine x_eqlAS tb_ok (fun hc => ?_) (fun hc => ?_) | refine x_neqA tb_ok ?_ | refine x_neqAS tb_ok (fun hc => ?_) (fun hc => ?_))
          | refine x_ret ?_
          | refine x_nor ?_
          | exact x_le)
      all_goals first | rfl | (exfalso; omega)
  have g7 : ¬ ((b.toNat : Int) = 32) := fun e => e7 (byte_eq.2 e)
  by_cases e8 : d = 32
  · subst e8
    rcases key (.inr (.inr (.inr ⟨by omega, e5⟩))) with ho | ho
    · cases ho
      refine funG2 tb_ok Try.func8 rfl Try.ntmps8 Try.results8 rfl fun N => ?_
      repeat' (first
          | with_reducible first | refine awp_seq ?_ | refine awp_region ?_ | refine awp_draw mixed ?_ | refine then_n ?_ | refine awp_skip ?_ | refine awp_block ?_ | refine awp_exit ?_ | refine awp_ret ?_ | refine awp_label ?_ | refine then_exit ?_ | refine then_ret ?_ | refine blk_n ?_ | refine blk_ret ?_ | refine blk_exit ?_ | refine blk_other rfl ?_ | refine then_k ?_
          | refine awp_true rfl ?_
          | refine awp_false rfl ?_
          | refine awp_split rfl (fun hb => ?_) (fun hb => ?_)
          | (refine isR ?_; first | refine x_far [] tb_ok rfl ?_ | refine r_nil ?_ | refine r_nild (by kernel_rfl) ?_ | refine x_call (c0 _) ?_ | refine x_call (c0) ?_ | refine x_call (c1 _) ?_ | refine x_call (c1) ?_ | refine x_call (c2 _) ?_ | refine x_call (c2) ?_ | refine x_addE ?_ | refine x_add ?_ | refine x_subE ?_ | refine x_sub ?_ | refine x_cat ?_ | refine x_lenF tb_ok ?_ | refine x_lenO tb_ok ?_ | refine x_lenN tb_ok ?_ | refine x_lenS ?_ | refine x_lssT ?_ | refine x_lssF ?_ | refine x_lss (fun hc => ?_) (fun hc => ?_) | refine x_gtrT ?_ | refine x_gtrF ?_ | refine x_gtr (fun hc => ?_) (fun hc => ?_) | refine x_eqlT ?_ | refine x_eqlF ?_ | refine x_eql (fun hc => ?_) (fun hc => ?_) | refine x_neqT ?_ | refine x_neqF ?_ | refine x_neq (fun hc => ?_) (fun hc => ?_) | refine x_eqlB ?_ | refine x_eqlST ?_ | refine x_eqlSF ?_ | refine x_eqlS (fun hc => ?_) (fun hc => ?_) | refine x_eqlI ?_ | refine x_eqlN ?_ | refine x_neqB ?_ | refine x_neqST ?_ | refine x_neqSF ?_ | refine x_neqS (fun hc => ?_) (fun hc => ?_) | refine x_neqI ?_ | refine x_neqN ?_ | refine x_ixS tb_ok ?_ | refine x_ixA tb_ok ?_ | refine x_slSf tb_ok ?_ | refine x_slSt tb_ok ?_ | refine x_slSm tb_ok ?_ | refine x_slFf tb_ok ?_ | refine x_slFt tb_ok ?_ | refine x_slFm tb_ok ?_ | refine x_eqlA tb_ok ?_ | refine x_eqlAS tb_ok (fun hc => ?_) (fun hc => ?_) | refine x_neqA tb_ok ?_ | refine x_neqAS tb_ok (fun hc => ?_) (fun hc => ?_))
          | refine x_ret ?_
          | refine x_nor ?_
          | exact x_le)
      all_goals first | rfl | (exfalso; omega)
    · cases ho
      refine funG2 tb_ok Try.func8 rfl Try.ntmps8 Try.results8 rfl fun N => ?_
      repeat' (first
          | with_reducible first | refine awp_seq ?_ | refine awp_region ?_ | refine awp_draw mixed ?_ | refine then_n ?_ | refine awp_skip ?_ | refine awp_block ?_ | refine awp_exit ?_ | refine awp_ret ?_ | refine awp_label ?_ | refine then_exit ?_ | refine then_ret ?_ | refine blk_n ?_ | refine blk_ret ?_ | refine blk_exit ?_ | refine blk_other rfl ?_ | refine then_k ?_
          | refine awp_true rfl ?_
          | refine awp_false rfl ?_
          | refine awp_split rfl (fun hb => ?_) (fun hb => ?_)
          | (refine isR ?_; first | refine x_far [] tb_ok rfl ?_ | refine r_nil ?_ | refine r_nild (by kernel_rfl) ?_ | refine x_call (c0 _) ?_ | refine x_call (c0) ?_ | refine x_call (c1 _) ?_ | refine x_call (c1) ?_ | refine x_call (c2 _) ?_ | refine x_call (c2) ?_ | refine x_addE ?_ | refine x_add ?_ | refine x_subE ?_ | refine x_sub ?_ | refine x_cat ?_ | refine x_lenF tb_ok ?_ | refine x_lenO tb_ok ?_ | refine x_lenN tb_ok ?_ | refine x_lenS ?_ | refine x_lssT ?_ | refine x_lssF ?_ | refine x_lss (fun hc => ?_) (fun hc => ?_) | refine x_gtrT ?_ | refine x_gtrF ?_ | refine x_gtr (fun hc => ?_) (fun hc => ?_) | refine x_eqlT ?_ | refine x_eqlF ?_ | refine x_eql (fun hc => ?_) (fun hc => ?_) | refine x_neqT ?_ | refine x_neqF ?_ | refine x_neq (fun hc => ?_) (fun hc => ?_) | refine x_eqlB ?_ | refine x_eqlST ?_ | refine x_eqlSF ?_ | refine x_eqlS (fun hc => ?_) (fun hc => ?_) | refine x_eqlI ?_ | refine x_eqlN ?_ | refine x_neqB ?_ | refine x_neqST ?_ | refine x_neqSF ?_ | refine x_neqS (fun hc => ?_) (fun hc => ?_) | refine x_neqI ?_ | refine x_neqN ?_ | refine x_ixS tb_ok ?_ | refine x_ixA tb_ok ?_ | refine x_slSf tb_ok ?_ | refine x_slSt tb_ok ?_ | refine x_slSm tb_ok ?_ | refine x_slFf tb_ok ?_ | refine x_slFt tb_ok ?_ | refine x_slFm tb_ok ?_ | refine x_eqlA tb_ok ?_ | refine x_eqlAS tb_ok (fun hc => ?_) (fun hc => ?_) | refine x_neqA tb_ok ?_ | refine x_neqAS tb_ok (fun hc => ?_) (fun hc => ?_))
          | refine x_ret ?_
          | refine x_nor ?_
          | exact x_le)
      all_goals first | rfl | (exfalso; omega)
  have g8 : ¬ ((d.toNat : Int) = 32) := fun e => e8 (byte_eq.2 e)
  refine funG2 tb_ok Try.func8 rfl Try.ntmps8 Try.results8 rfl fun N => ?_
  repeat' (first
      | with_reducible first | refine awp_seq ?_ | refine awp_region ?_ | refine awp_draw mixed ?_ | refine then_n ?_ | refine awp_skip ?_ | refine awp_block ?_ | refine awp_exit ?_ | refine awp_ret ?_ | refine awp_label ?_ | refine then_exit ?_ | refine then_ret ?_ | refine blk_n ?_ | refine blk_ret ?_ | refine blk_exit ?_ | refine blk_other rfl ?_ | refine then_k ?_
      | refine awp_true rfl ?_
      | refine awp_false rfl ?_
      | refine awp_split rfl (fun hb => ?_) (fun hb => ?_)
      | (refine isR ?_; first | refine x_far [] tb_ok rfl ?_ | refine r_nil ?_ | refine r_nild (by kernel_rfl) ?_ | refine x_call (c0 _) ?_ | refine x_call (c0) ?_ | refine x_call (c1 _) ?_ | refine x_call (c1) ?_ | refine x_addE ?_ | refine x_add ?_ | refine x_subE ?_ | refine x_sub ?_ | refine x_cat ?_ | refine x_lenF tb_ok ?_ | refine x_lenO tb_ok ?_ | refine x_lenN tb_ok ?_ | refine x_lenS ?_ | refine x_lssT ?_ | refine x_lssF ?_ | refine x_lss (fun hc => ?_) (fun hc => ?_) | refine x_gtrT ?_ | refine x_gtrF ?_ | refine x_gtr (fun hc => ?_) (fun hc => ?_) | refine x_eqlT ?_ | refine x_eqlF ?_ | refine x_eql (fun hc => ?_) (fun hc => ?_) | refine x_neqT ?_ | refine x_neqF ?_ | refine x_neq (fun hc => ?_) (fun hc => ?_) | refine x_eqlB ?_ | refine x_eqlST ?_ | refine x_eqlSF ?_ | refine x_eqlS (fun hc => ?_) (fun hc => ?_) | refine x_eqlI ?_ | refine x_eqlN ?_ | refine x_neqB ?_ | refine x_neqST ?_ | refine x_neqSF ?_ | refine x_neqS (fun hc => ?_) (fun hc => ?_) | refine x_neqI ?_ | refine x_neqN ?_ | refine x_ixS tb_ok ?_ | refine x_ixA tb_ok ?_ | refine x_slSf tb_ok ?_ | refine x_slSt tb_ok ?_ | refine x_slSm tb_ok ?_ | refine x_slFf tb_ok ?_ | refine x_slFt tb_ok ?_ | refine x_slFm tb_ok ?_ | refine x_eqlA tb_ok ?_ | refine x_eqlAS tb_ok (fun hc => ?_) (fun hc => ?_) | refine x_neqA tb_ok ?_ | refine x_neqAS tb_ok (fun hc => ?_) (fun hc => ?_))
      | refine x_ret ?_
      | refine x_nor ?_
      | exact x_le)
  rfl
end Go.Proofs.Ytclekbkpcigkcaa.StampQ
