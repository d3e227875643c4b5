/- The library's stable sort over cookies: the merge. -/
import Derived.Test.YtclekbkpcigkcaaSortW
namespace Go.Proofs.Ytclekbkpcigkcaa.SortM
open Go.RowKit Mem Abs SortP SortW

theorem half {i j : Nat} (h : i + j ≤ 562949953421312) : IntKind.u64.wrap ((i : Int) + (j : Int)) = (i : Int) + (j : Int) ∧ ((i : Int) + (j : Int)).fdiv 2 = (((i + j) / 2 : Nat) : Int) ∧ InR .u64 (((i + j) / 2 : Nat) : Int) ∧ IntKind.i64.wrap (((i + j) / 2 : Nat) : Int) = (((i + j) / 2 : Nat) : Int) := by
  have e : (((i + j) / 2 : Nat) : Int) = ((i : Int) + (j : Int)) / 2 := by omega
  refine ⟨?_, ?_, ?_, ?_⟩
  · simp [IntKind.wrap, IntKind.bits, IntKind.signed]; omega
  · rw [Int.fdiv_eq_ediv_of_nonneg _ (by decide), e]
  · exact ⟨by simp only [rng]; omega, by simp only [rng]; omega⟩
  · exact wrap64 (by omega) (by omega)
theorem bs_end {p : Nat → Bool} {f i j : Nat} (h : ¬ i < j) : bs p f i j = i := by
  cases f with
  | zero => rfl
  | succ f => unfold bs; rw [if_neg h]
theorem bs_on {p : Nat → Bool} {f i j : Nat} (h : i < j) (hf : j - i ≤ f) : ∃ q, f = q + 1 ∧ bs p f i j = if p ((i + j) / 2) = true then bs p q ((i + j) / 2 + 1) j else bs p q i ((i + j) / 2) := by
  obtain ⟨q, rfl⟩ : ∃ q, f = q + 1 := ⟨f - 1, by omega⟩
  refine ⟨q, rfl, ?_⟩
  rw [bs, if_pos h]
theorem ltAt_of {L : List Cookie} {i j : Nat} {x y : Cookie} (h1 : L[i]? = some x) (h2 : L[j]? = some y) : ltAt ckLt L i j = decide (cz x y < 0) := by unfold ltAt; rw [h1, h2]; rfl
/-- Two of a row changed. -/
theorem two {M : List Cookie} {i j : Nat} (h1 : i < M.length) (h2 : j < M.length) : ∃ x y z, M[i]? = some x ∧ M[j]? = some y ∧ (M.set i y)[j]? = some z ∧ swapF M i j = (M.set i y).set j x :=
  ⟨M[i], M[j], (M.set i M[j])[j]'(by simpa using h2), List.getElem?_eq_getElem _, List.getElem?_eq_getElem _, List.getElem?_eq_getElem _, by unfold swapF; rw [List.getElem?_eq_getElem h1, List.getElem?_eq_getElem h2]⟩
abbrev stM (len a m b : Nat) (L : List Cookie) (more : List (Nat × Abs.V)) : S := ⟨[(0, .own 0 0 len), (1, .int .i64 (a : Int)), (2, .int .i64 (m : Int)), (3, .int .i64 (b : Int)), (4, fnC)] ++ more, [(0, some (rowC L))], 1, 220⟩
set_option maxRecDepth 100000 in
set_option maxHeartbeats 4000000 in
theorem sym1_v {L : List Cookie} {a m b len : Nat} (f : Nat) (hl : L.length = len) (hL : len ≤ 140737488355328) (h1 : a < m) (h2 : m < b) (h3 : b ≤ len) (hc : m - a = 1) : MCalls Try.prog 63 [.own 0 0 len, .int .i64 (a : Int), .int .i64 (m : Int), .int .i64 (b : Int), fnC] [rowC L] (.tup []) [some (rowC (symF ckLt (f + 1) L a m b))] := by
  rw [symF, if_pos hc]
  obtain ⟨y, e2⟩ : ∃ y, L[a]? = some y := ⟨_, List.getElem?_eq_getElem (by omega)⟩
  have hp : ∀ h x, L[h]? = some x → (fun h => ltAt ckLt L h a) h = decide (cz x y < 0) := fun h x hx => ltAt_of hx e2
  generalize (fun h => ltAt ckLt L h a) = p at *
  have hT := bs_spec p (b - m) m b (by omega) (Nat.le_refl _)
  generalize hTT : bs p (b - m) m b = T at *
  refine mfun tb_ok Try.func63 rfl Try.ntmps63 Try.results63 rfl rfl rfl rfl fun N pl => ?_
  repeat' (first
      | with_reducible first | refine awp_seq ?_ | refine awp_region ?_ | refine awp_draw mixed ?_ | refine then_n ?_ | refine awp_skip ?_ | refine awp_block ?_ | refine awp_exit ?_ | refine awp_ret ?_ | refine awp_label ?_ | refine then_exit ?_ | refine then_ret ?_ | refine blk_n ?_ | refine blk_ret ?_ | refine blk_exit ?_ | refine blk_other rfl ?_ | refine then_k ?_
      | refine awp_true rfl ?_
      | refine awp_false rfl ?_
      | refine awp_split rfl (fun hb => ?_) (fun hb => ?_)
      | (refine isR ?_; first | refine x_far [] tb_ok rfl ?_ | refine r_nil ?_ | refine r_nild (by kernel_rfl) ?_ | refine x_addE ?_ | refine x_add ?_ | refine x_subE ?_ | refine x_sub ?_ | refine x_cat ?_ | refine x_lssT ?_ | refine x_lssF ?_ | refine x_lss (fun hc => ?_) (fun hc => ?_) | refine x_gtrT ?_ | refine x_gtrF ?_ | refine x_gtr (fun hc => ?_) (fun hc => ?_) | refine x_eqlT ?_ | refine x_eqlF ?_ | refine x_eql (fun hc => ?_) (fun hc => ?_) | refine x_eqlB ?_ | refine x_eqlST ?_ | refine x_eqlSF ?_ | refine x_eqlS (fun hc => ?_) (fun hc => ?_) | refine x_eqlI ?_ | refine x_eqlN ?_ | refine x_iaF tb_ok ?_ | refine x_iaO tb_ok ?_ | refine x_iaA tb_ok ?_ | refine x_iaAF tb_ok ?_ | refine x_bytes tb_ok ?_ | refine x_cv64 tb_ok ?_ | refine x_eqlA tb_ok ?_ | refine x_eqlAS tb_ok (fun hc => ?_) (fun hc => ?_))
      | refine x_ret ?_
      | refine x_nor ?_
      | exact x_le)
  refine awp_while (α := Nat × Nat) (fun x => stM len a m b L [(10, .int .i64 (x.1 : Int)), (11, .int .i64 (x.2 : Int))]) (fun x => m ≤ x.1 ∧ x.1 ≤ x.2 ∧ x.2 ≤ b ∧ ∃ f, x.2 - x.1 ≤ f ∧ bs p f x.1 x.2 = T) (fun x => x.2 - x.1) (m, b) (by exact x_le) ⟨Nat.le_refl _, by dsimp only; omega, Nat.le_refl _, b - m, Nat.le_refl _, hTT⟩ ?_
  rintro ⟨i, j⟩ ⟨g1, g2, g3, q, g4, g5⟩
  dsimp only at g1 g2 g3 g4 g5 ⊢
  by_cases hij : i < j
  · obtain ⟨q, rfl, hq⟩ := bs_on (p := p) hij g4
    rw [hq] at g5
    obtain ⟨x, e1⟩ : ∃ x, L[(i + j) / 2]? = some x := ⟨_, List.getElem?_eq_getElem (by omega)⟩
    rw [hp _ x e1] at g5
    obtain ⟨w1, w2, w3, w4⟩ := half (i := i) (j := j) (by omega)
    have hh : i ≤ (i + j) / 2 ∧ (i + j) / 2 < j := by omega
    generalize (i + j) / 2 = h at *
    have c1 := cmp_v (x := x) (y := y)
    by_cases hz : cz x y < 0
    · rw [if_pos (by simpa using hz)] at g5
      repeat' (first
          | with_reducible first | refine awp_seq ?_ | refine awp_region ?_ | refine awp_draw mixed ?_ | refine then_n ?_ | refine awp_skip ?_ | refine awp_block ?_ | refine awp_exit ?_ | refine awp_ret ?_ | refine awp_label ?_ | refine then_exit ?_ | refine then_ret ?_ | refine blk_n ?_ | refine blk_ret ?_ | refine blk_exit ?_ | refine blk_other rfl ?_ | refine then_k ?_
          | refine awp_true rfl ?_
          | refine awp_false rfl ?_
          | refine awp_split rfl (fun hb => ?_) (fun hb => ?_)
          | (refine isR ?_; first | refine x_far [] tb_ok rfl ?_ | refine r_nil ?_ | refine r_nild (by kernel_rfl) ?_ | refine x_cv .u64 tb_ok ?_ | refine x_shr1 ?_ | refine x_cv .i64 tb_ok ?_ | refine x_ldI Cookie.v h tb_ok ?_ | refine x_ldI Cookie.v a tb_ok ?_ | refine x_callv (c1 _) ?_ | refine x_callv (c1) ?_ | refine x_addE ?_ | refine x_add ?_ | refine x_subE ?_ | refine x_sub ?_ | refine x_cat ?_ | refine x_lssT ?_ | refine x_lssF ?_ | refine x_lss (fun hc => ?_) (fun hc => ?_) | refine x_gtrT ?_ | refine x_gtrF ?_ | refine x_gtr (fun hc => ?_) (fun hc => ?_) | refine x_eqlT ?_ | refine x_eqlF ?_ | refine x_eql (fun hc => ?_) (fun hc => ?_) | refine x_eqlB ?_ | refine x_eqlST ?_ | refine x_eqlSF ?_ | refine x_eqlS (fun hc => ?_) (fun hc => ?_) | refine x_eqlI ?_ | refine x_eqlN ?_ | refine x_iaF tb_ok ?_ | refine x_iaO tb_ok ?_ | refine x_iaA tb_ok ?_ | refine x_iaAF tb_ok ?_ | refine x_bytes tb_ok ?_ | refine x_cv64 tb_ok ?_ | refine x_eqlA tb_ok ?_ | refine x_eqlAS tb_ok (fun hc => ?_) (fun hc => ?_))
          | refine x_ret ?_
          | refine x_nor ?_
          | exact x_le)
      refine ⟨(h + 1, j), ⟨by dsimp only; omega, by dsimp only; omega, g3, q, by dsimp only; omega, g5⟩, by dsimp only; omega, ?_⟩
      exact (by exact x_le)
    · rw [if_neg (by simpa using hz)] at g5
      repeat' (first
          | with_reducible first | refine awp_seq ?_ | refine awp_region ?_ | refine awp_draw mixed ?_ | refine then_n ?_ | refine awp_skip ?_ | refine awp_block ?_ | refine awp_exit ?_ | refine awp_ret ?_ | refine awp_label ?_ | refine then_exit ?_ | refine then_ret ?_ | refine blk_n ?_ | refine blk_ret ?_ | refine blk_exit ?_ | refine blk_other rfl ?_ | refine then_k ?_
          | refine awp_true rfl ?_
          | refine awp_false rfl ?_
          | refine awp_split rfl (fun hb => ?_) (fun hb => ?_)
          | (refine isR ?_; first | refine x_far [] tb_ok rfl ?_ | refine r_nil ?_ | refine r_nild (by kernel_rfl) ?_ | refine x_cv .u64 tb_ok ?_ | refine x_shr1 ?_ | refine x_cv .i64 tb_ok ?_ | refine x_ldI Cookie.v h tb_ok ?_ | refine x_ldI Cookie.v a tb_ok ?_ | refine x_callv (c1 _) ?_ | refine x_callv (c1) ?_ | refine x_addE ?_ | refine x_add ?_ | refine x_subE ?_ | refine x_sub ?_ | refine x_cat ?_ | refine x_lssT ?_ | refine x_lssF ?_ | refine x_lss (fun hc => ?_) (fun hc => ?_) | refine x_gtrT ?_ | refine x_gtrF ?_ | refine x_gtr (fun hc => ?_) (fun hc => ?_) | refine x_eqlT ?_ | refine x_eqlF ?_ | refine x_eql (fun hc => ?_) (fun hc => ?_) | refine x_eqlB ?_ | refine x_eqlST ?_ | refine x_eqlSF ?_ | refine x_eqlS (fun hc => ?_) (fun hc => ?_) | refine x_eqlI ?_ | refine x_eqlN ?_ | refine x_iaF tb_ok ?_ | refine x_iaO tb_ok ?_ | refine x_iaA tb_ok ?_ | refine x_iaAF tb_ok ?_ | refine x_bytes tb_ok ?_ | refine x_cv64 tb_ok ?_ | refine x_eqlA tb_ok ?_ | refine x_eqlAS tb_ok (fun hc => ?_) (fun hc => ?_))
          | refine x_ret ?_
          | refine x_nor ?_
          | exact x_le)
      refine ⟨(i, h), ⟨g1, by dsimp only; omega, by dsimp only; omega, q, by dsimp only; omega, g5⟩, by dsimp only; omega, ?_⟩
      exact (by exact x_le)
  · rw [bs_end hij] at g5
    subst g5
    repeat' (first
        | with_reducible first | refine awp_seq ?_ | refine awp_region ?_ | refine awp_draw mixed ?_ | refine then_n ?_ | refine awp_skip ?_ | refine awp_block ?_ | refine awp_exit ?_ | refine awp_ret ?_ | refine awp_label ?_ | refine then_exit ?_ | refine then_ret ?_ | refine blk_n ?_ | refine blk_ret ?_ | refine blk_exit ?_ | refine blk_other rfl ?_ | refine then_k ?_
        | refine awp_true rfl ?_
        | refine awp_false rfl ?_
        | refine awp_split rfl (fun hb => ?_) (fun hb => ?_)
        | (refine isR ?_; first | refine x_far [] tb_ok rfl ?_ | refine r_nil ?_ | refine r_nild (by kernel_rfl) ?_ | refine x_addE ?_ | refine x_add ?_ | refine x_subE ?_ | refine x_sub ?_ | refine x_cat ?_ | refine x_lssT ?_ | refine x_lssF ?_ | refine x_lss (fun hc => ?_) (fun hc => ?_) | refine x_gtrT ?_ | refine x_gtrF ?_ | refine x_gtr (fun hc => ?_) (fun hc => ?_) | refine x_eqlT ?_ | refine x_eqlF ?_ | refine x_eql (fun hc => ?_) (fun hc => ?_) | refine x_eqlB ?_ | refine x_eqlST ?_ | refine x_eqlSF ?_ | refine x_eqlS (fun hc => ?_) (fun hc => ?_) | refine x_eqlI ?_ | refine x_eqlN ?_ | refine x_iaF tb_ok ?_ | refine x_iaO tb_ok ?_ | refine x_iaA tb_ok ?_ | refine x_iaAF tb_ok ?_ | refine x_bytes tb_ok ?_ | refine x_cv64 tb_ok ?_ | refine x_eqlA tb_ok ?_ | refine x_eqlAS tb_ok (fun hc => ?_) (fun hc => ?_))
        | refine x_ret ?_
        | refine x_nor ?_
        | exact x_le)
    refine awp_while (α := Nat × List Cookie) (fun x => stM len a m b x.2 [(10, .int .i64 (i : Int)), (13, .int .i64 (x.1 : Int))]) (fun x => a ≤ x.1 ∧ x.1 ≤ i - 1 ∧ x.2.length = len ∧ upF (i - 1 - x.1) x.1 x.2 = upF (i - 1 - a) a L) (fun x => i - x.1) (a, L) (by exact x_le) ⟨Nat.le_refl _, by dsimp only; omega, hl, rfl⟩ ?_
    rintro ⟨k, M⟩ ⟨k1, k2, k3, k4⟩
    dsimp only at k1 k2 k3 k4 ⊢
    by_cases hk : k < i - 1
    · obtain ⟨x, y, z, m1, m2, m3, m4⟩ := two (M := M) (i := k) (j := k + 1) (by omega) (by omega)
      repeat' (first
          | with_reducible first | refine awp_seq ?_ | refine awp_region ?_ | refine awp_draw mixed ?_ | refine then_n ?_ | refine awp_skip ?_ | refine awp_block ?_ | refine awp_exit ?_ | refine awp_ret ?_ | refine awp_label ?_ | refine then_exit ?_ | refine then_ret ?_ | refine blk_n ?_ | refine blk_ret ?_ | refine blk_exit ?_ | refine blk_other rfl ?_ | refine then_k ?_
          | refine awp_true rfl ?_
          | refine awp_false rfl ?_
          | refine awp_split rfl (fun hb => ?_) (fun hb => ?_)
          | (refine isR ?_; first | refine x_far [] tb_ok rfl ?_ | refine r_nil ?_ | refine r_nild (by kernel_rfl) ?_ | refine x_ldI Cookie.v (k + 1) tb_ok ?_ | refine x_ldI Cookie.v k tb_ok ?_ | refine x_stI Cookie.v (a1 := y) k tb_ok ?_ | refine x_stI Cookie.v (a1 := x) (k + 1) tb_ok ?_ | refine x_addE ?_ | refine x_add ?_ | refine x_subE ?_ | refine x_sub ?_ | refine x_cat ?_ | refine x_lssT ?_ | refine x_lssF ?_ | refine x_lss (fun hc => ?_) (fun hc => ?_) | refine x_gtrT ?_ | refine x_gtrF ?_ | refine x_gtr (fun hc => ?_) (fun hc => ?_) | refine x_eqlT ?_ | refine x_eqlF ?_ | refine x_eql (fun hc => ?_) (fun hc => ?_) | refine x_eqlB ?_ | refine x_eqlST ?_ | refine x_eqlSF ?_ | refine x_eqlS (fun hc => ?_) (fun hc => ?_) | refine x_eqlI ?_ | refine x_eqlN ?_ | refine x_iaF tb_ok ?_ | refine x_iaO tb_ok ?_ | refine x_iaA tb_ok ?_ | refine x_iaAF tb_ok ?_ | refine x_bytes tb_ok ?_ | refine x_cv64 tb_ok ?_ | refine x_eqlA tb_ok ?_ | refine x_eqlAS tb_ok (fun hc => ?_) (fun hc => ?_))
          | refine x_ret ?_
          | refine x_nor ?_
          | exact x_le)
      refine ⟨(k + 1, (M.set k y).set (k + 1) x), ⟨by dsimp only; omega, by dsimp only; omega, by simp [k3], ?_⟩, by dsimp only; omega, ?_⟩
      · show upF (i - 1 - (k + 1)) (k + 1) _ = _
        rw [← k4, ← m4, show i - 1 - k = (i - 1 - (k + 1)) + 1 by omega, upF]
      · exact (by exact x_le)
    · rw [show i - 1 - k = 0 by omega, upF] at k4
      rw [← k4]
      repeat' (first
          | with_reducible first | refine awp_seq ?_ | refine awp_region ?_ | refine awp_draw mixed ?_ | refine then_n ?_ | refine awp_skip ?_ | refine awp_block ?_ | refine awp_exit ?_ | refine awp_ret ?_ | refine awp_label ?_ | refine then_exit ?_ | refine then_ret ?_ | refine blk_n ?_ | refine blk_ret ?_ | refine blk_exit ?_ | refine blk_other rfl ?_ | refine then_k ?_
          | refine awp_true rfl ?_
          | refine awp_false rfl ?_
          | refine awp_split rfl (fun hb => ?_) (fun hb => ?_)
          | (refine isR ?_; first | refine x_far [] tb_ok rfl ?_ | refine r_nil ?_ | refine r_nild (by kernel_rfl) ?_ | refine x_addE ?_ | refine x_add ?_ | refine x_subE ?_ | refine x_sub ?_ | refine x_cat ?_ | refine x_lssT ?_ | refine x_lssF ?_ | refine x_lss (fun hc => ?_) (fun hc => ?_) | refine x_gtrT ?_ | refine x_gtrF ?_ | refine x_gtr (fun hc => ?_) (fun hc => ?_) | refine x_eqlT ?_ | refine x_eqlF ?_ | refine x_eql (fun hc => ?_) (fun hc => ?_) | refine x_eqlB ?_ | refine x_eqlST ?_ | refine x_eqlSF ?_ | refine x_eqlS (fun hc => ?_) (fun hc => ?_) | refine x_eqlI ?_ | refine x_eqlN ?_ | refine x_iaF tb_ok ?_ | refine x_iaO tb_ok ?_ | refine x_iaA tb_ok ?_ | refine x_iaAF tb_ok ?_ | refine x_bytes tb_ok ?_ | refine x_cv64 tb_ok ?_ | refine x_eqlA tb_ok ?_ | refine x_eqlAS tb_ok (fun hc => ?_) (fun hc => ?_))
          | refine x_mret [0] ?_ ?_
          | refine x_mnor [0] ?_ ?_
          | refine x_ret ?_
          | refine x_nor ?_
          | exact x_le)
      · rfl
      · exact .on (.same (nl_map fun _ => rfl)) .nil
set_option maxRecDepth 100000 in
set_option maxHeartbeats 4000000 in
theorem sym2_v {L : List Cookie} {a m b len : Nat} (f : Nat) (hl : L.length = len) (hL : len ≤ 140737488355328) (h1 : a < m) (h2 : m < b) (h3 : b ≤ len) (hc : ¬ m - a = 1) (hd : b - m = 1) : MCalls Try.prog 63 [.own 0 0 len, .int .i64 (a : Int), .int .i64 (m : Int), .int .i64 (b : Int), fnC] [rowC L] (.tup []) [some (rowC (symF ckLt (f + 1) L a m b))] := by
  rw [symF, if_neg hc, if_pos hd]
  obtain ⟨y, e2⟩ : ∃ y, L[m]? = some y := ⟨_, List.getElem?_eq_getElem (by omega)⟩
  have hp : ∀ h x, L[h]? = some x → (fun h => !ltAt ckLt L m h) h = !decide (cz y x < 0) := fun h x hx => congrArg (!·) (ltAt_of e2 hx)
  generalize (fun h => !ltAt ckLt L m h) = p at *
  have hT := bs_spec p (m - a) a m (by omega) (Nat.le_refl _)
  generalize hTT : bs p (m - a) a m = T at *
  refine mfun tb_ok Try.func63 rfl Try.ntmps63 Try.results63 rfl rfl rfl rfl fun N pl => ?_
  repeat' (first
      | with_reducible first | refine awp_seq ?_ | refine awp_region ?_ | refine awp_draw mixed ?_ | refine then_n ?_ | refine awp_skip ?_ | refine awp_block ?_ | refine awp_exit ?_ | refine awp_ret ?_ | refine awp_label ?_ | refine then_exit ?_ | refine then_ret ?_ | refine blk_n ?_ | refine blk_ret ?_ | refine blk_exit ?_ | refine blk_other rfl ?_ | refine then_k ?_
      | refine awp_true rfl ?_
      | refine awp_false rfl ?_
      | refine awp_split rfl (fun hb => ?_) (fun hb => ?_)
      | (refine isR ?_; first | refine x_far [] tb_ok rfl ?_ | refine r_nil ?_ | refine r_nild (by kernel_rfl) ?_ | refine x_addE ?_ | refine x_add ?_ | refine x_subE ?_ | refine x_sub ?_ | refine x_cat ?_ | refine x_lssT ?_ | refine x_lssF ?_ | refine x_lss (fun hc => ?_) (fun hc => ?_) | refine x_gtrT ?_ | refine x_gtrF ?_ | refine x_gtr (fun hc => ?_) (fun hc => ?_) | refine x_eqlT ?_ | refine x_eqlF ?_ | refine x_eql (fun hc => ?_) (fun hc => ?_) | refine x_eqlB ?_ | refine x_eqlST ?_ | refine x_eqlSF ?_ | refine x_eqlS (fun hc => ?_) (fun hc => ?_) | refine x_eqlI ?_ | refine x_eqlN ?_ | refine x_iaF tb_ok ?_ | refine x_iaO tb_ok ?_ | refine x_iaA tb_ok ?_ | refine x_iaAF tb_ok ?_ | refine x_bytes tb_ok ?_ | refine x_cv64 tb_ok ?_ | refine x_eqlA tb_ok ?_ | refine x_eqlAS tb_ok (fun hc => ?_) (fun hc => ?_))
      | refine x_ret ?_
      | refine x_nor ?_
      | exact x_le)
  refine awp_while (α := Nat × Nat) (fun x => stM len a m b L [(14, .int .i64 (x.1 : Int)), (15, .int .i64 (x.2 : Int))]) (fun x => a ≤ x.1 ∧ x.1 ≤ x.2 ∧ x.2 ≤ m ∧ ∃ f, x.2 - x.1 ≤ f ∧ bs p f x.1 x.2 = T) (fun x => x.2 - x.1) (a, m) (by exact x_le) ⟨Nat.le_refl _, by dsimp only; omega, Nat.le_refl _, m - a, Nat.le_refl _, hTT⟩ ?_
  rintro ⟨i, j⟩ ⟨g1, g2, g3, q, g4, g5⟩
  dsimp only at g1 g2 g3 g4 g5 ⊢
  by_cases hij : i < j
  · obtain ⟨q, rfl, hq⟩ := bs_on (p := p) hij g4
    rw [hq] at g5
    obtain ⟨x, e1⟩ : ∃ x, L[(i + j) / 2]? = some x := ⟨_, List.getElem?_eq_getElem (by omega)⟩
    rw [hp _ x e1] at g5
    obtain ⟨w1, w2, w3, w4⟩ := half (i := i) (j := j) (by omega)
    have hh : i ≤ (i + j) / 2 ∧ (i + j) / 2 < j := by omega
    generalize (i + j) / 2 = h at *
    have c1 := cmp_v (x := y) (y := x)
    by_cases hz : cz y x < 0
    · rw [if_neg (by simpa using hz)] at g5
      repeat' (first
          | with_reducible first | refine awp_seq ?_ | refine awp_region ?_ | refine awp_draw mixed ?_ | refine then_n ?_ | refine awp_skip ?_ | refine awp_block ?_ | refine awp_exit ?_ | refine awp_ret ?_ | refine awp_label ?_ | refine then_exit ?_ | refine then_ret ?_ | refine blk_n ?_ | refine blk_ret ?_ | refine blk_exit ?_ | refine blk_other rfl ?_ | refine then_k ?_
          | refine awp_true rfl ?_
          | refine awp_false rfl ?_
          | refine awp_split rfl (fun hb => ?_) (fun hb => ?_)
          | (refine isR ?_; first | refine x_far [] tb_ok rfl ?_ | refine r_nil ?_ | refine r_nild (by kernel_rfl) ?_ | refine x_cv .u64 tb_ok ?_ | refine x_shr1 ?_ | refine x_cv .i64 tb_ok ?_ | refine x_ldI Cookie.v h tb_ok ?_ | refine x_ldI Cookie.v m tb_ok ?_ | refine x_callv (c1 _) ?_ | refine x_callv (c1) ?_ | refine x_addE ?_ | refine x_add ?_ | refine x_subE ?_ | refine x_sub ?_ | refine x_cat ?_ | refine x_lssT ?_ | refine x_lssF ?_ | refine x_lss (fun hc => ?_) (fun hc => ?_) | refine x_gtrT ?_ | refine x_gtrF ?_ | refine x_gtr (fun hc => ?_) (fun hc => ?_) | refine x_eqlT ?_ | refine x_eqlF ?_ | refine x_eql (fun hc => ?_) (fun hc => ?_) | refine x_eqlB ?_ | refine x_eqlST ?_ | refine x_eqlSF ?_ | refine x_eqlS (fun hc => ?_) (fun hc => ?_) | refine x_eqlI ?_ | refine x_eqlN ?_ | refine x_iaF tb_ok ?_ | refine x_iaO tb_ok ?_ | refine x_iaA tb_ok ?_ | refine x_iaAF tb_ok ?_ | refine x_bytes tb_ok ?_ | refine x_cv64 tb_ok ?_ | refine x_eqlA tb_ok ?_ | refine x_eqlAS tb_ok (fun hc => ?_) (fun hc => ?_))
          | refine x_ret ?_
          | refine x_nor ?_
          | exact x_le)
      refine ⟨(i, h), ⟨g1, by dsimp only; omega, by dsimp only; omega, q, by dsimp only; omega, g5⟩, by dsimp only; omega, ?_⟩
      exact (by exact x_le)
    · rw [if_pos (by simpa using hz)] at g5
      repeat' (first
          | with_reducible first | refine awp_seq ?_ | refine awp_region ?_ | refine awp_draw mixed ?_ | refine then_n ?_ | refine awp_skip ?_ | refine awp_block ?_ | refine awp_exit ?_ | refine awp_ret ?_ | refine awp_label ?_ | refine then_exit ?_ | refine then_ret ?_ | refine blk_n ?_ | refine blk_ret ?_ | refine blk_exit ?_ | refine blk_other rfl ?_ | refine then_k ?_
          | refine awp_true rfl ?_
          | refine awp_false rfl ?_
          | refine awp_split rfl (fun hb => ?_) (fun hb => ?_)
          | (refine isR ?_; first | refine x_far [] tb_ok rfl ?_ | refine r_nil ?_ | refine r_nild (by kernel_rfl) ?_ | refine x_cv .u64 tb_ok ?_ | refine x_shr1 ?_ | refine x_cv .i64 tb_ok ?_ | refine x_ldI Cookie.v h tb_ok ?_ | refine x_ldI Cookie.v m tb_ok ?_ | refine x_callv (c1 _) ?_ | refine x_callv (c1) ?_ | refine x_addE ?_ | refine x_add ?_ | refine x_subE ?_ | refine x_sub ?_ | refine x_cat ?_ | refine x_lssT ?_ | refine x_lssF ?_ | refine x_lss (fun hc => ?_) (fun hc => ?_) | refine x_gtrT ?_ | refine x_gtrF ?_ | refine x_gtr (fun hc => ?_) (fun hc => ?_) | refine x_eqlT ?_ | refine x_eqlF ?_ | refine x_eql (fun hc => ?_) (fun hc => ?_) | refine x_eqlB ?_ | refine x_eqlST ?_ | refine x_eqlSF ?_ | refine x_eqlS (fun hc => ?_) (fun hc => ?_) | refine x_eqlI ?_ | refine x_eqlN ?_ | refine x_iaF tb_ok ?_ | refine x_iaO tb_ok ?_ | refine x_iaA tb_ok ?_ | refine x_iaAF tb_ok ?_ | refine x_bytes tb_ok ?_ | refine x_cv64 tb_ok ?_ | refine x_eqlA tb_ok ?_ | refine x_eqlAS tb_ok (fun hc => ?_) (fun hc => ?_))
          | refine x_ret ?_
          | refine x_nor ?_
          | exact x_le)
      refine ⟨(h + 1, j), ⟨by dsimp only; omega, by dsimp only; omega, g3, q, by dsimp only; omega, g5⟩, by dsimp only; omega, ?_⟩
      exact (by exact x_le)
  · rw [bs_end hij] at g5
    subst g5
    repeat' (first
        | with_reducible first | refine awp_seq ?_ | refine awp_region ?_ | refine awp_draw mixed ?_ | refine then_n ?_ | refine awp_skip ?_ | refine awp_block ?_ | refine awp_exit ?_ | refine awp_ret ?_ | refine awp_label ?_ | refine then_exit ?_ | refine then_ret ?_ | refine blk_n ?_ | refine blk_ret ?_ | refine blk_exit ?_ | refine blk_other rfl ?_ | refine then_k ?_
        | refine awp_true rfl ?_
        | refine awp_false rfl ?_
        | refine awp_split rfl (fun hb => ?_) (fun hb => ?_)
        | (refine isR ?_; first | refine x_far [] tb_ok rfl ?_ | refine r_nil ?_ | refine r_nild (by kernel_rfl) ?_ | refine x_addE ?_ | refine x_add ?_ | refine x_subE ?_ | refine x_sub ?_ | refine x_cat ?_ | refine x_lssT ?_ | refine x_lssF ?_ | refine x_lss (fun hc => ?_) (fun hc => ?_) | refine x_gtrT ?_ | refine x_gtrF ?_ | refine x_gtr (fun hc => ?_) (fun hc => ?_) | refine x_eqlT ?_ | refine x_eqlF ?_ | refine x_eql (fun hc => ?_) (fun hc => ?_) | refine x_eqlB ?_ | refine x_eqlST ?_ | refine x_eqlSF ?_ | refine x_eqlS (fun hc => ?_) (fun hc => ?_) | refine x_eqlI ?_ | refine x_eqlN ?_ | refine x_iaF tb_ok ?_ | refine x_iaO tb_ok ?_ | refine x_iaA tb_ok ?_ | refine x_iaAF tb_ok ?_ | refine x_bytes tb_ok ?_ | refine x_cv64 tb_ok ?_ | refine x_eqlA tb_ok ?_ | refine x_eqlAS tb_ok (fun hc => ?_) (fun hc => ?_))
        | refine x_ret ?_
        | refine x_nor ?_
        | exact x_le)
    refine awp_while (α := Nat × List Cookie) (fun x => stM len a m b x.2 [(14, .int .i64 (i : Int)), (17, .int .i64 (x.1 : Int))]) (fun x => x.1 ≤ m ∧ i ≤ x.1 ∧ x.2.length = len ∧ downF i x.1 x.2 = downF i m L) (fun x => x.1) (m, L) (by exact x_le) ⟨Nat.le_refl _, by dsimp only; omega, hl, rfl⟩ ?_
    rintro ⟨k, M⟩ ⟨k1, k2, k3, k4⟩
    dsimp only at k1 k2 k3 k4 ⊢
    by_cases hk : i < k
    · obtain ⟨k, rfl⟩ : ∃ q, k = q + 1 := ⟨k - 1, by omega⟩
      rw [downF, if_pos hk] at k4
      obtain ⟨x, y, z, m1, m2, m3, m4⟩ := two (M := M) (i := k + 1) (j := k) (by omega) (by omega)
      repeat' (first
          | with_reducible first | refine awp_seq ?_ | refine awp_region ?_ | refine awp_draw mixed ?_ | refine then_n ?_ | refine awp_skip ?_ | refine awp_block ?_ | refine awp_exit ?_ | refine awp_ret ?_ | refine awp_label ?_ | refine then_exit ?_ | refine then_ret ?_ | refine blk_n ?_ | refine blk_ret ?_ | refine blk_exit ?_ | refine blk_other rfl ?_ | refine then_k ?_
          | refine awp_true rfl ?_
          | refine awp_false rfl ?_
          | refine awp_split rfl (fun hb => ?_) (fun hb => ?_)
          | (refine isR ?_; first | refine x_far [] tb_ok rfl ?_ | refine r_nil ?_ | refine r_nild (by kernel_rfl) ?_ | refine x_ldI Cookie.v (k + 1) tb_ok ?_ | refine x_ldI Cookie.v k tb_ok ?_ | refine x_stI Cookie.v (a1 := y) (k + 1) tb_ok ?_ | refine x_stI Cookie.v (a1 := x) k tb_ok ?_ | refine x_addE ?_ | refine x_add ?_ | refine x_subE ?_ | refine x_sub ?_ | refine x_cat ?_ | refine x_lssT ?_ | refine x_lssF ?_ | refine x_lss (fun hc => ?_) (fun hc => ?_) | refine x_gtrT ?_ | refine x_gtrF ?_ | refine x_gtr (fun hc => ?_) (fun hc => ?_) | refine x_eqlT ?_ | refine x_eqlF ?_ | refine x_eql (fun hc => ?_) (fun hc => ?_) | refine x_eqlB ?_ | refine x_eqlST ?_ | refine x_eqlSF ?_ | refine x_eqlS (fun hc => ?_) (fun hc => ?_) | refine x_eqlI ?_ | refine x_eqlN ?_ | refine x_iaF tb_ok ?_ | refine x_iaO tb_ok ?_ | refine x_iaA tb_ok ?_ | refine x_iaAF tb_ok ?_ | refine x_bytes tb_ok ?_ | refine x_cv64 tb_ok ?_ | refine x_eqlA tb_ok ?_ | refine x_eqlAS tb_ok (fun hc => ?_) (fun hc => ?_))
          | refine x_ret ?_
          | refine x_nor ?_
          | exact x_le)
      refine ⟨(k, (M.set (k + 1) y).set k x), ⟨by dsimp only; omega, by dsimp only; omega, by simp [k3], ?_⟩, by dsimp only; omega, ?_⟩
      · show downF i k _ = _
        rw [← k4, ← m4]
      · have ek : ((k : Nat) : Int) = ((k + 1 : Nat) : Int) - 1 := by omega
        dsimp only
        rw [ek]
        exact (by exact x_le)
    · have hd0 : downF i k M = M := by
        cases k with
        | zero => rfl
        | succ k => rw [downF, if_neg hk]
      rw [hd0] at k4
      rw [← k4]
      repeat' (first
          | with_reducible first | refine awp_seq ?_ | refine awp_region ?_ | refine awp_draw mixed ?_ | refine then_n ?_ | refine awp_skip ?_ | refine awp_block ?_ | refine awp_exit ?_ | refine awp_ret ?_ | refine awp_label ?_ | refine then_exit ?_ | refine then_ret ?_ | refine blk_n ?_ | refine blk_ret ?_ | refine blk_exit ?_ | refine blk_other rfl ?_ | refine then_k ?_
          | refine awp_true rfl ?_
          | refine awp_false rfl ?_
          | refine awp_split rfl (fun hb => ?_) (fun hb => ?_)
          | (refine isR ?_; first | refine x_far [] tb_ok rfl ?_ | refine r_nil ?_ | refine r_nild (by kernel_rfl) ?_ | refine x_addE ?_ | refine x_add ?_ | refine x_subE ?_ | refine x_sub ?_ | refine x_cat ?_ | refine x_lssT ?_ | refine x_lssF ?_ | refine x_lss (fun hc => ?_) (fun hc => ?_) | refine x_gtrT ?_ | refine x_gtrF ?_ | refine x_gtr (fun hc => ?_) (fun hc => ?_) | refine x_eqlT ?_ | refine x_eqlF ?_ | refine x_eql (fun hc => ?_) (fun hc => ?_) | refine x_eqlB ?_ | refine x_eqlST ?_ | refine x_eqlSF ?_ | refine x_eqlS (fun hc => ?_) (fun hc => ?_) | refine x_eqlI ?_ | refine x_eqlN ?_ | refine x_iaF tb_ok ?_ | refine x_iaO tb_ok ?_ | refine x_iaA tb_ok ?_ | refine x_iaAF tb_ok ?_ | refine x_bytes tb_ok ?_ | refine x_cv64 tb_ok ?_ | refine x_eqlA tb_ok ?_ | refine x_eqlAS tb_ok (fun hc => ?_) (fun hc => ?_))
          | refine x_mret [0] ?_ ?_
          | refine x_mnor [0] ?_ ?_
          | refine x_ret ?_
          | refine x_nor ?_
          | exact x_le)
      · rfl
      · exact .on (.same (nl_map fun _ => rfl)) .nil
end Go.Proofs.Ytclekbkpcigkcaa.SortM
