/- The library's stable sort over cookies: the merge's long case, and the whole. -/
import Derived.Test.YtclekbkpcigkcaaSortM
namespace Go.Proofs.Ytclekbkpcigkcaa.SortN
open Go.RowKit Mem Abs SortP SortW SortM
abbrev SymC (len f : Nat) : Prop := ∀ (L : List Cookie) (a m b : Nat), L.length = len → a < m → m < b → b ≤ len → b - a ≤ f → MCalls Try.prog 63 [.own 0 0 len, .int .i64 (a : Int), .int .i64 (m : Int), .int .i64 (b : Int), fnC] [rowC L] (.tup []) [some (rowC (symF ckLt f L a m b))]
set_option maxRecDepth 100000 in
set_option maxHeartbeats 4000000 in
theorem sym3_v {L : List Cookie} {a m b len : Nat} (f : Nat) (hl : L.length = len) (hL : len ≤ 140737488355328) (h1 : a < m) (h2 : m < b) (h3 : b ≤ len) (hf : b - a ≤ f + 1) (hc : ¬ m - a = 1) (hd : ¬ b - m = 1) (ih : SymC len f) : MCalls Try.prog 63 [.own 0 0 len, .int .i64 (a : Int), .int .i64 (m : Int), .int .i64 (b : Int), fnC] [rowC L] (.tup []) [some (rowC (symF ckLt (f + 1) L a m b))] := by
  rw [symF, if_neg hc, if_neg hd]
  have hs0 : s0F a m b = if (a + b) / 2 < m then (a + b) / 2 + m - b else a := rfl
  have hr0 : rF a m b = if (a + b) / 2 < m then (a + b) / 2 else m := rfl
  have hp : ∀ c x y, L[(a + b) / 2 + m - 1 - c]? = some y → L[c]? = some x → (fun c => !ltAt ckLt L ((a + b) / 2 + m - 1 - c) c) c = !decide (cz y x < 0) := fun c x y hy hx => congrArg (!·) (ltAt_of hy hx)
  have hT : bs (fun c => !ltAt ckLt L ((a + b) / 2 + m - 1 - c) c) (rF a m b - s0F a m b) (s0F a m b) (rF a m b) = sF ckLt L a m b := rfl
  generalize (fun c => !ltAt ckLt L ((a + b) / 2 + m - 1 - c) c) = p at *
  generalize s0F a m b = s0 at *
  generalize rF a m b = r0 at *
  generalize sF ckLt L a m b = T at *
  obtain ⟨w1, w2, w3, w4⟩ := half (i := a) (j := b) (by omega)
  have hmid : a < (a + b) / 2 ∧ (a + b) / 2 < b ∧ a + b ≤ 2 * ((a + b) / 2) + 1 ∧ 2 * ((a + b) / 2) ≤ a + b := by omega
  generalize (a + b) / 2 = mid at *
  have hsr : s0 ≤ r0 ∧ a ≤ s0 ∧ r0 ≤ m ∧ r0 ≤ mid ∧ mid + m ≤ s0 + b := by rw [hs0, hr0]; split <;> omega
  have hb := bs_spec p (r0 - s0) s0 r0 hsr.1 (Nat.le_refl _)
  rw [hT] at hb
  have i0 : mid < m → (s0 : Int) = (mid : Int) + (m : Int) - (b : Int) ∧ r0 = mid := fun h => by rw [if_pos h] at hs0 hr0; omega
  have i1 : ¬ mid < m → s0 = a ∧ r0 = m := fun h => by rw [if_neg h] at hs0 hr0; omega
  clear hs0 hr0
  dsimp only
  have ee : ((mid + m - T : Nat) : Int) = (mid : Int) + (m : Int) - (T : Int) := by omega
  have n1 : ¬ (T < m ∧ m < mid + m - T) → rotOr L T m (mid + m - T) = L := fun h => if_neg h
  have c1 : T < m → m < mid + m - T → MCalls Try.prog 70 [.own 0 0 len, .int .i64 (T : Int), .int .i64 (m : Int), .int .i64 ((mid : Int) + (m : Int) - (T : Int)), fnC] [rowC L] (.tup []) [some (rowC (rotOr L T m (mid + m - T)))] := fun x y => by
    unfold rotOr
    rw [if_pos ⟨x, y⟩, ← ee]
    exact rot_v hl hL x y (by omega)
  have l1 : (rotOr L T m (mid + m - T)).length = len := rotOr_len.trans hl
  generalize rotOr L T m (mid + m - T) = L1 at *
  have n2 : ¬ (a < T ∧ T < mid) → (if a < T ∧ T < mid then symF ckLt f L1 a T mid else L1) = L1 := fun h => if_neg h
  have c2 : a < T → T < mid → MCalls Try.prog 63 [.own 0 0 len, .int .i64 (a : Int), .int .i64 (T : Int), .int .i64 (mid : Int), fnC] [rowC L1] (.tup []) [some (rowC (if a < T ∧ T < mid then symF ckLt f L1 a T mid else L1))] := fun x y => by
    rw [if_pos ⟨x, y⟩]
    exact ih L1 a T mid l1 x y (by omega) (by omega)
  have l2 : (if a < T ∧ T < mid then symF ckLt f L1 a T mid else L1).length = len := by
    split
    · exact (symF_len _ _ _ _ _).trans l1
    · exact l1
  generalize (if a < T ∧ T < mid then symF ckLt f L1 a T mid else L1) = L2 at *
  have n3 : ¬ (mid < mid + m - T ∧ mid + m - T < b) → (if mid < mid + m - T ∧ mid + m - T < b then symF ckLt f L2 mid (mid + m - T) b else L2) = L2 := fun h => if_neg h
  have c3 : mid < mid + m - T → mid + m - T < b → MCalls Try.prog 63 [.own 0 0 len, .int .i64 (mid : Int), .int .i64 ((mid : Int) + (m : Int) - (T : Int)), .int .i64 (b : Int), fnC] [rowC L2] (.tup []) [some (rowC (if mid < mid + m - T ∧ mid + m - T < b then symF ckLt f L2 mid (mid + m - T) b else L2))] := fun x y => by
    rw [if_pos ⟨x, y⟩, ← ee]
    exact ih L2 mid (mid + m - T) b l2 x y h3 (by omega)
  generalize (if mid < mid + m - T ∧ mid + m - T < b then symF ckLt f L2 mid (mid + m - T) b else L2) = L3 at *
  clear ih
  refine mfun tb_ok Try.func63 rfl Try.ntmps63 Try.results63 rfl rfl rfl rfl fun N pl => ?_
  repeat' (first
      | refine awp_cutR (id := 27) ((stM len a m b L [(18, .int .i64 (mid : Int)), (19, .int .i64 ((mid : Int) + (m : Int))), (20, .int .i64 (s0 : Int)), (21, .int .i64 (r0 : Int))])) ?_ ?_
      | with_reducible first | refine awp_seq ?_ | refine awp_region ?_ | refine awp_draw mixed ?_ | refine then_n ?_ | refine awp_skip ?_ | refine awp_block ?_ | refine awp_exit ?_ | refine awp_ret ?_ | refine awp_label ?_ | refine then_exit ?_ | refine then_ret ?_ | refine blk_n ?_ | refine blk_ret ?_ | refine blk_exit ?_ | refine blk_other rfl ?_ | refine then_k ?_
      | refine awp_true rfl ?_
      | refine awp_false rfl ?_
      | refine awp_split rfl (fun hb => ?_) (fun hb => ?_)
      | (refine isR ?_; first | refine x_far [] tb_ok rfl ?_ | refine r_nil ?_ | refine r_nild (by kernel_rfl) ?_ | refine x_cv .u64 tb_ok ?_ | refine x_shr1 ?_ | refine x_cv .i64 tb_ok ?_ | refine x_addE ?_ | refine x_add ?_ | refine x_subE ?_ | refine x_sub ?_ | refine x_cat ?_ | refine x_lssT ?_ | refine x_lssF ?_ | refine x_lss (fun hc => ?_) (fun hc => ?_) | refine x_gtrT ?_ | refine x_gtrF ?_ | refine x_gtr (fun hc => ?_) (fun hc => ?_) | refine x_eqlT ?_ | refine x_eqlF ?_ | refine x_eql (fun hc => ?_) (fun hc => ?_) | refine x_eqlB ?_ | refine x_eqlST ?_ | refine x_eqlSF ?_ | refine x_eqlS (fun hc => ?_) (fun hc => ?_) | refine x_eqlI ?_ | refine x_eqlN ?_ | refine x_iaF tb_ok ?_ | refine x_iaO tb_ok ?_ | refine x_iaA tb_ok ?_ | refine x_iaAF tb_ok ?_ | refine x_bytes tb_ok ?_ | refine x_cv64 tb_ok ?_ | refine x_eqlA tb_ok ?_ | refine x_eqlAS tb_ok (fun hc => ?_) (fun hc => ?_))
      | refine x_ret ?_
      | refine x_nor ?_)
  · refine awp_while (α := Nat × Nat) (fun x => stM len a m b L [(18, .int .i64 (mid : Int)), (19, .int .i64 ((mid : Int) + (m : Int))), (20, .int .i64 (x.1 : Int)), (21, .int .i64 (x.2 : Int)), (22, .int .i64 ((mid : Int) + (m : Int) - 1))]) (fun x => s0 ≤ x.1 ∧ x.1 ≤ x.2 ∧ x.2 ≤ r0 ∧ ∃ f, x.2 - x.1 ≤ f ∧ bs p f x.1 x.2 = T) (fun x => x.2 - x.1) (s0, r0) (by exact x_le) ⟨Nat.le_refl _, hsr.1, Nat.le_refl _, r0 - s0, Nat.le_refl _, hT⟩ ?_
    rintro ⟨i, j⟩ ⟨g1, g2, g3, q, g4, g5⟩
    dsimp only at g1 g2 g3 g4 g5 ⊢
    by_cases hij : i < j
    · clear c1 c2 c3 n1 n2 n3 i0 i1 hb w1 w2 w3 w4 ee l1 l2 hT
      obtain ⟨q, rfl, hq⟩ := bs_on (p := p) hij g4
      rw [hq] at g5
      obtain ⟨x, e1⟩ : ∃ x, L[(i + j) / 2]? = some x := ⟨_, List.getElem?_eq_getElem (by omega)⟩
      obtain ⟨y, e2⟩ : ∃ y, L[mid + m - 1 - (i + j) / 2]? = some y := ⟨_, List.getElem?_eq_getElem (by omega)⟩
      rw [hp _ x y e2 e1] at g5
      obtain ⟨v1, v2, v3, v4⟩ := half (i := i) (j := j) (by omega)
      have hh : i ≤ (i + j) / 2 ∧ (i + j) / 2 < j := by omega
      generalize (i + j) / 2 = h at *
      have c4 := cmp_v (x := y) (y := x)
      by_cases hz : cz y x < 0
      · rw [if_neg (by simpa using hz)] at g5
        repeat' (first
            | with_reducible first | refine awp_seq ?_ | refine awp_region ?_ | refine awp_draw mixed ?_ | refine then_n ?_ | refine awp_skip ?_ | refine awp_block ?_ | refine awp_exit ?_ | refine awp_ret ?_ | refine awp_label ?_ | refine then_exit ?_ | refine then_ret ?_ | refine blk_n ?_ | refine blk_ret ?_ | refine blk_exit ?_ | refine blk_other rfl ?_ | refine then_k ?_
            | refine awp_true rfl ?_
            | refine awp_false rfl ?_
            | refine awp_split rfl (fun hb => ?_) (fun hb => ?_)
            | (refine isR ?_; first | refine x_far [] tb_ok rfl ?_ | refine r_nil ?_ | refine r_nild (by kernel_rfl) ?_ | refine x_cv .u64 tb_ok ?_ | refine x_shr1 ?_ | refine x_cv .i64 tb_ok ?_ | refine x_ldI Cookie.v (mid + m - 1 - h) tb_ok ?_ | refine x_ldI Cookie.v h tb_ok ?_ | refine x_callv (c4 _) ?_ | refine x_callv (c4) ?_ | refine x_addE ?_ | refine x_add ?_ | refine x_subE ?_ | refine x_sub ?_ | refine x_cat ?_ | refine x_lssT ?_ | refine x_lssF ?_ | refine x_lss (fun hc => ?_) (fun hc => ?_) | refine x_gtrT ?_ | refine x_gtrF ?_ | refine x_gtr (fun hc => ?_) (fun hc => ?_) | refine x_eqlT ?_ | refine x_eqlF ?_ | refine x_eql (fun hc => ?_) (fun hc => ?_) | refine x_eqlB ?_ | refine x_eqlST ?_ | refine x_eqlSF ?_ | refine x_eqlS (fun hc => ?_) (fun hc => ?_) | refine x_eqlI ?_ | refine x_eqlN ?_ | refine x_iaF tb_ok ?_ | refine x_iaO tb_ok ?_ | refine x_iaA tb_ok ?_ | refine x_iaAF tb_ok ?_ | refine x_bytes tb_ok ?_ | refine x_cv64 tb_ok ?_ | refine x_eqlA tb_ok ?_ | refine x_eqlAS tb_ok (fun hc => ?_) (fun hc => ?_))
            | refine x_ret ?_
            | refine x_nor ?_
            | exact x_le)
        refine ⟨(i, h), ⟨g1, by dsimp only; omega, by dsimp only; omega, q, by dsimp only; omega, g5⟩, by dsimp only; omega, ?_⟩
        exact (by exact x_le)
      · rw [if_pos (by simpa using hz)] at g5
        repeat' (first
            | with_reducible first | refine awp_seq ?_ | refine awp_region ?_ | refine awp_draw mixed ?_ | refine then_n ?_ | refine awp_skip ?_ | refine awp_block ?_ | refine awp_exit ?_ | refine awp_ret ?_ | refine awp_label ?_ | refine then_exit ?_ | refine then_ret ?_ | refine blk_n ?_ | refine blk_ret ?_ | refine blk_exit ?_ | refine blk_other rfl ?_ | refine then_k ?_
            | refine awp_true rfl ?_
            | refine awp_false rfl ?_
            | refine awp_split rfl (fun hb => ?_) (fun hb => ?_)
            | (refine isR ?_; first | refine x_far [] tb_ok rfl ?_ | refine r_nil ?_ | refine r_nild (by kernel_rfl) ?_ | refine x_cv .u64 tb_ok ?_ | refine x_shr1 ?_ | refine x_cv .i64 tb_ok ?_ | refine x_ldI Cookie.v (mid + m - 1 - h) tb_ok ?_ | refine x_ldI Cookie.v h tb_ok ?_ | refine x_callv (c4 _) ?_ | refine x_callv (c4) ?_ | refine x_addE ?_ | refine x_add ?_ | refine x_subE ?_ | refine x_sub ?_ | refine x_cat ?_ | refine x_lssT ?_ | refine x_lssF ?_ | refine x_lss (fun hc => ?_) (fun hc => ?_) | refine x_gtrT ?_ | refine x_gtrF ?_ | refine x_gtr (fun hc => ?_) (fun hc => ?_) | refine x_eqlT ?_ | refine x_eqlF ?_ | refine x_eql (fun hc => ?_) (fun hc => ?_) | refine x_eqlB ?_ | refine x_eqlST ?_ | refine x_eqlSF ?_ | refine x_eqlS (fun hc => ?_) (fun hc => ?_) | refine x_eqlI ?_ | refine x_eqlN ?_ | refine x_iaF tb_ok ?_ | refine x_iaO tb_ok ?_ | refine x_iaA tb_ok ?_ | refine x_iaAF tb_ok ?_ | refine x_bytes tb_ok ?_ | refine x_cv64 tb_ok ?_ | refine x_eqlA tb_ok ?_ | refine x_eqlAS tb_ok (fun hc => ?_) (fun hc => ?_))
            | refine x_ret ?_
            | refine x_nor ?_
            | exact x_le)
        refine ⟨(h + 1, j), ⟨by dsimp only; omega, by dsimp only; omega, g3, q, by dsimp only; omega, g5⟩, by dsimp only; omega, ?_⟩
        exact (by exact x_le)
    · rw [bs_end hij] at g5
      subst g5
      clear hp hT hb i0 i1 w1 w2 w3 w4 l1 l2 hl g4
      have k1 : i ≤ m ∧ i ≤ mid := by omega
      clear g1 g2 g3 hsr
      repeat' (first
          | refine awp_cutR (id := 39) ((stM len a m b L1 [(18, .int .i64 (mid : Int)), (20, .int .i64 (i : Int)), (24, .int .i64 ((mid : Int) + (m : Int) - (i : Int)))])) ?_ ?_
          | refine awp_cutR (id := 41) ((stM len a m b L2 [(18, .int .i64 (mid : Int)), (24, .int .i64 ((mid : Int) + (m : Int) - (i : Int)))])) ?_ ?_
          | with_reducible first | refine awp_seq ?_ | refine awp_region ?_ | refine awp_draw mixed ?_ | refine then_n ?_ | refine awp_skip ?_ | refine awp_block ?_ | refine awp_exit ?_ | refine awp_ret ?_ | refine awp_label ?_ | refine then_exit ?_ | refine then_ret ?_ | refine blk_n ?_ | refine blk_ret ?_ | refine blk_exit ?_ | refine blk_other rfl ?_ | refine then_k ?_
          | refine awp_true rfl ?_
          | refine awp_false rfl ?_
          | refine awp_split rfl (fun hb => ?_) (fun hb => ?_)
          | (refine isR ?_; first | refine x_far [] tb_ok rfl ?_ | refine r_nil ?_ | refine r_nild (by kernel_rfl) ?_ | refine x_m [0] [] (c1 (by omega) (by omega) _) ?_ | refine x_m0 [0] [] (c1 (by omega) (by omega) _) ?_ | refine x_m [0] [] (c1 (by omega) (by omega)) ?_ | refine x_m0 [0] [] (c1 (by omega) (by omega)) ?_ | refine x_m [0] [] (c2 (by omega) (by omega) _) ?_ | refine x_m0 [0] [] (c2 (by omega) (by omega) _) ?_ | refine x_m [0] [] (c2 (by omega) (by omega)) ?_ | refine x_m0 [0] [] (c2 (by omega) (by omega)) ?_ | refine x_m [0] [] (c3 (by omega) (by omega) _) ?_ | refine x_m0 [0] [] (c3 (by omega) (by omega) _) ?_ | refine x_m [0] [] (c3 (by omega) (by omega)) ?_ | refine x_m0 [0] [] (c3 (by omega) (by omega)) ?_ | refine x_addE ?_ | refine x_add ?_ | refine x_subE ?_ | refine x_sub ?_ | refine x_cat ?_ | refine x_lssT ?_ | refine x_lssF ?_ | refine x_lss (fun hc => ?_) (fun hc => ?_) | refine x_gtrT ?_ | refine x_gtrF ?_ | refine x_gtr (fun hc => ?_) (fun hc => ?_) | refine x_eqlT ?_ | refine x_eqlF ?_ | refine x_eql (fun hc => ?_) (fun hc => ?_) | refine x_eqlB ?_ | refine x_eqlST ?_ | refine x_eqlSF ?_ | refine x_eqlS (fun hc => ?_) (fun hc => ?_) | refine x_eqlI ?_ | refine x_eqlN ?_ | refine x_iaF tb_ok ?_ | refine x_iaO tb_ok ?_ | refine x_iaA tb_ok ?_ | refine x_iaAF tb_ok ?_ | refine x_bytes tb_ok ?_ | refine x_cv64 tb_ok ?_ | refine x_eqlA tb_ok ?_ | refine x_eqlAS tb_ok (fun hc => ?_) (fun hc => ?_))
          | refine x_mret [0] ?_ ?_
          | refine x_mnor [0] ?_ ?_
          | refine x_ret ?_
          | refine x_nor ?_)
      all_goals first
        | rfl
        | exact .on (.same (nl_map fun _ => rfl)) .nil
        | (rw [n3 (by omega)]; exact .on (.same (nl_map fun _ => rfl)) .nil)
        | (rw [n2 (by omega)]; exact (by exact x_le))
        | (rw [n1 (by omega)]; exact (by exact x_le))
        | exact (by exact x_le)
  · obtain ⟨k1, k2⟩ := i0 (by omega)
    rw [k1, k2]
    exact (by exact x_le)
  · obtain ⟨k1, k2⟩ := i1 (by omega)
    rw [k1, k2]
    exact (by exact x_le)
theorem sym_v {len : Nat} (hL : len ≤ 140737488355328) : ∀ f, SymC len f
  | 0 => fun L a m b hl h1 h2 h3 hf => by omega
  | f + 1 => fun L a m b hl h1 h2 h3 hf => by
    by_cases hc : m - a = 1
    · exact sym1_v f hl hL h1 h2 h3 hc
    · by_cases hd : b - m = 1
      · exact sym2_v f hl hL h1 h2 h3 hc hd
      · exact sym3_v f hl hL h1 h2 h3 hf hc hd (sym_v hL f)
set_option maxRecDepth 100000 in
set_option maxHeartbeats 4000000 in
theorem ins_v {L : List Cookie} {a b len : Nat} (hl : L.length = len) (hL : len ≤ 140737488355328) (h1 : a ≤ b) (h2 : b ≤ len) : MCalls Try.prog 62 [.own 0 0 len, .int .i64 (a : Int), .int .i64 (b : Int), fnC] [rowC L] (.tup []) [some (rowC (ins ckLt L a b))] := by
  unfold ins
  refine mfun tb_ok Try.func62 rfl Try.ntmps62 Try.results62 rfl rfl rfl rfl fun N pl => ?_
  repeat' (first
      | with_reducible first | refine awp_seq ?_ | refine awp_region ?_ | refine awp_draw mixed ?_ | refine then_n ?_ | refine awp_skip ?_ | refine awp_block ?_ | refine awp_exit ?_ | refine awp_ret ?_ | refine awp_label ?_ | refine then_exit ?_ | refine then_ret ?_ | refine blk_n ?_ | refine blk_ret ?_ | refine blk_exit ?_ | refine blk_other rfl ?_ | refine then_k ?_
      | refine awp_true rfl ?_
      | refine awp_false rfl ?_
      | refine awp_split rfl (fun hb => ?_) (fun hb => ?_)
      | (refine isR ?_; first | refine x_far [] tb_ok rfl ?_ | refine r_nil ?_ | refine r_nild (by kernel_rfl) ?_ | refine x_addE ?_ | refine x_add ?_ | refine x_subE ?_ | refine x_sub ?_ | refine x_cat ?_ | refine x_lssT ?_ | refine x_lssF ?_ | refine x_lss (fun hc => ?_) (fun hc => ?_) | refine x_gtrT ?_ | refine x_gtrF ?_ | refine x_gtr (fun hc => ?_) (fun hc => ?_) | refine x_iaF tb_ok ?_ | refine x_iaO tb_ok ?_ | refine x_iaA tb_ok ?_ | refine x_iaAF tb_ok ?_)
      | refine x_ret ?_
      | refine x_nor ?_
      | exact x_le)
  refine awp_while (α := Nat × List Cookie) (fun x => ⟨[(0, .own 0 0 len), (1, .int .i64 (a : Int)), (2, .int .i64 (b : Int)), (3, fnC), (8, .int .i64 (x.1 : Int))], [(0, some (rowC x.2))], 1, 53⟩) (fun x => a < x.1 ∧ x.1 ≤ len + 1 ∧ x.2.length = len ∧ insI ckLt a (b - x.1) x.1 x.2 = insI ckLt a (b - (a + 1)) (a + 1) L) (fun x => b - x.1) (a + 1, L) ?h0 ⟨by dsimp only; omega, by dsimp only; omega, hl, rfl⟩ ?_
  case h0 => exact (by exact x_le)
  rintro ⟨i, M⟩ ⟨g1, g2, g3, g4⟩
  dsimp only at g1 g2 g3 g4 ⊢
  by_cases hi : i < b
  · skip
    repeat' (first
        | with_reducible first | refine awp_seq ?_ | refine awp_region ?_ | refine awp_draw mixed ?_ | refine then_n ?_ | refine awp_skip ?_ | refine awp_block ?_ | refine awp_exit ?_ | refine awp_ret ?_ | refine awp_label ?_ | refine then_exit ?_ | refine then_ret ?_ | refine blk_n ?_ | refine blk_ret ?_ | refine blk_exit ?_ | refine blk_other rfl ?_ | refine then_k ?_
        | refine awp_true rfl ?_
        | refine awp_false rfl ?_
        | refine awp_split rfl (fun hb => ?_) (fun hb => ?_)
        | (refine isR ?_; first | refine x_far [] tb_ok rfl ?_ | refine r_nil ?_ | refine r_nild (by kernel_rfl) ?_ | refine x_addE ?_ | refine x_add ?_ | refine x_subE ?_ | refine x_sub ?_ | refine x_cat ?_ | refine x_lssT ?_ | refine x_lssF ?_ | refine x_lss (fun hc => ?_) (fun hc => ?_) | refine x_gtrT ?_ | refine x_gtrF ?_ | refine x_gtr (fun hc => ?_) (fun hc => ?_) | refine x_iaF tb_ok ?_ | refine x_iaO tb_ok ?_ | refine x_iaA tb_ok ?_ | refine x_iaAF tb_ok ?_)
        | refine x_ret ?_
        | refine x_nor ?_
        | exact x_le)
    refine awp_while (α := Nat × List Cookie) (fun x => ⟨[(0, .own 0 0 len), (1, .int .i64 (a : Int)), (2, .int .i64 (b : Int)), (3, fnC), (8, .int .i64 (i : Int)), (9, .int .i64 (x.1 : Int))], [(0, some (rowC x.2))], 1, 53⟩) (fun x => x.1 ≤ i ∧ x.2.length = len ∧ insJ ckLt a x.1 x.2 = insJ ckLt a i M) (fun x => x.1) (i, M) (by exact x_le) ⟨Nat.le_refl _, g3, rfl⟩ ?_
    rintro ⟨j, W⟩ ⟨k1, k2, k3⟩
    dsimp only at k1 k2 k3 ⊢
    by_cases hj : a < j
    · obtain ⟨j, rfl⟩ : ∃ q, j = q + 1 := ⟨j - 1, by omega⟩
      obtain ⟨x, y, z, m1, m2, m3, m4⟩ := two (M := W) (i := j + 1) (j := j) (by omega) (by omega)
      have c1 := cmp_v (x := x) (y := y)
      have ek : ((j : Nat) : Int) = ((j + 1 : Nat) : Int) - 1 := by omega
      rw [insJ, ltAt_of m1 m2] at k3
      by_cases hz : cz x y < 0
      · rw [if_pos ⟨hj, by simpa using hz⟩] at k3
        repeat' (first
            | with_reducible first | refine awp_seq ?_ | refine awp_region ?_ | refine awp_draw mixed ?_ | refine then_n ?_ | refine awp_skip ?_ | refine awp_block ?_ | refine awp_exit ?_ | refine awp_ret ?_ | refine awp_label ?_ | refine then_exit ?_ | refine then_ret ?_ | refine blk_n ?_ | refine blk_ret ?_ | refine blk_exit ?_ | refine blk_other rfl ?_ | refine then_k ?_
            | refine awp_true rfl ?_
            | refine awp_false rfl ?_
            | refine awp_split rfl (fun hb => ?_) (fun hb => ?_)
            | (refine isR ?_; first | refine x_far [] tb_ok rfl ?_ | refine r_nil ?_ | refine r_nild (by kernel_rfl) ?_ | refine x_ldI Cookie.v (j + 1) tb_ok ?_ | refine x_ldI Cookie.v j tb_ok ?_ | refine x_callv (c1 _) ?_ | refine x_callv (c1) ?_ | refine x_stI Cookie.v (a1 := y) (j + 1) tb_ok ?_ | refine x_stI Cookie.v (a1 := x) j tb_ok ?_ | refine x_addE ?_ | refine x_add ?_ | refine x_subE ?_ | refine x_sub ?_ | refine x_cat ?_ | refine x_lssT ?_ | refine x_lssF ?_ | refine x_lss (fun hc => ?_) (fun hc => ?_) | refine x_gtrT ?_ | refine x_gtrF ?_ | refine x_gtr (fun hc => ?_) (fun hc => ?_) | refine x_iaF tb_ok ?_ | refine x_iaO tb_ok ?_ | refine x_iaA tb_ok ?_ | refine x_iaAF tb_ok ?_)
            | refine x_ret ?_
            | refine x_nor ?_
            | exact x_le)
        refine ⟨(j, (W.set (j + 1) y).set j x), ⟨by dsimp only; omega, by simp [k2], ?_⟩, by dsimp only; omega, ?_⟩
        · show insJ ckLt a j _ = _
          rw [← k3, ← m4]
        · dsimp only
          rw [ek]
          exact (by exact x_le)
      · rw [if_neg (fun h => hz (by simpa using h.2))] at k3
        repeat' (first
            | with_reducible first | refine awp_seq ?_ | refine awp_region ?_ | refine awp_draw mixed ?_ | refine then_n ?_ | refine awp_skip ?_ | refine awp_block ?_ | refine awp_exit ?_ | refine awp_ret ?_ | refine awp_label ?_ | refine then_exit ?_ | refine then_ret ?_ | refine blk_n ?_ | refine blk_ret ?_ | refine blk_exit ?_ | refine blk_other rfl ?_ | refine then_k ?_
            | refine awp_true rfl ?_
            | refine awp_false rfl ?_
            | refine awp_split rfl (fun hb => ?_) (fun hb => ?_)
            | (refine isR ?_; first | refine x_far [] tb_ok rfl ?_ | refine r_nil ?_ | refine r_nild (by kernel_rfl) ?_ | refine x_ldI Cookie.v (j + 1) tb_ok ?_ | refine x_ldI Cookie.v j tb_ok ?_ | refine x_callv (c1 _) ?_ | refine x_callv (c1) ?_ | refine x_addE ?_ | refine x_add ?_ | refine x_subE ?_ | refine x_sub ?_ | refine x_cat ?_ | refine x_lssT ?_ | refine x_lssF ?_ | refine x_lss (fun hc => ?_) (fun hc => ?_) | refine x_gtrT ?_ | refine x_gtrF ?_ | refine x_gtr (fun hc => ?_) (fun hc => ?_) | refine x_iaF tb_ok ?_ | refine x_iaO tb_ok ?_ | refine x_iaA tb_ok ?_ | refine x_iaAF tb_ok ?_)
            | refine x_ret ?_
            | refine x_nor ?_
            | exact x_le)
        refine ⟨(i + 1, W), ⟨by dsimp only; omega, by dsimp only; omega, k2, ?_⟩, by dsimp only; omega, ?_⟩
        · show insI ckLt a (b - (i + 1)) (i + 1) W = _
          rw [← g4, show b - i = (b - (i + 1)) + 1 by omega, insI, ← k3]
        · exact (by exact x_le)
    · have h0 : insJ ckLt a j W = W := by
        cases j with
        | zero => rfl
        | succ j => rw [insJ, if_neg (fun h => hj h.1)]
      rw [h0] at k3
      repeat' (first
          | with_reducible first | refine awp_seq ?_ | refine awp_region ?_ | refine awp_draw mixed ?_ | refine then_n ?_ | refine awp_skip ?_ | refine awp_block ?_ | refine awp_exit ?_ | refine awp_ret ?_ | refine awp_label ?_ | refine then_exit ?_ | refine then_ret ?_ | refine blk_n ?_ | refine blk_ret ?_ | refine blk_exit ?_ | refine blk_other rfl ?_ | refine then_k ?_
          | refine awp_true rfl ?_
          | refine awp_false rfl ?_
          | refine awp_split rfl (fun hb => ?_) (fun hb => ?_)
          | (refine isR ?_; first | refine x_far [] tb_ok rfl ?_ | refine r_nil ?_ | refine r_nild (by kernel_rfl) ?_ | refine x_addE ?_ | refine x_add ?_ | refine x_subE ?_ | refine x_sub ?_ | refine x_cat ?_ | refine x_lssT ?_ | refine x_lssF ?_ | refine x_lss (fun hc => ?_) (fun hc => ?_) | refine x_gtrT ?_ | refine x_gtrF ?_ | refine x_gtr (fun hc => ?_) (fun hc => ?_) | refine x_iaF tb_ok ?_ | refine x_iaO tb_ok ?_ | refine x_iaA tb_ok ?_ | refine x_iaAF tb_ok ?_)
          | refine x_ret ?_
          | refine x_nor ?_
          | exact x_le)
      refine ⟨(i + 1, W), ⟨by dsimp only; omega, by dsimp only; omega, k2, ?_⟩, by dsimp only; omega, ?_⟩
      · show insI ckLt a (b - (i + 1)) (i + 1) W = _
        rw [← g4, show b - i = (b - (i + 1)) + 1 by omega, insI, ← k3]
      · exact (by exact x_le)
  · rw [show b - i = 0 by omega, insI] at g4
    rw [← g4]
    repeat' (first
        | with_reducible first | refine awp_seq ?_ | refine awp_region ?_ | refine awp_draw mixed ?_ | refine then_n ?_ | refine awp_skip ?_ | refine awp_block ?_ | refine awp_exit ?_ | refine awp_ret ?_ | refine awp_label ?_ | refine then_exit ?_ | refine then_ret ?_ | refine blk_n ?_ | refine blk_ret ?_ | refine blk_exit ?_ | refine blk_other rfl ?_ | refine then_k ?_
        | refine awp_true rfl ?_
        | refine awp_false rfl ?_
        | refine awp_split rfl (fun hb => ?_) (fun hb => ?_)
        | (refine isR ?_; first | refine x_far [] tb_ok rfl ?_ | refine r_nil ?_ | refine r_nild (by kernel_rfl) ?_ | refine x_addE ?_ | refine x_add ?_ | refine x_subE ?_ | refine x_sub ?_ | refine x_cat ?_ | refine x_lssT ?_ | refine x_lssF ?_ | refine x_lss (fun hc => ?_) (fun hc => ?_) | refine x_gtrT ?_ | refine x_gtrF ?_ | refine x_gtr (fun hc => ?_) (fun hc => ?_) | refine x_iaF tb_ok ?_ | refine x_iaO tb_ok ?_ | refine x_iaA tb_ok ?_ | refine x_iaAF tb_ok ?_)
        | refine x_mret [0] ?_ ?_
        | refine x_mnor [0] ?_ ?_
        | refine x_ret ?_
        | refine x_nor ?_
        | exact x_le)
    · rfl
    · exact .on (.same (nl_map fun _ => rfl)) .nil
end Go.Proofs.Ytclekbkpcigkcaa.SortN
