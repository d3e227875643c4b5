/- Texts of the proof, joined: SortN, LineA, JarS, JarI, JarT, JarJ, GoesW, LineP. -/
import Derived.Test.YtepnalbefjicgaaGreatDoorG18
import Derived.Test.YtepnalbefjicgaaGreatDoorG10
import Derived.Lib.SliceRun
import Derived.Test.YtepnalbefjicgaaGreatDoorG17
import Derived.Test.YtepnalbefjicgaaGreatDoorG11
import Derived.Test.YtepnalbefjicgaaGreatDoorG12
import Derived.Test.YtepnalbefjicgaaGreatDoorG8
section
namespace Go.Proofs.YtepnalbefjicgaaGreatDoor.SortN
open Go.RowKit Mem Abs SortP SortW SortM
abbrev SymC (len f : Nat) : Prop := ∀ (L : List Cookie) (a m b : Nat), L.length = len → a < m → m < b → b ≤ len → b - a ≤ f → MCalls Tryz.prog 86 [.own 0 0 len, .int .i64 (a : Int), .int .i64 (m : Int), .int .i64 (b : Int), fnC] [rowC L] (.tup []) [some (rowC (symF ckLt f L a m b))]
set_option maxRecDepth 100000 in
set_option maxHeartbeats 4000000 in
theorem sym3_v {L : List Cookie} {a m b len : Nat} (f : Nat) (hl : L.length = len) (hL : len ≤ 140737488355328) (h1 : a < m) (h2 : m < b) (h3 : b ≤ len) (hf : b - a ≤ f + 1) (hc : ¬ m - a = 1) (hd : ¬ b - m = 1) (ih : SymC len f) : MCalls Tryz.prog 86 [.own 0 0 len, .int .i64 (a : Int), .int .i64 (m : Int), .int .i64 (b : Int), fnC] [rowC L] (.tup []) [some (rowC (symF ckLt (f + 1) L a m b))] := by
  rw [symF, if_neg hc, if_neg hd]
  have hs0 : s0F a m b = if (a + b) / 2 < m then (a + b) / 2 + m - b else a := rfl
  have hr0 : rF a m b = if (a + b) / 2 < m then (a + b) / 2 else m := rfl
  have hp : ∀ c x y, L[(a + b) / 2 + m - 1 - c]? = some y → L[c]? = some x → (fun c => !ltAt ckLt L ((a + b) / 2 + m - 1 - c) c) c = !decide (cz y x < 0) := fun c x y hy hx => congrArg (!·) (ltAt_of hy hx)
  have hT : bs (fun c => !ltAt ckLt L ((a + b) / 2 + m - 1 - c) c) (rF a m b - s0F a m b) (s0F a m b) (rF a m b) = sF ckLt L a m b := rfl
  generalize (fun c => !ltAt ckLt L ((a + b) / 2 + m - 1 - c) c) = p at *
  generalize s0F a m b = s0 at *
  generalize rF a m b = r0 at *
  generalize sF ckLt L a m b = T at *
  obtain ⟨w1, w2, w3, w4⟩ := half (i := a) (j := b) (by omega)
  have hmid : a < (a + b) / 2 ∧ (a + b) / 2 < b ∧ a + b ≤ 2 * ((a + b) / 2) + 1 ∧ 2 * ((a + b) / 2) ≤ a + b := by omega
  generalize (a + b) / 2 = mid at *
  have hsr : s0 ≤ r0 ∧ a ≤ s0 ∧ r0 ≤ m ∧ r0 ≤ mid ∧ mid + m ≤ s0 + b := by rw [hs0, hr0]; split <;> omega
  have hb := bs_spec p (r0 - s0) s0 r0 hsr.1 (Nat.le_refl _)
  rw [hT] at hb
  have i0 : mid < m → (s0 : Int) = (mid : Int) + (m : Int) - (b : Int) ∧ r0 = mid := fun h => by rw [if_pos h] at hs0 hr0; omega
  have i1 : ¬ mid < m → s0 = a ∧ r0 = m := fun h => by rw [if_neg h] at hs0 hr0; omega
  clear hs0 hr0
  dsimp only
  have ee : ((mid + m - T : Nat) : Int) = (mid : Int) + (m : Int) - (T : Int) := by omega
  have n1 : ¬ (T < m ∧ m < mid + m - T) → rotOr L T m (mid + m - T) = L := fun h => if_neg h
  have c1 : T < m → m < mid + m - T → MCalls Tryz.prog 101 [.own 0 0 len, .int .i64 (T : Int), .int .i64 (m : Int), .int .i64 ((mid : Int) + (m : Int) - (T : Int)), fnC] [rowC L] (.tup []) [some (rowC (rotOr L T m (mid + m - T)))] := fun x y => by
    unfold rotOr
    rw [if_pos ⟨x, y⟩, ← ee]
    exact rot_v hl hL x y (by omega)
  have l1 : (rotOr L T m (mid + m - T)).length = len := rotOr_len.trans hl
  generalize rotOr L T m (mid + m - T) = L1 at *
  have n2 : ¬ (a < T ∧ T < mid) → (if a < T ∧ T < mid then symF ckLt f L1 a T mid else L1) = L1 := fun h => if_neg h
  have c2 : a < T → T < mid → MCalls Tryz.prog 86 [.own 0 0 len, .int .i64 (a : Int), .int .i64 (T : Int), .int .i64 (mid : Int), fnC] [rowC L1] (.tup []) [some (rowC (if a < T ∧ T < mid then symF ckLt f L1 a T mid else L1))] := fun x y => by
    rw [if_pos ⟨x, y⟩]
    exact ih L1 a T mid l1 x y (by omega) (by omega)
  have l2 : (if a < T ∧ T < mid then symF ckLt f L1 a T mid else L1).length = len := by
    split
    · exact (symF_len _ _ _ _ _).trans l1
    · exact l1
  generalize (if a < T ∧ T < mid then symF ckLt f L1 a T mid else L1) = L2 at *
  have n3 : ¬ (mid < mid + m - T ∧ mid + m - T < b) → (if mid < mid + m - T ∧ mid + m - T < b then symF ckLt f L2 mid (mid + m - T) b else L2) = L2 := fun h => if_neg h
  have c3 : mid < mid + m - T → mid + m - T < b → MCalls Tryz.prog 86 [.own 0 0 len, .int .i64 (mid : Int), .int .i64 ((mid : Int) + (m : Int) - (T : Int)), .int .i64 (b : Int), fnC] [rowC L2] (.tup []) [some (rowC (if mid < mid + m - T ∧ mid + m - T < b then symF ckLt f L2 mid (mid + m - T) b else L2))] := fun x y => by
    rw [if_pos ⟨x, y⟩, ← ee]
    exact ih L2 mid (mid + m - T) b l2 x y h3 (by omega)
  generalize (if mid < mid + m - T ∧ mid + m - T < b then symF ckLt f L2 mid (mid + m - T) b else L2) = L3 at *
  clear ih
  refine mfun tb_ok Tryz.func86 rfl Tryz.ntmps86 Tryz.results86 rfl rfl rfl rfl fun N pl => ?_
  repeat' (first
      | refine awp_cutR (id := 27) ((stM len a m b L [(18, .int .i64 (mid : Int)), (19, .int .i64 ((mid : Int) + (m : Int))), (20, .int .i64 (s0 : Int)), (21, .int .i64 (r0 : Int))])) ?_ ?_
      | with_reducible first | refine awp_seq ?_ | refine awp_region ?_ | refine awp_draw mixed ?_ | refine then_n ?_ | refine awp_skip ?_ | refine awp_block ?_ | refine awp_exit ?_ | refine awp_ret ?_ | refine awp_label ?_ | refine then_exit ?_ | refine then_ret ?_ | refine blk_n ?_ | refine blk_ret ?_ | refine blk_exit ?_ | refine blk_other rfl ?_ | refine then_k ?_
      | refine awp_true rfl ?_
      | refine awp_false rfl ?_
      | refine awp_split rfl (fun hb => ?_) (fun hb => ?_)
      | (refine isR ?_; first | refine x_far [] tb_ok rfl ?_ | refine r_nil ?_ | refine r_nild (by kernel_rfl) ?_ | refine x_cv .u64 tb_ok ?_ | refine x_shr1 ?_ | refine x_cv .i64 tb_ok ?_ | refine x_addE ?_ | refine x_add ?_ | refine x_subE ?_ | refine x_sub ?_ | refine x_cat ?_ | refine x_lssT ?_ | refine x_lssF ?_ | refine x_lss (fun hc => ?_) (fun hc => ?_) | refine x_gtrT ?_ | refine x_gtrF ?_ | refine x_gtr (fun hc => ?_) (fun hc => ?_) | refine x_eqlT ?_ | refine x_eqlF ?_ | refine x_eql (fun hc => ?_) (fun hc => ?_) | refine x_eqlB ?_ | refine x_eqlST ?_ | refine x_eqlSF ?_ | refine x_eqlS (fun hc => ?_) (fun hc => ?_) | refine x_eqlI ?_ | refine x_eqlN ?_ | refine x_iaF tb_ok ?_ | refine x_iaO tb_ok ?_ | refine x_iaA tb_ok ?_ | refine x_iaAF tb_ok ?_ | refine x_bytes tb_ok ?_ | refine x_cv64 tb_ok ?_ | refine x_eqlA tb_ok ?_ | refine x_eqlAS tb_ok (fun hc => ?_) (fun hc => ?_))
      | refine x_ret ?_
      | refine x_nor ?_)
  · refine awp_while (α := Nat × Nat) (fun x => stM len a m b L [(18, .int .i64 (mid : Int)), (19, .int .i64 ((mid : Int) + (m : Int))), (20, .int .i64 (x.1 : Int)), (21, .int .i64 (x.2 : Int)), (22, .int .i64 ((mid : Int) + (m : Int) - 1))]) (fun x => s0 ≤ x.1 ∧ x.1 ≤ x.2 ∧ x.2 ≤ r0 ∧ ∃ f, x.2 - x.1 ≤ f ∧ bs p f x.1 x.2 = T) (fun x => x.2 - x.1) (s0, r0) (by exact x_le) ⟨Nat.le_refl _, hsr.1, Nat.le_refl _, r0 - s0, Nat.le_refl _, hT⟩ ?_
    rintro ⟨i, j⟩ ⟨g1, g2, g3, q, g4, g5⟩
    dsimp only at g1 g2 g3 g4 g5 ⊢
    by_cases hij : i < j
    · clear c1 c2 c3 n1 n2 n3 i0 i1 hb w1 w2 w3 w4 ee l1 l2 hT
      obtain ⟨q, rfl, hq⟩ := bs_on (p := p) hij g4
      rw [hq] at g5
      obtain ⟨x, e1⟩ : ∃ x, L[(i + j) / 2]? = some x := ⟨_, List.getElem?_eq_getElem (by omega)⟩
      obtain ⟨y, e2⟩ : ∃ y, L[mid + m - 1 - (i + j) / 2]? = some y := ⟨_, List.getElem?_eq_getElem (by omega)⟩
      rw [hp _ x y e2 e1] at g5
      obtain ⟨v1, v2, v3, v4⟩ := half (i := i) (j := j) (by omega)
      have hh : i ≤ (i + j) / 2 ∧ (i + j) / 2 < j := by omega
      generalize (i + j) / 2 = h at *
      have c4 := cmp_v (x := y) (y := x)
      by_cases hz : cz y x < 0
      · rw [if_neg (by simpa using hz)] at g5
        repeat' (first
            | with_reducible first | refine awp_seq ?_ | refine awp_region ?_ | refine awp_draw mixed ?_ | refine then_n ?_ | refine awp_skip ?_ | refine awp_block ?_ | refine awp_exit ?_ | refine awp_ret ?_ | refine awp_label ?_ | refine then_exit ?_ | refine then_ret ?_ | refine blk_n ?_ | refine blk_ret ?_ | refine blk_exit ?_ | refine blk_other rfl ?_ | refine then_k ?_
            | refine awp_true rfl ?_
            | refine awp_false rfl ?_
            | refine awp_split rfl (fun hb => ?_) (fun hb => ?_)
            | (refine isR ?_; first | refine x_far [] tb_ok rfl ?_ | refine r_nil ?_ | refine r_nild (by kernel_rfl) ?_ | refine x_cv .u64 tb_ok ?_ | refine x_shr1 ?_ | refine x_cv .i64 tb_ok ?_ | refine x_ldI Cookie.v (mid + m - 1 - h) tb_ok ?_ | refine x_ldI Cookie.v h tb_ok ?_ | refine x_callv (c4 _) ?_ | refine x_callv (c4) ?_ | refine x_addE ?_ | refine x_add ?_ | refine x_subE ?_ | refine x_sub ?_ | refine x_cat ?_ | refine x_lssT ?_ | refine x_lssF ?_ | refine x_lss (fun hc => ?_) (fun hc => ?_) | refine x_gtrT ?_ | refine x_gtrF ?_ | refine x_gtr (fun hc => ?_) (fun hc => ?_) | refine x_eqlT ?_ | refine x_eqlF ?_ | refine x_eql (fun hc => ?_) (fun hc => ?_) | refine x_eqlB ?_ | refine x_eqlST ?_ | refine x_eqlSF ?_ | refine x_eqlS (fun hc => ?_) (fun hc => ?_) | refine x_eqlI ?_ | refine x_eqlN ?_ | refine x_iaF tb_ok ?_ | refine x_iaO tb_ok ?_ | refine x_iaA tb_ok ?_ | refine x_iaAF tb_ok ?_ | refine x_bytes tb_ok ?_ | refine x_cv64 tb_ok ?_ | refine x_eqlA tb_ok ?_ | refine x_eqlAS tb_ok (fun hc => ?_) (fun hc => ?_))
            | refine x_ret ?_
            | refine x_nor ?_
            | exact x_le)
        refine ⟨(i, h), ⟨g1, by dsimp only; omega, by dsimp only; omega, q, by dsimp only; omega, g5⟩, by dsimp only; omega, ?_⟩
        exact (by exact x_le)
      · rw [if_pos (by simpa using hz)] at g5
        repeat' (first
            | with_reducible first | refine awp_seq ?_ | refine awp_region ?_ | refine awp_draw mixed ?_ | refine then_n ?_ | refine awp_skip ?_ | refine awp_block ?_ | refine awp_exit ?_ | refine awp_ret ?_ | refine awp_label ?_ | refine then_exit ?_ | refine then_ret ?_ | refine blk_n ?_ | refine blk_ret ?_ | refine blk_exit ?_ | refine blk_other rfl ?_ | refine then_k ?_
            | refine awp_true rfl ?_
            | refine awp_false rfl ?_
            | refine awp_split rfl (fun hb => ?_) (fun hb => ?_)
            | (refine isR ?_; first | refine x_far [] tb_ok rfl ?_ | refine r_nil ?_ | refine r_nild (by kernel_rfl) ?_ | refine x_cv .u64 tb_ok ?_ | refine x_shr1 ?_ | refine x_cv .i64 tb_ok ?_ | refine x_ldI Cookie.v (mid + m - 1 - h) tb_ok ?_ | refine x_ldI Cookie.v h tb_ok ?_ | refine x_callv (c4 _) ?_ | refine x_callv (c4) ?_ | refine x_addE ?_ | refine x_add ?_ | refine x_subE ?_ | refine x_sub ?_ | refine x_cat ?_ | refine x_lssT ?_ | refine x_lssF ?_ | refine x_lss (fun hc => ?_) (fun hc => ?_) | refine x_gtrT ?_ | refine x_gtrF ?_ | refine x_gtr (fun hc => ?_) (fun hc => ?_) | refine x_eqlT ?_ | refine x_eqlF ?_ | refine x_eql (fun hc => ?_) (fun hc => ?_) | refine x_eqlB ?_ | refine x_eqlST ?_ | refine x_eqlSF ?_ | refine x_eqlS (fun hc => ?_) (fun hc => ?_) | refine x_eqlI ?_ | refine x_eqlN ?_ | refine x_iaF tb_ok ?_ | refine x_iaO tb_ok ?_ | refine x_iaA tb_ok ?_ | refine x_iaAF tb_ok ?_ | refine x_bytes tb_ok ?_ | refine x_cv64 tb_ok ?_ | refine x_eqlA tb_ok ?_ | refine x_eqlAS tb_ok (fun hc => ?_) (fun hc => ?_))
            | refine x_ret ?_
            | refine x_nor ?_
            | exact x_le)
        refine ⟨(h + 1, j), ⟨by dsimp only; omega, by dsimp only; omega, g3, q, by dsimp only; omega, g5⟩, by dsimp only; omega, ?_⟩
        exact (by exact x_le)
    · rw [bs_end hij] at g5
      subst g5
      clear hp hT hb i0 i1 w1 w2 w3 w4 l1 l2 hl g4
      have k1 : i ≤ m ∧ i ≤ mid := by omega
      clear g1 g2 g3 hsr
      repeat' (first
          | refine awp_cutR (id := 39) ((stM len a m b L1 [(18, .int .i64 (mid : Int)), (20, .int .i64 (i : Int)), (24, .int .i64 ((mid : Int) + (m : Int) - (i : Int)))])) ?_ ?_
          | refine awp_cutR (id := 41) ((stM len a m b L2 [(18, .int .i64 (mid : Int)), (24, .int .i64 ((mid : Int) + (m : Int) - (i : Int)))])) ?_ ?_
          | with_reducible first | refine awp_seq ?_ | refine awp_region ?_ | refine awp_draw mixed ?_ | refine then_n ?_ | refine awp_skip ?_ | refine awp_block ?_ | refine awp_exit ?_ | refine awp_ret ?_ | refine awp_label ?_ | refine then_exit ?_ | refine then_ret ?_ | refine blk_n ?_ | refine blk_ret ?_ | refine blk_exit ?_ | refine blk_other rfl ?_ | refine then_k ?_
          | refine awp_true rfl ?_
          | refine awp_false rfl ?_
          | refine awp_split rfl (fun hb => ?_) (fun hb => ?_)
          | (refine isR ?_; first | refine x_far [] tb_ok rfl ?_ | refine r_nil ?_ | refine r_nild (by kernel_rfl) ?_ | refine x_m [0] [] (c1 (by omega) (by omega) _) ?_ | refine x_m0 [0] [] (c1 (by omega) (by omega) _) ?_ | refine x_m [0] [] (c1 (by omega) (by omega)) ?_ | refine x_m0 [0] [] (c1 (by omega) (by omega)) ?_ | refine x_m [0] [] (c2 (by omega) (by omega) _) ?_ | refine x_m0 [0] [] (c2 (by omega) (by omega) _) ?_ | refine x_m [0] [] (c2 (by omega) (by omega)) ?_ | refine x_m0 [0] [] (c2 (by omega) (by omega)) ?_ | refine x_m [0] [] (c3 (by omega) (by omega) _) ?_ | refine x_m0 [0] [] (c3 (by omega) (by omega) _) ?_ | refine x_m [0] [] (c3 (by omega) (by omega)) ?_ | refine x_m0 [0] [] (c3 (by omega) (by omega)) ?_ | refine x_addE ?_ | refine x_add ?_ | refine x_subE ?_ | refine x_sub ?_ | refine x_cat ?_ | refine x_lssT ?_ | refine x_lssF ?_ | refine x_lss (fun hc => ?_) (fun hc => ?_) | refine x_gtrT ?_ | refine x_gtrF ?_ | refine x_gtr (fun hc => ?_) (fun hc => ?_) | refine x_eqlT ?_ | refine x_eqlF ?_ | refine x_eql (fun hc => ?_) (fun hc => ?_) | refine x_eqlB ?_ | refine x_eqlST ?_ | refine x_eqlSF ?_ | refine x_eqlS (fun hc => ?_) (fun hc => ?_) | refine x_eqlI ?_ | refine x_eqlN ?_ | refine x_iaF tb_ok ?_ | refine x_iaO tb_ok ?_ | refine x_iaA tb_ok ?_ | refine x_iaAF tb_ok ?_ | refine x_bytes tb_ok ?_ | refine x_cv64 tb_ok ?_ | refine x_eqlA tb_ok ?_ | refine x_eqlAS tb_ok (fun hc => ?_) (fun hc => ?_))
          | refine x_mret [0] ?_ ?_
          | refine x_mnor [0] ?_ ?_
          | refine x_ret ?_
          | refine x_nor ?_)
      all_goals first
        | rfl
        | exact .on (.same (nl_map fun _ => rfl)) .nil
        | (rw [n3 (by omega)]; exact .on (.same (nl_map fun _ => rfl)) .nil)
        | (rw [n2 (by omega)]; exact (by exact x_le))
        | (rw [n1 (by omega)]; exact (by exact x_le))
        | exact (by exact x_le)
  · obtain ⟨k1, k2⟩ := i0 (by omega)
    rw [k1, k2]
    exact (by exact x_le)
  · obtain ⟨k1, k2⟩ := i1 (by omega)
    rw [k1, k2]
    exact (by exact x_le)
theorem sym_v {len : Nat} (hL : len ≤ 140737488355328) : ∀ f, SymC len f
  | 0 => fun L a m b hl h1 h2 h3 hf => by omega
  | f + 1 => fun L a m b hl h1 h2 h3 hf => by
    by_cases hc : m - a = 1
    · exact sym1_v f hl hL h1 h2 h3 hc
    · by_cases hd : b - m = 1
      · exact sym2_v f hl hL h1 h2 h3 hc hd
      · exact sym3_v f hl hL h1 h2 h3 hf hc hd (sym_v hL f)
set_option maxRecDepth 100000 in
set_option maxHeartbeats 4000000 in
theorem ins_v {L : List Cookie} {a b len : Nat} (hl : L.length = len) (hL : len ≤ 140737488355328) (h1 : a ≤ b) (h2 : b ≤ len) : MCalls Tryz.prog 85 [.own 0 0 len, .int .i64 (a : Int), .int .i64 (b : Int), fnC] [rowC L] (.tup []) [some (rowC (ins ckLt L a b))] := by
  unfold ins
  refine mfun tb_ok Tryz.func85 rfl Tryz.ntmps85 Tryz.results85 rfl rfl rfl rfl fun N pl => ?_
  repeat' (first
      | with_reducible first | refine awp_seq ?_ | refine awp_region ?_ | refine awp_draw mixed ?_ | refine then_n ?_ | refine awp_skip ?_ | refine awp_block ?_ | refine awp_exit ?_ | refine awp_ret ?_ | refine awp_label ?_ | refine then_exit ?_ | refine then_ret ?_ | refine blk_n ?_ | refine blk_ret ?_ | refine blk_exit ?_ | refine blk_other rfl ?_ | refine then_k ?_
      | refine awp_true rfl ?_
      | refine awp_false rfl ?_
      | refine awp_split rfl (fun hb => ?_) (fun hb => ?_)
      | (refine isR ?_; first | refine x_far [] tb_ok rfl ?_ | refine r_nil ?_ | refine r_nild (by kernel_rfl) ?_ | refine x_addE ?_ | refine x_add ?_ | refine x_subE ?_ | refine x_sub ?_ | refine x_cat ?_ | refine x_lssT ?_ | refine x_lssF ?_ | refine x_lss (fun hc => ?_) (fun hc => ?_) | refine x_gtrT ?_ | refine x_gtrF ?_ | refine x_gtr (fun hc => ?_) (fun hc => ?_) | refine x_iaF tb_ok ?_ | refine x_iaO tb_ok ?_ | refine x_iaA tb_ok ?_ | refine x_iaAF tb_ok ?_)
      | refine x_ret ?_
      | refine x_nor ?_
      | exact x_le)
  refine awp_while (α := Nat × List Cookie) (fun x => ⟨[(0, .own 0 0 len), (1, .int .i64 (a : Int)), (2, .int .i64 (b : Int)), (3, fnC), (8, .int .i64 (x.1 : Int))], [(0, some (rowC x.2))], 1, 53⟩) (fun x => a < x.1 ∧ x.1 ≤ len + 1 ∧ x.2.length = len ∧ insI ckLt a (b - x.1) x.1 x.2 = insI ckLt a (b - (a + 1)) (a + 1) L) (fun x => b - x.1) (a + 1, L) ?h0 ⟨by dsimp only; omega, by dsimp only; omega, hl, rfl⟩ ?_
  case h0 => exact (by exact x_le)
  rintro ⟨i, M⟩ ⟨g1, g2, g3, g4⟩
  dsimp only at g1 g2 g3 g4 ⊢
  by_cases hi : i < b
  · skip
    repeat' (first
        | with_reducible first | refine awp_seq ?_ | refine awp_region ?_ | refine awp_draw mixed ?_ | refine then_n ?_ | refine awp_skip ?_ | refine awp_block ?_ | refine awp_exit ?_ | refine awp_ret ?_ | refine awp_label ?_ | refine then_exit ?_ | refine then_ret ?_ | refine blk_n ?_ | refine blk_ret ?_ | refine blk_exit ?_ | refine blk_other rfl ?_ | refine then_k ?_
        | refine awp_true rfl ?_
        | refine awp_false rfl ?_
        | refine awp_split rfl (fun hb => ?_) (fun hb => ?_)
        | (refine isR ?_; first | refine x_far [] tb_ok rfl ?_ | refine r_nil ?_ | refine r_nild (by kernel_rfl) ?_ | refine x_addE ?_ | refine x_add ?_ | refine x_subE ?_ | refine x_sub ?_ | refine x_cat ?_ | refine x_lssT ?_ | refine x_lssF ?_ | refine x_lss (fun hc => ?_) (fun hc => ?_) | refine x_gtrT ?_ | refine x_gtrF ?_ | refine x_gtr (fun hc => ?_) (fun hc => ?_) | refine x_iaF tb_ok ?_ | refine x_iaO tb_ok ?_ | refine x_iaA tb_ok ?_ | refine x_iaAF tb_ok ?_)
        | refine x_ret ?_
        | refine x_nor ?_
        | exact x_le)
    refine awp_while (α := Nat × List Cookie) (fun x => ⟨[(0, .own 0 0 len), (1, .int .i64 (a : Int)), (2, .int .i64 (b : Int)), (3, fnC), (8, .int .i64 (i : Int)), (9, .int .i64 (x.1 : Int))], [(0, some (rowC x.2))], 1, 53⟩) (fun x => x.1 ≤ i ∧ x.2.length = len ∧ insJ ckLt a x.1 x.2 = insJ ckLt a i M) (fun x => x.1) (i, M) (by exact x_le) ⟨Nat.le_refl _, g3, rfl⟩ ?_
    rintro ⟨j, W⟩ ⟨k1, k2, k3⟩
    dsimp only at k1 k2 k3 ⊢
    by_cases hj : a < j
    · obtain ⟨j, rfl⟩ : ∃ q, j = q + 1 := ⟨j - 1, by omega⟩
      obtain ⟨x, y, z, m1, m2, m3, m4⟩ := two (M := W) (i := j + 1) (j := j) (by omega) (by omega)
      have c1 := cmp_v (x := x) (y := y)
      have ek : ((j : Nat) : Int) = ((j + 1 : Nat) : Int) - 1 := by omega
      rw [insJ, ltAt_of m1 m2] at k3
      by_cases hz : cz x y < 0
      · rw [if_pos ⟨hj, by simpa using hz⟩] at k3
        repeat' (first
            | with_reducible first | refine awp_seq ?_ | refine awp_region ?_ | refine awp_draw mixed ?_ | refine then_n ?_ | refine awp_skip ?_ | refine awp_block ?_ | refine awp_exit ?_ | refine awp_ret ?_ | refine awp_label ?_ | refine then_exit ?_ | refine then_ret ?_ | refine blk_n ?_ | refine blk_ret ?_ | refine blk_exit ?_ | refine blk_other rfl ?_ | refine then_k ?_
            | refine awp_true rfl ?_
            | refine awp_false rfl ?_
            | refine awp_split rfl (fun hb => ?_) (fun hb => ?_)
            | (refine isR ?_; first | refine x_far [] tb_ok rfl ?_ | refine r_nil ?_ | refine r_nild (by kernel_rfl) ?_ | refine x_ldI Cookie.v (j + 1) tb_ok ?_ | refine x_ldI Cookie.v j tb_ok ?_ | refine x_callv (c1 _) ?_ | refine x_callv (c1) ?_ | refine x_stI Cookie.v (a1 := y) (j + 1) tb_ok ?_ | refine x_stI Cookie.v (a1 := x) j tb_ok ?_ | refine x_addE ?_ | refine x_add ?_ | refine x_subE ?_ | refine x_sub ?_ | refine x_cat ?_ | refine x_lssT ?_ | refine x_lssF ?_ | refine x_lss (fun hc => ?_) (fun hc => ?_) | refine x_gtrT ?_ | refine x_gtrF ?_ | refine x_gtr (fun hc => ?_) (fun hc => ?_) | refine x_iaF tb_ok ?_ | refine x_iaO tb_ok ?_ | refine x_iaA tb_ok ?_ | refine x_iaAF tb_ok ?_)
            | refine x_ret ?_
            | refine x_nor ?_
            | exact x_le)
        refine ⟨(j, (W.set (j + 1) y).set j x), ⟨by dsimp only; omega, by simp [k2], ?_⟩, by dsimp only; omega, ?_⟩
        · show insJ ckLt a j _ = _
          rw [← k3, ← m4]
        · dsimp only
          rw [ek]
          exact (by exact x_le)
      · rw [if_neg (fun h => hz (by simpa using h.2))] at k3
        repeat' (first
            | with_reducible first | refine awp_seq ?_ | refine awp_region ?_ | refine awp_draw mixed ?_ | refine then_n ?_ | refine awp_skip ?_ | refine awp_block ?_ | refine awp_exit ?_ | refine awp_ret ?_ | refine awp_label ?_ | refine then_exit ?_ | refine then_ret ?_ | refine blk_n ?_ | refine blk_ret ?_ | refine blk_exit ?_ | refine blk_other rfl ?_ | refine then_k ?_
            | refine awp_true rfl ?_
            | refine awp_false rfl ?_
            | refine awp_split rfl (fun hb => ?_) (fun hb => ?_)
            | (refine isR ?_; first | refine x_far [] tb_ok rfl ?_ | refine r_nil ?_ | refine r_nild (by kernel_rfl) ?_ | refine x_ldI Cookie.v (j + 1) tb_ok ?_ | refine x_ldI Cookie.v j tb_ok ?_ | refine x_callv (c1 _) ?_ | refine x_callv (c1) ?_ | refine x_addE ?_ | refine x_add ?_ | refine x_subE ?_ | refine x_sub ?_ | refine x_cat ?_ | refine x_lssT ?_ | refine x_lssF ?_ | refine x_lss (fun hc => ?_) (fun hc => ?_) | refine x_gtrT ?_ | refine x_gtrF ?_ | refine x_gtr (fun hc => ?_) (fun hc => ?_) | refine x_iaF tb_ok ?_ | refine x_iaO tb_ok ?_ | refine x_iaA tb_ok ?_ | refine x_iaAF tb_ok ?_)
            | refine x_ret ?_
            | refine x_nor ?_
            | exact x_le)
        refine ⟨(i + 1, W), ⟨by dsimp only; omega, by dsimp only; omega, k2, ?_⟩, by dsimp only; omega, ?_⟩
        · show insI ckLt a (b - (i + 1)) (i + 1) W = _
          rw [← g4, show b - i = (b - (i + 1)) + 1 by omega, insI, ← k3]
        · exact (by exact x_le)
    · have h0 : insJ ckLt a j W = W := by
        cases j with
        | zero => rfl
        | succ j => rw [insJ, if_neg (fun h => hj h.1)]
      rw [h0] at k3
      repeat' (first
          | with_reducible first | refine awp_seq ?_ | refine awp_region ?_ | refine awp_draw mixed ?_ | refine then_n ?_ | refine awp_skip ?_ | refine awp_block ?_ | refine awp_exit ?_ | refine awp_ret ?_ | refine awp_label ?_ | refine then_exit ?_ | refine then_ret ?_ | refine blk_n ?_ | refine blk_ret ?_ | refine blk_exit ?_ | refine blk_other rfl ?_ | refine then_k ?_
          | refine awp_true rfl ?_
          | refine awp_false rfl ?_
          | refine awp_split rfl (fun hb => ?_) (fun hb => ?_)
          | (refine isR ?_; first | refine x_far [] tb_ok rfl ?_ | refine r_nil ?_ | refine r_nild (by kernel_rfl) ?_ | refine x_addE ?_ | refine x_add ?_ | refine x_subE ?_ | refine x_sub ?_ | refine x_cat ?_ | refine x_lssT ?_ | refine x_lssF ?_ | refine x_lss (fun hc => ?_) (fun hc => ?_) | refine x_gtrT ?_ | refine x_gtrF ?_ | refine x_gtr (fun hc => ?_) (fun hc => ?_) | refine x_iaF tb_ok ?_ | refine x_iaO tb_ok ?_ | refine x_iaA tb_ok ?_ | refine x_iaAF tb_ok ?_)
          | refine x_ret ?_
          | refine x_nor ?_
          | exact x_le)
      refine ⟨(i + 1, W), ⟨by dsimp only; omega, by dsimp only; omega, k2, ?_⟩, by dsimp only; omega, ?_⟩
      · show insI ckLt a (b - (i + 1)) (i + 1) W = _
        rw [← g4, show b - i = (b - (i + 1)) + 1 by omega, insI, ← k3]
      · exact (by exact x_le)
  · rw [show b - i = 0 by omega, insI] at g4
    rw [← g4]
    repeat' (first
        | with_reducible first | refine awp_seq ?_ | refine awp_region ?_ | refine awp_draw mixed ?_ | refine then_n ?_ | refine awp_skip ?_ | refine awp_block ?_ | refine awp_exit ?_ | refine awp_ret ?_ | refine awp_label ?_ | refine then_exit ?_ | refine then_ret ?_ | refine blk_n ?_ | refine blk_ret ?_ | refine blk_exit ?_ | refine blk_other rfl ?_ | refine then_k ?_
        | refine awp_true rfl ?_
        | refine awp_false rfl ?_
        | refine awp_split rfl (fun hb => ?_) (fun hb => ?_)
        | (refine isR ?_; first | refine x_far [] tb_ok rfl ?_ | refine r_nil ?_ | refine r_nild (by kernel_rfl) ?_ | refine x_addE ?_ | refine x_add ?_ | refine x_subE ?_ | refine x_sub ?_ | refine x_cat ?_ | refine x_lssT ?_ | refine x_lssF ?_ | refine x_lss (fun hc => ?_) (fun hc => ?_) | refine x_gtrT ?_ | refine x_gtrF ?_ | refine x_gtr (fun hc => ?_) (fun hc => ?_) | refine x_iaF tb_ok ?_ | refine x_iaO tb_ok ?_ | refine x_iaA tb_ok ?_ | refine x_iaAF tb_ok ?_)
        | refine x_mret [0] ?_ ?_
        | refine x_mnor [0] ?_ ?_
        | refine x_ret ?_
        | refine x_nor ?_
        | exact x_le)
    · rfl
    · exact .on (.same (nl_map fun _ => rfl)) .nil
end Go.Proofs.YtepnalbefjicgaaGreatDoor.SortN
end

section
namespace Go.Proofs.YtepnalbefjicgaaGreatDoor.Abs
open Go.RowKit Mem Facts
section
variable {P : Program} {tb : List Ty} {N : Env} {Q : Exit → S → Prop} {s : S}
theorem fro_slice2 {X A : Nat → Prop} {φ : Nat → Pl} {w : World} {xs : List V} {v : Value} (h : Rep X A φ w (.fro xs) v) : ∃ a n c, v = .slice a n c ∧ (a = none → xs = []) := by
  cases h with
  | fz h => cases h with
    | fro0 h => exact ⟨_, _, _, rfl, fun _ => rfl⟩
    | fro c h1 => exact ⟨_, _, _, rfl, fun h => by cases h⟩
/-- Is a frozen slice nil? It may be, if it is empty. -/
theorem awp_nilq {id d1 d2 T el : Nat} {T' : TypeId} {x : Operand} {o1 o2 : Oper} {xs : List V} {e : Ty} (htb : TbOk P tb) (k : ∀ b, (b = true → xs = []) → Q .normal ⟨(d2, .bool b) :: (d1, .fro xs) :: s.tm, s.st, s.nx, s.nt⟩)
    (ho1 : o1.op = .move x := by rfl) (hx : s.ev x = some (.fro xs) := by rfl) (hg1 : o1.guard = none := by rfl) (hd1 : o1.dst = some d1 := by rfl) (l1 : Nat.blt d1 s.nt = true := by rfl)
    (ho2 : o2.op = .binOp .eql T (.tmp d1) (.const (.slice none 0 0)) T' := by rfl) (hg2 : o2.guard = none := by rfl) (hd2 : o2.dst = some d2 := by rfl) (l2 : Nat.blt d2 s.nt = true := by rfl)
    (hT : nth tb T = some e := by rfl) (hs : e.sl = some el := by rfl) : AWp P N (.region id #[o1, o2] false) Q s := fun M φ a w hr => by
  refine wp_region_lit (l := [o1, o2]) (wpList_step fun K hK => ?_)
  rw [if_pos (guard_wanted (s := s) (b := true) (by unfold guardV; rw [hg1]) hr)]
  have hv := hr.ev hx
  have r1 : (execOp a.eval o1).run P w = .ok (.value (a.eval x)) w := by unfold execOp; simp only [ho1]; rfl
  unfold Oper.wp
  rw [r1]
  refine hK _ _ (wpList_step fun K2 hK2 => ?_)
  have hr1 : Rel N M (· < s.nx) φ (s.eff o1.dst (.fro xs) [] s.nx) (a.put o1.dst (a.eval x)) w := rel_dst hr hv fun d h => by rw [hd1] at h; cases h; exact blt_lt l1
  rw [if_pos (guard_wanted (s := s.eff o1.dst (.fro xs) [] s.nx) (b := true) (by unfold guardV; rw [hg2]) hr1)]
  have hv1 : Rep (fun b => M b ∨ N b) (· < s.nx) φ w (.fro xs) ((a.put o1.dst (a.eval x)).eval (.tmp d1)) := hr1.ev (by rw [hd1]; simp [S.ev, S.eff, lk])
  obtain ⟨A, n, c, he, hA⟩ := fro_slice2 hv1
  obtain ⟨ti, d, ht⟩ := ty_at htb hT
  have r2 : (execOp (a.put o1.dst (a.eval x)).eval o2).run P w = .ok (.value (.bool A.isNone)) w := by
    have hq := Lib.run_eql_slice_nil (P := P) w T el A n c 0 0 (slOf_und ht hs)
    have hc : (a.put o1.dst (a.eval x)).eval (.const (.slice none 0 0)) = .slice none 0 0 := rfl
    unfold execOp
    simp only [ho2, he, hc, eqGuard]
    simp only [Sem.run_bind, Bool.not_true, Bool.false_eq_true, if_false, Sem.run_pure, Result.andThen_ok, hq]
  unfold Oper.wp
  rw [r2]
  refine hK2 _ _ (wpList_nil ⟨M, φ, _, .refl _ w, fun _ _ h => h, ?_, k A.isNone fun h => hA (by simpa using h)⟩)
  have hr2 := rel_dst hr1 (dst := o2.dst) (v := .bool A.isNone) (x := .bool A.isNone) (nx := s.nx) (.fz .bool) fun d h => by rw [hd2] at h; cases h; exact blt_lt l2
  exact hr2.as (fun t => by rw [hd1, hd2]; rfl) (fun _ => rfl) rfl
end
end Go.Proofs.YtepnalbefjicgaaGreatDoor.Abs
namespace Go.Proofs.YtepnalbefjicgaaGreatDoor.LineA
open Go.RowKit Mem Abs SortP SortW SortM SortN
set_option maxRecDepth 100000 in
set_option maxHeartbeats 4000000 in
theorem stable_v {L : List Cookie} {len : Nat} (hl : L.length = len) (hL : len ≤ 140737488355328) : MCalls Tryz.prog 65 [.own 0 0 len, .int .i64 (len : Int), fnC] [rowC L] (.tup []) [some (rowC (sortF ckLt L))] := by
  unfold sortF
  rw [hl]
  have hi := insP_len (lt := ckLt) (n := len) (len + 1) 0 L
  rw [hl] at hi
  generalize hI : insP ckLt len (len + 1) 0 L = L1 at *
  refine mfun tb_ok Tryz.func65 rfl Tryz.ntmps65 Tryz.results65 rfl rfl rfl rfl fun N pl => ?_
  repeat' (first | refine zt ?_ | (refine isR ?_; first | refine zo ?_ | refine zA ?_ | refine zc1 ?_ | refine zc2 ?_ | (refine zs1 ?_ ?_ <;> intro hc) | (refine zs2 ?_ ?_ <;> intro hc)) | refine awp_split rfl (fun hb => ?_) (fun hb => ?_) | refine zr ?_ | exact x_le)
  refine awp_while (α := Nat × List Cookie) (fun x => ⟨[(0, .own 0 0 len), (1, .int .i64 (len : Int)), (2, fnC), (6, .int .i64 20), (7, .int .i64 (x.1 : Int)), (8, .int .i64 ((x.1 : Int) + 20))], [(0, some (rowC x.2))], 1, 63⟩) (fun x => x.1 ≤ len ∧ x.2.length = len ∧ ∃ f, len - x.1 < f ∧ insP ckLt len f x.1 x.2 = L1) (fun x => len - x.1) (0, L) (by exact x_le) ⟨Nat.zero_le _, hl, len + 1, by dsimp only; omega, hI⟩ ?_
  rintro ⟨a, M⟩ ⟨g1, g2, f, g3, g4⟩
  dsimp only at g1 g2 g3 g4 ⊢
  obtain ⟨f, rfl⟩ : ∃ q, f = q + 1 := ⟨f - 1, by omega⟩
  rw [insP] at g4
  by_cases ha : a + 20 ≤ len
  · rw [if_pos ha] at g4
    have c1 := ins_v (L := M) (a := a) (b := a + 20) g2 hL (by omega) ha
    have e1 : ((a + 20 : Nat) : Int) = (a : Int) + 20 := by omega
    rw [e1] at c1
    repeat' (first | refine zt ?_ | (refine isR ?_; first | refine zo ?_ | refine x_m [0] [] (c1 _) ?_ | refine x_m0 [0] [] (c1 _) ?_ | refine x_m [0] [] (c1) ?_ | refine x_m0 [0] [] (c1) ?_ | refine zA ?_ | refine zc1 ?_ | refine zc2 ?_ | (refine zs1 ?_ ?_ <;> intro hc) | (refine zs2 ?_ ?_ <;> intro hc)) | refine awp_split rfl (fun hb => ?_) (fun hb => ?_) | refine zr ?_ | exact x_le)
    refine ⟨(a + 20, ins ckLt M a (a + 20)), ⟨ha, ins_len.trans g2, f, by dsimp only; omega, g4⟩, by dsimp only; omega, ?_⟩
    dsimp only
    rw [e1]
    exact (by exact x_le)
  · rw [if_neg ha] at g4
    have c1 := ins_v (L := M) (a := a) (b := len) g2 hL g1 (Nat.le_refl _)
    rw [g4] at c1
    repeat' (first | refine zt ?_ | (refine isR ?_; first | refine zo ?_ | refine x_m [0] [] (c1 _) ?_ | refine x_m0 [0] [] (c1 _) ?_ | refine x_m [0] [] (c1) ?_ | refine x_m0 [0] [] (c1) ?_ | refine zA ?_ | refine zc1 ?_ | refine zc2 ?_ | (refine zs1 ?_ ?_ <;> intro hc) | (refine zs2 ?_ ?_ <;> intro hc)) | refine awp_split rfl (fun hb => ?_) (fun hb => ?_) | refine zr ?_ | exact x_le)
    generalize hO : outF ckLt len len 20 L1 = L2 at *
    refine awp_while (α := Nat × List Cookie) (fun x => ⟨[(0, .own 0 0 len), (1, .int .i64 (len : Int)), (2, fnC), (6, .int .i64 (x.1 : Int))], [(0, some (rowC x.2))], 1, 63⟩) (fun x => 0 < x.1 ∧ x.1 ≤ 2 * len + 20 ∧ x.2.length = len ∧ ∃ f, len ≤ x.1 + f ∧ outF ckLt len f x.1 x.2 = L2) (fun x => len - x.1) (20, L1) ?h0 ⟨by dsimp only; omega, by dsimp only; omega, hi, len, by dsimp only; omega, hO⟩ ?_
    case h0 => exact (by exact x_le)
    rintro ⟨k, W⟩ ⟨k1, k2, k3, q, k4, k5⟩
    dsimp only at k1 k2 k3 k4 k5 ⊢
    by_cases hk : k < len
    · obtain ⟨q, rfl⟩ : ∃ z, q = z + 1 := ⟨q - 1, by omega⟩
      rw [outF, if_pos hk] at k5
      have hp := passF_len (lt := ckLt) (n := len) (k := k) (len + 1) 0 W
      generalize hP : passF ckLt len k (len + 1) 0 W = W1 at *
      repeat' (first | refine zt ?_ | (refine isR ?_; first | refine zo ?_ | refine zA ?_ | refine zc1 ?_ | refine zc2 ?_ | (refine zs1 ?_ ?_ <;> intro hc) | (refine zs2 ?_ ?_ <;> intro hc)) | refine awp_split rfl (fun hb => ?_) (fun hb => ?_) | refine zr ?_ | exact x_le)
      refine awp_while (α := Nat × List Cookie) (fun x => ⟨[(0, .own 0 0 len), (1, .int .i64 (len : Int)), (2, fnC), (6, .int .i64 (k : Int)), (7, .int .i64 (x.1 : Int)), (8, .int .i64 ((x.1 : Int) + 2 * (k : Int)))], [(0, some (rowC x.2))], 1, 63⟩) (fun x => x.1 ≤ len ∧ x.2.length = len ∧ ∃ f, len - x.1 < f ∧ passF ckLt len k f x.1 x.2 = W1) (fun x => len - x.1) (0, W) ?h1 ⟨Nat.zero_le _, k3, len + 1, by dsimp only; omega, hP⟩ ?_
      case h1 =>
        have e0 : 2 * (k : Int) = (((0 : Nat) : Int)) + 2 * (k : Int) := by omega
        dsimp only
        rw [← e0]
        exact (by exact x_le)
      rintro ⟨a, V⟩ ⟨m1, m2, f, m3, m4⟩
      dsimp only at m1 m2 m3 m4 ⊢
      obtain ⟨f, rfl⟩ : ∃ z, f = z + 1 := ⟨f - 1, by omega⟩
      rw [passF] at m4
      have e2 : ((a + k : Nat) : Int) = (a : Int) + (k : Int) := by omega
      have e3 : ((a + 2 * k : Nat) : Int) = (a : Int) + 2 * (k : Int) := by omega
      by_cases hb : a + 2 * k ≤ len
      · rw [if_pos hb] at m4
        have d1 := sym_v hL (2 * k) V a (a + k) (a + 2 * k) m2 (by omega) (by omega) hb (by omega)
        rw [e2, e3] at d1
        clear c1 g4 hI hO hP
        repeat' (first | refine zt ?_ | (refine isR ?_; first | refine zo ?_ | refine x_m [0] [] (d1 _) ?_ | refine x_m0 [0] [] (d1 _) ?_ | refine x_m [0] [] (d1) ?_ | refine x_m0 [0] [] (d1) ?_ | refine zA ?_ | refine zc1 ?_ | refine zc2 ?_ | (refine zs1 ?_ ?_ <;> intro hc) | (refine zs2 ?_ ?_ <;> intro hc)) | refine awp_split rfl (fun hb => ?_) (fun hb => ?_) | refine zr ?_ | exact x_le)
        refine ⟨(a + 2 * k, symF ckLt (2 * k) V a (a + k) (a + 2 * k)), ⟨hb, (symF_len _ _ _ _ _).trans m2, f, by dsimp only; omega, m4⟩, by dsimp only; omega, ?_⟩
        dsimp only
        rw [e3]
        exact (by exact x_le)
      · rw [if_neg hb] at m4
        have e4 : ((2 * k : Nat) : Int) = (k : Int) * 2 := by omega
        by_cases hc : a + k < len
        · rw [if_pos hc] at m4
          have d1 := sym_v hL (len - a) V a (a + k) len m2 (by omega) hc (Nat.le_refl _) (Nat.le_refl _)
          rw [e2, m4] at d1
          clear c1 g4 hI hO hP
          repeat' (first | refine zt ?_ | (refine isR ?_; first | refine zo ?_ | refine x_m [0] [] (d1 _) ?_ | refine x_m0 [0] [] (d1 _) ?_ | refine x_m [0] [] (d1) ?_ | refine x_m0 [0] [] (d1) ?_ | refine zA ?_ | refine zc1 ?_ | refine zc2 ?_ | (refine zs1 ?_ ?_ <;> intro hc) | (refine zs2 ?_ ?_ <;> intro hc)) | refine awp_split rfl (fun hb => ?_) (fun hb => ?_) | refine zr ?_ | exact x_le)
          refine ⟨(2 * k, W1), ⟨by dsimp only; omega, by dsimp only; omega, by dsimp only; omega, q, by dsimp only; omega, k5⟩, by dsimp only; omega, ?_⟩
          dsimp only
          rw [e4]
          exact (by exact x_le)
        · rw [if_neg hc] at m4
          clear c1 g4 hI hO hP
          subst m4
          repeat' (first | refine zt ?_ | (refine isR ?_; first | refine zo ?_ | refine zA ?_ | refine zc1 ?_ | refine zc2 ?_ | (refine zs1 ?_ ?_ <;> intro hc) | (refine zs2 ?_ ?_ <;> intro hc)) | refine awp_split rfl (fun hb => ?_) (fun hb => ?_) | refine zr ?_ | exact x_le)
          refine ⟨(2 * k, V), ⟨by dsimp only; omega, by dsimp only; omega, m2, q, by dsimp only; omega, k5⟩, by dsimp only; omega, ?_⟩
          dsimp only
          rw [e4]
          exact (by exact x_le)
    · have e5 : outF ckLt len q k W = W := by
        cases q with
        | zero => rfl
        | succ q => rw [outF, if_neg hk]
      rw [e5] at k5
      subst k5
      clear c1 g4 hI hO
      repeat' (first | refine zt ?_ | (refine isR ?_; first | refine zo ?_ | refine zA ?_ | refine zc1 ?_ | refine zc2 ?_ | (refine zs1 ?_ ?_ <;> intro hc) | (refine zs2 ?_ ?_ <;> intro hc)) | refine awp_split rfl (fun hb => ?_) (fun hb => ?_) | refine x_mret [0] ?_ ?_ | refine x_mnor [0] ?_ ?_ | refine zr ?_ | exact x_le)
      · rfl
      · exact .on (.same (nl_map fun _ => rfl)) .nil
set_option maxRecDepth 100000 in
set_option maxHeartbeats 4000000 in
theorem sortStable_v {L : List Cookie} {len : Nat} (hl : L.length = len) (hL : len ≤ 140737488355328) : MCalls Tryz.prog 30 [.own 0 0 len, fnC] [rowC L] (.tup []) [some (rowC (sortF ckLt L))] := by
  have c1 := stable_v hl hL
  generalize sortF ckLt L = L1 at *
  refine mfun tb_ok Tryz.func30 rfl Tryz.ntmps30 Tryz.results30 rfl rfl rfl rfl fun N pl => ?_
  repeat' (first | refine zt ?_ | (refine isR ?_; first | refine zo ?_ | refine x_m [0] [] (c1 _) ?_ | refine x_m0 [0] [] (c1 _) ?_ | refine x_m [0] [] (c1) ?_ | refine x_m0 [0] [] (c1) ?_ | refine zL ?_) | refine awp_split rfl (fun hb => ?_) (fun hb => ?_) | refine x_mret [0] ?_ ?_ | refine x_mnor [0] ?_ ?_ | refine zr ?_ | exact x_le)
  · rfl
  · exact .on (.same (nl_map fun _ => rfl)) .nil
set_option maxRecDepth 100000 in
set_option maxHeartbeats 4000000 in
theorem clone_v {L : List Cookie} (hb : L.length * 112 ≤ 140737488355328) : MCalls Tryz.prog 29 [.fro (L.map Cookie.v)] [] (.own 0 0 L.length) [some (rowC L)] := by
  have hl : L.length ≤ 140737488355328 := by omega
  refine mfun tb_ok Tryz.func29 rfl Tryz.ntmps29 Tryz.results29 rfl rfl rfl rfl fun N pl => ?_
  repeat' (first | refine awp_nilq tb_ok (fun b hq => ?_) | (with_reducible refine awp_name (c := Code.ret) (t := 2) CK 13 (by decide) rfl rfl ?_) | refine x_mret [1] ?_ ?_ | refine zt ?_ | (refine isR ?_; first | refine x_far [5] tb_ok rfl ?_ | refine zn ?_ | refine x_appK Cookie.v (L := []) (K' := L) tb_ok ?_ | refine x_bsO 5 tb_ok ?_ | refine x_bs tb_ok ?_ | refine zc5 ?_ | (refine zs5 ?_ ?_ <;> intro hc)) | refine awp_split rfl (fun hb => ?_) (fun hb => ?_) | refine x_mret [0] ?_ ?_ | refine x_mnor [0] ?_ ?_ | refine zr ?_ | exact x_le)
  all_goals first
    | (have hn := hq hb; simp only [List.map_eq_nil_iff] at hn; subst hn; first | rfl | exact .on (.same rfl) .nil)
    | rfl
    | exact .on (.same (nl_map fun _ => rfl)) .nil
set_option maxRecDepth 100000 in
set_option maxHeartbeats 4000000 in
theorem lineSort_v {L : List Cookie} (hb : L.length * 112 ≤ 140737488355328) : ACalls Tryz.prog 8 [.fro (L.map Cookie.v)] (.fro ((sortF ckLt L).map Cookie.v)) := by
  have c1 := clone_v hb
  have c2 := sortStable_v (L := L) rfl (by omega)
  have hl : (sortF ckLt L).length = L.length := sortF_len
  generalize sortF ckLt L = M at *
  rw [← hl] at c1 c2
  refine fun1 tb_ok Tryz.func8 rfl Tryz.ntmps8 Tryz.results8 rfl fun N => ?_
  repeat' (first | refine zt ?_ | (refine isR ?_; first | refine zo ?_ | refine x_m [] [0] (c1 _) ?_ | refine x_m0 [] [0] (c1 _) ?_ | refine x_m [] [0] (c1) ?_ | refine x_m0 [] [0] (c1) ?_ | refine x_m [0] [] (c2 _) ?_ | refine x_m0 [0] [] (c2 _) ?_ | refine x_m [0] [] (c2) ?_ | refine x_m0 [0] [] (c2) ?_) | refine awp_split rfl (fun hb => ?_) (fun hb => ?_) | refine zr ?_ | exact x_le)
  show V.fro (List.take M.length (List.drop 0 (M.map Cookie.v))) = _
  rw [List.drop_zero, List.take_of_length_le (by simp)]
end Go.Proofs.YtepnalbefjicgaaGreatDoor.LineA
end

section
namespace Go.Proofs.YtepnalbefjicgaaGreatDoor.JarS
open Go.RowKit Mem Abs Scan JarP JarQ JarA JarB JarC JarE JarL JarM JarO

set_option maxRecDepth 100000 in
set_option maxHeartbeats 4000000 in
theorem own_m {L : List Cookie} {nx now : Int} (hb : L.length ≤ 1000) : MCalls Tryz.prog 19 [jarV L nx, .int .i64 now] [] (.loc 1 0 0) [some (rC L), some (rO L.length nx now)] := by
  have c1 := LineA.clone_v (L := L) (by omega)
  refine mfun tb_ok Tryz.func19 rfl Tryz.ntmps19 Tryz.results19 rfl rfl rfl rfl fun N pl => ?_
  repeat' (first | refine zt ?_ | (refine isR ?_; first | refine x_far [13] tb_ok rfl ?_ | refine zn ?_ | refine x_m [] [0] (c1 _) ?_ | refine x_m0 [] [0] (c1 _) ?_ | refine x_m [] [0] (c1) ?_ | refine x_m0 [] [0] (c1) ?_) | refine awp_split rfl (fun hb => ?_) (fun hb => ?_) | refine x_mret [0, 1] ?_ ?_ | refine x_mnor [0, 1] ?_ ?_ | refine zr ?_ | exact x_le)
  · rfl
  · exact .on (.same (nl_map fun _ => rfl)) (.on (.ren rfl) .nil)
/-- A jar that is handed on. -/
theorem jar_fro {L : List Cookie} {n : Nat} {nx e : Int} (h : n = L.length) : V.tup [.agg [.fro (List.take n (List.drop 0 (L.map Cookie.v))), .int .i64 nx], .int .i64 e] = .tup [jarV L nx, .int .i64 e] := by
  rw [List.drop_zero, List.take_of_length_le (by simp [h])]
set_option maxRecDepth 100000 in
set_option maxHeartbeats 4000000 in
theorem pPutNew_v {L M E1 E2 : List Cookie} {c : Cookie} {nx now : Int} (hb : L.length ≤ 12) (hn : 0 ≤ nx) (hn2 : nx < 1099511627776) (h1 : isJ now = true) (h2 : badM c = false) (h0 : checkJ L nx = 0) (hf : (liveF now L).findIdx? (fun x => sameK x c) = none)
    (hM : liveF now (liveF now L ++ [{ c with no := nx }]) = M) (hE1 : evF 4 (ofP c.domain false) (M.length + 1) M = E1) (hE2 : evF 12 (ofP [] true) (E1.length + 1) E1 = E2) (hb1 : M.length ≤ 100) (hb2 : E1.length ≤ 100) :
    ACalls Tryz.prog 5 [jarV L nx, c.v, .int .i64 now] (.tup [jarV E2 (nx + 1), .int .i64 0]) := by
  have c1 := jcheck_v (L := L) (nx := nx)
  rw [h0] at c1
  have c2 := is_v (n := now)
  rw [h1] at c2
  have c3 := moments_v (c := c)
  rw [h2] at c3
  change ACalls _ _ _ (.bool true) at c3
  have c4 := own_m (L := L) (nx := nx) (now := now) (by omega)
  have c5 := expire_m (L := L) (nx := nx) (now := now) (by omega)
  have hl : (liveF now L).length ≤ 12 := Nat.le_trans (List.length_filter_le _ _) hb
  have c6 := JarN.layNew_m (L := liveF now L) (c := c) (nx := nx) (now := now) (by omega) hn (by omega) hf
  have hl2 : (liveF now L ++ [{ c with no := nx }]).length ≤ 1000 := by rw [List.length_append]; simp; omega
  have c7 := expire_m (nx := nx + 1) (now := now) hl2
  rw [hM] at c7
  have c8 := evict1_m (c := c) (most := 4) (nx := nx + 1) (now := now) (by omega) hE1
  have c9 := evict2_m (most := 12) (nx := nx + 1) (now := now) (by omega) hE2
  generalize liveF now L ++ [{ c with no := nx }] = K at *
  generalize liveF now L = A at *
  refine fun3 tb_ok Tryz.func5 rfl Tryz.ntmps5 Tryz.results5 rfl fun N => ?_
  repeat' (first | refine zt ?_ | (refine isR ?_; first | refine zo ?_ | refine zk c1 ?_ | refine zk c2 ?_ | refine zk c3 ?_ | refine x_m [] [1,2] (c4 _) ?_ | refine x_m0 [] [1,2] (c4 _) ?_ | refine x_m [] [1,2] (c4) ?_ | refine x_m0 [] [1,2] (c4) ?_ | refine x_m [1,2] [] (c5 _) ?_ | refine x_m0 [1,2] [] (c5 _) ?_ | refine x_m [1,2] [] (c5) ?_ | refine x_m0 [1,2] [] (c5) ?_ | refine x_m [1,2] [3] (c6 _) ?_ | refine x_m0 [1,2] [3] (c6 _) ?_ | refine x_m [1,2] [3] (c6) ?_ | refine x_m0 [1,2] [3] (c6) ?_ | refine x_m [3,2] [] (c7 _) ?_ | refine x_m0 [3,2] [] (c7 _) ?_ | refine x_m [3,2] [] (c7) ?_ | refine x_m0 [3,2] [] (c7) ?_ | refine x_m [3,2] [] (c8 _) ?_ | refine x_m0 [3,2] [] (c8 _) ?_ | refine x_m [3,2] [] (c8) ?_ | refine x_m0 [3,2] [] (c8) ?_ | refine x_m [3,2] [] (c9 _) ?_ | refine x_m0 [3,2] [] (c9 _) ?_ | refine x_m [3,2] [] (c9) ?_ | refine x_m0 [3,2] [] (c9) ?_ | refine zc5 ?_ | refine zc6 ?_ | (refine zs5 ?_ ?_ <;> intro hc) | (refine zs6 ?_ ?_ <;> intro hc)) | refine awp_split rfl (fun hb => ?_) (fun hb => ?_) | refine zr ?_ | exact x_le)
  exact jar_fro rfl
set_option maxRecDepth 100000 in
set_option maxHeartbeats 4000000 in
theorem pPutSame_v {L M E1 E2 : List Cookie} {c d : Cookie} {i : Nat} {nx now : Int} (hb : L.length ≤ 12) (hn : 0 ≤ nx) (hn2 : nx < 1099511627776) (h1 : isJ now = true) (h2 : badM c = false) (h0 : checkJ L nx = 0) (hf : (liveF now L).findIdx? (fun x => sameK x c) = some i) (hx : (liveF now L)[i]? = some d)
    (hM : liveF now ((liveF now L).set i { c with created := d.created, no := d.no }) = M) (hE1 : evF 4 (ofP c.domain false) (M.length + 1) M = E1) (hE2 : evF 12 (ofP [] true) (E1.length + 1) E1 = E2) (hb1 : M.length ≤ 100) (hb2 : E1.length ≤ 100) :
    ACalls Tryz.prog 5 [jarV L nx, c.v, .int .i64 now] (.tup [jarV E2 nx, .int .i64 0]) := by
  have c1 := jcheck_v (L := L) (nx := nx)
  rw [h0] at c1
  have c2 := is_v (n := now)
  rw [h1] at c2
  have c3 := moments_v (c := c)
  rw [h2] at c3
  change ACalls _ _ _ (.bool true) at c3
  have c4 := own_m (L := L) (nx := nx) (now := now) (by omega)
  have c5 := expire_m (L := L) (nx := nx) (now := now) (by omega)
  have hl : (liveF now L).length ≤ 12 := Nat.le_trans (List.length_filter_le _ _) hb
  have c6 := JarN.laySame_m (L := liveF now L) (c := c) (nx := nx) (now := now) (by omega) hf hx
  have hset : ((liveF now L).set i { c with created := d.created, no := d.no }).length = (liveF now L).length := List.length_set
  have c7 := expire_m (L := (liveF now L).set i { c with created := d.created, no := d.no }) (nx := nx) (now := now) (by omega)
  rw [hM, hset] at c7
  have c8 := evict1_m (c := c) (most := 4) (nx := nx) (now := now) (by omega) hE1
  have c9 := evict2_m (most := 12) (nx := nx) (now := now) (by omega) hE2
  have hne : nx ≠ 1099511627776 := by omega
  generalize (liveF now L).set i { c with created := d.created, no := d.no } = K at *
  generalize liveF now L = A at *
  refine fun3 tb_ok Tryz.func5 rfl Tryz.ntmps5 Tryz.results5 rfl fun N => ?_
  repeat' (first | refine zt ?_ | (refine isR ?_; first | refine zo ?_ | refine zk c1 ?_ | refine zk c2 ?_ | refine zk c3 ?_ | refine x_m [] [1,2] (c4 _) ?_ | refine x_m0 [] [1,2] (c4 _) ?_ | refine x_m [] [1,2] (c4) ?_ | refine x_m0 [] [1,2] (c4) ?_ | refine x_m [1, 2] [] (c5 _) ?_ (hst := .cons (.same (nl_map fun _ => rfl)) (.cons (.ren rfl) .nil)) | refine x_m [1,2] [] (c6 _) ?_ | refine x_m0 [1,2] [] (c6 _) ?_ | refine x_m [1,2] [] (c6) ?_ | refine x_m0 [1,2] [] (c6) ?_ | refine x_m [1, 2] [] (c7 _) ?_ (hst := .cons (.same (nl_map fun _ => rfl)) (.cons (.ren rfl) .nil)) | refine x_m [1,2] [] (c8 _) ?_ | refine x_m0 [1,2] [] (c8 _) ?_ | refine x_m [1,2] [] (c8) ?_ | refine x_m0 [1,2] [] (c8) ?_ | refine x_m [1,2] [] (c9 _) ?_ | refine x_m0 [1,2] [] (c9 _) ?_ | refine x_m [1,2] [] (c9) ?_ | refine x_m0 [1,2] [] (c9) ?_ | refine zc5 ?_ | refine zc6 ?_ | (refine zs5 ?_ ?_ <;> intro hc) | (refine zs6 ?_ ?_ <;> intro hc)) | refine awp_split rfl (fun hb => ?_) (fun hb => ?_) | refine zr ?_ | exact x_le)
  exact jar_fro rfl
set_option maxRecDepth 100000 in
set_option maxHeartbeats 4000000 in
theorem pPut_v {L : List Cookie} {nx : Int} {c : Cookie} {now : Int} (h : codePut L nx c now = 0) : ACalls Tryz.prog 5 [jarV L nx, c.v, .int .i64 now] (.tup [jarV (putF L nx c now).1 (putF L nx c now).2, .int .i64 0]) := by
  obtain ⟨h1, h2, h3, h4⟩ := JarH.codePut_zero h
  have hr : Rj L nx := check_zero.1 h1
  have hn := hr.nx
  have hlen := hr.len
  have ev : ∀ most p f (M : List Cookie), (evF most p f M).length ≤ M.length := fun most p f => by
    induction f with
    | zero => intro M; exact Nat.le_refl _
    | succ f ih =>
      intro M
      rw [evF]
      split
      · exact Nat.le_refl _
      · split
        · exact Nat.le_refl _
        · exact Nat.le_trans (ih _) (List.length_eraseIdx_le _ _)
  have hll : ∀ M : List Cookie, (liveF now M).length ≤ M.length := fun M => List.length_filter_le _ _
  have hl1 := hll L
  cases hf : (liveF now L).findIdx? (fun x => sameK x c) with
  | none =>
    have e : layF (liveF now L) nx c = (liveF now L ++ [{ c with no := nx }], nx + 1) := by unfold layF; rw [hf]
    have e1 : putF L nx c now = (evF 12 (ofP [] true) ((evF 4 (ofP c.domain false) ((liveF now (liveF now L ++ [{ c with no := nx }])).length + 1) (liveF now (liveF now L ++ [{ c with no := nx }]))).length + 1) (evF 4 (ofP c.domain false) ((liveF now (liveF now L ++ [{ c with no := nx }])).length + 1) (liveF now (liveF now L ++ [{ c with no := nx }]))), nx + 1) := by
      unfold putF
      rw [e]
      rfl
    rw [e1]
    have hb1 : (liveF now (liveF now L ++ [{ c with no := nx }])).length ≤ 100 := by
      refine Nat.le_trans (hll _) ?_
      rw [List.length_append]
      simp
      omega
    exact pPutNew_v hlen hn.1 (by omega) h2 h3 h1 hf rfl rfl rfl hb1 (Nat.le_trans (ev _ _ _ _) hb1)
  | some i0 =>
    obtain ⟨hi, _, _⟩ := List.findIdx?_eq_some_iff_getElem.1 hf
    have hx : (liveF now L)[i0]? = some (liveF now L)[i0] := by simp [hi]
    have hg : (liveF now L).getD i0 c = (liveF now L)[i0] := by rw [List.getD_eq_getElem?_getD, hx]; rfl
    have e : layF (liveF now L) nx c = ((liveF now L).set i0 { c with created := ((liveF now L)[i0]).created, no := ((liveF now L)[i0]).no }, nx) := by
      unfold layF
      rw [hf]
      dsimp only
      rw [hg]
    have e1 : putF L nx c now = (evF 12 (ofP [] true) ((evF 4 (ofP c.domain false) ((liveF now (layF (liveF now L) nx c).1).length + 1) (liveF now (layF (liveF now L) nx c).1)).length + 1) (evF 4 (ofP c.domain false) ((liveF now (layF (liveF now L) nx c).1).length + 1) (liveF now (layF (liveF now L) nx c).1)), (layF (liveF now L) nx c).2) := rfl
    rw [e1, e]
    have hb1 : (liveF now ((liveF now L).set i0 { c with created := ((liveF now L)[i0]).created, no := ((liveF now L)[i0]).no })).length ≤ 100 := by
      refine Nat.le_trans (hll _) ?_
      rw [List.length_set]
      omega
    exact pPutSame_v hlen hn.1 (by omega) h2 h3 h1 hf hx rfl rfl rfl hb1 (Nat.le_trans (ev _ _ _ _) hb1)
end Go.Proofs.YtepnalbefjicgaaGreatDoor.JarS
end

section
namespace Go.Proofs.YtepnalbefjicgaaGreatDoor.JarI
open Go.RowKit Mem Abs Scan JarP JarQ JarA JarB JarC JarD JarE JarR JarF

def useF (g : Cookie → Bool) (now : Int) (c : Cookie) : Cookie := if g c = true then { c with used := now } else c
abbrev stI (L : List Cookie) (nx now : Int) (f : From) (A B : List Cookie) (i : Nat) : S := ⟨[(2, .int .i64 now), (3, .fp (V.cells (jarV L nx)) 0), (4, .fp f.v.cells 0), (6, .loc 0 0 0), (10, .loc 1 0 0), (11, .own 3 0 B.length), (12, nV i)], [(0, some (.els TJ 2 [noJ])), (1, some (.els TJ 2 [.agg [.own 2 0 A.length, .int .i64 nx]])), (2, some (.els TC 13 (A.map Cookie.v))), (3, some (.els TC 13 (B.map Cookie.v)))], 4, 59⟩
end Go.Proofs.YtepnalbefjicgaaGreatDoor.JarI
end

section
namespace Go.Proofs.YtepnalbefjicgaaGreatDoor.JarT
open Go.RowKit Mem Abs Scan JarP JarQ JarA JarB JarC JarE JarF JarI JarL JarM JarO JarS

abbrev stT (L : List Cookie) (nx now : Int) (f : From) (A B : List Cookie) (i : Nat) : S := ⟨[(2, .int .i64 now), (4, .fp f.v.cells 0), (6, .loc 0 0 0), (10, .loc 2 0 0), (11, .own 3 0 B.length), (33, nV L.length), (34, nV i)], [(0, some (.els TJ 2 [noJ])), (1, some (rC A)), (2, some (rOn 1 L.length nx now)), (3, some (rC B))], 4, 67⟩
set_option maxRecDepth 100000 in
set_option maxHeartbeats 4000000 in
theorem pGet_v {Γ : Glob} {L : List Cookie} {nx : Int} {now : Int} {f : From} {g : Cookie → Bool} {G : List Cookie} (c1 : ACalls Tryz.prog 16 [jarV L nx] (.int .i64 0)) (c2 : ACalls Tryz.prog 25 [f.v, .int .i64 now] (.int .i64 0)) (c3 : ∀ c ∈ L, ACallsG Tryz.prog Γ 26 [c.v, f.v, .int .i64 now] (.bool (g c))) (hL : L.length ≤ 12)
    (c4 : ACalls Tryz.prog 8 [.fro (((L.filter g).map fun c => { c with used := now }).map Cookie.v)] (.fro (G.map Cookie.v))) :
    ACallsG Tryz.prog Γ 6 [jarV L nx, f.v, .int .i64 now] (.tup [jarV (L.map (useF g now)) nx, .fro (G.map Cookie.v), .int .i64 0]) := by
  have hml : (L.map Cookie.v).length = L.length := List.length_map _
  have c5 := own_m (L := L) (nx := nx) (now := now) (by omega)
  refine funG3 tb_ok Tryz.func6 rfl Tryz.ntmps6 Tryz.results6 rfl fun N => ?_
  repeat' (first | refine zt ?_ | (refine isR ?_; first | refine zo ?_ | refine zk c1 ?_ | refine zk c2 ?_ | refine x_m [] [1,2] (c5 _) ?_ | refine x_m0 [] [1,2] (c5 _) ?_ | refine x_m [] [1,2] (c5) ?_ | refine x_m0 [] [1,2] (c5) ?_ | refine x_bs tb_ok ?_ | refine zA ?_ | refine zL ?_ | refine zc1 ?_ | refine zc5 ?_ | refine zc6 ?_ | refine zI ?_ | (refine zs1 ?_ ?_ <;> intro hc) | (refine zs5 ?_ ?_ <;> intro hc) | (refine zs6 ?_ ?_ <;> intro hc)) | refine awp_split rfl (fun hb => ?_) (fun hb => ?_) | refine zr ?_ | exact x_le)
  refine awp_name (t := 11) TC 13 (by decide) rfl rfl ?_
  refine awp_forN (fun i => stT L nx now f ((L.take i).map (useF g now) ++ L.drop i) (((L.take i).filter g).map fun c => { c with used := now }) i) (fun i => i ≤ L.length) L.length 0 (by exact x_le) (Nat.zero_le _) ?_
  intro i hi
  by_cases hi2 : i < L.length
  · have hx : L[i]? = some L[i] := by simp [hi2]
    have hlt : ((L.take i).map (useF g now)).length = i := by rw [List.length_map, List.length_take]; omega
    have hA : ((L.take i).map (useF g now) ++ L.drop i).length = L.length := by rw [List.length_append, hlt, List.length_drop]; omega
    have hAx : ((L.take i).map (useF g now) ++ L.drop i)[i]? = some L[i] := by
      rw [List.getElem?_append_right (by omega), hlt, Nat.sub_self, List.getElem?_drop]
      exact hx
    have hdc : L.drop i = L[i] :: L.drop (i + 1) := List.drop_eq_getElem_cons hi2
    have e1 : ∀ d, ((L.take i).map (useF g now) ++ L.drop i).set i d = (L.take i).map (useF g now) ++ d :: L.drop (i + 1) := fun d => by
      rw [List.set_append_right _ _ (by omega), hlt, Nat.sub_self, hdc]; rfl
    have e3 : (L.take (i + 1)).map (useF g now) ++ L.drop (i + 1) = (L.take i).map (useF g now) ++ useF g now L[i] :: L.drop (i + 1) := by rw [List.take_add_one, hx, List.map_append, List.append_assoc]; rfl
    have e2 : ((L.take (i + 1)).filter g).map (fun c => { c with used := now }) = ((L.take i).filter g).map (fun c => { c with used := now }) ++ if g L[i] = true then [{ L[i] with used := now }] else [] := by
      rw [List.take_add_one, hx, List.filter_append, List.map_append]
      congr 1
      by_cases h : g L[i] = true <;> simp [h]
    have hB : (((L.take i).filter g).map fun c => { c with used := now }).length ≤ 100 := by rw [List.length_map]; exact Nat.le_trans (List.length_filter_le _ _) (by simp; omega)
    have cg := c3 L[i] (List.getElem_mem hi2)
    have e4 := e1 { L[i] with used := now }
    have e5 : (L.take i).map (useF g now) ++ L[i] :: L.drop (i + 1) = (L.take i).map (useF g now) ++ L.drop i := by rw [hdc]
    generalize L[i] = c at *
    generalize (L.take (i + 1)).map (useF g now) ++ L.drop (i + 1) = A1 at *
    generalize ((L.take (i + 1)).filter g).map (fun c => { c with used := now }) = B1 at *
    generalize hAA : (L.take i).map (useF g now) ++ L.drop i = A at *
    generalize ((L.take i).filter g).map (fun c => { c with used := now }) = B at *
    subst e2
    have hAm : (A.map Cookie.v).length = A.length := List.length_map _
    by_cases h : g c = true
    · rw [h] at cg
      rw [show useF g now c = { c with used := now } from if_pos h] at e3
      rw [if_pos h]
      have hAx2 : (A.set i { c with used := now })[i]? = some { c with used := now } := by rw [List.getElem?_set, if_pos rfl, if_pos (by omega)]
      rw [← e4] at e3
      subst e3
      repeat' (first | (refine isR ?_; first | refine r_val rfl rfl rfl (law_move rfl) (hT rfl Abs.h0) ?_ | refine r_val rfl rfl rfl (law_nilCheck rfl rfl) (hT rfl Abs.h0) ?_ | refine r_val rfl rfl rfl (law_fieldAddr tb_ok rfl rfl rfl rfl rfl) (hT rfl Abs.h0) ?_ | refine x_ldI Cookie.v i tb_ok ?_) | refine zt ?_ | (refine isR ?_; first | refine zo ?_ | refine zk cg ?_ | refine x_stO Cookie.v (a1 := { c with used := now }) i tb_ok ?_ | refine x_app Cookie.v (a1 := ({ c with used := now })) tb_ok ?_ | refine x_bs tb_ok ?_ | refine zA ?_ | refine zL ?_ | refine zc1 ?_ | refine zc5 ?_ | refine zc6 ?_ | refine zI ?_ | (refine zs1 ?_ ?_ <;> intro hc) | (refine zs5 ?_ ?_ <;> intro hc) | (refine zs6 ?_ ?_ <;> intro hc)) | refine awp_split rfl (fun hb => ?_) (fun hb => ?_) | refine zr ?_ | exact x_le)
      refine ⟨by omega, hi2, ?_⟩
      exact (by exact x_len [0, 1, 2, 4])
    · have h : g c = false := by simpa using h
      rw [h] at cg
      rw [show useF g now c = c from if_neg (by rw [h]; simp), e5] at e3
      rw [if_neg (by rw [h]; simp), List.append_nil]
      subst e3
      repeat' (first | (refine isR ?_; first | refine r_val rfl rfl rfl (law_move rfl) (hT rfl Abs.h0) ?_ | refine r_val rfl rfl rfl (law_nilCheck rfl rfl) (hT rfl Abs.h0) ?_ | refine r_val rfl rfl rfl (law_fieldAddr tb_ok rfl rfl rfl rfl rfl) (hT rfl Abs.h0) ?_ | refine x_ldI Cookie.v i tb_ok ?_) | refine zt ?_ | (refine isR ?_; first | refine zo ?_ | refine zk cg ?_ | refine x_bs tb_ok ?_ | refine zA ?_ | refine zL ?_ | refine zc1 ?_ | refine zc5 ?_ | refine zc6 ?_ | refine zI ?_ | (refine zs1 ?_ ?_ <;> intro hc) | (refine zs5 ?_ ?_ <;> intro hc) | (refine zs6 ?_ ?_ <;> intro hc)) | refine awp_split rfl (fun hb => ?_) (fun hb => ?_) | refine zr ?_ | exact x_le)
      refine ⟨by omega, hi2, ?_⟩
      exact (by exact x_len [0, 1, 2, 3])
  · obtain rfl : i = L.length := by omega
    rw [List.take_length, List.drop_length, List.append_nil]
    have hlm : L.length = (L.map (useF g now)).length := by simp
    repeat' (first | refine awp_freezeR 2 0 1 hlm (fun _ => rfl) ?_ | refine awp_freeze 3 11 rfl (fun _ => rfl) ?_ | refine zt ?_ | (refine isR ?_; first | refine zo ?_ | refine zk c4 ?_ | refine x_bs tb_ok ?_ | refine zA ?_ | refine zL ?_ | refine zc1 ?_ | refine zc5 ?_ | refine zc6 ?_ | refine zI ?_ | (refine zs1 ?_ ?_ <;> intro hc) | (refine zs5 ?_ ?_ <;> intro hc) | (refine zs6 ?_ ?_ <;> intro hc)) | refine awp_split rfl (fun hb => ?_) (fun hb => ?_) | refine zr ?_ | exact x_le)
    all_goals rfl
end Go.Proofs.YtepnalbefjicgaaGreatDoor.JarT
end

section
namespace Go.Proofs.YtepnalbefjicgaaGreatDoor.JarJ
open Go.RowKit Mem Abs Scan JarP JarQ JarA JarB JarC JarD JarE JarR JarF JarI

set_option maxRecDepth 100000 in
set_option maxHeartbeats 4000000 in
theorem sameJar_v {L K : List Cookie} {nx nx2 : Int} {b : Bool} (c1 : ACalls Tryz.prog 40 [.fro (L.map Cookie.v), .fro (K.map Cookie.v)] (.bool (b))) : ACalls Tryz.prog 13 [jarV L nx, jarV K nx2] (.bool (decide (nx = nx2) && b)) := by
  by_cases h : nx = nx2
  · rw [decide_eq_true h]
    cases b
    all_goals
      refine fun2 tb_ok Tryz.func13 rfl Tryz.ntmps13 Tryz.results13 rfl fun N => ?_
      repeat' (first | refine zt ?_ | (refine isR ?_; first | refine zo ?_ | refine zk c1 ?_ | refine zc5 ?_ | (refine zs5 ?_ ?_ <;> intro hc)) | refine awp_split rfl (fun hb => ?_) (fun hb => ?_) | refine zr ?_ | exact x_le)
      all_goals first | rfl | (exfalso; omega)
  · rw [decide_eq_false h]
    cases b
    all_goals
      refine fun2 tb_ok Tryz.func13 rfl Tryz.ntmps13 Tryz.results13 rfl fun N => ?_
      repeat' (first | refine zt ?_ | (refine isR ?_; first | refine zo ?_ | refine zk c1 ?_ | refine zc5 ?_ | (refine zs5 ?_ ?_ <;> intro hc)) | refine awp_split rfl (fun hb => ?_) (fun hb => ?_) | refine zr ?_ | exact x_le)
      all_goals first | rfl | (exfalso; omega)
end Go.Proofs.YtepnalbefjicgaaGreatDoor.JarJ
end

section
namespace Go.Proofs.YtepnalbefjicgaaGreatDoor.GoesW
open Go.RowKit Mem Abs TreeW HostP HostO HostA HostB HostC HostD WordP WordS Globs PathT

theorem last_ends (o : List UInt8) : endsB o [47] = decide (o.getLast? = some 47) := by
  rw [Bool.eq_iff_iff, endsB_iff, decide_eq_true_eq, List.getLast?_eq_some_iff]
set_option maxRecDepth 100000 in
set_option maxHeartbeats 4000000 in
theorem path_v {p o : List UInt8} : ACalls Tryz.prog 78 [strT p, strT o] (.bool (pathF p o)) := by
  have c1 := cutPrefix_v (l := p) (m := o)
  have c2 := hasSuffix_v (l := o) (m := [47])
  rw [last_ends] at c2
  cases hp : pre p o with
  | false =>
    have e : cutP p o = (p, false) := by unfold cutP; rw [hp]; rfl
    have e2 : pathF p o = false := by unfold pathF; rw [hp]; rfl
    rw [e] at c1
    rw [e2]
    refine fun2 tb_ok Tryz.func78 rfl Tryz.ntmps78 Tryz.results78 rfl fun N => ?_
    repeat' (first | refine zt ?_ | (refine isR ?_; first | refine zo ?_ | refine zk c1 ?_ | refine zc5 ?_ | refine zI ?_ | (refine zs5 ?_ ?_ <;> intro hc)) | refine awp_split rfl (fun hb => ?_) (fun hb => ?_) | refine zr ?_ | exact x_le)
    rfl
  | true =>
    have e : cutP p o = (p.drop o.length, true) := by unfold cutP; rw [hp]; rfl
    have e2 : pathF p o = (decide (p.drop o.length = []) || decide (o.getLast? = some 47) || decide ((p.drop o.length).head? = some 47)) := by unfold pathF; rw [hp]; rfl
    rw [e] at c1
    rw [e2]
    dsimp only at c1
    generalize p.drop o.length = x at *
    generalize decide (o.getLast? = some 47) = z at *
    cases x with
    | nil =>
      refine fun2 tb_ok Tryz.func78 rfl Tryz.ntmps78 Tryz.results78 rfl fun N => ?_
      repeat' (first | refine zt ?_ | (refine isR ?_; first | refine zo ?_ | refine zk c1 ?_ | refine zc5 ?_ | refine zI ?_ | (refine zs5 ?_ ?_ <;> intro hc)) | refine awp_split rfl (fun hb => ?_) (fun hb => ?_) | refine zr ?_ | exact x_le)
      rfl
    | cons b x =>
      have e3 : (b :: x)[(0 : Int).toNat]? = some b := rfl
      have e4 : decide ((b :: x).head? = some 47) = decide ((b.toNat : Int) = 47) := by
        have := byte_eq (c := b) (d := 47)
        simp [this]
      have hnn : ¬ (b :: x : List UInt8) = [] := by simp
      have hb := b.toNat_lt
      rw [e4, decide_eq_false hnn]
      refine fun2 tb_ok Tryz.func78 rfl Tryz.ntmps78 Tryz.results78 rfl fun N => ?_
      repeat' (first | refine zt ?_ | (refine isR ?_; first | refine zo ?_ | refine zk c1 ?_ | refine x_callS (c2 _) (fun hb => ?_) (fun hb => ?_) | refine x_callS (c2) (fun hb => ?_) (fun hb => ?_) | refine zc5 ?_ | refine zI ?_ | (refine zs5 ?_ ?_ <;> intro hc)) | refine awp_split rfl (fun hb => ?_) (fun hb => ?_) | refine zr ?_ | exact x_le)
      all_goals (show V.bool _ = V.bool _; simp [*])
/-! ### Goes -/
def mayF (c : Cookie) (f : From) : Bool := !(c.secure && !f.secure) && (!(c.httpOnly && f.script) && !(f.abroad && !decide (c.site = 1)))
def atF (c : Cookie) (f : From) : Bool := if c.hostOnly then decide (f.host = c.domain) else matchF f.host c.domain
def goesF (c : Cookie) (f : From) (now : Int) : Bool := decide (now < c.expiry) && (atF c f && (pathF f.path c.path && mayF c f))
abbrev askV (f : From) (now : Int) : Abs.V := .agg [.str (str f.host), .str (str f.path), .bool f.secure, .bool f.script, .bool f.abroad, .int .i64 now]
set_option maxRecDepth 100000 in
set_option maxHeartbeats 4000000 in
theorem live_v {c : Cookie} {now : Int} : ACalls Tryz.prog 46 [c.v, .int .i64 now] (.bool (decide (now < c.expiry))) := by
  refine fun2 tb_ok Tryz.func46 rfl Tryz.ntmps46 Tryz.results46 rfl fun N => ?_
  repeat' (first | refine zt ?_ | (refine isR ?_; first | refine zo ?_ | refine zc3 ?_ | (refine zs3 ?_ ?_ <;> intro hc)) | refine awp_split rfl (fun hb => ?_) (fun hb => ?_) | refine zr ?_ | exact x_le)
  all_goals (show V.bool _ = V.bool _; first | rfl | simp_all)
set_option maxRecDepth 100000 in
set_option maxHeartbeats 4000000 in
theorem alive_v {c : Cookie} {f : From} {now : Int} : ACalls Tryz.prog 56 [askV f now, c.v] (.bool (decide (now < c.expiry))) := by
  have c1 := live_v (c := c) (now := now)
  refine fun2 tb_ok Tryz.func56 rfl Tryz.ntmps56 Tryz.results56 rfl fun N => ?_
  repeat' (first | refine zt ?_ | (refine isR ?_; first | refine zo ?_ | refine zk c1 ?_) | refine awp_split rfl (fun hb => ?_) (fun hb => ?_) | refine zr ?_ | exact x_le)
  rfl
set_option maxRecDepth 100000 in
set_option maxHeartbeats 4000000 in
theorem along_v {c : Cookie} {f : From} {now : Int} : ACalls Tryz.prog 58 [askV f now, c.v] (.bool (pathF f.path c.path)) := by
  have c1 := path_v (p := f.path) (o := c.path)
  refine fun2 tb_ok Tryz.func58 rfl Tryz.ntmps58 Tryz.results58 rfl fun N => ?_
  repeat' (first | refine zt ?_ | (refine isR ?_; first | refine zo ?_ | refine zk c1 ?_) | refine awp_split rfl (fun hb => ?_) (fun hb => ?_) | refine zr ?_ | exact x_le)
  rfl
set_option maxRecDepth 100000 in
set_option maxHeartbeats 4000000 in
theorem at_v {c : Cookie} {f : From} {now : Int} (hd : c.domain.length ≤ 140737488355327) (hf : f.host.length ≤ 4398046511104) : ACallsG Tryz.prog gStr 57 [askV f now, c.v] (.bool (atF c f)) := by
  have c1 := match_v (l := f.host) (m := c.domain) hf hd
  unfold atF
  obtain ⟨f1, f2, f3, f4, f5⟩ := f
  obtain ⟨d1, d2, d3, d4, d5, d6, d7, d8, d9, d10, d11, d12, d13⟩ := c
  dsimp only at *
  cases d5
  · skip
    refine funG2 tb_ok Tryz.func57 rfl Tryz.ntmps57 Tryz.results57 rfl fun N => ?_
    repeat' (first | refine zt ?_ | (refine isR ?_; first | refine zo ?_ | refine zk c1 ?_ | refine zc5 ?_ | (refine zs5 ?_ ?_ <;> intro hc)) | refine awp_split rfl (fun hb => ?_) (fun hb => ?_) | refine zr ?_ | exact x_le)
    rfl
  · skip
    refine funG2 tb_ok Tryz.func57 rfl Tryz.ntmps57 Tryz.results57 rfl fun N => ?_
    repeat' (first | refine zt ?_ | (refine isR ?_; first | refine zo ?_ | refine zk c1 ?_ | refine zc5 ?_ | (refine zs5 ?_ ?_ <;> intro hc)) | refine awp_split rfl (fun hb => ?_) (fun hb => ?_) | refine zr ?_ | exact x_le)
    all_goals (show V.bool _ = V.bool _; first | rfl | simp_all)
set_option maxRecDepth 100000 in
set_option maxHeartbeats 4000000 in
theorem may_v {c : Cookie} {f : From} {now : Int} : ACalls Tryz.prog 59 [askV f now, c.v] (.bool (mayF c f)) := by
  unfold mayF
  obtain ⟨f1, f2, f3, f4, f5⟩ := f
  obtain ⟨d1, d2, d3, d4, d5, d6, d7, d8, d9, d10, d11, d12, d13⟩ := c
  dsimp only at *
  cases d6
  · cases d7
    · cases f5
      all_goals
        refine fun2 tb_ok Tryz.func59 rfl Tryz.ntmps59 Tryz.results59 rfl fun N => ?_
        repeat' (first | refine zt ?_ | (refine isR ?_; first | refine zo ?_ | refine zc6 ?_ | (refine zs6 ?_ ?_ <;> intro hc)) | refine awp_split rfl (fun hb => ?_) (fun hb => ?_) | refine zr ?_ | exact x_le)
        all_goals (show V.bool _ = V.bool _; first | rfl | simp_all)
    · cases f4 <;> cases f5
      all_goals
        refine fun2 tb_ok Tryz.func59 rfl Tryz.ntmps59 Tryz.results59 rfl fun N => ?_
        repeat' (first | refine zt ?_ | (refine isR ?_; first | refine zo ?_ | refine zc6 ?_ | (refine zs6 ?_ ?_ <;> intro hc)) | refine awp_split rfl (fun hb => ?_) (fun hb => ?_) | refine zr ?_ | exact x_le)
        all_goals (show V.bool _ = V.bool _; first | rfl | simp_all)
  · cases f3
    · skip
      refine fun2 tb_ok Tryz.func59 rfl Tryz.ntmps59 Tryz.results59 rfl fun N => ?_
      repeat' (first | refine zt ?_ | (refine isR ?_; first | refine zo ?_ | refine zc6 ?_ | (refine zs6 ?_ ?_ <;> intro hc)) | refine awp_split rfl (fun hb => ?_) (fun hb => ?_) | refine zr ?_ | exact x_le)
      all_goals (show V.bool _ = V.bool _; first | rfl | simp_all)
    · cases d7
      · cases f5
        all_goals
          refine fun2 tb_ok Tryz.func59 rfl Tryz.ntmps59 Tryz.results59 rfl fun N => ?_
          repeat' (first | refine zt ?_ | (refine isR ?_; first | refine zo ?_ | refine zc6 ?_ | (refine zs6 ?_ ?_ <;> intro hc)) | refine awp_split rfl (fun hb => ?_) (fun hb => ?_) | refine zr ?_ | exact x_le)
          all_goals (show V.bool _ = V.bool _; first | rfl | simp_all)
      · cases f4 <;> cases f5
        all_goals
          refine fun2 tb_ok Tryz.func59 rfl Tryz.ntmps59 Tryz.results59 rfl fun N => ?_
          repeat' (first | refine zt ?_ | (refine isR ?_; first | refine zo ?_ | refine zc6 ?_ | (refine zs6 ?_ ?_ <;> intro hc)) | refine awp_split rfl (fun hb => ?_) (fun hb => ?_) | refine zr ?_ | exact x_le)
          all_goals (show V.bool _ = V.bool _; first | rfl | simp_all)
set_option maxRecDepth 100000 in
set_option maxHeartbeats 4000000 in
theorem goes_v {c : Cookie} {f : From} {now : Int} (hd : c.domain.length ≤ 140737488355327) (hf : f.host.length ≤ 4398046511104) : ACallsG Tryz.prog gStr 26 [c.v, f.v, .int .i64 now] (.bool (goesF c f now)) := by
  have c1 := alive_v (c := c) (f := f) (now := now)
  have c2 := at_v (c := c) (f := f) (now := now) hd hf
  have c3 := along_v (c := c) (f := f) (now := now)
  have c4 := may_v (c := c) (f := f) (now := now)
  have e : goesF c f now = (decide (now < c.expiry) && (atF c f && (pathF f.path c.path && mayF c f))) := rfl
  rw [e]
  generalize decide (now < c.expiry) = x at *
  generalize atF c f = y at *
  generalize pathF f.path c.path = z at *
  generalize mayF c f = u at *
  refine funG3 tb_ok Tryz.func26 rfl Tryz.ntmps26 Tryz.results26 rfl fun N => ?_
  repeat' (first | with_reducible refine rounds_on ?_ | with_reducible refine awp_rounds 6 ?_ | refine zt ?_ | (refine isR ?_; first | refine zo ?_ | refine x_callvS (c1 _) (fun hb => ?_) (fun hb => ?_) | refine x_callvS (c1) (fun hb => ?_) (fun hb => ?_) | refine x_callvS (c2 _) (fun hb => ?_) (fun hb => ?_) | refine x_callvS (c2) (fun hb => ?_) (fun hb => ?_) | refine x_callvS (c3 _) (fun hb => ?_) (fun hb => ?_) | refine x_callvS (c3) (fun hb => ?_) (fun hb => ?_) | refine x_callvS (c4 _) (fun hb => ?_) (fun hb => ?_) | refine x_callvS (c4) (fun hb => ?_) (fun hb => ?_) | refine zA ?_ | refine zc1 ?_ | refine zI ?_ | (refine zs1 ?_ ?_ <;> intro hc)) | refine awp_split rfl (fun hb => ?_) (fun hb => ?_) | refine zr ?_ | exact x_le)
  all_goals (show V.bool _ = V.bool _; first | rfl | simp_all)
end Go.Proofs.YtepnalbefjicgaaGreatDoor.GoesW
end

section
namespace Go.Proofs.YtepnalbefjicgaaGreatDoor.LineP
open Go.RowKit Mem Abs SortP SortW TreeW WordS PathT

def ahB (p q : Cookie × Nat) : Bool := ckLt p.1 q.1 || (!ckLt q.1 p.1 && decide (p.2 < q.2))
def rank (L : List Cookie) (x : Cookie) (i : Nat) : Nat := L.zipIdx.countP fun p => ahB p (x, i)
/-! ### What is sorted -/
/-! ### Lines -/
def ckT (c : Cookie) : List UInt8 := (c.name ++ [61]) ++ c.value
def lineT : List Cookie → List UInt8
  | [] => []
  | [c] => ckT c
  | c :: r => ckT c ++ ([59, 32] ++ lineT r)
theorem lineT_cons (c : Cookie) {r : List Cookie} (h : r ≠ []) : lineT (c :: r) = ckT c ++ ([59, 32] ++ lineT r) := by
  cases r with
  | nil => exact absurd rfl h
  | cons => rfl
theorem lineT_snoc : ∀ (r : List Cookie) (c : Cookie), lineT (r ++ [c]) = if r = [] then ckT c else (lineT r ++ [59, 32]) ++ ckT c
  | [], c => by simp [lineT]
  | [d], c => by simp [lineT]
  | d :: e :: r, c => by
    have h := lineT_snoc (e :: r) c
    rw [if_neg (by simp)] at h ⊢
    rw [List.cons_append, lineT_cons d (by simp), h, lineT_cons d (by simp)]
    simp
theorem ckT_ne (c : Cookie) : ckT c ≠ [] := by unfold ckT; simp
theorem lineT_ne {r : List Cookie} (h : r ≠ []) : lineT r ≠ [] := by
  cases r with
  | nil => exact absurd rfl h
  | cons c r =>
    cases r with
    | nil => exact ckT_ne c
    | cons d r => rw [lineT_cons c (by simp)]; simp [ckT_ne]
def SmallC (L : List Cookie) : Prop := L.length ≤ 1048576 ∧ ∀ c ∈ L, c.name.length ≤ 1048576 ∧ c.value.length ≤ 1048576
theorem lineT_len : ∀ {L : List Cookie}, (∀ c ∈ L, c.name.length ≤ 1048576 ∧ c.value.length ≤ 1048576) → (lineT L).length ≤ L.length * 2097155
  | [], _ => by simp [lineT]
  | [c], h => by
    have := h c (by simp)
    simp [lineT, ckT]; omega
  | c :: d :: r, h => by
    have h1 := h c (by simp)
    have h2 := lineT_len (L := d :: r) fun x hx => h x (by simp [hx])
    rw [lineT_cons c (by simp)]
    simp only [List.length_append, List.length_cons, List.length_nil, ckT] at h2 ⊢
    omega
/-- A part of a line as a pair; none: it is none. -/
def pieceF (i : Nat) (p : List UInt8) : Option Attr :=
  if (0 < i ∧ (cutP p [32]).2 = false) ∨ (cutF 61 (if 0 < i then (cutP p [32]).1 else p)).2.2 = false ∨ (cutF 61 (if 0 < i then (cutP p [32]).1 else p)).1 = [] then none
  else some ⟨(cutF 61 (if 0 < i then (cutP p [32]).1 else p)).1, (cutF 61 (if 0 < i then (cutP p [32]).1 else p)).2.1⟩
def goF : Nat → List (List UInt8) → List Attr → Option (List Attr)
  | _, [], out => some out
  | i, p :: r, out => match pieceF i p with
    | none => none
    | some a => goF (i + 1) r (out ++ [a])
def resF (r : Option (List Attr)) : List Attr × Int := match r with
  | some l => (l, 0)
  | none => ([], 1)
def pairsF (s : List UInt8) : List Attr × Int := if 8000 < s.length then ([], 2) else if s = [] then ([], 0) else resF (goF 0 (split 59 s) [])
def attrC (c : Cookie) : Attr := ⟨c.name, c.value⟩
def FairC (c : Cookie) : Prop := c.name ≠ [] ∧ c.name.contains 59 = false ∧ c.name.contains 61 = false ∧ c.value.contains 59 = false
end Go.Proofs.YtepnalbefjicgaaGreatDoor.LineP
end
