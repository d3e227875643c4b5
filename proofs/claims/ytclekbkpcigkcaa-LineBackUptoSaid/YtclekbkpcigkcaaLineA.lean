/- The library's stable sort over cookies, whole; a list's clone; cookies that are sorted, by the program and by the document. -/
import Derived.Test.YtclekbkpcigkcaaSortN
import Derived.Lib.SliceRun
namespace Go.Proofs.Ytclekbkpcigkcaa.Abs
open Go.RowKit Mem Facts
section
variable {P : Program} {tb : List Ty} {N : Env} {Q : Exit → S → Prop} {s : S}
theorem fro_slice2 {X A : Nat → Prop} {φ : Nat → Pl} {w : World} {xs : List V} {v : Value} (h : Rep X A φ w (.fro xs) v) : ∃ a n c, v = .slice a n c ∧ (a = none → xs = []) := by
  cases h with
  | fz h => cases h with
    | fro0 h => exact ⟨_, _, _, rfl, fun _ => rfl⟩
    | fro c h1 => exact ⟨_, _, _, rfl, fun h => by cases h⟩
/-- Is a frozen slice nil? It may be, if it is empty. -/
theorem awp_nilq {id d1 d2 T el : Nat} {T' : TypeId} {x : Operand} {o1 o2 : Oper} {xs : List V} {e : Ty} (htb : TbOk P tb) (k : ∀ b, (b = true → xs = []) → Q .normal ⟨(d2, .bool b) :: (d1, .fro xs) :: s.tm, s.st, s.nx, s.nt⟩)
    (ho1 : o1.op = .move x := by rfl) (hx : s.ev x = some (.fro xs) := by rfl) (hg1 : o1.guard = none := by rfl) (hd1 : o1.dst = some d1 := by rfl) (l1 : Nat.blt d1 s.nt = true := by rfl)
    (ho2 : o2.op = .binOp .eql T (.tmp d1) (.const (.slice none 0 0)) T' := by rfl) (hg2 : o2.guard = none := by rfl) (hd2 : o2.dst = some d2 := by rfl) (l2 : Nat.blt d2 s.nt = true := by rfl)
    (hT : nth tb T = some e := by rfl) (hs : e.sl = some el := by rfl) : AWp P N (.region id #[o1, o2] false) Q s := fun M φ a w hr => by
  refine wp_region_lit (l := [o1, o2]) (wpList_step fun K hK => ?_)
  rw [if_pos (guard_wanted (s := s) (b := true) (by unfold guardV; rw [hg1]) hr)]
  have hv := hr.ev hx
  have r1 : (execOp a.eval o1).run P w = .ok (.value (a.eval x)) w := by unfold execOp; simp only [ho1]; rfl
  unfold Oper.wp
  rw [r1]
  refine hK _ _ (wpList_step fun K2 hK2 => ?_)
  have hr1 : Rel N M (· < s.nx) φ (s.eff o1.dst (.fro xs) [] s.nx) (a.put o1.dst (a.eval x)) w := rel_dst hr hv fun d h => by rw [hd1] at h; cases h; exact blt_lt l1
  rw [if_pos (guard_wanted (s := s.eff o1.dst (.fro xs) [] s.nx) (b := true) (by unfold guardV; rw [hg2]) hr1)]
  have hv1 : Rep (fun b => M b ∨ N b) (· < s.nx) φ w (.fro xs) ((a.put o1.dst (a.eval x)).eval (.tmp d1)) := hr1.ev (by rw [hd1]; simp [S.ev, S.eff, lk])
  obtain ⟨A, n, c, he, hA⟩ := fro_slice2 hv1
  obtain ⟨ti, d, ht⟩ := ty_at htb hT
  have r2 : (execOp (a.put o1.dst (a.eval x)).eval o2).run P w = .ok (.value (.bool A.isNone)) w := by
    have hq := Lib.run_eql_slice_nil (P := P) w T el A n c 0 0 (slOf_und ht hs)
    have hc : (a.put o1.dst (a.eval x)).eval (.const (.slice none 0 0)) = .slice none 0 0 := rfl
    unfold execOp
    simp only [ho2, he, hc, eqGuard]
    simp only [Sem.run_bind, Bool.not_true, Bool.or_true, if_true, Bool.false_eq_true, if_false, Sem.run_pure, Result.andThen_ok, hq]
  unfold Oper.wp
  rw [r2]
  refine hK2 _ _ (wpList_nil ⟨M, φ, _, .refl _ w, fun _ _ h => h, ?_, k A.isNone fun h => hA (by simpa using h)⟩)
  have hr2 := rel_dst hr1 (dst := o2.dst) (v := .bool A.isNone) (x := .bool A.isNone) (nx := s.nx) (.fz .bool) fun d h => by rw [hd2] at h; cases h; exact blt_lt l2
  exact hr2.as (fun t => by rw [hd1, hd2]; rfl) (fun _ => rfl) rfl
end
end Go.Proofs.Ytclekbkpcigkcaa.Abs
namespace Go.Proofs.Ytclekbkpcigkcaa.LineA
open Go.RowKit Mem Abs SortP SortW SortM SortN
set_option maxRecDepth 100000 in
set_option maxHeartbeats 4000000 in
theorem stable_v {L : List Cookie} {len : Nat} (hl : L.length = len) (hL : len ≤ 140737488355328) : MCalls Try.prog 48 [.own 0 0 len, .int .i64 (len : Int), fnC] [rowC L] (.tup []) [some (rowC (sortF ckLt L))] := by
  unfold sortF
  rw [hl]
  have hi := insP_len (lt := ckLt) (n := len) (len + 1) 0 L
  rw [hl] at hi
  generalize hI : insP ckLt len (len + 1) 0 L = L1 at *
  refine mfun tb_ok Try.func48 rfl Try.ntmps48 Try.results48 rfl rfl rfl rfl fun N pl => ?_
  repeat' (first
      | with_reducible first | refine awp_seq ?_ | refine awp_region ?_ | refine awp_draw mixed ?_ | refine then_n ?_ | refine awp_skip ?_ | refine awp_block ?_ | refine awp_exit ?_ | refine awp_ret ?_ | refine awp_label ?_ | refine then_exit ?_ | refine then_ret ?_ | refine blk_n ?_ | refine blk_ret ?_ | refine blk_exit ?_ | refine blk_other rfl ?_ | refine then_k ?_
      | refine awp_true rfl ?_
      | refine awp_false rfl ?_
      | refine awp_split rfl (fun hb => ?_) (fun hb => ?_)
      | (refine isR ?_; first | refine x_far [] tb_ok rfl ?_ | refine r_nil ?_ | refine r_nild (by kernel_rfl) ?_ | refine x_addE ?_ | refine x_add ?_ | refine x_mulE ?_ | refine x_mul ?_ | refine x_cat ?_ | refine x_lssT ?_ | refine x_lssF ?_ | refine x_lss (fun hc => ?_) (fun hc => ?_) | refine x_leqT ?_ | refine x_leqF ?_ | refine x_leq (fun hc => ?_) (fun hc => ?_))
      | refine x_ret ?_
      | refine x_nor ?_
      | exact x_le)
  refine awp_while (α := Nat × List Cookie) (fun x => ⟨[(0, .own 0 0 len), (1, .int .i64 (len : Int)), (2, fnC), (6, .int .i64 20), (7, .int .i64 (x.1 : Int)), (8, .int .i64 ((x.1 : Int) + 20))], [(0, some (rowC x.2))], 1, 63⟩) (fun x => x.1 ≤ len ∧ x.2.length = len ∧ ∃ f, len - x.1 < f ∧ insP ckLt len f x.1 x.2 = L1) (fun x => len - x.1) (0, L) (by exact x_le) ⟨Nat.zero_le _, hl, len + 1, by dsimp only; omega, hI⟩ ?_
  rintro ⟨a, M⟩ ⟨g1, g2, f, g3, g4⟩
  dsimp only at g1 g2 g3 g4 ⊢
  obtain ⟨f, rfl⟩ : ∃ q, f = q + 1 := ⟨f - 1, by omega⟩
  rw [insP] at g4
  by_cases ha : a + 20 ≤ len
  · rw [if_pos ha] at g4
    have c1 := ins_v (L := M) (a := a) (b := a + 20) g2 hL (by omega) ha
    have e1 : ((a + 20 : Nat) : Int) = (a : Int) + 20 := by omega
    rw [e1] at c1
    repeat' (first
        | with_reducible first | refine awp_seq ?_ | refine awp_region ?_ | refine awp_draw mixed ?_ | refine then_n ?_ | refine awp_skip ?_ | refine awp_block ?_ | refine awp_exit ?_ | refine awp_ret ?_ | refine awp_label ?_ | refine then_exit ?_ | refine then_ret ?_ | refine blk_n ?_ | refine blk_ret ?_ | refine blk_exit ?_ | refine blk_other rfl ?_ | refine then_k ?_
        | refine awp_true rfl ?_
        | refine awp_false rfl ?_
        | refine awp_split rfl (fun hb => ?_) (fun hb => ?_)
        | (refine isR ?_; first | refine x_far [] tb_ok rfl ?_ | refine r_nil ?_ | refine r_nild (by kernel_rfl) ?_ | refine x_m [0] [] (c1 _) ?_ | refine x_m0 [0] [] (c1 _) ?_ | refine x_m [0] [] (c1) ?_ | refine x_m0 [0] [] (c1) ?_ | refine x_addE ?_ | refine x_add ?_ | refine x_mulE ?_ | refine x_mul ?_ | refine x_cat ?_ | refine x_lssT ?_ | refine x_lssF ?_ | refine x_lss (fun hc => ?_) (fun hc => ?_) | refine x_leqT ?_ | refine x_leqF ?_ | refine x_leq (fun hc => ?_) (fun hc => ?_))
        | refine x_ret ?_
        | refine x_nor ?_
        | exact x_le)
    refine ⟨(a + 20, ins ckLt M a (a + 20)), ⟨ha, ins_len.trans g2, f, by dsimp only; omega, g4⟩, by dsimp only; omega, ?_⟩
    dsimp only
    rw [e1]
    exact (by exact x_le)
  · rw [if_neg ha] at g4
    have c1 := ins_v (L := M) (a := a) (b := len) g2 hL g1 (Nat.le_refl _)
    rw [g4] at c1
    repeat' (first
        | with_reducible first | refine awp_seq ?_ | refine awp_region ?_ | refine awp_draw mixed ?_ | refine then_n ?_ | refine awp_skip ?_ | refine awp_block ?_ | refine awp_exit ?_ | refine awp_ret ?_ | refine awp_label ?_ | refine then_exit ?_ | refine then_ret ?_ | refine blk_n ?_ | refine blk_ret ?_ | refine blk_exit ?_ | refine blk_other rfl ?_ | refine then_k ?_
        | refine awp_true rfl ?_
        | refine awp_false rfl ?_
        | refine awp_split rfl (fun hb => ?_) (fun hb => ?_)
        | (refine isR ?_; first | refine x_far [] tb_ok rfl ?_ | refine r_nil ?_ | refine r_nild (by kernel_rfl) ?_ | refine x_m [0] [] (c1 _) ?_ | refine x_m0 [0] [] (c1 _) ?_ | refine x_m [0] [] (c1) ?_ | refine x_m0 [0] [] (c1) ?_ | refine x_addE ?_ | refine x_add ?_ | refine x_mulE ?_ | refine x_mul ?_ | refine x_cat ?_ | refine x_lssT ?_ | refine x_lssF ?_ | refine x_lss (fun hc => ?_) (fun hc => ?_) | refine x_leqT ?_ | refine x_leqF ?_ | refine x_leq (fun hc => ?_) (fun hc => ?_))
        | refine x_ret ?_
        | refine x_nor ?_
        | exact x_le)
    generalize hO : outF ckLt len len 20 L1 = L2 at *
    refine awp_while (α := Nat × List Cookie) (fun x => ⟨[(0, .own 0 0 len), (1, .int .i64 (len : Int)), (2, fnC), (6, .int .i64 (x.1 : Int))], [(0, some (rowC x.2))], 1, 63⟩) (fun x => 0 < x.1 ∧ x.1 ≤ 2 * len + 20 ∧ x.2.length = len ∧ ∃ f, len ≤ x.1 + f ∧ outF ckLt len f x.1 x.2 = L2) (fun x => len - x.1) (20, L1) ?h0 ⟨by dsimp only; omega, by dsimp only; omega, hi, len, by dsimp only; omega, hO⟩ ?_
    case h0 => exact (by exact x_le)
    rintro ⟨k, W⟩ ⟨k1, k2, k3, q, k4, k5⟩
    dsimp only at k1 k2 k3 k4 k5 ⊢
    by_cases hk : k < len
    · obtain ⟨q, rfl⟩ : ∃ z, q = z + 1 := ⟨q - 1, by omega⟩
      rw [outF, if_pos hk] at k5
      have hp := passF_len (lt := ckLt) (n := len) (k := k) (len + 1) 0 W
      generalize hP : passF ckLt len k (len + 1) 0 W = W1 at *
      repeat' (first
          | with_reducible first | refine awp_seq ?_ | refine awp_region ?_ | refine awp_draw mixed ?_ | refine then_n ?_ | refine awp_skip ?_ | refine awp_block ?_ | refine awp_exit ?_ | refine awp_ret ?_ | refine awp_label ?_ | refine then_exit ?_ | refine then_ret ?_ | refine blk_n ?_ | refine blk_ret ?_ | refine blk_exit ?_ | refine blk_other rfl ?_ | refine then_k ?_
          | refine awp_true rfl ?_
          | refine awp_false rfl ?_
          | refine awp_split rfl (fun hb => ?_) (fun hb => ?_)
          | (refine isR ?_; first | refine x_far [] tb_ok rfl ?_ | refine r_nil ?_ | refine r_nild (by kernel_rfl) ?_ | refine x_addE ?_ | refine x_add ?_ | refine x_mulE ?_ | refine x_mul ?_ | refine x_cat ?_ | refine x_lssT ?_ | refine x_lssF ?_ | refine x_lss (fun hc => ?_) (fun hc => ?_) | refine x_leqT ?_ | refine x_leqF ?_ | refine x_leq (fun hc => ?_) (fun hc => ?_))
          | refine x_ret ?_
          | refine x_nor ?_
          | exact x_le)
      refine awp_while (α := Nat × List Cookie) (fun x => ⟨[(0, .own 0 0 len), (1, .int .i64 (len : Int)), (2, fnC), (6, .int .i64 (k : Int)), (7, .int .i64 (x.1 : Int)), (8, .int .i64 ((x.1 : Int) + 2 * (k : Int)))], [(0, some (rowC x.2))], 1, 63⟩) (fun x => x.1 ≤ len ∧ x.2.length = len ∧ ∃ f, len - x.1 < f ∧ passF ckLt len k f x.1 x.2 = W1) (fun x => len - x.1) (0, W) ?h1 ⟨Nat.zero_le _, k3, len + 1, by dsimp only; omega, hP⟩ ?_
      case h1 =>
        have e0 : 2 * (k : Int) = (((0 : Nat) : Int)) + 2 * (k : Int) := by omega
        dsimp only
        rw [← e0]
        exact (by exact x_le)
      rintro ⟨a, V⟩ ⟨m1, m2, f, m3, m4⟩
      dsimp only at m1 m2 m3 m4 ⊢
      obtain ⟨f, rfl⟩ : ∃ z, f = z + 1 := ⟨f - 1, by omega⟩
      rw [passF] at m4
      have e2 : ((a + k : Nat) : Int) = (a : Int) + (k : Int) := by omega
      have e3 : ((a + 2 * k : Nat) : Int) = (a : Int) + 2 * (k : Int) := by omega
      by_cases hb : a + 2 * k ≤ len
      · rw [if_pos hb] at m4
        have d1 := sym_v hL (2 * k) V a (a + k) (a + 2 * k) m2 (by omega) (by omega) hb (by omega)
        rw [e2, e3] at d1
        clear c1 g4 hI hO hP
        repeat' (first
            | with_reducible first | refine awp_seq ?_ | refine awp_region ?_ | refine awp_draw mixed ?_ | refine then_n ?_ | refine awp_skip ?_ | refine awp_block ?_ | refine awp_exit ?_ | refine awp_ret ?_ | refine awp_label ?_ | refine then_exit ?_ | refine then_ret ?_ | refine blk_n ?_ | refine blk_ret ?_ | refine blk_exit ?_ | refine blk_other rfl ?_ | refine then_k ?_
            | refine awp_true rfl ?_
            | refine awp_false rfl ?_
            | refine awp_split rfl (fun hb => ?_) (fun hb => ?_)
            | (refine isR ?_; first | refine x_far [] tb_ok rfl ?_ | refine r_nil ?_ | refine r_nild (by kernel_rfl) ?_ | refine x_m [0] [] (d1 _) ?_ | refine x_m0 [0] [] (d1 _) ?_ | refine x_m [0] [] (d1) ?_ | refine x_m0 [0] [] (d1) ?_ | refine x_addE ?_ | refine x_add ?_ | refine x_mulE ?_ | refine x_mul ?_ | refine x_cat ?_ | refine x_lssT ?_ | refine x_lssF ?_ | refine x_lss (fun hc => ?_) (fun hc => ?_) | refine x_leqT ?_ | refine x_leqF ?_ | refine x_leq (fun hc => ?_) (fun hc => ?_))
            | refine x_ret ?_
            | refine x_nor ?_
            | exact x_le)
        refine ⟨(a + 2 * k, symF ckLt (2 * k) V a (a + k) (a + 2 * k)), ⟨hb, (symF_len _ _ _ _ _).trans m2, f, by dsimp only; omega, m4⟩, by dsimp only; omega, ?_⟩
        dsimp only
        rw [e3]
        exact (by exact x_le)
      · rw [if_neg hb] at m4
        have e4 : ((2 * k : Nat) : Int) = (k : Int) * 2 := by omega
        by_cases hc : a + k < len
        · rw [if_pos hc] at m4
          have d1 := sym_v hL (len - a) V a (a + k) len m2 (by omega) hc (Nat.le_refl _) (Nat.le_refl _)
          rw [e2, m4] at d1
          clear c1 g4 hI hO hP
          repeat' (first
              | with_reducible first | refine awp_seq ?_ | refine awp_region ?_ | refine awp_draw mixed ?_ | refine then_n ?_ | refine awp_skip ?_ | refine awp_block ?_ | refine awp_exit ?_ | refine awp_ret ?_ | refine awp_label ?_ | refine then_exit ?_ | refine then_ret ?_ | refine blk_n ?_ | refine blk_ret ?_ | refine blk_exit ?_ | refine blk_other rfl ?_ | refine then_k ?_
              | refine awp_true rfl ?_
              | refine awp_false rfl ?_
              | refine awp_split rfl (fun hb => ?_) (fun hb => ?_)
              | (refine isR ?_; first | refine x_far [] tb_ok rfl ?_ | refine r_nil ?_ | refine r_nild (by kernel_rfl) ?_ | refine x_m [0] [] (d1 _) ?_ | refine x_m0 [0] [] (d1 _) ?_ | refine x_m [0] [] (d1) ?_ | refine x_m0 [0] [] (d1) ?_ | refine x_addE ?_ | refine x_add ?_ | refine x_mulE ?_ | refine x_mul ?_ | refine x_cat ?_ | refine x_lssT ?_ | refine x_lssF ?_ | refine x_lss (fun hc => ?_) (fun hc => ?_) | refine x_leqT ?_ | refine x_leqF ?_ | refine x_leq (fun hc => ?_) (fun hc => ?_))
              | refine x_ret ?_
              | refine x_nor ?_
              | exact x_le)
          refine ⟨(2 * k, W1), ⟨by dsimp only; omega, by dsimp only; omega, by dsimp only; omega, q, by dsimp only; omega, k5⟩, by dsimp only; omega, ?_⟩
          dsimp only
          rw [e4]
          exact (by exact x_le)
        · rw [if_neg hc] at m4
          clear c1 g4 hI hO hP
          subst m4
          repeat' (first
              | with_reducible first | refine awp_seq ?_ | refine awp_region ?_ | refine awp_draw mixed ?_ | refine then_n ?_ | refine awp_skip ?_ | refine awp_block ?_ | refine awp_exit ?_ | refine awp_ret ?_ | refine awp_label ?_ | refine then_exit ?_ | refine then_ret ?_ | refine blk_n ?_ | refine blk_ret ?_ | refine blk_exit ?_ | refine blk_other rfl ?_ | refine then_k ?_
              | refine awp_true rfl ?_
              | refine awp_false rfl ?_
              | refine awp_split rfl (fun hb => ?_) (fun hb => ?_)
              | (refine isR ?_; first | refine x_far [] tb_ok rfl ?_ | refine r_nil ?_ | refine r_nild (by kernel_rfl) ?_ | refine x_addE ?_ | refine x_add ?_ | refine x_mulE ?_ | refine x_mul ?_ | refine x_cat ?_ | refine x_lssT ?_ | refine x_lssF ?_ | refine x_lss (fun hc => ?_) (fun hc => ?_) | refine x_leqT ?_ | refine x_leqF ?_ | refine x_leq (fun hc => ?_) (fun hc => ?_))
              | refine x_ret ?_
              | refine x_nor ?_
              | exact x_le)
          refine ⟨(2 * k, V), ⟨by dsimp only; omega, by dsimp only; omega, m2, q, by dsimp only; omega, k5⟩, by dsimp only; omega, ?_⟩
          dsimp only
          rw [e4]
          exact (by exact x_le)
    · have e5 : outF ckLt len q k W = W := by
        cases q with
        | zero => rfl
        | succ q => rw [outF, if_neg hk]
      rw [e5] at k5
      subst k5
      clear c1 g4 hI hO
      repeat' (first
          | with_reducible first | refine awp_seq ?_ | refine awp_region ?_ | refine awp_draw mixed ?_ | refine then_n ?_ | refine awp_skip ?_ | refine awp_block ?_ | refine awp_exit ?_ | refine awp_ret ?_ | refine awp_label ?_ | refine then_exit ?_ | refine then_ret ?_ | refine blk_n ?_ | refine blk_ret ?_ | refine blk_exit ?_ | refine blk_other rfl ?_ | refine then_k ?_
          | refine awp_true rfl ?_
          | refine awp_false rfl ?_
          | refine awp_split rfl (fun hb => ?_) (fun hb => ?_)
          | (refine isR ?_; first | refine x_far [] tb_ok rfl ?_ | refine r_nil ?_ | refine r_nild (by kernel_rfl) ?_ | refine x_addE ?_ | refine x_add ?_ | refine x_mulE ?_ | refine x_mul ?_ | refine x_cat ?_ | refine x_lssT ?_ | refine x_lssF ?_ | refine x_lss (fun hc => ?_) (fun hc => ?_) | refine x_leqT ?_ | refine x_leqF ?_ | refine x_leq (fun hc => ?_) (fun hc => ?_))
          | refine x_mret [0] ?_ ?_
          | refine x_mnor [0] ?_ ?_
          | refine x_ret ?_
          | refine x_nor ?_
          | exact x_le)
      · rfl
      · exact .on (.same (nl_map fun _ => rfl)) .nil
set_option maxRecDepth 100000 in
set_option maxHeartbeats 4000000 in
theorem sortStable_v {L : List Cookie} {len : Nat} (hl : L.length = len) (hL : len ≤ 140737488355328) : MCalls Try.prog 29 [.own 0 0 len, fnC] [rowC L] (.tup []) [some (rowC (sortF ckLt L))] := by
  have c1 := stable_v hl hL
  generalize sortF ckLt L = L1 at *
  refine mfun tb_ok Try.func29 rfl Try.ntmps29 Try.results29 rfl rfl rfl rfl fun N pl => ?_
  repeat' (first
      | with_reducible first | refine awp_seq ?_ | refine awp_region ?_ | refine awp_draw mixed ?_ | refine then_n ?_ | refine awp_skip ?_ | refine awp_block ?_ | refine awp_exit ?_ | refine awp_ret ?_ | refine awp_label ?_ | refine then_exit ?_ | refine then_ret ?_ | refine blk_n ?_ | refine blk_ret ?_ | refine blk_exit ?_ | refine blk_other rfl ?_ | refine then_k ?_
      | refine awp_true rfl ?_
      | refine awp_false rfl ?_
      | refine awp_split rfl (fun hb => ?_) (fun hb => ?_)
      | (refine isR ?_; first | refine x_far [] tb_ok rfl ?_ | refine r_nil ?_ | refine r_nild (by kernel_rfl) ?_ | refine x_m [0] [] (c1 _) ?_ | refine x_m0 [0] [] (c1 _) ?_ | refine x_m [0] [] (c1) ?_ | refine x_m0 [0] [] (c1) ?_ | refine x_lenF tb_ok ?_ | refine x_lenO tb_ok ?_ | refine x_lenN tb_ok ?_ | refine x_lenS ?_)
      | refine x_mret [0] ?_ ?_
      | refine x_mnor [0] ?_ ?_
      | refine x_ret ?_
      | refine x_nor ?_
      | exact x_le)
  · rfl
  · exact .on (.same (nl_map fun _ => rfl)) .nil
set_option maxRecDepth 100000 in
set_option maxHeartbeats 4000000 in
theorem clone_v {L : List Cookie} (hb : L.length * 112 ≤ 140737488355328) : MCalls Try.prog 28 [.fro (L.map Cookie.v)] [] (.own 0 0 L.length) [some (rowC L)] := by
  have hl : L.length ≤ 140737488355328 := by omega
  refine mfun tb_ok Try.func28 rfl Try.ntmps28 Try.results28 rfl rfl rfl rfl fun N pl => ?_
  repeat' (first
      | refine awp_nilq tb_ok (fun b hq => ?_)
      | (with_reducible refine awp_name (c := Code.ret) (t := 2) CK 13 (by decide) rfl rfl ?_)
      | refine x_mret [1] ?_ ?_
      | with_reducible first | refine awp_seq ?_ | refine awp_region ?_ | refine awp_draw mixed ?_ | refine then_n ?_ | refine awp_skip ?_ | refine awp_block ?_ | refine awp_exit ?_ | refine awp_ret ?_ | refine awp_label ?_ | refine then_exit ?_ | refine then_ret ?_ | refine blk_n ?_ | refine blk_ret ?_ | refine blk_exit ?_ | refine blk_other rfl ?_ | refine then_k ?_
      | refine awp_true rfl ?_
      | refine awp_false rfl ?_
      | refine awp_split rfl (fun hb => ?_) (fun hb => ?_)
      | (refine isR ?_; first | refine x_far [5] tb_ok rfl ?_ | refine r_nil ?_ | refine r_nild (by kernel_rfl) ?_ | refine x_appK Cookie.v (L := []) (K' := L) tb_ok ?_ | refine x_bsO 5 tb_ok ?_ | refine x_bs tb_ok ?_ | refine x_eqlT ?_ | refine x_eqlF ?_ | refine x_eql (fun hc => ?_) (fun hc => ?_) | refine x_eqlB ?_ | refine x_eqlST ?_ | refine x_eqlSF ?_ | refine x_eqlS (fun hc => ?_) (fun hc => ?_) | refine x_eqlI ?_ | refine x_eqlN ?_ | refine x_eqlA tb_ok ?_ | refine x_eqlAS tb_ok (fun hc => ?_) (fun hc => ?_))
      | refine x_mret [0] ?_ ?_
      | refine x_mnor [0] ?_ ?_
      | refine x_ret ?_
      | refine x_nor ?_
      | exact x_le)
  all_goals first
    | (have hn := hq hb; simp only [List.map_eq_nil_iff] at hn; subst hn; first | rfl | exact .on (.same rfl) .nil)
    | rfl
    | exact .on (.same (nl_map fun _ => rfl)) .nil
set_option maxRecDepth 100000 in
set_option maxHeartbeats 4000000 in
theorem lineSort_v {L : List Cookie} (hb : L.length * 112 ≤ 140737488355328) : ACalls Try.prog 13 [.fro (L.map Cookie.v)] (.fro ((sortF ckLt L).map Cookie.v)) := by
  have c1 := clone_v hb
  have c2 := sortStable_v (L := L) rfl (by omega)
  have hl : (sortF ckLt L).length = L.length := sortF_len
  generalize sortF ckLt L = M at *
  rw [← hl] at c1 c2
  refine fun1 tb_ok Try.func13 rfl Try.ntmps13 Try.results13 rfl fun N => ?_
  repeat' (first
      | with_reducible first | refine awp_seq ?_ | refine awp_region ?_ | refine awp_draw mixed ?_ | refine then_n ?_ | refine awp_skip ?_ | refine awp_block ?_ | refine awp_exit ?_ | refine awp_ret ?_ | refine awp_label ?_ | refine then_exit ?_ | refine then_ret ?_ | refine blk_n ?_ | refine blk_ret ?_ | refine blk_exit ?_ | refine blk_other rfl ?_ | refine then_k ?_
      | refine awp_true rfl ?_
      | refine awp_false rfl ?_
      | refine awp_split rfl (fun hb => ?_) (fun hb => ?_)
      | (refine isR ?_; first | refine x_far [] tb_ok rfl ?_ | refine r_nil ?_ | refine r_nild (by kernel_rfl) ?_ | refine x_m [] [0] (c1 _) ?_ | refine x_m0 [] [0] (c1 _) ?_ | refine x_m [] [0] (c1) ?_ | refine x_m0 [] [0] (c1) ?_ | refine x_m [0] [] (c2 _) ?_ | refine x_m0 [0] [] (c2 _) ?_ | refine x_m [0] [] (c2) ?_ | refine x_m0 [0] [] (c2) ?_)
      | refine x_ret ?_
      | refine x_nor ?_
      | exact x_le)
  show V.fro (List.take M.length (List.drop 0 (M.map Cookie.v))) = _
  rw [List.drop_zero, List.take_of_length_le (by simp)]
end Go.Proofs.Ytclekbkpcigkcaa.LineA
