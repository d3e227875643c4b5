/- The library's stable sort over cookies: the walks. -/
import Derived.Test.YtclekbkpcigkcaaSortP
import Derived.Test.YtclekbkpcigkcaaAbsZ
import Derived.Test.YtclekbkpcigkcaaTy
namespace Go.Proofs.Ytclekbkpcigkcaa.Abs
open Go.RowKit Mem Facts
section
variable {P : Program} {N : Env} {l r : List Oper} {o : Oper} {tm : List (Nat × V)} {st : List (Nat × Option Blk)} {nx nt : Nat} {tr : List Tr} {K : S → List Tr → Prop} {d : Nat} {t t' : TypeId} {x y : Operand} {a n : Int} {kd ky : IntKind}
theorem law_shr1 (ho : o.op = .binOp .shr t x y t') (h : a.fdiv 2 = n) (hn : InR kd n) : OpLaw P N o ⟨[(x, .int kd a), (y, .int ky 1)], []⟩ (.int kd n) [] [] :=
  law_pure fun s M A φ ac w hh hr => by
    refine ⟨.int kd n, ?_, .fz (.int hn)⟩
    subst h
    have e : min (1 : Int).toNat kd.bits = 1 := by cases kd <;> rfl
    unfold execOp
    have e2 : (eqGuard .shr t x y (.int kd a) (.int ky 1)).run P w = .ok () w := rfl
    have e3 : (binOp .shr t (.int kd a) (.int ky 1)).run P w = .ok (.int kd (a.fdiv 2)) w := by
      unfold binOp
      simp only [Op.shift]
      rw [e]
      rfl
    simp only [ho, hr.int hh.a, hr.int hh.b, Sem.run_bind, e2, e3, Result.andThen_ok, Sem.run_pure]
theorem x_shr1 (k : ARun P N l K r ⟨(d, .int kd n) :: tm, st, nx, nt⟩ (tr ++ [trOf l o ⟨[(x, .int kd a), (y, .int ky 1)], []⟩ []])) (ho : o.op = .binOp .shr t x y t' := by rfl) (hx : S.ev ⟨tm, st, nx, nt⟩ x = some (.int kd a) := by rfl) (hy : S.ev ⟨tm, st, nx, nt⟩ y = some (.int ky 1) := by rfl) (hg : guardV l o ⟨tm, st, nx, nt⟩ = some true := by rfl) (hd : o.dst = some d := by rfl) (hlt : Nat.blt d nt = true := by rfl) (h : a.fdiv 2 = n := by assumption) (hn : InR kd n := by assumption) : ARun P N l K (o :: r) ⟨tm, st, nx, nt⟩ tr := r_val hg hd hlt (law_shr1 ho h hn) (hT hx (hT hy h0)) k
end
end Go.Proofs.Ytclekbkpcigkcaa.Abs
namespace Go.Proofs.Ytclekbkpcigkcaa.SortW
open Go.RowKit Mem Abs SortP

def cmpI (a b : Int) : Int := if a < b then -1 else if b < a then 1 else 0
theorem cmpI_r (a b : Int) : -1 ≤ cmpI a b ∧ cmpI a b ≤ 1 := by unfold cmpI; split; omega; split <;> omega
set_option maxRecDepth 100000 in
set_option maxHeartbeats 4000000 in
theorem isNaN_v {a : Int} : ACalls Try.prog 49 [.int .i64 a] (.bool false) := by
  refine fun1 tb_ok Try.func49 rfl Try.ntmps49 Try.results49 rfl fun N => ?_
  repeat' (first
      | with_reducible first | refine awp_seq ?_ | refine awp_region ?_ | refine awp_draw mixed ?_ | refine then_n ?_ | refine awp_skip ?_ | refine awp_block ?_ | refine awp_exit ?_ | refine awp_ret ?_ | refine awp_label ?_ | refine then_exit ?_ | refine then_ret ?_ | refine blk_n ?_ | refine blk_ret ?_ | refine blk_exit ?_ | refine blk_other rfl ?_ | refine then_k ?_
      | refine awp_true rfl ?_
      | refine awp_false rfl ?_
      | refine awp_split rfl (fun hb => ?_) (fun hb => ?_)
      | (refine isR ?_; first | refine x_far [] tb_ok rfl ?_ | refine r_nil ?_ | refine r_nild (by kernel_rfl) ?_ | refine x_neqT ?_ | refine x_neqF ?_ | refine x_neq (fun hc => ?_) (fun hc => ?_) | refine x_neqB ?_ | refine x_neqST ?_ | refine x_neqSF ?_ | refine x_neqS (fun hc => ?_) (fun hc => ?_) | refine x_neqI ?_ | refine x_neqN ?_ | refine x_neqA tb_ok ?_ | refine x_neqAS tb_ok (fun hc => ?_) (fun hc => ?_))
      | refine x_ret ?_
      | refine x_nor ?_
      | exact x_le)
  rfl
set_option maxRecDepth 100000 in
set_option maxHeartbeats 4000000 in
theorem compare_v {a b : Int} : ACalls Try.prog 32 [.int .i64 a, .int .i64 b] (.int .i64 (cmpI a b)) := by
  have c1 := isNaN_v (a := a)
  have c2 := isNaN_v (a := b)
  unfold cmpI
  by_cases h1 : a < b
  · rw [if_pos h1]
    refine fun2 tb_ok Try.func32 rfl Try.ntmps32 Try.results32 rfl fun N => ?_
    repeat' (first
        | with_reducible first | refine awp_seq ?_ | refine awp_region ?_ | refine awp_draw mixed ?_ | refine then_n ?_ | refine awp_skip ?_ | refine awp_block ?_ | refine awp_exit ?_ | refine awp_ret ?_ | refine awp_label ?_ | refine then_exit ?_ | refine then_ret ?_ | refine blk_n ?_ | refine blk_ret ?_ | refine blk_exit ?_ | refine blk_other rfl ?_ | refine then_k ?_
        | refine awp_true rfl ?_
        | refine awp_false rfl ?_
        | refine awp_split rfl (fun hb => ?_) (fun hb => ?_)
        | (refine isR ?_; first | refine x_far [] tb_ok rfl ?_ | refine r_nil ?_ | refine r_nild (by kernel_rfl) ?_ | refine x_call (c1 _) ?_ | refine x_call (c1) ?_ | refine x_call (c2 _) ?_ | refine x_call (c2) ?_ | refine x_lssT ?_ | refine x_lssF ?_ | refine x_lss (fun hc => ?_) (fun hc => ?_) | refine x_gtrT ?_ | refine x_gtrF ?_ | refine x_gtr (fun hc => ?_) (fun hc => ?_))
        | refine x_ret ?_
        | refine x_nor ?_
        | exact x_le)
    rfl
  · rw [if_neg h1]
    by_cases h2 : b < a
    · rw [if_pos h2]
      refine fun2 tb_ok Try.func32 rfl Try.ntmps32 Try.results32 rfl fun N => ?_
      repeat' (first
          | with_reducible first | refine awp_seq ?_ | refine awp_region ?_ | refine awp_draw mixed ?_ | refine then_n ?_ | refine awp_skip ?_ | refine awp_block ?_ | refine awp_exit ?_ | refine awp_ret ?_ | refine awp_label ?_ | refine then_exit ?_ | refine then_ret ?_ | refine blk_n ?_ | refine blk_ret ?_ | refine blk_exit ?_ | refine blk_other rfl ?_ | refine then_k ?_
          | refine awp_true rfl ?_
          | refine awp_false rfl ?_
          | refine awp_split rfl (fun hb => ?_) (fun hb => ?_)
          | (refine isR ?_; first | refine x_far [] tb_ok rfl ?_ | refine r_nil ?_ | refine r_nild (by kernel_rfl) ?_ | refine x_call (c1 _) ?_ | refine x_call (c1) ?_ | refine x_call (c2 _) ?_ | refine x_call (c2) ?_ | refine x_lssT ?_ | refine x_lssF ?_ | refine x_lss (fun hc => ?_) (fun hc => ?_) | refine x_gtrT ?_ | refine x_gtrF ?_ | refine x_gtr (fun hc => ?_) (fun hc => ?_))
          | refine x_ret ?_
          | refine x_nor ?_
          | exact x_le)
      rfl
    · rw [if_neg h2]
      refine fun2 tb_ok Try.func32 rfl Try.ntmps32 Try.results32 rfl fun N => ?_
      repeat' (first
          | with_reducible first | refine awp_seq ?_ | refine awp_region ?_ | refine awp_draw mixed ?_ | refine then_n ?_ | refine awp_skip ?_ | refine awp_block ?_ | refine awp_exit ?_ | refine awp_ret ?_ | refine awp_label ?_ | refine then_exit ?_ | refine then_ret ?_ | refine blk_n ?_ | refine blk_ret ?_ | refine blk_exit ?_ | refine blk_other rfl ?_ | refine then_k ?_
          | refine awp_true rfl ?_
          | refine awp_false rfl ?_
          | refine awp_split rfl (fun hb => ?_) (fun hb => ?_)
          | (refine isR ?_; first | refine x_far [] tb_ok rfl ?_ | refine r_nil ?_ | refine r_nild (by kernel_rfl) ?_ | refine x_call (c1 _) ?_ | refine x_call (c1) ?_ | refine x_call (c2 _) ?_ | refine x_call (c2) ?_ | refine x_lssT ?_ | refine x_lssF ?_ | refine x_lss (fun hc => ?_) (fun hc => ?_) | refine x_gtrT ?_ | refine x_gtrF ?_ | refine x_gtr (fun hc => ?_) (fun hc => ?_))
          | refine x_ret ?_
          | refine x_nor ?_
          | exact x_le)
      rfl
def orI (a b c : Int) : Int := if a ≠ 0 then a else if b ≠ 0 then b else c
set_option maxRecDepth 100000 in
set_option maxHeartbeats 4000000 in
theorem or_v {a b c : Int} : ACalls Try.prog 31 [.fro [.int .i64 a, .int .i64 b, .int .i64 c]] (.int .i64 (orI a b c)) := by
  have hz : [V.int .i64 a, V.int .i64 b, V.int .i64 c].length = 3 := rfl
  unfold orI
  by_cases h1 : a = 0
  · rw [if_neg (by simp [h1])]
    by_cases h2 : b = 0
    · rw [if_neg (by simp [h2])]
      by_cases h3 : c = 0
      · skip
        refine fun1 tb_ok Try.func31 rfl Try.ntmps31 Try.results31 rfl fun N => ?_
        repeat' (first
            | with_reducible refine rounds_on ?_
            | with_reducible refine awp_rounds 4 ?_
            | with_reducible first | refine awp_seq ?_ | refine awp_region ?_ | refine awp_draw mixed ?_ | refine then_n ?_ | refine awp_skip ?_ | refine awp_block ?_ | refine awp_exit ?_ | refine awp_ret ?_ | refine awp_label ?_ | refine then_exit ?_ | refine then_ret ?_ | refine blk_n ?_ | refine blk_ret ?_ | refine blk_exit ?_ | refine blk_other rfl ?_ | refine then_k ?_
            | refine awp_true rfl ?_
            | refine awp_false rfl ?_
            | refine awp_split rfl (fun hb => ?_) (fun hb => ?_)
            | (refine isR ?_; first | refine x_far [] tb_ok rfl ?_ | refine r_nil ?_ | refine r_nild (by kernel_rfl) ?_ | refine x_addE ?_ | refine x_add ?_ | refine x_cat ?_ | refine x_lenF tb_ok ?_ | refine x_lenO tb_ok ?_ | refine x_lenN tb_ok ?_ | refine x_lenS ?_ | refine x_lssT ?_ | refine x_lssF ?_ | refine x_lss (fun hc => ?_) (fun hc => ?_) | refine x_neqT ?_ | refine x_neqF ?_ | refine x_neq (fun hc => ?_) (fun hc => ?_) | refine x_neqB ?_ | refine x_neqST ?_ | refine x_neqSF ?_ | refine x_neqS (fun hc => ?_) (fun hc => ?_) | refine x_neqI ?_ | refine x_neqN ?_ | refine x_iaF tb_ok ?_ | refine x_iaO tb_ok ?_ | refine x_iaA tb_ok ?_ | refine x_iaAF tb_ok ?_ | refine x_neqA tb_ok ?_ | refine x_neqAS tb_ok (fun hc => ?_) (fun hc => ?_))
            | refine x_ret ?_
            | refine x_nor ?_
            | exact x_le)
        all_goals first | (subst h3; rfl) | (exfalso; omega)
      · skip
        refine fun1 tb_ok Try.func31 rfl Try.ntmps31 Try.results31 rfl fun N => ?_
        repeat' (first
            | with_reducible refine rounds_on ?_
            | with_reducible refine awp_rounds 4 ?_
            | with_reducible first | refine awp_seq ?_ | refine awp_region ?_ | refine awp_draw mixed ?_ | refine then_n ?_ | refine awp_skip ?_ | refine awp_block ?_ | refine awp_exit ?_ | refine awp_ret ?_ | refine awp_label ?_ | refine then_exit ?_ | refine then_ret ?_ | refine blk_n ?_ | refine blk_ret ?_ | refine blk_exit ?_ | refine blk_other rfl ?_ | refine then_k ?_
            | refine awp_true rfl ?_
            | refine awp_false rfl ?_
            | refine awp_split rfl (fun hb => ?_) (fun hb => ?_)
            | (refine isR ?_; first | refine x_far [] tb_ok rfl ?_ | refine r_nil ?_ | refine r_nild (by kernel_rfl) ?_ | refine x_addE ?_ | refine x_add ?_ | refine x_cat ?_ | refine x_lenF tb_ok ?_ | refine x_lenO tb_ok ?_ | refine x_lenN tb_ok ?_ | refine x_lenS ?_ | refine x_lssT ?_ | refine x_lssF ?_ | refine x_lss (fun hc => ?_) (fun hc => ?_) | refine x_neqT ?_ | refine x_neqF ?_ | refine x_neq (fun hc => ?_) (fun hc => ?_) | refine x_neqB ?_ | refine x_neqST ?_ | refine x_neqSF ?_ | refine x_neqS (fun hc => ?_) (fun hc => ?_) | refine x_neqI ?_ | refine x_neqN ?_ | refine x_iaF tb_ok ?_ | refine x_iaO tb_ok ?_ | refine x_iaA tb_ok ?_ | refine x_iaAF tb_ok ?_ | refine x_neqA tb_ok ?_ | refine x_neqAS tb_ok (fun hc => ?_) (fun hc => ?_))
            | refine x_ret ?_
            | refine x_nor ?_
            | exact x_le)
        all_goals first | rfl | (exfalso; omega)
    · rw [if_pos h2]
      refine fun1 tb_ok Try.func31 rfl Try.ntmps31 Try.results31 rfl fun N => ?_
      repeat' (first
          | with_reducible refine rounds_on ?_
          | with_reducible refine awp_rounds 4 ?_
          | with_reducible first | refine awp_seq ?_ | refine awp_region ?_ | refine awp_draw mixed ?_ | refine then_n ?_ | refine awp_skip ?_ | refine awp_block ?_ | refine awp_exit ?_ | refine awp_ret ?_ | refine awp_label ?_ | refine then_exit ?_ | refine then_ret ?_ | refine blk_n ?_ | refine blk_ret ?_ | refine blk_exit ?_ | refine blk_other rfl ?_ | refine then_k ?_
          | refine awp_true rfl ?_
          | refine awp_false rfl ?_
          | refine awp_split rfl (fun hb => ?_) (fun hb => ?_)
          | (refine isR ?_; first | refine x_far [] tb_ok rfl ?_ | refine r_nil ?_ | refine r_nild (by kernel_rfl) ?_ | refine x_addE ?_ | refine x_add ?_ | refine x_cat ?_ | refine x_lenF tb_ok ?_ | refine x_lenO tb_ok ?_ | refine x_lenN tb_ok ?_ | refine x_lenS ?_ | refine x_lssT ?_ | refine x_lssF ?_ | refine x_lss (fun hc => ?_) (fun hc => ?_) | refine x_neqT ?_ | refine x_neqF ?_ | refine x_neq (fun hc => ?_) (fun hc => ?_) | refine x_neqB ?_ | refine x_neqST ?_ | refine x_neqSF ?_ | refine x_neqS (fun hc => ?_) (fun hc => ?_) | refine x_neqI ?_ | refine x_neqN ?_ | refine x_iaF tb_ok ?_ | refine x_iaO tb_ok ?_ | refine x_iaA tb_ok ?_ | refine x_iaAF tb_ok ?_ | refine x_neqA tb_ok ?_ | refine x_neqAS tb_ok (fun hc => ?_) (fun hc => ?_))
          | refine x_ret ?_
          | refine x_nor ?_
          | exact x_le)
      all_goals first | rfl | (exfalso; omega)
  · rw [if_pos h1]
    refine fun1 tb_ok Try.func31 rfl Try.ntmps31 Try.results31 rfl fun N => ?_
    repeat' (first
        | with_reducible refine rounds_on ?_
        | with_reducible refine awp_rounds 4 ?_
        | with_reducible first | refine awp_seq ?_ | refine awp_region ?_ | refine awp_draw mixed ?_ | refine then_n ?_ | refine awp_skip ?_ | refine awp_block ?_ | refine awp_exit ?_ | refine awp_ret ?_ | refine awp_label ?_ | refine then_exit ?_ | refine then_ret ?_ | refine blk_n ?_ | refine blk_ret ?_ | refine blk_exit ?_ | refine blk_other rfl ?_ | refine then_k ?_
        | refine awp_true rfl ?_
        | refine awp_false rfl ?_
        | refine awp_split rfl (fun hb => ?_) (fun hb => ?_)
        | (refine isR ?_; first | refine x_far [] tb_ok rfl ?_ | refine r_nil ?_ | refine r_nild (by kernel_rfl) ?_ | refine x_addE ?_ | refine x_add ?_ | refine x_cat ?_ | refine x_lenF tb_ok ?_ | refine x_lenO tb_ok ?_ | refine x_lenN tb_ok ?_ | refine x_lenS ?_ | refine x_lssT ?_ | refine x_lssF ?_ | refine x_lss (fun hc => ?_) (fun hc => ?_) | refine x_neqT ?_ | refine x_neqF ?_ | refine x_neq (fun hc => ?_) (fun hc => ?_) | refine x_neqB ?_ | refine x_neqST ?_ | refine x_neqSF ?_ | refine x_neqS (fun hc => ?_) (fun hc => ?_) | refine x_neqI ?_ | refine x_neqN ?_ | refine x_iaF tb_ok ?_ | refine x_iaO tb_ok ?_ | refine x_iaA tb_ok ?_ | refine x_iaAF tb_ok ?_ | refine x_neqA tb_ok ?_ | refine x_neqAS tb_ok (fun hc => ?_) (fun hc => ?_))
        | refine x_ret ?_
        | refine x_nor ?_
        | exact x_le)
    all_goals first | rfl | (exfalso; omega)
def cz (x y : Cookie) : Int := orI (cmpI y.path.length x.path.length) (cmpI x.created y.created) (cmpI x.no y.no)
def ckLt (x y : Cookie) : Bool := decide (cz x y < 0)
set_option maxRecDepth 100000 in
set_option maxHeartbeats 4000000 in
theorem cmp_v {x y : Cookie} : ACalls Try.prog 30 [x.v, y.v] (.int .i64 (cz x y)) := by
  have c1 := compare_v (a := y.path.length) (b := x.path.length)
  have c2 := compare_v (a := x.created) (b := y.created)
  have c3 := compare_v (a := x.no) (b := y.no)
  have c4 := or_v (a := cmpI y.path.length x.path.length) (b := cmpI x.created y.created) (c := cmpI x.no y.no)
  refine fun2 tb_ok Try.func30 rfl Try.ntmps30 Try.results30 rfl fun N => ?_
  repeat' (first
      | with_reducible first | refine awp_seq ?_ | refine awp_region ?_ | refine awp_draw mixed ?_ | refine then_n ?_ | refine awp_skip ?_ | refine awp_block ?_ | refine awp_exit ?_ | refine awp_ret ?_ | refine awp_label ?_ | refine then_exit ?_ | refine then_ret ?_ | refine blk_n ?_ | refine blk_ret ?_ | refine blk_exit ?_ | refine blk_other rfl ?_ | refine then_k ?_
      | refine awp_true rfl ?_
      | refine awp_false rfl ?_
      | refine awp_split rfl (fun hb => ?_) (fun hb => ?_)
      | (refine isR ?_; first | refine x_far [] tb_ok rfl ?_ | refine r_nil ?_ | refine r_nild (by kernel_rfl) ?_ | refine x_call (c1 _) ?_ | refine x_call (c1) ?_ | refine x_call (c2 _) ?_ | refine x_call (c2) ?_ | refine x_call (c3 _) ?_ | refine x_call (c3) ?_ | refine x_call (c4 _) ?_ | refine x_call (c4) ?_ | refine x_bs tb_ok ?_ | refine x_lenF tb_ok ?_ | refine x_lenO tb_ok ?_ | refine x_lenN tb_ok ?_ | refine x_lenS ?_)
      | refine x_ret ?_
      | refine x_nor ?_
      | exact x_le)
  rfl
abbrev CK : Nat := 34
abbrev rowC (L : List Cookie) : Blk := .els CK 13 (L.map Cookie.v)
abbrev fnC : V := .fn (.func 30) [] []
set_option maxRecDepth 100000 in
set_option maxHeartbeats 4000000 in
theorem swR_v {L : List Cookie} {a b n len : Nat} (hl : L.length = len) (hL : len ≤ 140737488355328) (h1 : a + n ≤ len) (h2 : b + n ≤ len) : MCalls Try.prog 72 [.own 0 0 len, .int .i64 (a : Int), .int .i64 (b : Int), .int .i64 (n : Int), fnC] [rowC L] (.tup []) [some (rowC (swR n a b L))] := by
  refine mfun tb_ok Try.func72 rfl Try.ntmps72 Try.results72 rfl rfl rfl rfl fun N pl => ?_
  repeat' (first
      | with_reducible first | refine awp_seq ?_ | refine awp_region ?_ | refine awp_draw mixed ?_ | refine then_n ?_ | refine awp_skip ?_ | refine awp_block ?_ | refine awp_exit ?_ | refine awp_ret ?_ | refine awp_label ?_ | refine then_exit ?_ | refine then_ret ?_ | refine blk_n ?_ | refine blk_ret ?_ | refine blk_exit ?_ | refine blk_other rfl ?_ | refine then_k ?_
      | refine awp_true rfl ?_
      | refine awp_false rfl ?_
      | refine awp_split rfl (fun hb => ?_) (fun hb => ?_)
      | (refine isR ?_; first | refine x_far [] tb_ok rfl ?_ | refine r_nil ?_ | refine r_nild (by kernel_rfl) ?_ | refine x_addE ?_ | refine x_add ?_ | refine x_cat ?_ | refine x_lssT ?_ | refine x_lssF ?_ | refine x_lss (fun hc => ?_) (fun hc => ?_) | refine x_iaF tb_ok ?_ | refine x_iaO tb_ok ?_ | refine x_iaA tb_ok ?_ | refine x_iaAF tb_ok ?_)
      | refine x_ret ?_
      | refine x_nor ?_
      | exact x_le)
  refine awp_while (α := Nat × List Cookie) (fun x => ⟨[(0, .own 0 0 len), (1, .int .i64 (a : Int)), (2, .int .i64 (b : Int)), (3, .int .i64 (n : Int)), (10, .int .i64 (x.1 : Int))], [(0, some (rowC x.2))], 1, 38⟩) (fun x => x.1 ≤ n ∧ x.2.length = len ∧ swR (n - x.1) (a + x.1) (b + x.1) x.2 = swR n a b L) (fun x => n - x.1) (0, L) (by exact x_le) ⟨Nat.zero_le _, hl, rfl⟩ ?_
  rintro ⟨i, M⟩ ⟨h3, h4, h5⟩
  dsimp only at h3 h4 h5 ⊢
  by_cases hi : i < n
  · have e1 : M[a + i]? = some M[a + i] := List.getElem?_eq_getElem (by omega)
    have e2 : M[b + i]? = some M[b + i] := List.getElem?_eq_getElem (by omega)
    have hsw : swapF M (a + i) (b + i) = (M.set (a + i) M[b + i]).set (b + i) M[a + i] := by unfold swapF; rw [e1, e2]
    generalize M[a + i] = x at *
    generalize M[b + i] = y at *
    have e3 : (M.set (a + i) y)[b + i]? = some ((M.set (a + i) y)[b + i]'(by simp; omega)) := List.getElem?_eq_getElem _
    generalize (M.set (a + i) y)[b + i]'(by simp; omega) = z at e3
    repeat' (first
        | with_reducible first | refine awp_seq ?_ | refine awp_region ?_ | refine awp_draw mixed ?_ | refine then_n ?_ | refine awp_skip ?_ | refine awp_block ?_ | refine awp_exit ?_ | refine awp_ret ?_ | refine awp_label ?_ | refine then_exit ?_ | refine then_ret ?_ | refine blk_n ?_ | refine blk_ret ?_ | refine blk_exit ?_ | refine blk_other rfl ?_ | refine then_k ?_
        | refine awp_true rfl ?_
        | refine awp_false rfl ?_
        | refine awp_split rfl (fun hb => ?_) (fun hb => ?_)
        | (refine isR ?_; first | refine x_far [] tb_ok rfl ?_ | refine r_nil ?_ | refine r_nild (by kernel_rfl) ?_ | refine x_ldI Cookie.v (b + i) tb_ok ?_ | refine x_ldI Cookie.v (a + i) tb_ok ?_ | refine x_stI Cookie.v (a1 := y) (a + i) tb_ok ?_ | refine x_stI Cookie.v (a1 := x) (b + i) tb_ok ?_ | refine x_addE ?_ | refine x_add ?_ | refine x_cat ?_ | refine x_lssT ?_ | refine x_lssF ?_ | refine x_lss (fun hc => ?_) (fun hc => ?_) | refine x_iaF tb_ok ?_ | refine x_iaO tb_ok ?_ | refine x_iaA tb_ok ?_ | refine x_iaAF tb_ok ?_)
        | refine x_ret ?_
        | refine x_nor ?_
        | exact x_le)
    refine ⟨(i + 1, (M.set (a + i) y).set (b + i) x), ⟨by show i + 1 ≤ n; omega, by simp [h4], ?_⟩, by show n - (i + 1) < n - i; omega, ?_⟩
    · show swR (n - (i + 1)) (a + (i + 1)) (b + (i + 1)) _ = _
      rw [← h5, ← hsw, show n - i = (n - (i + 1)) + 1 by omega, swR]
      rfl
    · exact (by exact x_le)
  · obtain rfl : i = n := by omega
    rw [Nat.sub_self, swR] at h5
    rw [← h5]
    repeat' (first
        | with_reducible first | refine awp_seq ?_ | refine awp_region ?_ | refine awp_draw mixed ?_ | refine then_n ?_ | refine awp_skip ?_ | refine awp_block ?_ | refine awp_exit ?_ | refine awp_ret ?_ | refine awp_label ?_ | refine then_exit ?_ | refine then_ret ?_ | refine blk_n ?_ | refine blk_ret ?_ | refine blk_exit ?_ | refine blk_other rfl ?_ | refine then_k ?_
        | refine awp_true rfl ?_
        | refine awp_false rfl ?_
        | refine awp_split rfl (fun hb => ?_) (fun hb => ?_)
        | (refine isR ?_; first | refine x_far [] tb_ok rfl ?_ | refine r_nil ?_ | refine r_nild (by kernel_rfl) ?_ | refine x_addE ?_ | refine x_add ?_ | refine x_cat ?_ | refine x_lssT ?_ | refine x_lssF ?_ | refine x_lss (fun hc => ?_) (fun hc => ?_) | refine x_iaF tb_ok ?_ | refine x_iaO tb_ok ?_ | refine x_iaA tb_ok ?_ | refine x_iaAF tb_ok ?_)
        | refine x_mret [0] ?_ ?_
        | refine x_mnor [0] ?_ ?_
        | refine x_ret ?_
        | refine x_nor ?_
        | exact x_le)
    · rfl
    · exact .on (.same (nl_map fun _ => rfl)) .nil
set_option maxRecDepth 100000 in
set_option maxHeartbeats 4000000 in
theorem rot_v {L : List Cookie} {a m b len : Nat} (hl : L.length = len) (hL : len ≤ 140737488355328) (h1 : a < m) (h2 : m < b) (h3 : b ≤ len) : MCalls Try.prog 70 [.own 0 0 len, .int .i64 (a : Int), .int .i64 (m : Int), .int .i64 (b : Int), fnC] [rowC L] (.tup []) [some (rowC (rotF (b - a) L m (m - a) (b - m)))] := by
  refine mfun tb_ok Try.func70 rfl Try.ntmps70 Try.results70 rfl rfl rfl rfl fun N pl => ?_
  repeat' (first
      | with_reducible first | refine awp_seq ?_ | refine awp_region ?_ | refine awp_draw mixed ?_ | refine then_n ?_ | refine awp_skip ?_ | refine awp_block ?_ | refine awp_exit ?_ | refine awp_ret ?_ | refine awp_label ?_ | refine then_exit ?_ | refine then_ret ?_ | refine blk_n ?_ | refine blk_ret ?_ | refine blk_exit ?_ | refine blk_other rfl ?_ | refine then_k ?_
      | refine awp_true rfl ?_
      | refine awp_false rfl ?_
      | refine awp_split rfl (fun hb => ?_) (fun hb => ?_)
      | (refine isR ?_; first | refine x_far [] tb_ok rfl ?_ | refine r_nil ?_ | refine r_nild (by kernel_rfl) ?_ | refine x_addE ?_ | refine x_add ?_ | refine x_subE ?_ | refine x_sub ?_ | refine x_cat ?_ | refine x_gtrT ?_ | refine x_gtrF ?_ | refine x_gtr (fun hc => ?_) (fun hc => ?_) | refine x_neqT ?_ | refine x_neqF ?_ | refine x_neq (fun hc => ?_) (fun hc => ?_) | refine x_neqB ?_ | refine x_neqST ?_ | refine x_neqSF ?_ | refine x_neqS (fun hc => ?_) (fun hc => ?_) | refine x_neqI ?_ | refine x_neqN ?_ | refine x_neqA tb_ok ?_ | refine x_neqAS tb_ok (fun hc => ?_) (fun hc => ?_))
      | refine x_ret ?_
      | refine x_nor ?_
      | exact x_le)
  refine awp_while (α := (Nat × Nat) × List Cookie) (fun x => ⟨[(0, .own 0 0 len), (2, .int .i64 (m : Int)), (4, fnC), (10, .int .i64 (x.1.1 : Int)), (11, .int .i64 (x.1.2 : Int))], [(0, some (rowC x.2))], 1, 58⟩) (fun x => 0 < x.1.1 ∧ 0 < x.1.2 ∧ x.1.1 ≤ m ∧ m + x.1.2 ≤ len ∧ x.2.length = len ∧ ∃ f, x.1.1 + x.1.2 ≤ f ∧ rotF f x.2 m x.1.1 x.1.2 = rotF (b - a) L m (m - a) (b - m)) (fun x => x.1.1 + x.1.2) ((m - a, b - m), L) ?h0 ⟨by dsimp only; omega, by dsimp only; omega, by dsimp only; omega, by dsimp only; omega, hl, b - a, by dsimp only; omega, rfl⟩ ?_
  case h0 =>
    have e1 : ((m - a : Nat) : Int) = (m : Int) - (a : Int) := by omega
    have e2 : ((b - m : Nat) : Int) = (b : Int) - (m : Int) := by omega
    dsimp only
    rw [e1, e2]
    exact (by exact x_le)
  rintro ⟨⟨i, j⟩, M⟩ ⟨g1, g2, g3, g4, g5, f, g6, g7⟩
  dsimp only at g1 g2 g3 g4 g5 g6 g7 ⊢
  obtain ⟨f, rfl⟩ : ∃ q, f = q + 1 := ⟨f - 1, by omega⟩
  have e0 : ((m - i : Nat) : Int) = (m : Int) - (i : Int) := by omega
  by_cases hij : i = j
  · subst hij
    rw [rotF, if_pos rfl] at g7
    have c1 := swR_v (L := M) (a := m - i) (b := m) (n := i) g5 hL (by omega) (by omega)
    rw [g7, e0] at c1
    repeat' (first
        | with_reducible first | refine awp_seq ?_ | refine awp_region ?_ | refine awp_draw mixed ?_ | refine then_n ?_ | refine awp_skip ?_ | refine awp_block ?_ | refine awp_exit ?_ | refine awp_ret ?_ | refine awp_label ?_ | refine then_exit ?_ | refine then_ret ?_ | refine blk_n ?_ | refine blk_ret ?_ | refine blk_exit ?_ | refine blk_other rfl ?_ | refine then_k ?_
        | refine awp_true rfl ?_
        | refine awp_false rfl ?_
        | refine awp_split rfl (fun hb => ?_) (fun hb => ?_)
        | (refine isR ?_; first | refine x_far [] tb_ok rfl ?_ | refine r_nil ?_ | refine r_nild (by kernel_rfl) ?_ | refine x_m [0] [] (c1 _) ?_ | refine x_m0 [0] [] (c1 _) ?_ | refine x_m [0] [] (c1) ?_ | refine x_m0 [0] [] (c1) ?_ | refine x_addE ?_ | refine x_add ?_ | refine x_subE ?_ | refine x_sub ?_ | refine x_cat ?_ | refine x_gtrT ?_ | refine x_gtrF ?_ | refine x_gtr (fun hc => ?_) (fun hc => ?_) | refine x_neqT ?_ | refine x_neqF ?_ | refine x_neq (fun hc => ?_) (fun hc => ?_) | refine x_neqB ?_ | refine x_neqST ?_ | refine x_neqSF ?_ | refine x_neqS (fun hc => ?_) (fun hc => ?_) | refine x_neqI ?_ | refine x_neqN ?_ | refine x_neqA tb_ok ?_ | refine x_neqAS tb_ok (fun hc => ?_) (fun hc => ?_))
        | refine x_mret [0] ?_ ?_
        | refine x_mnor [0] ?_ ?_
        | refine x_ret ?_
        | refine x_nor ?_
        | exact x_le)
    · rfl
    · exact .on (.same (nl_map fun _ => rfl)) .nil
  · rw [rotF, if_neg hij] at g7
    by_cases h : j < i
    · rw [if_pos h] at g7
      have c1 := swR_v (L := M) (a := m - i) (b := m) (n := j) g5 hL (by omega) (by omega)
      rw [e0] at c1
      have e1 : ((i - j : Nat) : Int) = (i : Int) - (j : Int) := by omega
      repeat' (first
          | with_reducible first | refine awp_seq ?_ | refine awp_region ?_ | refine awp_draw mixed ?_ | refine then_n ?_ | refine awp_skip ?_ | refine awp_block ?_ | refine awp_exit ?_ | refine awp_ret ?_ | refine awp_label ?_ | refine then_exit ?_ | refine then_ret ?_ | refine blk_n ?_ | refine blk_ret ?_ | refine blk_exit ?_ | refine blk_other rfl ?_ | refine then_k ?_
          | refine awp_true rfl ?_
          | refine awp_false rfl ?_
          | refine awp_split rfl (fun hb => ?_) (fun hb => ?_)
          | (refine isR ?_; first | refine x_far [] tb_ok rfl ?_ | refine r_nil ?_ | refine r_nild (by kernel_rfl) ?_ | refine x_m [0] [] (c1 _) ?_ | refine x_m0 [0] [] (c1 _) ?_ | refine x_m [0] [] (c1) ?_ | refine x_m0 [0] [] (c1) ?_ | refine x_addE ?_ | refine x_add ?_ | refine x_subE ?_ | refine x_sub ?_ | refine x_cat ?_ | refine x_gtrT ?_ | refine x_gtrF ?_ | refine x_gtr (fun hc => ?_) (fun hc => ?_) | refine x_neqT ?_ | refine x_neqF ?_ | refine x_neq (fun hc => ?_) (fun hc => ?_) | refine x_neqB ?_ | refine x_neqST ?_ | refine x_neqSF ?_ | refine x_neqS (fun hc => ?_) (fun hc => ?_) | refine x_neqI ?_ | refine x_neqN ?_ | refine x_neqA tb_ok ?_ | refine x_neqAS tb_ok (fun hc => ?_) (fun hc => ?_))
          | refine x_ret ?_
          | refine x_nor ?_
          | exact x_le)
      refine ⟨((i - j, j), swR j (m - i) m M), ⟨by dsimp only; omega, g2, by dsimp only; omega, g4, by rw [← g5]; exact swR_len _ _ _ _, f, by dsimp only; omega, g7⟩, by dsimp only; omega, ?_⟩
      dsimp only
      rw [e1]
      exact (by exact x_le)
    · rw [if_neg h] at g7
      have c1 := swR_v (L := M) (a := m - i) (b := m + j - i) (n := i) g5 hL (by omega) (by omega)
      have e2 : ((m + j - i : Nat) : Int) = (m : Int) + (j : Int) - (i : Int) := by omega
      rw [e0, e2] at c1
      have e1 : ((j - i : Nat) : Int) = (j : Int) - (i : Int) := by omega
      repeat' (first
          | with_reducible first | refine awp_seq ?_ | refine awp_region ?_ | refine awp_draw mixed ?_ | refine then_n ?_ | refine awp_skip ?_ | refine awp_block ?_ | refine awp_exit ?_ | refine awp_ret ?_ | refine awp_label ?_ | refine then_exit ?_ | refine then_ret ?_ | refine blk_n ?_ | refine blk_ret ?_ | refine blk_exit ?_ | refine blk_other rfl ?_ | refine then_k ?_
          | refine awp_true rfl ?_
          | refine awp_false rfl ?_
          | refine awp_split rfl (fun hb => ?_) (fun hb => ?_)
          | (refine isR ?_; first | refine x_far [] tb_ok rfl ?_ | refine r_nil ?_ | refine r_nild (by kernel_rfl) ?_ | refine x_m [0] [] (c1 _) ?_ | refine x_m0 [0] [] (c1 _) ?_ | refine x_m [0] [] (c1) ?_ | refine x_m0 [0] [] (c1) ?_ | refine x_addE ?_ | refine x_add ?_ | refine x_subE ?_ | refine x_sub ?_ | refine x_cat ?_ | refine x_gtrT ?_ | refine x_gtrF ?_ | refine x_gtr (fun hc => ?_) (fun hc => ?_) | refine x_neqT ?_ | refine x_neqF ?_ | refine x_neq (fun hc => ?_) (fun hc => ?_) | refine x_neqB ?_ | refine x_neqST ?_ | refine x_neqSF ?_ | refine x_neqS (fun hc => ?_) (fun hc => ?_) | refine x_neqI ?_ | refine x_neqN ?_ | refine x_neqA tb_ok ?_ | refine x_neqAS tb_ok (fun hc => ?_) (fun hc => ?_))
          | refine x_ret ?_
          | refine x_nor ?_
          | exact x_le)
      refine ⟨((i, j - i), swR i (m - i) (m + j - i) M), ⟨g1, by dsimp only; omega, g3, by dsimp only; omega, by rw [← g5]; exact swR_len _ _ _ _, f, by dsimp only; omega, g7⟩, by dsimp only; omega, ?_⟩
      dsimp only
      rw [e1]
      exact (by exact x_le)
end Go.Proofs.Ytclekbkpcigkcaa.SortW
