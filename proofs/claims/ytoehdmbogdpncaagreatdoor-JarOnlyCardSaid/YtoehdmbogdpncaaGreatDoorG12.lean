/- Texts of the proof, joined: SortW, JarO, JarD, JarR, JarE. -/
import Derived.Test.YtoehdmbogdpncaaGreatDoorG11
import Derived.Test.YtoehdmbogdpncaaGreatDoorG9
import Derived.Test.YtoehdmbogdpncaaGreatDoorG6
import Derived.Test.YtoehdmbogdpncaaGreatDoorG10
import Derived.Test.YtoehdmbogdpncaaGreatDoorG8
section
namespace Go.Proofs.YtoehdmbogdpncaaGreatDoor.Abs
open Go.RowKit Mem Facts
section
variable {P : Program} {N : Env} {l r : List Oper} {o : Oper} {tm : List (Nat × V)} {st : List (Nat × Option Blk)} {nx nt : Nat} {tr : List Tr} {K : S → List Tr → Prop} {d : Nat} {t t' : TypeId} {x y : Operand} {a n : Int} {kd ky : IntKind}
theorem law_shr1 (ho : o.op = .binOp .shr t x y t') (h : a.fdiv 2 = n) (hn : InR kd n) : OpLaw P N o ⟨[(x, .int kd a), (y, .int ky 1)], []⟩ (.int kd n) [] [] :=
  law_pure fun s M A φ ac w hh hr => by
    refine ⟨.int kd n, ?_, .fz (.int hn)⟩
    subst h
    have e : min (1 : Int).toNat kd.bits = 1 := by cases kd <;> rfl
    unfold execOp
    have e2 : (eqGuard .shr t x y (.int kd a) (.int ky 1)).run P w = .ok () w := rfl
    have e3 : (binOp .shr t (.int kd a) (.int ky 1)).run P w = .ok (.int kd (a.fdiv 2)) w := by
      unfold binOp
      simp only [Op.shift]
      rw [e]
      rfl
    simp only [ho, hr.int hh.a, hr.int hh.b, Sem.run_bind, e2, e3, Result.andThen_ok, Sem.run_pure]
theorem x_shr1 (k : ARun P N l K r ⟨(d, .int kd n) :: tm, st, nx, nt⟩ (tr ++ [trOf l o ⟨[(x, .int kd a), (y, .int ky 1)], []⟩ []])) (ho : o.op = .binOp .shr t x y t' := by rfl) (hx : S.ev ⟨tm, st, nx, nt⟩ x = some (.int kd a) := by rfl) (hy : S.ev ⟨tm, st, nx, nt⟩ y = some (.int ky 1) := by rfl) (hg : guardV l o ⟨tm, st, nx, nt⟩ = some true := by rfl) (hd : o.dst = some d := by rfl) (hlt : Nat.blt d nt = true := by rfl) (h : a.fdiv 2 = n := by assumption) (hn : InR kd n := by assumption) : ARun P N l K (o :: r) ⟨tm, st, nx, nt⟩ tr := r_val hg hd hlt (law_shr1 ho h hn) (hT hx (hT hy h0)) k
end
end Go.Proofs.YtoehdmbogdpncaaGreatDoor.Abs
namespace Go.Proofs.YtoehdmbogdpncaaGreatDoor.SortW
open Go.RowKit Mem Abs SortP

def cmpI (a b : Int) : Int := if a < b then -1 else if b < a then 1 else 0
set_option maxRecDepth 100000 in
set_option maxHeartbeats 4000000 in
theorem isNaN_v {a : Int} : ACalls Tryz.prog 72 [.int .i64 a] (.bool false) := by
  refine fun1 tb_ok Tryz.func72 rfl Tryz.ntmps72 Tryz.results72 rfl fun N => ?_
  repeat' (first
      | with_reducible first | refine awp_seq ?_ | refine awp_region ?_ | refine awp_draw mixed ?_ | refine then_n ?_ | refine awp_skip ?_ | refine awp_block ?_ | refine awp_exit ?_ | refine awp_ret ?_ | refine awp_label ?_ | refine then_exit ?_ | refine then_ret ?_ | refine blk_n ?_ | refine blk_ret ?_ | refine blk_exit ?_ | refine blk_other rfl ?_ | refine then_k ?_
      | refine awp_true rfl ?_
      | refine awp_false rfl ?_
      | refine awp_split rfl (fun hb => ?_) (fun hb => ?_)
      | (refine isR ?_; first | refine x_far [] tb_ok rfl ?_ | refine r_nil ?_ | refine r_nild (by kernel_rfl) ?_ | refine x_neqT ?_ | refine x_neqF ?_ | refine x_neq (fun hc => ?_) (fun hc => ?_) | refine x_neqB ?_ | refine x_neqST ?_ | refine x_neqSF ?_ | refine x_neqS (fun hc => ?_) (fun hc => ?_) | refine x_neqI ?_ | refine x_neqN ?_ | refine x_neqA tb_ok ?_ | refine x_neqAS tb_ok (fun hc => ?_) (fun hc => ?_))
      | refine x_ret ?_
      | refine x_nor ?_
      | exact x_le)
  rfl
set_option maxRecDepth 100000 in
set_option maxHeartbeats 4000000 in
theorem compare_v {a b : Int} : ACalls Tryz.prog 55 [.int .i64 a, .int .i64 b] (.int .i64 (cmpI a b)) := by
  have c1 := isNaN_v (a := a)
  have c2 := isNaN_v (a := b)
  unfold cmpI
  by_cases h1 : a < b
  · rw [if_pos h1]
    refine fun2 tb_ok Tryz.func55 rfl Tryz.ntmps55 Tryz.results55 rfl fun N => ?_
    repeat' (first
        | with_reducible first | refine awp_seq ?_ | refine awp_region ?_ | refine awp_draw mixed ?_ | refine then_n ?_ | refine awp_skip ?_ | refine awp_block ?_ | refine awp_exit ?_ | refine awp_ret ?_ | refine awp_label ?_ | refine then_exit ?_ | refine then_ret ?_ | refine blk_n ?_ | refine blk_ret ?_ | refine blk_exit ?_ | refine blk_other rfl ?_ | refine then_k ?_
        | refine awp_true rfl ?_
        | refine awp_false rfl ?_
        | refine awp_split rfl (fun hb => ?_) (fun hb => ?_)
        | (refine isR ?_; first | refine x_far [] tb_ok rfl ?_ | refine r_nil ?_ | refine r_nild (by kernel_rfl) ?_ | refine x_call (c1 _) ?_ | refine x_call (c1) ?_ | refine x_call (c2 _) ?_ | refine x_call (c2) ?_ | refine x_lssT ?_ | refine x_lssF ?_ | refine x_lss (fun hc => ?_) (fun hc => ?_) | refine x_gtrT ?_ | refine x_gtrF ?_ | refine x_gtr (fun hc => ?_) (fun hc => ?_))
        | refine x_ret ?_
        | refine x_nor ?_
        | exact x_le)
    rfl
  · rw [if_neg h1]
    by_cases h2 : b < a
    · rw [if_pos h2]
      refine fun2 tb_ok Tryz.func55 rfl Tryz.ntmps55 Tryz.results55 rfl fun N => ?_
      repeat' (first
          | with_reducible first | refine awp_seq ?_ | refine awp_region ?_ | refine awp_draw mixed ?_ | refine then_n ?_ | refine awp_skip ?_ | refine awp_block ?_ | refine awp_exit ?_ | refine awp_ret ?_ | refine awp_label ?_ | refine then_exit ?_ | refine then_ret ?_ | refine blk_n ?_ | refine blk_ret ?_ | refine blk_exit ?_ | refine blk_other rfl ?_ | refine then_k ?_
          | refine awp_true rfl ?_
          | refine awp_false rfl ?_
          | refine awp_split rfl (fun hb => ?_) (fun hb => ?_)
          | (refine isR ?_; first | refine x_far [] tb_ok rfl ?_ | refine r_nil ?_ | refine r_nild (by kernel_rfl) ?_ | refine x_call (c1 _) ?_ | refine x_call (c1) ?_ | refine x_call (c2 _) ?_ | refine x_call (c2) ?_ | refine x_lssT ?_ | refine x_lssF ?_ | refine x_lss (fun hc => ?_) (fun hc => ?_) | refine x_gtrT ?_ | refine x_gtrF ?_ | refine x_gtr (fun hc => ?_) (fun hc => ?_))
          | refine x_ret ?_
          | refine x_nor ?_
          | exact x_le)
      rfl
    · rw [if_neg h2]
      refine fun2 tb_ok Tryz.func55 rfl Tryz.ntmps55 Tryz.results55 rfl fun N => ?_
      repeat' (first
          | with_reducible first | refine awp_seq ?_ | refine awp_region ?_ | refine awp_draw mixed ?_ | refine then_n ?_ | refine awp_skip ?_ | refine awp_block ?_ | refine awp_exit ?_ | refine awp_ret ?_ | refine awp_label ?_ | refine then_exit ?_ | refine then_ret ?_ | refine blk_n ?_ | refine blk_ret ?_ | refine blk_exit ?_ | refine blk_other rfl ?_ | refine then_k ?_
          | refine awp_true rfl ?_
          | refine awp_false rfl ?_
          | refine awp_split rfl (fun hb => ?_) (fun hb => ?_)
          | (refine isR ?_; first | refine x_far [] tb_ok rfl ?_ | refine r_nil ?_ | refine r_nild (by kernel_rfl) ?_ | refine x_call (c1 _) ?_ | refine x_call (c1) ?_ | refine x_call (c2 _) ?_ | refine x_call (c2) ?_ | refine x_lssT ?_ | refine x_lssF ?_ | refine x_lss (fun hc => ?_) (fun hc => ?_) | refine x_gtrT ?_ | refine x_gtrF ?_ | refine x_gtr (fun hc => ?_) (fun hc => ?_))
          | refine x_ret ?_
          | refine x_nor ?_
          | exact x_le)
      rfl
def orI (a b c : Int) : Int := if a ≠ 0 then a else if b ≠ 0 then b else c
set_option maxRecDepth 100000 in
set_option maxHeartbeats 4000000 in
theorem or_v {a b c : Int} : ACalls Tryz.prog 54 [.fro [.int .i64 a, .int .i64 b, .int .i64 c]] (.int .i64 (orI a b c)) := by
  have hz : [V.int .i64 a, V.int .i64 b, V.int .i64 c].length = 3 := rfl
  unfold orI
  by_cases h1 : a = 0
  · rw [if_neg (by simp [h1])]
    by_cases h2 : b = 0
    · rw [if_neg (by simp [h2])]
      by_cases h3 : c = 0
      · skip
        refine fun1 tb_ok Tryz.func54 rfl Tryz.ntmps54 Tryz.results54 rfl fun N => ?_
        repeat' (first
            | with_reducible refine rounds_on ?_
            | with_reducible refine awp_rounds 4 ?_
            | with_reducible first | refine awp_seq ?_ | refine awp_region ?_ | refine awp_draw mixed ?_ | refine then_n ?_ | refine awp_skip ?_ | refine awp_block ?_ | refine awp_exit ?_ | refine awp_ret ?_ | refine awp_label ?_ | refine then_exit ?_ | refine then_ret ?_ | refine blk_n ?_ | refine blk_ret ?_ | refine blk_exit ?_ | refine blk_other rfl ?_ | refine then_k ?_
            | refine awp_true rfl ?_
            | refine awp_false rfl ?_
            | refine awp_split rfl (fun hb => ?_) (fun hb => ?_)
            | (refine isR ?_; first | refine x_far [] tb_ok rfl ?_ | refine r_nil ?_ | refine r_nild (by kernel_rfl) ?_ | refine x_addE ?_ | refine x_add ?_ | refine x_cat ?_ | refine x_lenF tb_ok ?_ | refine x_lenO tb_ok ?_ | refine x_lenN tb_ok ?_ | refine x_lenS ?_ | refine x_lssT ?_ | refine x_lssF ?_ | refine x_lss (fun hc => ?_) (fun hc => ?_) | refine x_neqT ?_ | refine x_neqF ?_ | refine x_neq (fun hc => ?_) (fun hc => ?_) | refine x_neqB ?_ | refine x_neqST ?_ | refine x_neqSF ?_ | refine x_neqS (fun hc => ?_) (fun hc => ?_) | refine x_neqI ?_ | refine x_neqN ?_ | refine x_iaF tb_ok ?_ | refine x_iaO tb_ok ?_ | refine x_iaA tb_ok ?_ | refine x_iaAF tb_ok ?_ | refine x_neqA tb_ok ?_ | refine x_neqAS tb_ok (fun hc => ?_) (fun hc => ?_))
            | refine x_ret ?_
            | refine x_nor ?_
            | exact x_le)
        all_goals first | (subst h3; rfl) | (exfalso; omega)
      · skip
        refine fun1 tb_ok Tryz.func54 rfl Tryz.ntmps54 Tryz.results54 rfl fun N => ?_
        repeat' (first
            | with_reducible refine rounds_on ?_
            | with_reducible refine awp_rounds 4 ?_
            | with_reducible first | refine awp_seq ?_ | refine awp_region ?_ | refine awp_draw mixed ?_ | refine then_n ?_ | refine awp_skip ?_ | refine awp_block ?_ | refine awp_exit ?_ | refine awp_ret ?_ | refine awp_label ?_ | refine then_exit ?_ | refine then_ret ?_ | refine blk_n ?_ | refine blk_ret ?_ | refine blk_exit ?_ | refine blk_other rfl ?_ | refine then_k ?_
            | refine awp_true rfl ?_
            | refine awp_false rfl ?_
            | refine awp_split rfl (fun hb => ?_) (fun hb => ?_)
            | (refine isR ?_; first | refine x_far [] tb_ok rfl ?_ | refine r_nil ?_ | refine r_nild (by kernel_rfl) ?_ | refine x_addE ?_ | refine x_add ?_ | refine x_cat ?_ | refine x_lenF tb_ok ?_ | refine x_lenO tb_ok ?_ | refine x_lenN tb_ok ?_ | refine x_lenS ?_ | refine x_lssT ?_ | refine x_lssF ?_ | refine x_lss (fun hc => ?_) (fun hc => ?_) | refine x_neqT ?_ | refine x_neqF ?_ | refine x_neq (fun hc => ?_) (fun hc => ?_) | refine x_neqB ?_ | refine x_neqST ?_ | refine x_neqSF ?_ | refine x_neqS (fun hc => ?_) (fun hc => ?_) | refine x_neqI ?_ | refine x_neqN ?_ | refine x_iaF tb_ok ?_ | refine x_iaO tb_ok ?_ | refine x_iaA tb_ok ?_ | refine x_iaAF tb_ok ?_ | refine x_neqA tb_ok ?_ | refine x_neqAS tb_ok (fun hc => ?_) (fun hc => ?_))
            | refine x_ret ?_
            | refine x_nor ?_
            | exact x_le)
        all_goals first | rfl | (exfalso; omega)
    · rw [if_pos h2]
      refine fun1 tb_ok Tryz.func54 rfl Tryz.ntmps54 Tryz.results54 rfl fun N => ?_
      repeat' (first
          | with_reducible refine rounds_on ?_
          | with_reducible refine awp_rounds 4 ?_
          | with_reducible first | refine awp_seq ?_ | refine awp_region ?_ | refine awp_draw mixed ?_ | refine then_n ?_ | refine awp_skip ?_ | refine awp_block ?_ | refine awp_exit ?_ | refine awp_ret ?_ | refine awp_label ?_ | refine then_exit ?_ | refine then_ret ?_ | refine blk_n ?_ | refine blk_ret ?_ | refine blk_exit ?_ | refine blk_other rfl ?_ | refine then_k ?_
          | refine awp_true rfl ?_
          | refine awp_false rfl ?_
          | refine awp_split rfl (fun hb => ?_) (fun hb => ?_)
          | (refine isR ?_; first | refine x_far [] tb_ok rfl ?_ | refine r_nil ?_ | refine r_nild (by kernel_rfl) ?_ | refine x_addE ?_ | refine x_add ?_ | refine x_cat ?_ | refine x_lenF tb_ok ?_ | refine x_lenO tb_ok ?_ | refine x_lenN tb_ok ?_ | refine x_lenS ?_ | refine x_lssT ?_ | refine x_lssF ?_ | refine x_lss (fun hc => ?_) (fun hc => ?_) | refine x_neqT ?_ | refine x_neqF ?_ | refine x_neq (fun hc => ?_) (fun hc => ?_) | refine x_neqB ?_ | refine x_neqST ?_ | refine x_neqSF ?_ | refine x_neqS (fun hc => ?_) (fun hc => ?_) | refine x_neqI ?_ | refine x_neqN ?_ | refine x_iaF tb_ok ?_ | refine x_iaO tb_ok ?_ | refine x_iaA tb_ok ?_ | refine x_iaAF tb_ok ?_ | refine x_neqA tb_ok ?_ | refine x_neqAS tb_ok (fun hc => ?_) (fun hc => ?_))
          | refine x_ret ?_
          | refine x_nor ?_
          | exact x_le)
      all_goals first | rfl | (exfalso; omega)
  · rw [if_pos h1]
    refine fun1 tb_ok Tryz.func54 rfl Tryz.ntmps54 Tryz.results54 rfl fun N => ?_
    repeat' (first
        | with_reducible refine rounds_on ?_
        | with_reducible refine awp_rounds 4 ?_
        | with_reducible first | refine awp_seq ?_ | refine awp_region ?_ | refine awp_draw mixed ?_ | refine then_n ?_ | refine awp_skip ?_ | refine awp_block ?_ | refine awp_exit ?_ | refine awp_ret ?_ | refine awp_label ?_ | refine then_exit ?_ | refine then_ret ?_ | refine blk_n ?_ | refine blk_ret ?_ | refine blk_exit ?_ | refine blk_other rfl ?_ | refine then_k ?_
        | refine awp_true rfl ?_
        | refine awp_false rfl ?_
        | refine awp_split rfl (fun hb => ?_) (fun hb => ?_)
        | (refine isR ?_; first | refine x_far [] tb_ok rfl ?_ | refine r_nil ?_ | refine r_nild (by kernel_rfl) ?_ | refine x_addE ?_ | refine x_add ?_ | refine x_cat ?_ | refine x_lenF tb_ok ?_ | refine x_lenO tb_ok ?_ | refine x_lenN tb_ok ?_ | refine x_lenS ?_ | refine x_lssT ?_ | refine x_lssF ?_ | refine x_lss (fun hc => ?_) (fun hc => ?_) | refine x_neqT ?_ | refine x_neqF ?_ | refine x_neq (fun hc => ?_) (fun hc => ?_) | refine x_neqB ?_ | refine x_neqST ?_ | refine x_neqSF ?_ | refine x_neqS (fun hc => ?_) (fun hc => ?_) | refine x_neqI ?_ | refine x_neqN ?_ | refine x_iaF tb_ok ?_ | refine x_iaO tb_ok ?_ | refine x_iaA tb_ok ?_ | refine x_iaAF tb_ok ?_ | refine x_neqA tb_ok ?_ | refine x_neqAS tb_ok (fun hc => ?_) (fun hc => ?_))
        | refine x_ret ?_
        | refine x_nor ?_
        | exact x_le)
    all_goals first | rfl | (exfalso; omega)
def cz (x y : Cookie) : Int := orI (cmpI y.path.length x.path.length) (cmpI x.created y.created) (cmpI x.no y.no)
def ckLt (x y : Cookie) : Bool := decide (cz x y < 0)
set_option maxRecDepth 100000 in
set_option maxHeartbeats 4000000 in
theorem cmp_v {x y : Cookie} : ACalls Tryz.prog 63 [x.v, y.v] (.int .i64 (cz x y)) := by
  have c1 := compare_v (a := y.path.length) (b := x.path.length)
  have c2 := compare_v (a := x.created) (b := y.created)
  have c3 := compare_v (a := x.no) (b := y.no)
  have c4 := or_v (a := cmpI y.path.length x.path.length) (b := cmpI x.created y.created) (c := cmpI x.no y.no)
  refine fun2 tb_ok Tryz.func63 rfl Tryz.ntmps63 Tryz.results63 rfl fun N => ?_
  repeat' (first
      | with_reducible first | refine awp_seq ?_ | refine awp_region ?_ | refine awp_draw mixed ?_ | refine then_n ?_ | refine awp_skip ?_ | refine awp_block ?_ | refine awp_exit ?_ | refine awp_ret ?_ | refine awp_label ?_ | refine then_exit ?_ | refine then_ret ?_ | refine blk_n ?_ | refine blk_ret ?_ | refine blk_exit ?_ | refine blk_other rfl ?_ | refine then_k ?_
      | refine awp_true rfl ?_
      | refine awp_false rfl ?_
      | refine awp_split rfl (fun hb => ?_) (fun hb => ?_)
      | (refine isR ?_; first | refine x_far [] tb_ok rfl ?_ | refine r_nil ?_ | refine r_nild (by kernel_rfl) ?_ | refine x_call (c1 _) ?_ | refine x_call (c1) ?_ | refine x_call (c2 _) ?_ | refine x_call (c2) ?_ | refine x_call (c3 _) ?_ | refine x_call (c3) ?_ | refine x_call (c4 _) ?_ | refine x_call (c4) ?_ | refine x_bs tb_ok ?_ | refine x_lenF tb_ok ?_ | refine x_lenO tb_ok ?_ | refine x_lenN tb_ok ?_ | refine x_lenS ?_)
      | refine x_ret ?_
      | refine x_nor ?_
      | exact x_le)
  rfl
abbrev CK : Nat := 26
abbrev rowC (L : List Cookie) : Blk := .els CK 13 (L.map Cookie.v)
abbrev fnC : V := .fn (.func 63) [] []
set_option maxRecDepth 100000 in
set_option maxHeartbeats 4000000 in
theorem swR_v {L : List Cookie} {a b n len : Nat} (hl : L.length = len) (hL : len ≤ 140737488355328) (h1 : a + n ≤ len) (h2 : b + n ≤ len) : MCalls Tryz.prog 118 [.own 0 0 len, .int .i64 (a : Int), .int .i64 (b : Int), .int .i64 (n : Int), fnC] [rowC L] (.tup []) [some (rowC (swR n a b L))] := by
  refine mfun tb_ok Tryz.func118 rfl Tryz.ntmps118 Tryz.results118 rfl rfl rfl rfl fun N pl => ?_
  repeat' (first
      | with_reducible first | refine awp_seq ?_ | refine awp_region ?_ | refine awp_draw mixed ?_ | refine then_n ?_ | refine awp_skip ?_ | refine awp_block ?_ | refine awp_exit ?_ | refine awp_ret ?_ | refine awp_label ?_ | refine then_exit ?_ | refine then_ret ?_ | refine blk_n ?_ | refine blk_ret ?_ | refine blk_exit ?_ | refine blk_other rfl ?_ | refine then_k ?_
      | refine awp_true rfl ?_
      | refine awp_false rfl ?_
      | refine awp_split rfl (fun hb => ?_) (fun hb => ?_)
      | (refine isR ?_; first | refine x_far [] tb_ok rfl ?_ | refine r_nil ?_ | refine r_nild (by kernel_rfl) ?_ | refine x_addE ?_ | refine x_add ?_ | refine x_cat ?_ | refine x_lssT ?_ | refine x_lssF ?_ | refine x_lss (fun hc => ?_) (fun hc => ?_) | refine x_iaF tb_ok ?_ | refine x_iaO tb_ok ?_ | refine x_iaA tb_ok ?_ | refine x_iaAF tb_ok ?_)
      | refine x_ret ?_
      | refine x_nor ?_
      | exact x_le)
  refine awp_while (α := Nat × List Cookie) (fun x => ⟨[(0, .own 0 0 len), (1, .int .i64 (a : Int)), (2, .int .i64 (b : Int)), (3, .int .i64 (n : Int)), (10, .int .i64 (x.1 : Int))], [(0, some (rowC x.2))], 1, 38⟩) (fun x => x.1 ≤ n ∧ x.2.length = len ∧ swR (n - x.1) (a + x.1) (b + x.1) x.2 = swR n a b L) (fun x => n - x.1) (0, L) (by exact x_le) ⟨Nat.zero_le _, hl, rfl⟩ ?_
  rintro ⟨i, M⟩ ⟨h3, h4, h5⟩
  dsimp only at h3 h4 h5 ⊢
  by_cases hi : i < n
  · have e1 : M[a + i]? = some M[a + i] := List.getElem?_eq_getElem (by omega)
    have e2 : M[b + i]? = some M[b + i] := List.getElem?_eq_getElem (by omega)
    have hsw : swapF M (a + i) (b + i) = (M.set (a + i) M[b + i]).set (b + i) M[a + i] := by unfold swapF; rw [e1, e2]
    generalize M[a + i] = x at *
    generalize M[b + i] = y at *
    have e3 : (M.set (a + i) y)[b + i]? = some ((M.set (a + i) y)[b + i]'(by simp; omega)) := List.getElem?_eq_getElem _
    generalize (M.set (a + i) y)[b + i]'(by simp; omega) = z at e3
    repeat' (first
        | with_reducible first | refine awp_seq ?_ | refine awp_region ?_ | refine awp_draw mixed ?_ | refine then_n ?_ | refine awp_skip ?_ | refine awp_block ?_ | refine awp_exit ?_ | refine awp_ret ?_ | refine awp_label ?_ | refine then_exit ?_ | refine then_ret ?_ | refine blk_n ?_ | refine blk_ret ?_ | refine blk_exit ?_ | refine blk_other rfl ?_ | refine then_k ?_
        | refine awp_true rfl ?_
        | refine awp_false rfl ?_
        | refine awp_split rfl (fun hb => ?_) (fun hb => ?_)
        | (refine isR ?_; first | refine x_far [] tb_ok rfl ?_ | refine r_nil ?_ | refine r_nild (by kernel_rfl) ?_ | refine x_ldI Cookie.v (b + i) tb_ok ?_ | refine x_ldI Cookie.v (a + i) tb_ok ?_ | refine x_stI Cookie.v (a1 := y) (a + i) tb_ok ?_ | refine x_stI Cookie.v (a1 := x) (b + i) tb_ok ?_ | refine x_addE ?_ | refine x_add ?_ | refine x_cat ?_ | refine x_lssT ?_ | refine x_lssF ?_ | refine x_lss (fun hc => ?_) (fun hc => ?_) | refine x_iaF tb_ok ?_ | refine x_iaO tb_ok ?_ | refine x_iaA tb_ok ?_ | refine x_iaAF tb_ok ?_)
        | refine x_ret ?_
        | refine x_nor ?_
        | exact x_le)
    refine ⟨(i + 1, (M.set (a + i) y).set (b + i) x), ⟨by show i + 1 ≤ n; omega, by simp [h4], ?_⟩, by show n - (i + 1) < n - i; omega, ?_⟩
    · show swR (n - (i + 1)) (a + (i + 1)) (b + (i + 1)) _ = _
      rw [← h5, ← hsw, show n - i = (n - (i + 1)) + 1 by omega, swR]
      rfl
    · exact (by exact x_le)
  · obtain rfl : i = n := by omega
    rw [Nat.sub_self, swR] at h5
    rw [← h5]
    repeat' (first
        | with_reducible first | refine awp_seq ?_ | refine awp_region ?_ | refine awp_draw mixed ?_ | refine then_n ?_ | refine awp_skip ?_ | refine awp_block ?_ | refine awp_exit ?_ | refine awp_ret ?_ | refine awp_label ?_ | refine then_exit ?_ | refine then_ret ?_ | refine blk_n ?_ | refine blk_ret ?_ | refine blk_exit ?_ | refine blk_other rfl ?_ | refine then_k ?_
        | refine awp_true rfl ?_
        | refine awp_false rfl ?_
        | refine awp_split rfl (fun hb => ?_) (fun hb => ?_)
        | (refine isR ?_; first | refine x_far [] tb_ok rfl ?_ | refine r_nil ?_ | refine r_nild (by kernel_rfl) ?_ | refine x_addE ?_ | refine x_add ?_ | refine x_cat ?_ | refine x_lssT ?_ | refine x_lssF ?_ | refine x_lss (fun hc => ?_) (fun hc => ?_) | refine x_iaF tb_ok ?_ | refine x_iaO tb_ok ?_ | refine x_iaA tb_ok ?_ | refine x_iaAF tb_ok ?_)
        | refine x_mret [0] ?_ ?_
        | refine x_mnor [0] ?_ ?_
        | refine x_ret ?_
        | refine x_nor ?_
        | exact x_le)
    · rfl
    · exact .on (.same (nl_map fun _ => rfl)) .nil
set_option maxRecDepth 100000 in
set_option maxHeartbeats 4000000 in
theorem rot_v {L : List Cookie} {a m b len : Nat} (hl : L.length = len) (hL : len ≤ 140737488355328) (h1 : a < m) (h2 : m < b) (h3 : b ≤ len) : MCalls Tryz.prog 107 [.own 0 0 len, .int .i64 (a : Int), .int .i64 (m : Int), .int .i64 (b : Int), fnC] [rowC L] (.tup []) [some (rowC (rotF (b - a) L m (m - a) (b - m)))] := by
  refine mfun tb_ok Tryz.func107 rfl Tryz.ntmps107 Tryz.results107 rfl rfl rfl rfl fun N pl => ?_
  repeat' (first
      | with_reducible first | refine awp_seq ?_ | refine awp_region ?_ | refine awp_draw mixed ?_ | refine then_n ?_ | refine awp_skip ?_ | refine awp_block ?_ | refine awp_exit ?_ | refine awp_ret ?_ | refine awp_label ?_ | refine then_exit ?_ | refine then_ret ?_ | refine blk_n ?_ | refine blk_ret ?_ | refine blk_exit ?_ | refine blk_other rfl ?_ | refine then_k ?_
      | refine awp_true rfl ?_
      | refine awp_false rfl ?_
      | refine awp_split rfl (fun hb => ?_) (fun hb => ?_)
      | (refine isR ?_; first | refine x_far [] tb_ok rfl ?_ | refine r_nil ?_ | refine r_nild (by kernel_rfl) ?_ | refine x_addE ?_ | refine x_add ?_ | refine x_subE ?_ | refine x_sub ?_ | refine x_cat ?_ | refine x_gtrT ?_ | refine x_gtrF ?_ | refine x_gtr (fun hc => ?_) (fun hc => ?_) | refine x_neqT ?_ | refine x_neqF ?_ | refine x_neq (fun hc => ?_) (fun hc => ?_) | refine x_neqB ?_ | refine x_neqST ?_ | refine x_neqSF ?_ | refine x_neqS (fun hc => ?_) (fun hc => ?_) | refine x_neqI ?_ | refine x_neqN ?_ | refine x_neqA tb_ok ?_ | refine x_neqAS tb_ok (fun hc => ?_) (fun hc => ?_))
      | refine x_ret ?_
      | refine x_nor ?_
      | exact x_le)
  refine awp_while (α := (Nat × Nat) × List Cookie) (fun x => ⟨[(0, .own 0 0 len), (2, .int .i64 (m : Int)), (4, fnC), (10, .int .i64 (x.1.1 : Int)), (11, .int .i64 (x.1.2 : Int))], [(0, some (rowC x.2))], 1, 58⟩) (fun x => 0 < x.1.1 ∧ 0 < x.1.2 ∧ x.1.1 ≤ m ∧ m + x.1.2 ≤ len ∧ x.2.length = len ∧ ∃ f, x.1.1 + x.1.2 ≤ f ∧ rotF f x.2 m x.1.1 x.1.2 = rotF (b - a) L m (m - a) (b - m)) (fun x => x.1.1 + x.1.2) ((m - a, b - m), L) ?h0 ⟨by dsimp only; omega, by dsimp only; omega, by dsimp only; omega, by dsimp only; omega, hl, b - a, by dsimp only; omega, rfl⟩ ?_
  case h0 =>
    have e1 : ((m - a : Nat) : Int) = (m : Int) - (a : Int) := by omega
    have e2 : ((b - m : Nat) : Int) = (b : Int) - (m : Int) := by omega
    dsimp only
    rw [e1, e2]
    exact (by exact x_le)
  rintro ⟨⟨i, j⟩, M⟩ ⟨g1, g2, g3, g4, g5, f, g6, g7⟩
  dsimp only at g1 g2 g3 g4 g5 g6 g7 ⊢
  obtain ⟨f, rfl⟩ : ∃ q, f = q + 1 := ⟨f - 1, by omega⟩
  have e0 : ((m - i : Nat) : Int) = (m : Int) - (i : Int) := by omega
  by_cases hij : i = j
  · subst hij
    rw [rotF, if_pos rfl] at g7
    have c1 := swR_v (L := M) (a := m - i) (b := m) (n := i) g5 hL (by omega) (by omega)
    rw [g7, e0] at c1
    repeat' (first
        | with_reducible first | refine awp_seq ?_ | refine awp_region ?_ | refine awp_draw mixed ?_ | refine then_n ?_ | refine awp_skip ?_ | refine awp_block ?_ | refine awp_exit ?_ | refine awp_ret ?_ | refine awp_label ?_ | refine then_exit ?_ | refine then_ret ?_ | refine blk_n ?_ | refine blk_ret ?_ | refine blk_exit ?_ | refine blk_other rfl ?_ | refine then_k ?_
        | refine awp_true rfl ?_
        | refine awp_false rfl ?_
        | refine awp_split rfl (fun hb => ?_) (fun hb => ?_)
        | (refine isR ?_; first | refine x_far [] tb_ok rfl ?_ | refine r_nil ?_ | refine r_nild (by kernel_rfl) ?_ | refine x_m [0] [] (c1 _) ?_ | refine x_m0 [0] [] (c1 _) ?_ | refine x_m [0] [] (c1) ?_ | refine x_m0 [0] [] (c1) ?_ | refine x_addE ?_ | refine x_add ?_ | refine x_subE ?_ | refine x_sub ?_ | refine x_cat ?_ | refine x_gtrT ?_ | refine x_gtrF ?_ | refine x_gtr (fun hc => ?_) (fun hc => ?_) | refine x_neqT ?_ | refine x_neqF ?_ | refine x_neq (fun hc => ?_) (fun hc => ?_) | refine x_neqB ?_ | refine x_neqST ?_ | refine x_neqSF ?_ | refine x_neqS (fun hc => ?_) (fun hc => ?_) | refine x_neqI ?_ | refine x_neqN ?_ | refine x_neqA tb_ok ?_ | refine x_neqAS tb_ok (fun hc => ?_) (fun hc => ?_))
        | refine x_mret [0] ?_ ?_
        | refine x_mnor [0] ?_ ?_
        | refine x_ret ?_
        | refine x_nor ?_
        | exact x_le)
    · rfl
    · exact .on (.same (nl_map fun _ => rfl)) .nil
  · rw [rotF, if_neg hij] at g7
    by_cases h : j < i
    · rw [if_pos h] at g7
      have c1 := swR_v (L := M) (a := m - i) (b := m) (n := j) g5 hL (by omega) (by omega)
      rw [e0] at c1
      have e1 : ((i - j : Nat) : Int) = (i : Int) - (j : Int) := by omega
      repeat' (first
          | with_reducible first | refine awp_seq ?_ | refine awp_region ?_ | refine awp_draw mixed ?_ | refine then_n ?_ | refine awp_skip ?_ | refine awp_block ?_ | refine awp_exit ?_ | refine awp_ret ?_ | refine awp_label ?_ | refine then_exit ?_ | refine then_ret ?_ | refine blk_n ?_ | refine blk_ret ?_ | refine blk_exit ?_ | refine blk_other rfl ?_ | refine then_k ?_
          | refine awp_true rfl ?_
          | refine awp_false rfl ?_
          | refine awp_split rfl (fun hb => ?_) (fun hb => ?_)
          | (refine isR ?_; first | refine x_far [] tb_ok rfl ?_ | refine r_nil ?_ | refine r_nild (by kernel_rfl) ?_ | refine x_m [0] [] (c1 _) ?_ | refine x_m0 [0] [] (c1 _) ?_ | refine x_m [0] [] (c1) ?_ | refine x_m0 [0] [] (c1) ?_ | refine x_addE ?_ | refine x_add ?_ | refine x_subE ?_ | refine x_sub ?_ | refine x_cat ?_ | refine x_gtrT ?_ | refine x_gtrF ?_ | refine x_gtr (fun hc => ?_) (fun hc => ?_) | refine x_neqT ?_ | refine x_neqF ?_ | refine x_neq (fun hc => ?_) (fun hc => ?_) | refine x_neqB ?_ | refine x_neqST ?_ | refine x_neqSF ?_ | refine x_neqS (fun hc => ?_) (fun hc => ?_) | refine x_neqI ?_ | refine x_neqN ?_ | refine x_neqA tb_ok ?_ | refine x_neqAS tb_ok (fun hc => ?_) (fun hc => ?_))
          | refine x_ret ?_
          | refine x_nor ?_
          | exact x_le)
      refine ⟨((i - j, j), swR j (m - i) m M), ⟨by dsimp only; omega, g2, by dsimp only; omega, g4, by rw [← g5]; exact swR_len _ _ _ _, f, by dsimp only; omega, g7⟩, by dsimp only; omega, ?_⟩
      dsimp only
      rw [e1]
      exact (by exact x_le)
    · rw [if_neg h] at g7
      have c1 := swR_v (L := M) (a := m - i) (b := m + j - i) (n := i) g5 hL (by omega) (by omega)
      have e2 : ((m + j - i : Nat) : Int) = (m : Int) + (j : Int) - (i : Int) := by omega
      rw [e0, e2] at c1
      have e1 : ((j - i : Nat) : Int) = (j : Int) - (i : Int) := by omega
      repeat' (first
          | with_reducible first | refine awp_seq ?_ | refine awp_region ?_ | refine awp_draw mixed ?_ | refine then_n ?_ | refine awp_skip ?_ | refine awp_block ?_ | refine awp_exit ?_ | refine awp_ret ?_ | refine awp_label ?_ | refine then_exit ?_ | refine then_ret ?_ | refine blk_n ?_ | refine blk_ret ?_ | refine blk_exit ?_ | refine blk_other rfl ?_ | refine then_k ?_
          | refine awp_true rfl ?_
          | refine awp_false rfl ?_
          | refine awp_split rfl (fun hb => ?_) (fun hb => ?_)
          | (refine isR ?_; first | refine x_far [] tb_ok rfl ?_ | refine r_nil ?_ | refine r_nild (by kernel_rfl) ?_ | refine x_m [0] [] (c1 _) ?_ | refine x_m0 [0] [] (c1 _) ?_ | refine x_m [0] [] (c1) ?_ | refine x_m0 [0] [] (c1) ?_ | refine x_addE ?_ | refine x_add ?_ | refine x_subE ?_ | refine x_sub ?_ | refine x_cat ?_ | refine x_gtrT ?_ | refine x_gtrF ?_ | refine x_gtr (fun hc => ?_) (fun hc => ?_) | refine x_neqT ?_ | refine x_neqF ?_ | refine x_neq (fun hc => ?_) (fun hc => ?_) | refine x_neqB ?_ | refine x_neqST ?_ | refine x_neqSF ?_ | refine x_neqS (fun hc => ?_) (fun hc => ?_) | refine x_neqI ?_ | refine x_neqN ?_ | refine x_neqA tb_ok ?_ | refine x_neqAS tb_ok (fun hc => ?_) (fun hc => ?_))
          | refine x_ret ?_
          | refine x_nor ?_
          | exact x_le)
      refine ⟨((i, j - i), swR i (m - i) (m + j - i) M), ⟨g1, by dsimp only; omega, g3, by dsimp only; omega, by rw [← g5]; exact swR_len _ _ _ _, f, by dsimp only; omega, g7⟩, by dsimp only; omega, ?_⟩
      dsimp only
      rw [e1]
      exact (by exact x_le)
end Go.Proofs.YtoehdmbogdpncaaGreatDoor.SortW
end

section
namespace Go.Proofs.YtoehdmbogdpncaaGreatDoor.JarO
open Go.RowKit Mem Abs Scan JarP JarQ JarA JarB JarC JarL JarM SortW

abbrev rOn (k n : Nat) (nx now : Int) : Blk := .els TO 3 [.agg [.own k 0 n, .int .i64 nx, .int .i64 now]]
abbrev TI : Nat := 3
abbrev rI (l : List Nat) : Blk := .els TI 1 (l.map nV)
def orU (a b : Int) : Int := if a ≠ 0 then a else b
set_option maxRecDepth 100000 in
set_option maxHeartbeats 4000000 in
theorem or2_v {a b : Int} : ACalls Tryz.prog 54 [.fro [.int .i64 a, .int .i64 b]] (.int .i64 (orU a b)) := by
  have hz : [V.int .i64 a, V.int .i64 b].length = 2 := rfl
  unfold orU
  by_cases h : a = 0
  · rw [if_neg (by simp [h])]
    by_cases h2 : b = 0
    · skip
      refine fun1 tb_ok Tryz.func54 rfl Tryz.ntmps54 Tryz.results54 rfl fun N => ?_
      repeat' (first | with_reducible refine rounds_on ?_ | with_reducible refine awp_rounds 3 ?_ | refine zt ?_ | (refine isR ?_; first | refine zo ?_ | refine zA ?_ | refine zL ?_ | refine zc1 ?_ | refine zc6 ?_ | refine zI ?_ | (refine zs1 ?_ ?_ <;> intro hc) | (refine zs6 ?_ ?_ <;> intro hc)) | refine awp_split rfl (fun hb => ?_) (fun hb => ?_) | refine zr ?_ | exact x_le)
      all_goals first | (subst h2; rfl) | (exfalso; omega)
    · skip
      refine fun1 tb_ok Tryz.func54 rfl Tryz.ntmps54 Tryz.results54 rfl fun N => ?_
      repeat' (first | with_reducible refine rounds_on ?_ | with_reducible refine awp_rounds 3 ?_ | refine zt ?_ | (refine isR ?_; first | refine zo ?_ | refine zA ?_ | refine zL ?_ | refine zc1 ?_ | refine zc6 ?_ | refine zI ?_ | (refine zs1 ?_ ?_ <;> intro hc) | (refine zs6 ?_ ?_ <;> intro hc)) | refine awp_split rfl (fun hb => ?_) (fun hb => ?_) | refine zr ?_ | exact x_le)
      all_goals first | rfl | (exfalso; omega)
  · rw [if_pos h]
    refine fun1 tb_ok Tryz.func54 rfl Tryz.ntmps54 Tryz.results54 rfl fun N => ?_
    repeat' (first | with_reducible refine rounds_on ?_ | with_reducible refine awp_rounds 3 ?_ | refine zt ?_ | (refine isR ?_; first | refine zo ?_ | refine zA ?_ | refine zL ?_ | refine zc1 ?_ | refine zc6 ?_ | refine zI ?_ | (refine zs1 ?_ ?_ <;> intro hc) | (refine zs6 ?_ ?_ <;> intro hc)) | refine awp_split rfl (fun hb => ?_) (fun hb => ?_) | refine zr ?_ | exact x_le)
    all_goals first | rfl | (exfalso; omega)
/-- How the program compares two by their use. -/
def cmpU (a b : Cookie) : Int := orU (cmpI a.used b.used) (cmpI a.no b.no)
theorem cmpU_lt (a b : Cookie) : cmpU a b < 0 ↔ lessU a b = true := by
  unfold cmpU orU cmpI lessU
  by_cases h1 : a.used < b.used
  · simp [h1]
  · by_cases h2 : b.used < a.used
    · have : ¬ a.used = b.used := by omega
      simp [h1, h2, this]
    · have : a.used = b.used := by omega
      by_cases h3 : a.no < b.no
      · simp [this, h3]
      · by_cases h4 : b.no < a.no <;> simp [this, h3, h4]
abbrev rBn (k : Nat) : Blk := .els TP 1 [.loc k 0 0]
abbrev fnE (k : Nat) : Abs.V := .fn (.func 53) [] [.loc k 0 0]
set_option maxRecDepth 100000 in
set_option maxHeartbeats 4000000 in
theorem less_m {M : List Cookie} {i k : Nat} {a b : Cookie} {n : Nat} {nx now : Int} (hi : M[i]? = some a) (hk : M[k]? = some b) (hn : n = M.length) : MCalls Tryz.prog 53 [nV i, nV k, .loc 1 0 0] [rC M, rB, rO n nx now] (.int .i64 (cmpU a b)) [some (rC M), some rB, some (rO n nx now)] := by
  have c1 := compare_v (a := a.used) (b := b.used)
  have c2 := compare_v (a := a.no) (b := b.no)
  have c3 := or2_v (a := cmpI a.used b.used) (b := cmpI a.no b.no)
  have hi2 := (List.getElem?_eq_some_iff.1 hi).1
  have hk2 := (List.getElem?_eq_some_iff.1 hk).1
  have hma := at_map (f := Cookie.v) hi
  have hmb := at_map (f := Cookie.v) hk
  unfold cmpU
  refine mfun tb_ok Tryz.func53 rfl Tryz.ntmps53 Tryz.results53 rfl rfl rfl rfl fun N pl => ?_
  repeat' (first | refine zt ?_ | (refine isR ?_; first | refine zo ?_ | refine x_ldI Cookie.v i tb_ok ?_ | refine x_ldI Cookie.v k tb_ok ?_ | refine zk c1 ?_ | refine zk c2 ?_ | refine zk c3 ?_ | refine x_bs tb_ok ?_ | refine zI ?_) | refine awp_split rfl (fun hb => ?_) (fun hb => ?_) | refine x_mret [0, 1, 2] ?_ ?_ | refine x_mnor [0, 1, 2] ?_ ?_ | refine zr ?_ | exact x_le)
  · rfl
  · exact .on (.same (nl_map fun _ => rfl)) (.on (.ren rfl) (.on (.ren rfl) .nil))
/-- The least used among places. -/
def minL (M : List Cookie) (l : List Nat) (m : Nat) : Nat := l.foldl (fun m i => match M[i]?, M[m]? with
  | some a, some b => if lessU a b = true then i else m
  | _, _ => m) m
theorem minL_lt {M : List Cookie} : ∀ {l : List Nat} {m : Nat}, m < M.length → (∀ i ∈ l, i < M.length) → minL M l m < M.length
  | [], _, h, _ => h
  | i :: l, m, h, hl => by
    unfold minL
    rw [List.foldl_cons]
    refine minL_lt (l := l) ?_ fun j hj => hl j (by simp [hj])
    have hi := hl i (by simp)
    split
    · split <;> assumption
    · exact h
theorem minL_snoc {M : List Cookie} {l : List Nat} {m i : Nat} : minL M (l ++ [i]) m = match M[i]?, M[minL M l m]? with
  | some a, some b => if lessU a b = true then i else minL M l m
  | _, _ => minL M l m := by
  unfold minL
  rw [List.foldl_append]
  rfl
set_option maxRecDepth 100000 in
set_option maxHeartbeats 4000000 in
theorem minFunc_m {M : List Cookie} {l : List Nat} {i0 : Nat} {n : Nat} {nx now : Int} (hl : l.length ≤ 1000) (hin : ∀ i ∈ l, i < M.length) (h0 : l[0]? = some i0) (hn : n = M.length) :
    MCalls Tryz.prog 52 [.own 0 0 l.length, fnE 2] [rI l, rC M, rBn 3, rOn 1 n nx now] (nV (minL M (l.drop 1) i0)) [some (rI l), some (rC M), some (rBn 3), some (rOn 1 n nx now)] := by
  have hml : (M.map Cookie.v).length = M.length := List.length_map _
  have hil : (l.map nV).length = l.length := List.length_map _
  have hl0 := (List.getElem?_eq_some_iff.1 h0).1
  have hm0 := at_map (f := nV) h0
  generalize hR : minL M (l.drop 1) i0 = R
  refine mfun tb_ok Tryz.func52 rfl Tryz.ntmps52 Tryz.results52 rfl rfl rfl rfl fun N pl => ?_
  repeat' (first | refine zt ?_ | (refine isR ?_; first | refine zo ?_ | refine x_ldI nV 0 tb_ok ?_ | refine zA ?_ | refine zL ?_ | refine zc1 ?_ | refine zI ?_ | (refine zs1 ?_ ?_ <;> intro hc)) | refine awp_split rfl (fun hb => ?_) (fun hb => ?_) | refine zr ?_ | exact x_le)
  refine awp_forN (fun k => ⟨[(0, .own 0 0 l.length), (1, fnE 2), (5, nV (minL M ((l.take (k + 1)).drop 1) i0)), (6, nV (k + 1))], [(0, some (rI l)), (1, some (rC M)), (2, some (rBn 3)), (3, some (rOn 1 n nx now))], 4, 33⟩) (fun k => k + 1 ≤ l.length) l.length 0 ?_ (by omega) ?_
  · rw [show (l.take (0 + 1)).drop 1 = [] by simp]
    exact (by exact x_le)
  intro k hk
  by_cases hk2 : k + 1 < l.length
  · have hx : l[k + 1]? = some l[k + 1] := by simp [hk2]
    have hi1 := hin l[k + 1] (List.getElem_mem _)
    have hs : (l.take (k + 1 + 1)).drop 1 = (l.take (k + 1)).drop 1 ++ [l[k + 1]] := by
      rw [List.take_add_one, hx, List.drop_append_of_le_length (by rw [List.length_take]; omega)]; rfl
    have hm1 : minL M ((l.take (k + 1)).drop 1) i0 < M.length := minL_lt (hin i0 (List.mem_of_getElem? h0)) fun i hi => hin i (List.mem_of_mem_take (List.mem_of_mem_drop hi))
    have hsn := minL_snoc (M := M) (l := (l.take (k + 1)).drop 1) (m := i0) (i := l[k + 1])
    rw [← hs] at hsn
    generalize l[k + 1] = i at *
    have ha : M[i]? = some M[i] := by simp [hi1]
    generalize minL M ((l.take (k + 1)).drop 1) i0 = m at *
    generalize hm2 : minL M ((l.take (k + 1 + 1)).drop 1) i0 = m2 at *
    have hb : M[m]? = some M[m] := by simp [hm1]
    have c1 := less_m (n := n) (nx := nx) (now := now) ha hb hn
    have hlt := cmpU_lt M[i] M[m]
    rw [ha, hb] at hsn
    dsimp only at hsn
    generalize cmpU M[i] M[m] = q at *
    have hmi := at_map (f := nV) hx
    by_cases g : q < 0
    · rw [if_pos (hlt.1 g)] at hsn
      subst hsn
      repeat' (first | refine zt ?_ | (refine isR ?_; first | refine zo ?_ | refine x_ldI nV (k + 1) tb_ok ?_ | refine x_mv [1,2,3] [] (c1 _) ?_ | refine x_m0v [1,2,3] [] (c1 _) ?_ | refine x_mv [1,2,3] [] (c1) ?_ | refine x_m0v [1,2,3] [] (c1) ?_ | refine zA ?_ | refine zL ?_ | refine zc1 ?_ | refine zI ?_ | (refine zs1 ?_ ?_ <;> intro hc)) | refine awp_split rfl (fun hb => ?_) (fun hb => ?_) | refine zr ?_ | exact x_le)
      refine ⟨by omega, by omega, ?_⟩
      exact (by exact x_len [0, 1, 2, 3])
    · rw [if_neg fun h => g (hlt.2 h)] at hsn
      subst hsn
      repeat' (first | refine zt ?_ | (refine isR ?_; first | refine zo ?_ | refine x_ldI nV (k + 1) tb_ok ?_ | refine x_mv [1,2,3] [] (c1 _) ?_ | refine x_m0v [1,2,3] [] (c1 _) ?_ | refine x_mv [1,2,3] [] (c1) ?_ | refine x_m0v [1,2,3] [] (c1) ?_ | refine zA ?_ | refine zL ?_ | refine zc1 ?_ | refine zI ?_ | (refine zs1 ?_ ?_ <;> intro hc)) | refine awp_split rfl (fun hb => ?_) (fun hb => ?_) | refine zr ?_ | exact x_le)
      refine ⟨by omega, by omega, ?_⟩
      exact (by exact x_len [0, 1, 2, 3])
  · obtain rfl : R = minL M ((l.take (k + 1)).drop 1) i0 := by rw [List.take_of_length_le (by omega), hR]
    generalize minL M ((l.take (k + 1)).drop 1) i0 = m at *
    repeat' (first | refine zt ?_ | (refine isR ?_; first | refine zo ?_ | refine zA ?_ | refine zL ?_ | refine zc1 ?_ | refine zI ?_ | (refine zs1 ?_ ?_ <;> intro hc)) | refine awp_split rfl (fun hb => ?_) (fun hb => ?_) | refine x_mret [0, 1, 2, 3] ?_ ?_ | refine x_mnor [0, 1, 2, 3] ?_ ?_ | refine zr ?_ | exact x_le)
    · rfl
    · exact .on (.same (nl_map fun _ => rfl)) (.on (.same (nl_map fun _ => rfl)) (.on (.ren rfl) (.on (.ren rfl) .nil)))
set_option maxRecDepth 100000 in
set_option maxHeartbeats 4000000 in
theorem delete_m {M : List Cookie} {a : Nat} (hM : M.length ≤ 1000) (ha : a < M.length) : MCalls Tryz.prog 56 [.own 0 0 M.length, nV a, nV (a + 1)] [rC M] (.own 0 0 (M.eraseIdx a).length) [some (rC (M.eraseIdx a))] := by
  have hml : (M.map Cookie.v).length = M.length := List.length_map _
  have he : M.eraseIdx a = M.take a ++ M.drop (a + 1) := List.eraseIdx_eq_take_drop_succ M a
  have hel : (M.eraseIdx a).length = M.length - 1 := List.length_eraseIdx_of_lt ha
  by_cases h : a + 1 < M.length
  · have hq : a + (M.length - (a + 1)) = (M.eraseIdx a).length := by rw [hel]; omega
    have hz : M.take a ++ ((M.drop (0 + (a + 1))).take (M.length - (a + 1)) ++ M.drop (a + (M.length - (a + 1)))) = M.eraseIdx a ++ M.drop (M.length - 1) := by
      have h5 : (M.drop (a + 1)).take (M.length - (a + 1)) = M.drop (a + 1) := List.take_of_length_le (by rw [List.length_drop]; omega)
      rw [he, Nat.zero_add, h5, show a + (M.length - (a + 1)) = M.length - 1 by omega, List.append_assoc]
    have hzl : (M.eraseIdx a ++ M.drop (M.length - 1)).length = M.length := by rw [List.length_append, hel, List.length_drop]; omega
    have hcut : (M.eraseIdx a ++ M.drop (M.length - 1)).take (0 + (a + (M.length - (a + 1)))) = M.eraseIdx a := by rw [Nat.zero_add, hq]; exact List.take_left' rfl
    rw [← hq]
    generalize M.eraseIdx a = E at *
    generalize hZ : E ++ M.drop (M.length - 1) = Z at *
    refine mfun tb_ok Tryz.func56 rfl Tryz.ntmps56 Tryz.results56 rfl rfl rfl rfl fun N pl => ?_
    repeat' (first | refine zt ?_ | (refine isR ?_; first | refine zo ?_ | refine x_sl3 tb_ok ?_ | refine x_slOt tb_ok ?_ | refine x_slOf tb_ok ?_ | refine x_appIn Cookie.v Z tb_ok ?_ | refine x_slOm tb_ok ?_ | refine x_clear Cookie.v E tb_ok ?_ | refine zL ?_ | refine zc5 ?_ | refine zS ?_ | (refine zs5 ?_ ?_ <;> intro hc)) | refine awp_split rfl (fun hb => ?_) (fun hb => ?_) | refine x_mret [0] ?_ ?_ | refine x_mnor [0] ?_ ?_ | refine zr ?_ | exact x_le)
    all_goals first | rfl | exact .on (.same (nl_map fun _ => rfl)) .nil
  · have ha1 : a + 1 = M.length := by omega
    have hcut : M.take (0 + a) = M.eraseIdx a := by rw [he, Nat.zero_add, List.drop_of_length_le (by omega), List.append_nil]
    have hq : a = (M.eraseIdx a).length := by rw [hel]; omega
    rw [← hq]
    generalize M.eraseIdx a = E at *
    refine mfun tb_ok Tryz.func56 rfl Tryz.ntmps56 Tryz.results56 rfl rfl rfl rfl fun N pl => ?_
    repeat' (first | refine zt ?_ | (refine isR ?_; first | refine zo ?_ | refine x_sl3 tb_ok ?_ | refine x_slOt tb_ok ?_ | refine x_slOe tb_ok ?_ | refine x_appNo tb_ok ?_ | refine x_slOm tb_ok ?_ | refine x_clear Cookie.v E tb_ok ?_ | refine zL ?_ | refine zc5 ?_ | refine zS ?_ | (refine zs5 ?_ ?_ <;> intro hc)) | refine awp_split rfl (fun hb => ?_) (fun hb => ?_) | refine x_mret [0] ?_ ?_ | refine x_mnor [0] ?_ ?_ | refine zr ?_ | exact x_le)
    all_goals first | rfl | exact .on (.same (nl_map fun _ => rfl)) .nil
/-- The places of those that p lets, among the first k. -/
def idxs (p : Cookie → Bool) (M : List Cookie) : Nat → List Nat
  | 0 => []
  | k + 1 => match M[k]? with
    | none => idxs p M k
    | some c => if p c = true then idxs p M k ++ [k] else idxs p M k
theorem idxs_len {p : Cookie → Bool} {M : List Cookie} : ∀ {k : Nat}, (idxs p M k).length = (M.take k).countP p
  | 0 => rfl
  | k + 1 => by
    rw [idxs, List.take_add_one]
    cases hc : M[k]? with
    | none => simpa using idxs_len (k := k)
    | some c =>
      dsimp only
      rw [List.countP_append]
      by_cases h : p c = true
      · rw [if_pos h, List.length_append, idxs_len]; simp [h]
      · rw [if_neg h, idxs_len]; simp [h]
theorem idxs_lt {p : Cookie → Bool} {M : List Cookie} : ∀ {k : Nat}, ∀ i ∈ idxs p M k, i < M.length
  | 0, i, h => by simp [idxs] at h
  | k + 1, i, h => by
    rw [idxs] at h
    cases hc : M[k]? with
    | none => rw [hc] at h; exact idxs_lt i h
    | some c =>
      rw [hc] at h
      dsimp only at h
      have hk := (List.getElem?_eq_some_iff.1 hc).1
      split at h
      · rcases List.mem_append.1 h with h | h
        · exact idxs_lt i h
        · rw [List.mem_singleton] at h; omega
      · exact idxs_lt i h
theorem minAt_idxs {p : Cookie → Bool} {M : List Cookie} : ∀ {k : Nat}, minAt p M k = match idxs p M k with
    | [] => none
    | i :: r => some (minL M r i)
  | 0 => rfl
  | k + 1 => by
    rw [minAt, idxs]
    cases hc : M[k]? with
    | none => exact minAt_idxs
    | some c =>
      dsimp only
      by_cases h : p c = true
      · rw [if_pos h, if_pos h, minAt_idxs (k := k)]
        have hlt := idxs_lt (p := p) (M := M) (k := k)
        generalize idxs p M k = l at *
        cases l with
        | nil => rfl
        | cons i r =>
          show _ = some (minL M (r ++ [k]) i)
          have hm : minL M r i < M.length := minL_lt (hlt i (by simp)) fun j hj => hlt j (by simp [hj])
          have hg : M[minL M r i]? = some M[minL M r i] := by simp [hm]
          rw [minL_snoc, hc, hg]
          dsimp only
          rw [List.getD_eq_getElem?_getD, hg, Option.getD_some]
          split <;> rfl
      · rw [if_neg h, if_neg h]
        exact minAt_idxs
abbrev fnP (c : Cookie) : Abs.V := .fn (.func 28) [] [.fp c.v.cells 0]
abbrev fnA : Abs.V := .fn (.func 29) [] []
set_option maxRecDepth 100000 in
set_option maxHeartbeats 4000000 in
theorem put1_v {c x : Cookie} : ACalls Tryz.prog 28 [x.v, .fp c.v.cells 0] (.bool (ofP c.domain false x)) := by
  unfold ofP
  by_cases h : x.domain = c.domain
  · rw [decide_eq_true h]
    refine fun2 tb_ok Tryz.func28 rfl Tryz.ntmps28 Tryz.results28 rfl fun N => ?_
    repeat' (first | refine zt ?_ | (refine isR ?_; first | refine zo ?_ | refine zc5 ?_ | (refine zs5 ?_ ?_ <;> intro hc)) | refine awp_split rfl (fun hb => ?_) (fun hb => ?_) | refine zr ?_ | exact x_le)
    all_goals rfl
  · rw [decide_eq_false h]
    refine fun2 tb_ok Tryz.func28 rfl Tryz.ntmps28 Tryz.results28 rfl fun N => ?_
    repeat' (first | refine zt ?_ | (refine isR ?_; first | refine zo ?_ | refine zc5 ?_ | (refine zs5 ?_ ?_ <;> intro hc)) | refine awp_split rfl (fun hb => ?_) (fun hb => ?_) | refine zr ?_ | exact x_le)
    all_goals rfl
set_option maxRecDepth 100000 in
set_option maxHeartbeats 4000000 in
theorem put2_v {x : Cookie} : ACalls Tryz.prog 29 [x.v] (.bool (ofP [] true x)) := by
  refine fun1 tb_ok Tryz.func29 rfl Tryz.ntmps29 Tryz.results29 rfl fun N => ?_
  repeat' (first | refine zt ?_ | (refine isR ?_; first | refine zo ?_) | refine awp_split rfl (fun hb => ?_) (fun hb => ?_) | refine zr ?_ | exact x_le)
  all_goals rfl
set_option maxRecDepth 100000 in
set_option maxHeartbeats 4000000 in
theorem evict1_m {L E : List Cookie} {c : Cookie} {most : Nat} {nx now : Int} (hb : L.length ≤ 1000) (hE : evF most (ofP c.domain false) (L.length + 1) L = E) : MCalls Tryz.prog 27 [.loc 1 0 0, nV most, fnP c] [rC L, rO L.length nx now] (.tup []) [some (rC E), some (rO E.length nx now)] := by
  refine mfun tb_ok Tryz.func27 rfl Tryz.ntmps27 Tryz.results27 rfl rfl rfl rfl fun N pl => ?_
  repeat' (first | refine zt ?_ | (refine isR ?_; first | refine x_far [3] tb_ok rfl ?_ | refine zn ?_ | refine x_bsO 3 tb_ok ?_ | refine x_bs tb_ok ?_ | refine zA ?_ | refine zL ?_ | refine zc1 ?_ | refine zc2 ?_ | refine zI ?_ | (refine zs1 ?_ ?_ <;> intro hc) | (refine zs2 ?_ ?_ <;> intro hc)) | refine awp_split rfl (fun hb => ?_) (fun hb => ?_) | refine zr ?_ | exact x_le)
  refine awp_whileN (α := List Cookie) (fun M => ⟨[(0, .loc 1 0 0), (1, nV most), (2, fnP c), (3, .loc 2 0 0)], [(0, some (rC M)), (1, some (rO M.length nx now)), (2, some (rBn 1))], 3, 49⟩) (fun M => M.length ≤ 1000 ∧ ∃ f, M.length < f ∧ evF most (ofP c.domain false) f M = E) (fun M => M.length) L (by exact x_le) ⟨hb, L.length + 1, Nat.lt_succ_self _, hE⟩ ?_
  rintro M ⟨hM, f, hf, he⟩
  have hml : (M.map Cookie.v).length = M.length := List.length_map _
  obtain ⟨f, rfl⟩ : ∃ q, f = q + 1 := ⟨f - 1, by omega⟩
  rw [evF] at he
  repeat' (first | refine zt ?_ | (refine isR ?_; first | refine zo ?_ | refine x_bs tb_ok ?_ | refine zA ?_ | refine zL ?_ | refine zc1 ?_ | refine zc2 ?_ | refine zI ?_ | (refine zs1 ?_ ?_ <;> intro hc) | (refine zs2 ?_ ?_ <;> intro hc)) | refine awp_split rfl (fun hb => ?_) (fun hb => ?_) | refine zr ?_ | exact x_le)
  refine awp_name (t := 6) TI 1 (by decide) rfl rfl ?_
  refine awp_forN (fun k => ⟨[(0, .loc 1 0 0), (1, nV most), (2, fnP c), (3, .loc 2 0 0), (6, .own 3 0 (idxs (ofP c.domain false) M k).length), (14, .own 0 0 M.length), (15, nV M.length), (16, nV k)], [(0, some (rC M)), (1, some (rO M.length nx now)), (2, some (rBn 1)), (3, some (rI (idxs (ofP c.domain false) M k)))], 4, 49⟩) (fun k => k ≤ M.length) M.length 0 (by exact x_le) (Nat.zero_le _) ?_
  intro k hk
  by_cases hk2 : k < M.length
  · have hx : M[k]? = some M[k] := by simp [hk2]
    have hi : idxs (ofP c.domain false) M (k + 1) = if ofP c.domain false M[k] = true then idxs (ofP c.domain false) M k ++ [k] else idxs (ofP c.domain false) M k := by rw [idxs, hx]
    have hil : (idxs (ofP c.domain false) M k).length ≤ 1000 := by rw [idxs_len]; exact Nat.le_trans List.countP_le_length (by rw [List.length_take]; omega)
    have c1 := put1_v (c := c) (x := M[k])
    generalize M[k] = x at *
    have hmx := at_map (f := Cookie.v) hx
    generalize idxs (ofP c.domain false) M (k + 1) = J at *
    generalize idxs (ofP c.domain false) M k = I at *
    by_cases h : ofP c.domain false x = true
    · rw [if_pos h] at hi
      subst hi
      rw [h] at c1
      repeat' (first | refine zt ?_ | (refine isR ?_; first | refine zo ?_ | refine x_ldI Cookie.v k tb_ok ?_ | refine x_callv (c1 _) ?_ | refine x_callv (c1) ?_ | refine x_app nV (a1 := (k)) tb_ok ?_ | refine x_bs tb_ok ?_ | refine zA ?_ | refine zL ?_ | refine zc1 ?_ | refine zc2 ?_ | refine zI ?_ | (refine zs1 ?_ ?_ <;> intro hc) | (refine zs2 ?_ ?_ <;> intro hc)) | refine awp_split rfl (fun hb => ?_) (fun hb => ?_) | refine zr ?_ | exact x_le)
      refine ⟨by omega, by omega, ?_⟩
      exact (by exact x_len [0, 1, 2, 5])
    · rw [if_neg h] at hi
      subst hi
      have h : ofP c.domain false x = false := by simpa using h
      rw [h] at c1
      repeat' (first | refine zt ?_ | (refine isR ?_; first | refine zo ?_ | refine x_ldI Cookie.v k tb_ok ?_ | refine x_callv (c1 _) ?_ | refine x_callv (c1) ?_ | refine x_bs tb_ok ?_ | refine zA ?_ | refine zL ?_ | refine zc1 ?_ | refine zc2 ?_ | refine zI ?_ | (refine zs1 ?_ ?_ <;> intro hc) | (refine zs2 ?_ ?_ <;> intro hc)) | refine awp_split rfl (fun hb => ?_) (fun hb => ?_) | refine zr ?_ | exact x_le)
      refine ⟨by omega, by omega, ?_⟩
      exact (by exact x_len [0, 1, 2, 3])
  · obtain rfl : k = M.length := by omega
    have hlen : (idxs (ofP c.domain false) M M.length).length = M.countP (ofP c.domain false) := by rw [idxs_len, List.take_length]
    have hil : (idxs (ofP c.domain false) M M.length).length ≤ 1000 := by rw [hlen]; exact Nat.le_trans List.countP_le_length hM
    have hlt := idxs_lt (p := ofP c.domain false) (M := M) (k := M.length)
    rw [minAt_idxs, ← hlen] at he
    generalize idxs (ofP c.domain false) M M.length = I at *
    by_cases g : I.length ≤ most
    · rw [if_pos g] at he
      subst he
      repeat' (first | refine zt ?_ | (refine isR ?_; first | refine zo ?_ | refine x_bs tb_ok ?_ | refine zA ?_ | refine zL ?_ | refine zc1 ?_ | refine zc2 ?_ | refine zI ?_ | (refine zs1 ?_ ?_ <;> intro hc) | (refine zs2 ?_ ?_ <;> intro hc)) | refine awp_split rfl (fun hb => ?_) (fun hb => ?_) | refine x_mret [0, 1] ?_ ?_ | refine x_mnor [0, 1] ?_ ?_ | refine zr ?_ | exact x_le)
      · rfl
      · exact .on (.same (nl_map fun _ => rfl)) (.on (.ren rfl) .nil)
    · rw [if_neg g] at he
      cases I with
      | nil => simp at g
      | cons i0 r =>
        dsimp only at he
        have c2 := minFunc_m (n := M.length) (nx := nx) (now := now) hil hlt (i0 := i0) rfl rfl
        rw [show (i0 :: r).drop 1 = r from rfl] at c2
        have ha : minL M r i0 < M.length := minL_lt (hlt i0 (by simp)) fun j hj => hlt j (by simp [hj])
        have c3 := delete_m hM ha
        have hel : (M.eraseIdx (minL M r i0)).length = M.length - 1 := List.length_eraseIdx_of_lt ha
        generalize hK : M.eraseIdx (minL M r i0) = K at *
        generalize minL M r i0 = a at *
        generalize i0 :: r = I at *
        repeat' (first | refine zt ?_ | (refine isR ?_; first | refine zo ?_ | refine x_m [3,0,2,1] [] (c2 _) ?_ | refine x_m0 [3,0,2,1] [] (c2 _) ?_ | refine x_m [3,0,2,1] [] (c2) ?_ | refine x_m0 [3,0,2,1] [] (c2) ?_ | refine x_m [0] [] (c3 _) ?_ | refine x_m0 [0] [] (c3 _) ?_ | refine x_m [0] [] (c3) ?_ | refine x_m0 [0] [] (c3) ?_ | refine x_bs tb_ok ?_ | refine zA ?_ | refine zL ?_ | refine zc1 ?_ | refine zc2 ?_ | refine zI ?_ | (refine zs1 ?_ ?_ <;> intro hc) | (refine zs2 ?_ ?_ <;> intro hc)) | refine awp_split rfl (fun hb => ?_) (fun hb => ?_) | refine zr ?_ | exact x_le)
        refine ⟨K, ⟨by omega, f, by omega, he⟩, by omega, ?_⟩
        exact (by exact x_len [0, 1, 2])
set_option maxRecDepth 100000 in
set_option maxHeartbeats 4000000 in
theorem evict2_m {L E : List Cookie} {most : Nat} {nx now : Int} (hb : L.length ≤ 1000) (hE : evF most (ofP [] true) (L.length + 1) L = E) : MCalls Tryz.prog 27 [.loc 1 0 0, nV most, fnA] [rC L, rO L.length nx now] (.tup []) [some (rC E), some (rO E.length nx now)] := by
  refine mfun tb_ok Tryz.func27 rfl Tryz.ntmps27 Tryz.results27 rfl rfl rfl rfl fun N pl => ?_
  repeat' (first | refine zt ?_ | (refine isR ?_; first | refine x_far [3] tb_ok rfl ?_ | refine zn ?_ | refine x_bsO 3 tb_ok ?_ | refine x_bs tb_ok ?_ | refine zA ?_ | refine zL ?_ | refine zc1 ?_ | refine zc2 ?_ | refine zI ?_ | (refine zs1 ?_ ?_ <;> intro hc) | (refine zs2 ?_ ?_ <;> intro hc)) | refine awp_split rfl (fun hb => ?_) (fun hb => ?_) | refine zr ?_ | exact x_le)
  refine awp_whileN (α := List Cookie) (fun M => ⟨[(0, .loc 1 0 0), (1, nV most), (2, fnA), (3, .loc 2 0 0)], [(0, some (rC M)), (1, some (rO M.length nx now)), (2, some (rBn 1))], 3, 49⟩) (fun M => M.length ≤ 1000 ∧ ∃ f, M.length < f ∧ evF most (ofP [] true) f M = E) (fun M => M.length) L (by exact x_le) ⟨hb, L.length + 1, Nat.lt_succ_self _, hE⟩ ?_
  rintro M ⟨hM, f, hf, he⟩
  have hml : (M.map Cookie.v).length = M.length := List.length_map _
  obtain ⟨f, rfl⟩ : ∃ q, f = q + 1 := ⟨f - 1, by omega⟩
  rw [evF] at he
  repeat' (first | refine zt ?_ | (refine isR ?_; first | refine zo ?_ | refine x_bs tb_ok ?_ | refine zA ?_ | refine zL ?_ | refine zc1 ?_ | refine zc2 ?_ | refine zI ?_ | (refine zs1 ?_ ?_ <;> intro hc) | (refine zs2 ?_ ?_ <;> intro hc)) | refine awp_split rfl (fun hb => ?_) (fun hb => ?_) | refine zr ?_ | exact x_le)
  refine awp_name (t := 6) TI 1 (by decide) rfl rfl ?_
  refine awp_forN (fun k => ⟨[(0, .loc 1 0 0), (1, nV most), (2, fnA), (3, .loc 2 0 0), (6, .own 3 0 (idxs (ofP [] true) M k).length), (14, .own 0 0 M.length), (15, nV M.length), (16, nV k)], [(0, some (rC M)), (1, some (rO M.length nx now)), (2, some (rBn 1)), (3, some (rI (idxs (ofP [] true) M k)))], 4, 49⟩) (fun k => k ≤ M.length) M.length 0 (by exact x_le) (Nat.zero_le _) ?_
  intro k hk
  by_cases hk2 : k < M.length
  · have hx : M[k]? = some M[k] := by simp [hk2]
    have hi : idxs (ofP [] true) M (k + 1) = if ofP [] true M[k] = true then idxs (ofP [] true) M k ++ [k] else idxs (ofP [] true) M k := by rw [idxs, hx]
    have hil : (idxs (ofP [] true) M k).length ≤ 1000 := by rw [idxs_len]; exact Nat.le_trans List.countP_le_length (by rw [List.length_take]; omega)
    have c1 := put2_v (x := M[k])
    generalize M[k] = x at *
    have hmx := at_map (f := Cookie.v) hx
    generalize idxs (ofP [] true) M (k + 1) = J at *
    generalize idxs (ofP [] true) M k = I at *
    by_cases h : ofP [] true x = true
    · rw [if_pos h] at hi
      subst hi
      rw [h] at c1
      repeat' (first | refine zt ?_ | (refine isR ?_; first | refine zo ?_ | refine x_ldI Cookie.v k tb_ok ?_ | refine x_callv (c1 _) ?_ | refine x_callv (c1) ?_ | refine x_app nV (a1 := (k)) tb_ok ?_ | refine x_bs tb_ok ?_ | refine zA ?_ | refine zL ?_ | refine zc1 ?_ | refine zc2 ?_ | refine zI ?_ | (refine zs1 ?_ ?_ <;> intro hc) | (refine zs2 ?_ ?_ <;> intro hc)) | refine awp_split rfl (fun hb => ?_) (fun hb => ?_) | refine zr ?_ | exact x_le)
      refine ⟨by omega, by omega, ?_⟩
      exact (by exact x_len [0, 1, 2, 5])
    · rw [if_neg h] at hi
      subst hi
      have h : ofP [] true x = false := by simpa using h
      rw [h] at c1
      repeat' (first | refine zt ?_ | (refine isR ?_; first | refine zo ?_ | refine x_ldI Cookie.v k tb_ok ?_ | refine x_callv (c1 _) ?_ | refine x_callv (c1) ?_ | refine x_bs tb_ok ?_ | refine zA ?_ | refine zL ?_ | refine zc1 ?_ | refine zc2 ?_ | refine zI ?_ | (refine zs1 ?_ ?_ <;> intro hc) | (refine zs2 ?_ ?_ <;> intro hc)) | refine awp_split rfl (fun hb => ?_) (fun hb => ?_) | refine zr ?_ | exact x_le)
      refine ⟨by omega, by omega, ?_⟩
      exact (by exact x_len [0, 1, 2, 3])
  · obtain rfl : k = M.length := by omega
    have hlen : (idxs (ofP [] true) M M.length).length = M.countP (ofP [] true) := by rw [idxs_len, List.take_length]
    have hil : (idxs (ofP [] true) M M.length).length ≤ 1000 := by rw [hlen]; exact Nat.le_trans List.countP_le_length hM
    have hlt := idxs_lt (p := ofP [] true) (M := M) (k := M.length)
    rw [minAt_idxs, ← hlen] at he
    generalize idxs (ofP [] true) M M.length = I at *
    by_cases g : I.length ≤ most
    · rw [if_pos g] at he
      subst he
      repeat' (first | refine zt ?_ | (refine isR ?_; first | refine zo ?_ | refine x_bs tb_ok ?_ | refine zA ?_ | refine zL ?_ | refine zc1 ?_ | refine zc2 ?_ | refine zI ?_ | (refine zs1 ?_ ?_ <;> intro hc) | (refine zs2 ?_ ?_ <;> intro hc)) | refine awp_split rfl (fun hb => ?_) (fun hb => ?_) | refine x_mret [0, 1] ?_ ?_ | refine x_mnor [0, 1] ?_ ?_ | refine zr ?_ | exact x_le)
      · rfl
      · exact .on (.same (nl_map fun _ => rfl)) (.on (.ren rfl) .nil)
    · rw [if_neg g] at he
      cases I with
      | nil => simp at g
      | cons i0 r =>
        dsimp only at he
        have c2 := minFunc_m (n := M.length) (nx := nx) (now := now) hil hlt (i0 := i0) rfl rfl
        rw [show (i0 :: r).drop 1 = r from rfl] at c2
        have ha : minL M r i0 < M.length := minL_lt (hlt i0 (by simp)) fun j hj => hlt j (by simp [hj])
        have c3 := delete_m hM ha
        have hel : (M.eraseIdx (minL M r i0)).length = M.length - 1 := List.length_eraseIdx_of_lt ha
        generalize hK : M.eraseIdx (minL M r i0) = K at *
        generalize minL M r i0 = a at *
        generalize i0 :: r = I at *
        repeat' (first | refine zt ?_ | (refine isR ?_; first | refine zo ?_ | refine x_m [3,0,2,1] [] (c2 _) ?_ | refine x_m0 [3,0,2,1] [] (c2 _) ?_ | refine x_m [3,0,2,1] [] (c2) ?_ | refine x_m0 [3,0,2,1] [] (c2) ?_ | refine x_m [0] [] (c3 _) ?_ | refine x_m0 [0] [] (c3 _) ?_ | refine x_m [0] [] (c3) ?_ | refine x_m0 [0] [] (c3) ?_ | refine x_bs tb_ok ?_ | refine zA ?_ | refine zL ?_ | refine zc1 ?_ | refine zc2 ?_ | refine zI ?_ | (refine zs1 ?_ ?_ <;> intro hc) | (refine zs2 ?_ ?_ <;> intro hc)) | refine awp_split rfl (fun hb => ?_) (fun hb => ?_) | refine zr ?_ | exact x_le)
        refine ⟨K, ⟨by omega, f, by omega, he⟩, by omega, ?_⟩
        exact (by exact x_len [0, 1, 2])
end Go.Proofs.YtoehdmbogdpncaaGreatDoor.JarO
end

section
namespace Go.Proofs.YtoehdmbogdpncaaGreatDoor.JarD
open Go.RowKit Mem Abs Scan JarP JarQ JarA JarB JarC

abbrev keyV (c : Cookie) : Abs.V := .agg [strT c.name, strT c.domain, strT c.path]
set_option maxRecDepth 100000 in
set_option maxHeartbeats 4000000 in
theorem keyOf_v {c : Cookie} : ACalls Tryz.prog 37 [c.v] (keyV c) := by
  refine fun1 tb_ok Tryz.func37 rfl Tryz.ntmps37 Tryz.results37 rfl fun N => ?_
  repeat' (first | refine zt ?_ | (refine isR ?_; first | refine zo ?_) | refine awp_split rfl (fun hb => ?_) (fun hb => ?_) | refine zr ?_ | exact x_le)
  all_goals rfl
set_option maxRecDepth 100000 in
set_option maxHeartbeats 4000000 in
theorem find_v {L : List Cookie} {nx : Int} {c : Cookie} (hb : L.length ≤ 1048576) : ACalls Tryz.prog 19 [jarV L nx, c.v] (.int .i64 (minI (L.findIdx? fun x => sameK x c))) := by
  have hml : (L.map Cookie.v).length = L.length := List.length_map _
  generalize hF : L.findIdx? (fun x => sameK x c) = F
  refine fun2 tb_ok Tryz.func19 rfl Tryz.ntmps19 Tryz.results19 rfl fun N => ?_
  repeat' (first | refine zt ?_ | (refine isR ?_; first | refine zo ?_ | refine zA ?_ | refine zL ?_ | refine zc1 ?_ | refine zI ?_ | (refine zs1 ?_ ?_ <;> intro hc)) | refine awp_split rfl (fun hb => ?_) (fun hb => ?_) | refine zr ?_ | exact x_le)
  refine awp_for (fun k => ⟨[(2, .fp (V.cells (jarV L nx)) 0), (3, .fp (V.cells c.v) 0), (5, nV k)], [], 0, 21⟩) (fun k => k ≤ L.length ∧ ∀ i x, i < k → L[i]? = some x → sameK x c = false) L.length 0 (by exact x_le) ⟨Nat.zero_le _, fun i x h => by omega⟩ ?_
  rintro k ⟨hk, hn⟩
  by_cases hk2 : k < L.length
  · have hx : L[k]? = some L[k] := by simp [hk2]
    have hit : sameK L[k] c = true → F = some k := fun h => by
      rw [← hF, List.findIdx?_eq_some_iff_getElem]
      refine ⟨hk2, h, fun j hj => ?_⟩
      rw [hn j _ hj (by simp [show j < L.length by omega])]
      decide
    generalize L[k] = d at *
    have hm := at_map (f := Cookie.v) hx
    have c1 := sameKey_v (a := d) (b := c)
    by_cases h : sameK d c = true
    · rw [hit h]
      rw [h] at c1
      repeat' (first | refine zt ?_ | (refine isR ?_; first | refine zo ?_ | refine zk c1 ?_ | refine zA ?_ | refine zL ?_ | refine zc1 ?_ | refine zI ?_ | (refine zs1 ?_ ?_ <;> intro hc)) | refine awp_split rfl (fun hb => ?_) (fun hb => ?_) | refine zr ?_ | exact x_le)
      all_goals rfl
    · have h : sameK d c = false := by simpa using h
      rw [h] at c1
      repeat' (first | refine zt ?_ | (refine isR ?_; first | refine zo ?_ | refine zk c1 ?_ | refine zA ?_ | refine zL ?_ | refine zc1 ?_ | refine zI ?_ | (refine zs1 ?_ ?_ <;> intro hc)) | refine awp_split rfl (fun hb => ?_) (fun hb => ?_) | refine zr ?_ | exact x_le)
      refine ⟨⟨by omega, fun i x hi hx2 => ?_⟩, hk2, (by exact x_le)⟩
      by_cases e : i = k
      · subst e
        rw [hx] at hx2
        cases hx2
        exact h
      · exact hn i x (by omega) hx2
  · obtain rfl : k = L.length := by omega
    have : F = none := by
      rw [← hF, List.findIdx?_eq_none_iff]
      intro x hx
      obtain ⟨i, hi, rfl⟩ := List.mem_iff_getElem.1 hx
      exact hn i _ hi (by simp [hi])
    subst this
    repeat' (first | refine zt ?_ | (refine isR ?_; first | refine zo ?_ | refine zA ?_ | refine zL ?_ | refine zc1 ?_ | refine zI ?_ | (refine zs1 ?_ ?_ <;> intro hc)) | refine awp_split rfl (fun hb => ?_) (fun hb => ?_) | refine zr ?_ | exact x_le)
    all_goals rfl
end Go.Proofs.YtoehdmbogdpncaaGreatDoor.JarD
end

section
namespace Go.Proofs.YtoehdmbogdpncaaGreatDoor.JarR
open Abs Scan JarP JarQ JarC

/-- Right, but for how many there are. -/
structure Rw (L : List Cookie) (nx : Int) : Prop where
  mom : ∀ c ∈ L, badM c = false
  no : ∀ c ∈ L, 0 ≤ c.no ∧ c.no < nx
  dis : L.Pairwise fun a b => sameK a b = false ∧ a.no ≠ b.no
  nx : 0 ≤ nx ∧ nx ≤ 1099511627776
theorem Rj.weak {L : List Cookie} {nx : Int} (h : Rj L nx) : Rw L nx := ⟨h.mom, h.no, h.dis, h.nx⟩
theorem Rw.sub {L M : List Cookie} {nx : Int} (h : Rw L nx) (hs : M.Sublist L) : Rw M nx := ⟨fun c hc => h.mom c (hs.subset hc), fun c hc => h.no c (hs.subset hc), h.dis.sublist hs, h.nx⟩
theorem Rw.right {L : List Cookie} {nx : Int} (h : Rw L nx) (hl : L.length ≤ 12) (hp : ∀ d : List UInt8, L.countP (fun c => decide (c.domain = d)) ≤ 4) : Rj L nx := ⟨hl, h.mom, h.no, h.dis, hp, h.nx⟩
theorem sameK_key {a b : Cookie} : sameK a b = true ↔ a.name = b.name ∧ a.domain = b.domain ∧ a.path = b.path := by
  unfold sameK
  simp only [Bool.and_eq_true, decide_eq_true_eq]
theorem sameK_comm (a b : Cookie) : sameK a b = sameK b a := by
  rw [Bool.eq_iff_iff, sameK_key, sameK_key]
  constructor <;> rintro ⟨h1, h2, h3⟩ <;> exact ⟨h1.symm, h2.symm, h3.symm⟩
theorem sameK_left {a b : Cookie} (h : sameK a b = true) (c : Cookie) : sameK a c = sameK b c := by
  obtain ⟨h1, h2, h3⟩ := sameK_key.1 h
  unfold sameK
  rw [h1, h2, h3]
/-- Laid in: right still, but for how many. -/
theorem lay_weak {L : List Cookie} {nx : Int} {c : Cookie} (h : Rw L nx) (hc : badM c = false) (hn : nx < 1099511627776) : Rw (layF L nx c).1 (layF L nx c).2 ∧ (nx ≤ (layF L nx c).2 ∧ (layF L nx c).2 ≤ nx + 1) ∧ (layF L nx c).1.length ≤ L.length + 1 ∧ ∀ d : List UInt8, d ≠ c.domain → (layF L nx c).1.countP (fun x => decide (x.domain = d)) = L.countP (fun x => decide (x.domain = d)) := by
  unfold layF
  cases hf : L.findIdx? (fun x => sameK x c) with
  | none =>
    have hno : ∀ x ∈ L, sameK x c = false := List.findIdx?_eq_none_iff.1 hf
    dsimp only
    refine ⟨⟨fun x hx => ?_, fun x hx => ?_, ?_, ?_⟩, by omega, by simp, fun d hd => ?_⟩
    · rcases List.mem_append.1 hx with hx | hx
      · exact h.mom x hx
      · rw [List.mem_singleton] at hx; subst hx; exact hc
    · have := h.nx
      rcases List.mem_append.1 hx with hx | hx
      · have := h.no x hx; omega
      · rw [List.mem_singleton] at hx; subst hx; dsimp only; omega
    · rw [List.pairwise_append]
      refine ⟨h.dis, List.pairwise_singleton _ _, fun x hx y hy => ?_⟩
      rw [List.mem_singleton] at hy; subst hy
      have h2 := h.no x hx
      exact ⟨hno x hx, by dsimp only; omega⟩
    · have := h.nx; omega
    · rw [List.countP_append]
      have : ¬ c.domain = d := fun e => hd e.symm
      simp [this]
  | some i =>
    obtain ⟨hi, hk, _⟩ := List.findIdx?_eq_some_iff_getElem.1 hf
    have hat : L.getD i c = L[i] := by rw [List.getD_eq_getElem?_getD, List.getElem?_eq_getElem hi]; rfl
    dsimp only
    rw [hat]
    obtain ⟨k1, k2, k3⟩ := sameK_key.1 hk
    have hm := h.mom L[i] (List.getElem_mem hi)
    refine ⟨⟨fun x hx => ?_, fun x hx => ?_, ?_, h.nx⟩, by omega, by simp, fun d hd => ?_⟩
    · rcases List.mem_or_eq_of_mem_set hx with hx | rfl
      · exact h.mom x hx
      · unfold badM at hc hm ⊢
        dsimp only
        cases h1 : isJ L[i].created <;> cases h2 : isJ c.used <;> cases h3 : isJ c.created <;> cases h4 : isJ L[i].used <;> simp_all
    · rcases List.mem_or_eq_of_mem_set hx with hx | rfl
      · exact h.no x hx
      · exact h.no L[i] (List.getElem_mem hi)
    · rw [List.pairwise_iff_getElem]
      intro a b ha hb hab
      have hd := List.pairwise_iff_getElem.1 h.dis
      simp only [List.length_set] at ha hb
      rw [List.getElem_set, List.getElem_set]
      by_cases e1 : i = a
      · subst e1
        rw [if_pos rfl, if_neg (by omega)]
        obtain ⟨q1, q2⟩ := hd i b hi hb hab
        refine ⟨?_, q2⟩
        rw [← q1]
        exact (sameK_left (a := L[i]) (b := { c with created := (L[i]).created, no := (L[i]).no }) (sameK_key.2 ⟨k1, k2, k3⟩) _).symm
      · rw [if_neg e1]
        by_cases e2 : i = b
        · subst e2
          rw [if_pos rfl]
          obtain ⟨q1, q2⟩ := hd a i ha hi hab
          refine ⟨?_, q2⟩
          rw [sameK_comm, ← sameK_left (a := L[i]) (b := { c with created := (L[i]).created, no := (L[i]).no }) (sameK_key.2 ⟨k1, k2, k3⟩), sameK_comm]
          exact q1
        · rw [if_neg e2]
          exact hd a b ha hb hab
    · have e : L = L.take i ++ L[i] :: L.drop (i + 1) := by rw [List.getElem_cons_drop hi, List.take_append_drop]
      have n1 : ¬ L[i].domain = d := fun q => hd (by rw [← q, k2])
      have n2 : ¬ c.domain = d := fun q => hd q.symm
      rw [List.set_eq_take_append_cons_drop, if_pos hi]
      conv => rhs; rw [e]
      rw [List.countP_append, List.countP_append, List.countP_cons, List.countP_cons]
      simp [n1, n2]
theorem evF_sub {most : Nat} {p : Cookie → Bool} : ∀ (n : Nat) (L : List Cookie), (evF most p n L).Sublist L
  | 0, L => .refl _
  | n + 1, L => by
    rw [evF]
    split
    · exact .refl _
    · split
      · exact .refl _
      · exact (evF_sub n _).trans (List.eraseIdx_sublist ..)
theorem minAt_some {p : Cookie → Bool} {L : List Cookie} : ∀ {k : Nat}, k ≤ L.length → 0 < (L.take k).countP p → ∃ a, minAt p L k = some a
  | 0, _, h => by simp at h
  | k + 1, hk, h => by
    have hx : L[k]? = some L[k] := by simp
    rw [minAt, hx]
    dsimp only
    rw [List.take_add_one, hx, List.countP_append] at h
    by_cases hp : p L[k] = true
    · rw [if_pos hp]
      cases minAt p L k with
      | none => exact ⟨_, rfl⟩
      | some a => dsimp only; split <;> exact ⟨_, rfl⟩
    · rw [if_neg hp]
      exact minAt_some (by omega) (by simpa [hp] using h)
/-- No more stay than may. -/
theorem evF_few {most : Nat} {p : Cookie → Bool} : ∀ (n : Nat) (L : List Cookie), L.length < n → (evF most p n L).countP p ≤ most
  | 0, L, h => by omega
  | n + 1, L, h => by
    rw [evF]
    by_cases hc : L.countP p ≤ most
    · rw [if_pos hc]; exact hc
    · rw [if_neg hc]
      obtain ⟨a, ha⟩ := minAt_some (p := p) (L := L) (Nat.le_refl _) (by rw [List.take_length]; omega)
      rw [ha]
      dsimp only
      have hlt := (minAt_is ha).1
      exact evF_few n _ (by rw [List.length_eraseIdx, if_pos hlt]; omega)
/-- A JAR STAYS RIGHT. -/
theorem put_right {L : List Cookie} {nx : Int} {c : Cookie} {now : Int} (h : Rj L nx) (hc : badM c = false) (hn : nx < 1099511627776) : Rj (putF L nx c now).1 (putF L nx c now).2 ∧ nx ≤ (putF L nx c now).2 ∧ (putF L nx c now).2 ≤ nx + 1 ∧ ∀ x ∈ (putF L nx c now).1, now < x.expiry := by
  have hw := (Rj.weak h).sub (M := liveF now L) List.filter_sublist
  obtain ⟨k1, k2, k3, k4⟩ := lay_weak hw hc hn
  unfold putF
  dsimp only
  generalize hr : layF (liveF now L) nx c = r at *
  have s1 : (liveF now r.1).Sublist r.1 := List.filter_sublist
  generalize hM : liveF now r.1 = M at *
  have s2 := evF_sub (most := 4) (p := fun x => decide (x.domain = c.domain)) (M.length + 1) M
  have f2 := evF_few (most := 4) (p := fun x => decide (x.domain = c.domain)) (M.length + 1) M (by omega)
  generalize evF 4 (fun x => decide (x.domain = c.domain)) (M.length + 1) M = M1 at *
  have s3 := evF_sub (most := 12) (p := fun _ => true) (M1.length + 1) M1
  have f3 := evF_few (most := 12) (p := fun _ => true) (M1.length + 1) M1 (by omega)
  generalize evF 12 (fun _ => true) (M1.length + 1) M1 = M2 at *
  have s4 := (s3.trans s2).trans s1
  refine ⟨(k1.sub s4).right (by simpa using f3) fun d => ?_, k2.1, k2.2, fun x hx => ?_⟩
  · by_cases hd : d = c.domain
    · subst hd
      exact Nat.le_trans s3.countP_le f2
    · refine Nat.le_trans s4.countP_le ?_
      rw [k4 d hd]
      exact Nat.le_trans (List.filter_sublist.countP_le) (h.per d)
  · have := (s3.trans s2).subset hx
    rw [← hM] at this
    simpa [liveF] using (List.mem_filter.1 this).2
end Go.Proofs.YtoehdmbogdpncaaGreatDoor.JarR
end

section
namespace Go.Proofs.YtoehdmbogdpncaaGreatDoor.JarE
open Go.RowKit Mem Abs Scan JarP JarQ JarA JarB JarC JarD JarR

abbrev noJ : Abs.V := .agg [.nils, .int .i64 0]
set_option maxRecDepth 100000 in
set_option maxHeartbeats 4000000 in
theorem live1_v {c : Cookie} {now : Int} : ACalls Tryz.prog 57 [c.v, .int .i64 now] (.bool (decide (now < c.expiry))) := by
  by_cases h : now < c.expiry
  · rw [decide_eq_true h]
    refine fun2 tb_ok Tryz.func57 rfl Tryz.ntmps57 Tryz.results57 rfl fun N => ?_
    repeat' (first | refine zt ?_ | (refine isR ?_; first | refine zo ?_ | refine zc1 ?_ | (refine zs1 ?_ ?_ <;> intro hc)) | refine awp_split rfl (fun hb => ?_) (fun hb => ?_) | refine zr ?_ | exact x_le)
    all_goals rfl
  · rw [decide_eq_false h]
    refine fun2 tb_ok Tryz.func57 rfl Tryz.ntmps57 Tryz.results57 rfl fun N => ?_
    repeat' (first | refine zt ?_ | (refine isR ?_; first | refine zo ?_ | refine zc1 ?_ | (refine zs1 ?_ ?_ <;> intro hc)) | refine awp_split rfl (fun hb => ?_) (fun hb => ?_) | refine zr ?_ | exact x_le)
    all_goals rfl
set_option maxRecDepth 100000 in
set_option maxHeartbeats 4000000 in
theorem putBad_v {L : List Cookie} {nx : Int} {c : Cookie} {now : Int} (h : codePut L nx c now ≠ 0) : ACalls Tryz.prog 10 [jarV L nx, c.v, .int .i64 now] (.tup [noJ, .int .i64 ((codePut L nx c now : Nat) : Int)]) := by
  have c1 := jarCheck_v (L := L) (nx := nx)
  have c2 := noMoment_v (n := now)
  have c3 := noMoments_v (c := c)
  unfold codePut at h ⊢
  by_cases h1 : checkJ L nx = 0
  · rw [h1] at c1
    rw [if_neg (by rw [h1]; simp)] at h ⊢
    by_cases h2 : isJ now = false
    · rw [if_pos (.inl h2)]
      rw [h2] at c2
      change ACalls _ _ _ (.bool true) at c2
      refine fun3 tb_ok Tryz.func10 rfl Tryz.ntmps10 Tryz.results10 rfl fun N => ?_
      repeat' (first | refine zt ?_ | (refine isR ?_; first | refine x_far [4] tb_ok rfl ?_ | refine zn ?_ | refine zk c1 ?_ | refine zk c2 ?_ | refine zk c3 ?_ | refine x_bsO 4 tb_ok ?_ | refine x_bs tb_ok ?_ | refine zA ?_ | refine zL ?_ | refine zc1 ?_ | refine zc3 ?_ | refine zc5 ?_ | refine zc6 ?_ | refine zI ?_ | (refine zs1 ?_ ?_ <;> intro hc) | (refine zs3 ?_ ?_ <;> intro hc) | (refine zs5 ?_ ?_ <;> intro hc) | (refine zs6 ?_ ?_ <;> intro hc)) | refine awp_split rfl (fun hb => ?_) (fun hb => ?_) | refine zr ?_ | exact x_le)
      all_goals first | rfl | (exfalso; omega)
    · have h2 : isJ now = true := by simpa using h2
      rw [h2] at c2
      change ACalls _ _ _ (.bool false) at c2
      by_cases h3 : badM c = true
      · rw [if_pos (.inr h3)]
        rw [h3] at c3
        refine fun3 tb_ok Tryz.func10 rfl Tryz.ntmps10 Tryz.results10 rfl fun N => ?_
        repeat' (first | refine zt ?_ | (refine isR ?_; first | refine x_far [4] tb_ok rfl ?_ | refine zn ?_ | refine zk c1 ?_ | refine zk c2 ?_ | refine zk c3 ?_ | refine x_bsO 4 tb_ok ?_ | refine x_bs tb_ok ?_ | refine zA ?_ | refine zL ?_ | refine zc1 ?_ | refine zc3 ?_ | refine zc5 ?_ | refine zc6 ?_ | refine zI ?_ | (refine zs1 ?_ ?_ <;> intro hc) | (refine zs3 ?_ ?_ <;> intro hc) | (refine zs5 ?_ ?_ <;> intro hc) | (refine zs6 ?_ ?_ <;> intro hc)) | refine awp_split rfl (fun hb => ?_) (fun hb => ?_) | refine zr ?_ | exact x_le)
        all_goals first | rfl | (exfalso; omega)
      · have h4 : ¬ (isJ now = false ∨ badM c = true) := fun q => q.elim (fun q => by rw [h2] at q; cases q) h3
        rw [if_neg h4] at h ⊢
        have h3 : badM c = false := by simpa using h3
        rw [h3] at c3
        by_cases h5 : nx = 1099511627776
        · rw [if_pos h5]
          refine fun3 tb_ok Tryz.func10 rfl Tryz.ntmps10 Tryz.results10 rfl fun N => ?_
          repeat' (first | refine zt ?_ | (refine isR ?_; first | refine x_far [4] tb_ok rfl ?_ | refine zn ?_ | refine zk c1 ?_ | refine zk c2 ?_ | refine zk c3 ?_ | refine x_bsO 4 tb_ok ?_ | refine x_bs tb_ok ?_ | refine zA ?_ | refine zL ?_ | refine zc1 ?_ | refine zc3 ?_ | refine zc5 ?_ | refine zc6 ?_ | refine zI ?_ | (refine zs1 ?_ ?_ <;> intro hc) | (refine zs3 ?_ ?_ <;> intro hc) | (refine zs5 ?_ ?_ <;> intro hc) | (refine zs6 ?_ ?_ <;> intro hc)) | refine awp_split rfl (fun hb => ?_) (fun hb => ?_) | refine zr ?_ | exact x_le)
          all_goals first | rfl | (exfalso; omega)
        · rw [if_neg h5] at h
          exact absurd rfl h
  · rw [if_pos h1]
    have h1' : ((checkJ L nx : Nat) : Int) ≠ 0 := by omega
    generalize checkJ L nx = z at *
    refine fun3 tb_ok Tryz.func10 rfl Tryz.ntmps10 Tryz.results10 rfl fun N => ?_
    repeat' (first | refine zt ?_ | (refine isR ?_; first | refine x_far [4] tb_ok rfl ?_ | refine zn ?_ | refine zk c1 ?_ | refine x_bsO 4 tb_ok ?_ | refine x_bs tb_ok ?_ | refine zA ?_ | refine zL ?_ | refine zc1 ?_ | refine zc3 ?_ | refine zc5 ?_ | refine zc6 ?_ | refine zI ?_ | (refine zs1 ?_ ?_ <;> intro hc) | (refine zs3 ?_ ?_ <;> intro hc) | (refine zs5 ?_ ?_ <;> intro hc) | (refine zs6 ?_ ?_ <;> intro hc)) | refine awp_split rfl (fun hb => ?_) (fun hb => ?_) | refine zr ?_ | exact x_le)
    all_goals first | rfl | (exfalso; omega)
end Go.Proofs.YtoehdmbogdpncaaGreatDoor.JarE
end
