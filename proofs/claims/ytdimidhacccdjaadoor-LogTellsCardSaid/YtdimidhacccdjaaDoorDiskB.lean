/- Disks: the walks of Write, Flush, Crash. -/
import Derived.Test.YtdimidhacccdjaaDoorDiskA
namespace Go.Proofs.YtdimidhacccdjaaDoor.Abs
open Go.RowKit Mem Facts
section
variable {P : Program} {N : Env} {l r : List Oper} {o : Oper} {tm : List (Nat × V)} {st : List (Nat × Option Blk)} {nx nt : Nat} {tr : List Tr} {K : S → List Tr → Prop} {d : Nat} {t t' : TypeId} {x y : Operand} {a n : Int} {kd ky : IntKind} {i : Nat}
theorem law_shrN (ho : o.op = .binOp .shr t x y t') (hi : i ≤ kd.bits) (h : a.fdiv (2 ^ i) = n) (hn : InR kd n) : OpLaw P N o ⟨[(x, .int kd a), (y, .int ky (i : Int))], []⟩ (.int kd n) [] [] :=
  law_pure fun s M A φ ac w hh hr => by
    refine ⟨.int kd n, ?_, .fz (.int hn)⟩
    subst h
    have e : min ((i : Int)).toNat kd.bits = i := by rw [Int.toNat_natCast]; omega
    unfold execOp
    have e2 : (eqGuard .shr t x y (.int kd a) (.int ky (i : Int))).run P w = .ok () w := rfl
    have e3 : (binOp .shr t (.int kd a) (.int ky (i : Int))).run P w = .ok (.int kd (a.fdiv (2 ^ i))) w := by
      unfold binOp
      simp only [Op.shift]
      rw [if_neg (by omega), e]
      rfl
    simp only [ho, hr.int hh.a, hr.int hh.b, Sem.run_bind, e2, e3, Result.andThen_ok, Sem.run_pure]
theorem x_shrN (i : Nat) (k : ARun P N l K r ⟨(d, .int kd n) :: tm, st, nx, nt⟩ (tr ++ [trOf l o ⟨[(x, .int kd a), (y, .int ky (i : Int))], []⟩ []])) (ho : o.op = .binOp .shr t x y t' := by rfl) (hx : S.ev ⟨tm, st, nx, nt⟩ x = some (.int kd a) := by rfl) (hy : S.ev ⟨tm, st, nx, nt⟩ y = some (.int ky (i : Int)) := by rfl) (hg : guardV l o ⟨tm, st, nx, nt⟩ = some true := by rfl) (hd : o.dst = some d := by rfl) (hlt : Nat.blt d nt = true := by rfl) (hi : i ≤ kd.bits := by assumption) (h : a.fdiv (2 ^ i) = n := by assumption) (hn : InR kd n := by assumption) : ARun P N l K (o :: r) ⟨tm, st, nx, nt⟩ tr := r_val hg hd hlt (law_shrN ho hi h hn) (hT hx (hT hy h0)) k
theorem and_one (m : Nat) (h : m < 18446744073709551616) : IntKind.u64.wrap (((BitVec.ofInt 64 (m : Int) &&& BitVec.ofInt 64 1).toNat : Nat) : Int) = ((m % 2 : Nat) : Int) := by
  have e : (BitVec.ofInt 64 (m : Int)).toNat = m := by rw [BitVec.toNat_ofInt]; simp; omega
  have e1 : (BitVec.ofInt 64 1).toNat = 1 := by decide
  rw [BitVec.toNat_and, e, e1, Nat.and_one_is_mod]
  simp [IntKind.wrap, IntKind.bits, IntKind.signed]
  omega
theorem law_and1 {m : Nat} (ho : o.op = .binOp .and t x y t') (h : m < 18446744073709551616) : OpLaw P N o ⟨[(x, .int .u64 (m : Int)), (y, .int .u64 1)], []⟩ (.int .u64 ((m % 2 : Nat) : Int)) [] [] :=
  law_int2 (v := .int .u64 ((m % 2 : Nat) : Int)) ho rfl (fun _ _ _ _ => .fz (.int ⟨by simp only [rng]; omega, by simp only [rng]; omega⟩)) fun w => by
    have := and_one m h
    simp only [binOp, Op.intBits]
    exact congrArg (fun z => Result.ok (Value.int .u64 z) w) this
theorem x_and1 {m : Nat} (k : ARun P N l K r ⟨(d, .int .u64 ((m % 2 : Nat) : Int)) :: tm, st, nx, nt⟩ (tr ++ [trOf l o ⟨[(x, .int .u64 (m : Int)), (y, .int .u64 1)], []⟩ []])) (ho : o.op = .binOp .and t x y t' := by rfl) (hx : S.ev ⟨tm, st, nx, nt⟩ x = some (.int .u64 (m : Int)) := by rfl) (hy : S.ev ⟨tm, st, nx, nt⟩ y = some (.int .u64 1) := by rfl) (hg : guardV l o ⟨tm, st, nx, nt⟩ = some true := by rfl) (hd : o.dst = some d := by rfl) (hlt : Nat.blt d nt = true := by rfl) (h : m < 18446744073709551616 := by assumption) : ARun P N l K (o :: r) ⟨tm, st, nx, nt⟩ tr := r_val hg hd hlt (law_and1 ho h) (hT hx (hT hy h0)) k
end
end Go.Proofs.YtdimidhacccdjaaDoor.Abs
namespace Go.Proofs.YtdimidhacccdjaaDoor.DiskB
open Go.RowKit Mem Abs DiskP FnS DiskA

abbrev zD : Abs.V := .agg [.nils, .nils]
abbrev TD : Nat := 25
theorem full {α : Type} (f : α → Abs.V) (L : List α) : List.take L.length (List.drop 0 (L.map f)) = L.map f := by rw [List.drop_zero, List.take_of_length_le (by simp)]
set_option maxRecDepth 100000 in
set_option maxHeartbeats 4000000 in
theorem write_v {d : Disk} {p : Int} {s : List UInt8} : ACalls Tryd.prog 7 [d.v, .int .i64 p, strT s] (.tup [(writeF d p s).1.v, .int .i64 (writeF d p s).2]) := by
  have c1 := check_v (d := d)
  unfold writeF
  by_cases h0 : checkF d = 0
  · rw [if_neg (by simpa using h0)]
    rw [h0] at c1
    obtain ⟨k1, k2, _, _⟩ := check_ok.1 h0
    have c2 := own_v (d := d) (by omega) (by omega)
    obtain ⟨K, W⟩ := d
    dsimp only at k1 k2 c2 ⊢
    have hx : ((K.map strT).length : Int) = (K.length : Int) := by simp
    have hy : ((W.map Put.v).length : Int) = (W.length : Int) := by simp
    have c1 : ACalls Tryd.prog 13 [.agg [.fro (K.map strT), .fro (W.map Put.v)]] (.int .i64 0) := c1
    have c2 : MCalls Tryd.prog 26 [.agg [.fro (K.map strT), .fro (W.map Put.v)]] [] (.agg [.own 0 0 K.length, .own 1 0 W.length]) [some (rowS K), some (rowP W)] := c2
    show ACalls _ _ [.agg [.fro (K.map strT), .fro (W.map Put.v)], _, _] _
    clear h0
    by_cases h1 : p < 0
    · rw [if_pos (.inl h1)]
      refine ACalls.nfd (r := .tup [zD, .int .i64 3]) ?_ rfl
      refine fun3 tb_ok Tryd.func7 rfl Tryd.ntmps7 Tryd.results7 rfl fun N => ?_
      repeat' (first
          | with_reducible first | refine awp_seq ?_ | refine awp_region ?_ | refine awp_draw mixed ?_ | refine then_n ?_ | refine awp_skip ?_ | refine awp_block ?_ | refine awp_exit ?_ | refine awp_ret ?_ | refine awp_label ?_ | refine then_exit ?_ | refine then_ret ?_ | refine blk_n ?_ | refine blk_ret ?_ | refine blk_exit ?_ | refine blk_other rfl ?_ | refine then_k ?_
          | refine awp_true rfl ?_
          | refine awp_false rfl ?_
          | refine awp_split rfl (fun hb => ?_) (fun hb => ?_)
          | (refine isR ?_; first | refine x_far [3] tb_ok rfl ?_ | refine r_nil ?_ | refine r_nild (by kernel_rfl) ?_ | refine x_call (c1 _) ?_ | refine x_call (c1) ?_ | refine x_bsO 3 tb_ok ?_ | refine x_bs tb_ok ?_ | refine x_lenF tb_ok ?_ | refine x_lenO tb_ok ?_ | refine x_lenN tb_ok ?_ | refine x_lenS ?_ | refine x_lssT ?_ | refine x_lssF ?_ | refine x_lss (fun hc => ?_) (fun hc => ?_) | refine x_gtrT ?_ | refine x_gtrF ?_ | refine x_gtr (fun hc => ?_) (fun hc => ?_) | refine x_geqT ?_ | refine x_geqF ?_ | refine x_geq (fun hc => ?_) (fun hc => ?_) | refine x_eqlT ?_ | refine x_eqlF ?_ | refine x_eql (fun hc => ?_) (fun hc => ?_) | refine x_neqT ?_ | refine x_neqF ?_ | refine x_neq (fun hc => ?_) (fun hc => ?_) | refine x_eqlB ?_ | refine x_eqlST ?_ | refine x_eqlSF ?_ | refine x_eqlS (fun hc => ?_) (fun hc => ?_) | refine x_eqlI ?_ | refine x_eqlN ?_ | refine x_neqB ?_ | refine x_neqST ?_ | refine x_neqSF ?_ | refine x_neqS (fun hc => ?_) (fun hc => ?_) | refine x_neqI ?_ | refine x_neqN ?_ | refine x_eqlA tb_ok ?_ | refine x_eqlAS tb_ok (fun hc => ?_) (fun hc => ?_) | refine x_neqA tb_ok ?_ | refine x_neqAS tb_ok (fun hc => ?_) (fun hc => ?_))
          | refine x_ret ?_
          | refine x_nor ?_
          | exact x_le)
      rfl
    · by_cases h2 : (K.length : Int) ≤ p
      · rw [if_pos (.inr h2)]
        refine ACalls.nfd (r := .tup [zD, .int .i64 3]) ?_ rfl
        refine fun3 tb_ok Tryd.func7 rfl Tryd.ntmps7 Tryd.results7 rfl fun N => ?_
        repeat' (first
            | with_reducible first | refine awp_seq ?_ | refine awp_region ?_ | refine awp_draw mixed ?_ | refine then_n ?_ | refine awp_skip ?_ | refine awp_block ?_ | refine awp_exit ?_ | refine awp_ret ?_ | refine awp_label ?_ | refine then_exit ?_ | refine then_ret ?_ | refine blk_n ?_ | refine blk_ret ?_ | refine blk_exit ?_ | refine blk_other rfl ?_ | refine then_k ?_
            | refine awp_true rfl ?_
            | refine awp_false rfl ?_
            | refine awp_split rfl (fun hb => ?_) (fun hb => ?_)
            | (refine isR ?_; first | refine x_far [3] tb_ok rfl ?_ | refine r_nil ?_ | refine r_nild (by kernel_rfl) ?_ | refine x_call (c1 _) ?_ | refine x_call (c1) ?_ | refine x_bsO 3 tb_ok ?_ | refine x_bs tb_ok ?_ | refine x_lenF tb_ok ?_ | refine x_lenO tb_ok ?_ | refine x_lenN tb_ok ?_ | refine x_lenS ?_ | refine x_lssT ?_ | refine x_lssF ?_ | refine x_lss (fun hc => ?_) (fun hc => ?_) | refine x_gtrT ?_ | refine x_gtrF ?_ | refine x_gtr (fun hc => ?_) (fun hc => ?_) | refine x_geqT ?_ | refine x_geqF ?_ | refine x_geq (fun hc => ?_) (fun hc => ?_) | refine x_eqlT ?_ | refine x_eqlF ?_ | refine x_eql (fun hc => ?_) (fun hc => ?_) | refine x_neqT ?_ | refine x_neqF ?_ | refine x_neq (fun hc => ?_) (fun hc => ?_) | refine x_eqlB ?_ | refine x_eqlST ?_ | refine x_eqlSF ?_ | refine x_eqlS (fun hc => ?_) (fun hc => ?_) | refine x_eqlI ?_ | refine x_eqlN ?_ | refine x_neqB ?_ | refine x_neqST ?_ | refine x_neqSF ?_ | refine x_neqS (fun hc => ?_) (fun hc => ?_) | refine x_neqI ?_ | refine x_neqN ?_ | refine x_eqlA tb_ok ?_ | refine x_eqlAS tb_ok (fun hc => ?_) (fun hc => ?_) | refine x_neqA tb_ok ?_ | refine x_neqAS tb_ok (fun hc => ?_) (fun hc => ?_))
            | refine x_ret ?_
            | refine x_nor ?_
            | exact x_le)
        rfl
      · rw [if_neg (not_or.2 ⟨h1, h2⟩)]
        by_cases h3 : 20000 < s.length
        · rw [if_pos (.inl h3)]
          refine ACalls.nfd (r := .tup [zD, .int .i64 2]) ?_ rfl
          refine fun3 tb_ok Tryd.func7 rfl Tryd.ntmps7 Tryd.results7 rfl fun N => ?_
          repeat' (first
              | with_reducible first | refine awp_seq ?_ | refine awp_region ?_ | refine awp_draw mixed ?_ | refine then_n ?_ | refine awp_skip ?_ | refine awp_block ?_ | refine awp_exit ?_ | refine awp_ret ?_ | refine awp_label ?_ | refine then_exit ?_ | refine then_ret ?_ | refine blk_n ?_ | refine blk_ret ?_ | refine blk_exit ?_ | refine blk_other rfl ?_ | refine then_k ?_
              | refine awp_true rfl ?_
              | refine awp_false rfl ?_
              | refine awp_split rfl (fun hb => ?_) (fun hb => ?_)
              | (refine isR ?_; first | refine x_far [3] tb_ok rfl ?_ | refine r_nil ?_ | refine r_nild (by kernel_rfl) ?_ | refine x_call (c1 _) ?_ | refine x_call (c1) ?_ | refine x_bsO 3 tb_ok ?_ | refine x_bs tb_ok ?_ | refine x_lenF tb_ok ?_ | refine x_lenO tb_ok ?_ | refine x_lenN tb_ok ?_ | refine x_lenS ?_ | refine x_lssT ?_ | refine x_lssF ?_ | refine x_lss (fun hc => ?_) (fun hc => ?_) | refine x_gtrT ?_ | refine x_gtrF ?_ | refine x_gtr (fun hc => ?_) (fun hc => ?_) | refine x_geqT ?_ | refine x_geqF ?_ | refine x_geq (fun hc => ?_) (fun hc => ?_) | refine x_eqlT ?_ | refine x_eqlF ?_ | refine x_eql (fun hc => ?_) (fun hc => ?_) | refine x_neqT ?_ | refine x_neqF ?_ | refine x_neq (fun hc => ?_) (fun hc => ?_) | refine x_eqlB ?_ | refine x_eqlST ?_ | refine x_eqlSF ?_ | refine x_eqlS (fun hc => ?_) (fun hc => ?_) | refine x_eqlI ?_ | refine x_eqlN ?_ | refine x_neqB ?_ | refine x_neqST ?_ | refine x_neqSF ?_ | refine x_neqS (fun hc => ?_) (fun hc => ?_) | refine x_neqI ?_ | refine x_neqN ?_ | refine x_eqlA tb_ok ?_ | refine x_eqlAS tb_ok (fun hc => ?_) (fun hc => ?_) | refine x_neqA tb_ok ?_ | refine x_neqAS tb_ok (fun hc => ?_) (fun hc => ?_))
              | refine x_ret ?_
              | refine x_nor ?_
              | exact x_le)
          rfl
        · by_cases h4 : W.length = 60
          · rw [if_pos (.inr h4)]
            refine ACalls.nfd (r := .tup [zD, .int .i64 2]) ?_ rfl
            refine fun3 tb_ok Tryd.func7 rfl Tryd.ntmps7 Tryd.results7 rfl fun N => ?_
            repeat' (first
                | with_reducible first | refine awp_seq ?_ | refine awp_region ?_ | refine awp_draw mixed ?_ | refine then_n ?_ | refine awp_skip ?_ | refine awp_block ?_ | refine awp_exit ?_ | refine awp_ret ?_ | refine awp_label ?_ | refine then_exit ?_ | refine then_ret ?_ | refine blk_n ?_ | refine blk_ret ?_ | refine blk_exit ?_ | refine blk_other rfl ?_ | refine then_k ?_
                | refine awp_true rfl ?_
                | refine awp_false rfl ?_
                | refine awp_split rfl (fun hb => ?_) (fun hb => ?_)
                | (refine isR ?_; first | refine x_far [3] tb_ok rfl ?_ | refine r_nil ?_ | refine r_nild (by kernel_rfl) ?_ | refine x_call (c1 _) ?_ | refine x_call (c1) ?_ | refine x_bsO 3 tb_ok ?_ | refine x_bs tb_ok ?_ | refine x_lenF tb_ok ?_ | refine x_lenO tb_ok ?_ | refine x_lenN tb_ok ?_ | refine x_lenS ?_ | refine x_lssT ?_ | refine x_lssF ?_ | refine x_lss (fun hc => ?_) (fun hc => ?_) | refine x_gtrT ?_ | refine x_gtrF ?_ | refine x_gtr (fun hc => ?_) (fun hc => ?_) | refine x_geqT ?_ | refine x_geqF ?_ | refine x_geq (fun hc => ?_) (fun hc => ?_) | refine x_eqlT ?_ | refine x_eqlF ?_ | refine x_eql (fun hc => ?_) (fun hc => ?_) | refine x_neqT ?_ | refine x_neqF ?_ | refine x_neq (fun hc => ?_) (fun hc => ?_) | refine x_eqlB ?_ | refine x_eqlST ?_ | refine x_eqlSF ?_ | refine x_eqlS (fun hc => ?_) (fun hc => ?_) | refine x_eqlI ?_ | refine x_eqlN ?_ | refine x_neqB ?_ | refine x_neqST ?_ | refine x_neqSF ?_ | refine x_neqS (fun hc => ?_) (fun hc => ?_) | refine x_neqI ?_ | refine x_neqN ?_ | refine x_eqlA tb_ok ?_ | refine x_eqlAS tb_ok (fun hc => ?_) (fun hc => ?_) | refine x_neqA tb_ok ?_ | refine x_neqAS tb_ok (fun hc => ?_) (fun hc => ?_))
                | refine x_ret ?_
                | refine x_nor ?_
                | exact x_le)
            rfl
          · rw [if_neg (not_or.2 ⟨h3, h4⟩)]
            refine fun3 tb_ok Tryd.func7 rfl Tryd.ntmps7 Tryd.results7 rfl fun N => ?_
            repeat' (first
                | with_reducible first | refine awp_seq ?_ | refine awp_region ?_ | refine awp_draw mixed ?_ | refine then_n ?_ | refine awp_skip ?_ | refine awp_block ?_ | refine awp_exit ?_ | refine awp_ret ?_ | refine awp_label ?_ | refine then_exit ?_ | refine then_ret ?_ | refine blk_n ?_ | refine blk_ret ?_ | refine blk_exit ?_ | refine blk_other rfl ?_ | refine then_k ?_
                | refine awp_true rfl ?_
                | refine awp_false rfl ?_
                | refine awp_split rfl (fun hb => ?_) (fun hb => ?_)
                | (refine isR ?_; first | refine x_far [3] tb_ok rfl ?_ | refine r_nil ?_ | refine r_nild (by kernel_rfl) ?_ | refine x_call (c1 _) ?_ | refine x_call (c1) ?_ | refine x_m [] [2,3] (c2 _) ?_ | refine x_m0 [] [2,3] (c2 _) ?_ | refine x_m [] [2,3] (c2) ?_ | refine x_m0 [] [2,3] (c2) ?_ | refine x_app Put.v (a1 := (⟨p, s⟩)) tb_ok ?_ | refine x_bsO 3 tb_ok ?_ | refine x_bs tb_ok ?_ | refine x_lenF tb_ok ?_ | refine x_lenO tb_ok ?_ | refine x_lenN tb_ok ?_ | refine x_lenS ?_ | refine x_lssT ?_ | refine x_lssF ?_ | refine x_lss (fun hc => ?_) (fun hc => ?_) | refine x_gtrT ?_ | refine x_gtrF ?_ | refine x_gtr (fun hc => ?_) (fun hc => ?_) | refine x_geqT ?_ | refine x_geqF ?_ | refine x_geq (fun hc => ?_) (fun hc => ?_) | refine x_eqlT ?_ | refine x_eqlF ?_ | refine x_eql (fun hc => ?_) (fun hc => ?_) | refine x_neqT ?_ | refine x_neqF ?_ | refine x_neq (fun hc => ?_) (fun hc => ?_) | refine x_eqlB ?_ | refine x_eqlST ?_ | refine x_eqlSF ?_ | refine x_eqlS (fun hc => ?_) (fun hc => ?_) | refine x_eqlI ?_ | refine x_eqlN ?_ | refine x_neqB ?_ | refine x_neqST ?_ | refine x_neqSF ?_ | refine x_neqS (fun hc => ?_) (fun hc => ?_) | refine x_neqI ?_ | refine x_neqN ?_ | refine x_eqlA tb_ok ?_ | refine x_eqlAS tb_ok (fun hc => ?_) (fun hc => ?_) | refine x_neqA tb_ok ?_ | refine x_neqAS tb_ok (fun hc => ?_) (fun hc => ?_))
                | refine x_ret ?_
                | refine x_nor ?_
                | exact x_le)
            show V.tup [V.agg [V.fro (List.take K.length (List.drop 0 (K.map strT))), V.fro (List.take (W ++ [_]).length (List.drop 0 ((W ++ [_]).map Put.v)))], _] = _
            rw [full, full]
  · rw [if_pos h0]
    generalize checkF d = e at *
    obtain ⟨K, W⟩ := d
    refine ACalls.nfd (r := .tup [zD, .int .i64 e]) ?_ rfl
    have c1 : ACalls Tryd.prog 13 [.agg [.fro (K.map strT), .fro (W.map Put.v)]] (.int .i64 e) := c1
    show ACalls _ _ [.agg [.fro (K.map strT), .fro (W.map Put.v)], _, _] _
    refine fun3 tb_ok Tryd.func7 rfl Tryd.ntmps7 Tryd.results7 rfl fun N => ?_
    repeat' (first
        | with_reducible first | refine awp_seq ?_ | refine awp_region ?_ | refine awp_draw mixed ?_ | refine then_n ?_ | refine awp_skip ?_ | refine awp_block ?_ | refine awp_exit ?_ | refine awp_ret ?_ | refine awp_label ?_ | refine then_exit ?_ | refine then_ret ?_ | refine blk_n ?_ | refine blk_ret ?_ | refine blk_exit ?_ | refine blk_other rfl ?_ | refine then_k ?_
        | refine awp_true rfl ?_
        | refine awp_false rfl ?_
        | refine awp_split rfl (fun hb => ?_) (fun hb => ?_)
        | (refine isR ?_; first | refine x_far [3] tb_ok rfl ?_ | refine r_nil ?_ | refine r_nild (by kernel_rfl) ?_ | refine x_call (c1 _) ?_ | refine x_call (c1) ?_ | refine x_bsO 3 tb_ok ?_ | refine x_bs tb_ok ?_ | refine x_lenF tb_ok ?_ | refine x_lenO tb_ok ?_ | refine x_lenN tb_ok ?_ | refine x_lenS ?_ | refine x_lssT ?_ | refine x_lssF ?_ | refine x_lss (fun hc => ?_) (fun hc => ?_) | refine x_gtrT ?_ | refine x_gtrF ?_ | refine x_gtr (fun hc => ?_) (fun hc => ?_) | refine x_geqT ?_ | refine x_geqF ?_ | refine x_geq (fun hc => ?_) (fun hc => ?_) | refine x_eqlT ?_ | refine x_eqlF ?_ | refine x_eql (fun hc => ?_) (fun hc => ?_) | refine x_neqT ?_ | refine x_neqF ?_ | refine x_neq (fun hc => ?_) (fun hc => ?_) | refine x_eqlB ?_ | refine x_eqlST ?_ | refine x_eqlSF ?_ | refine x_eqlS (fun hc => ?_) (fun hc => ?_) | refine x_eqlI ?_ | refine x_eqlN ?_ | refine x_neqB ?_ | refine x_neqST ?_ | refine x_neqSF ?_ | refine x_neqS (fun hc => ?_) (fun hc => ?_) | refine x_neqI ?_ | refine x_neqN ?_ | refine x_eqlA tb_ok ?_ | refine x_eqlAS tb_ok (fun hc => ?_) (fun hc => ?_) | refine x_neqA tb_ok ?_ | refine x_neqAS tb_ok (fun hc => ?_) (fun hc => ?_))
        | refine x_ret ?_
        | refine x_nor ?_
        | exact x_le)
    rfl
set_option maxRecDepth 100000 in
set_option maxHeartbeats 4000000 in
theorem landed_v {d : Disk} {F : Nat} {caps : List Abs.V} {lands : Nat → Bool} (hF : hasBody Tryd.prog F = true) (hc : V.namesL caps = []) (h : ∀ i, i < 60 → ACalls Tryd.prog F ([] ++ [.int .i64 (i : Int)] ++ caps) (.bool (lands i))) : ACalls Tryd.prog 27 [d.v, .fn (.func F) [] caps] (.tup [(crashF d lands).1.v, .int .i64 (crashF d lands).2]) := by
  have c1 := check_v (d := d)
  unfold crashF
  by_cases h0 : checkF d = 0
  · rw [if_neg (by simpa using h0)]
    rw [h0] at c1
    obtain ⟨k1, k2, _, k4⟩ := check_ok.1 h0
    have c2 := cloneS_v (L := d.kept) (by omega)
    obtain ⟨K, W⟩ := d
    dsimp only at k1 k2 k4 c2 ⊢
    have hy : ((W.map Put.v).length : Int) = (W.length : Int) := by simp
    have c1 : ACalls Tryd.prog 13 [.agg [.fro (K.map strT), .fro (W.map Put.v)]] (.int .i64 0) := c1
    clear h0
    have hl := landF_len lands W 0 K
    generalize hT : landF lands 0 W K = T at *
    refine ACalls.nfd (r := .tup [.agg [.fro (T.map strT), .nils], .int .i64 0]) ?_ rfl
    show ACalls _ _ [.agg [.fro (K.map strT), .fro (W.map Put.v)], _] _
    refine fun2 tb_ok Tryd.func27 rfl Tryd.ntmps27 Tryd.results27 rfl fun N => ?_
    repeat' (first
        | with_reducible first | refine awp_seq ?_ | refine awp_region ?_ | refine awp_draw mixed ?_ | refine then_n ?_ | refine awp_skip ?_ | refine awp_block ?_ | refine awp_exit ?_ | refine awp_ret ?_ | refine awp_label ?_ | refine then_exit ?_ | refine then_ret ?_ | refine blk_n ?_ | refine blk_ret ?_ | refine blk_exit ?_ | refine blk_other rfl ?_ | refine then_k ?_
        | refine awp_true rfl ?_
        | refine awp_false rfl ?_
        | refine awp_split rfl (fun hb => ?_) (fun hb => ?_)
        | (refine isR ?_; first | refine x_far [] tb_ok rfl ?_ | refine r_nil ?_ | refine r_nild (by kernel_rfl) ?_ | refine x_call (c1 _) ?_ | refine x_call (c1) ?_ | refine x_m [] [1] (c2 _) ?_ | refine x_m0 [] [1] (c2 _) ?_ | refine x_m [] [1] (c2) ?_ | refine x_m0 [] [1] (c2) ?_ | refine x_addE ?_ | refine x_add ?_ | refine x_cat ?_ | refine x_lenF tb_ok ?_ | refine x_lenO tb_ok ?_ | refine x_lenN tb_ok ?_ | refine x_lenS ?_ | refine x_lssT ?_ | refine x_lssF ?_ | refine x_lss (fun hc => ?_) (fun hc => ?_) | refine x_neqT ?_ | refine x_neqF ?_ | refine x_neq (fun hc => ?_) (fun hc => ?_) | refine x_neqB ?_ | refine x_neqST ?_ | refine x_neqSF ?_ | refine x_neqS (fun hc => ?_) (fun hc => ?_) | refine x_neqI ?_ | refine x_neqN ?_ | refine x_iaF tb_ok ?_ | refine x_iaO tb_ok ?_ | refine x_iaA tb_ok ?_ | refine x_iaAF tb_ok ?_ | refine x_neqA tb_ok ?_ | refine x_neqAS tb_ok (fun hc => ?_) (fun hc => ?_))
        | refine x_ret ?_
        | refine x_nor ?_
        | exact x_le)
    refine awp_while (α := Nat × List (List UInt8)) (fun x => ⟨[(1, .fn (.func F) [] caps), (4, .loc 0 0 0), (7, .own 1 0 K.length), (20, .fro (W.map Put.v)), (21, .int .i64 (W.map Put.v).length), (22, .int .i64 (x.1 : Int))], [(0, some (.els TD 2 [zD])), (1, some (rowS x.2))], 2, 39⟩) (fun x => x.1 ≤ W.length ∧ x.2.length = K.length ∧ landF lands x.1 (W.drop x.1) x.2 = T) (fun x => W.length - x.1) (0, K) (by exact x_le) ⟨Nat.zero_le _, rfl, hT⟩ ?_
    rintro ⟨k, L⟩ ⟨g1, g2, g3⟩
    dsimp only at g1 g2 g3 ⊢
    by_cases hk : k < W.length
    · have e1 : (W.map Put.v)[k]? = some (W[k]).v := by simp [hk]
      have e2 := k4 W[k] (List.getElem_mem hk)
      rw [List.drop_eq_getElem_cons hk, landF] at g3
      generalize W[k] = w at *
      have c3 := h k (by omega)
      cases hl2 : lands k with
      | true =>
        rw [hl2] at c3
        rw [if_pos hl2] at g3
        obtain ⟨z, hz⟩ : ∃ z, L[w.pos.toNat]? = some z := ⟨_, List.getElem?_eq_getElem (by omega)⟩
        repeat' (first
            | with_reducible first | refine awp_seq ?_ | refine awp_region ?_ | refine awp_draw mixed ?_ | refine then_n ?_ | refine awp_skip ?_ | refine awp_block ?_ | refine awp_exit ?_ | refine awp_ret ?_ | refine awp_label ?_ | refine then_exit ?_ | refine then_ret ?_ | refine blk_n ?_ | refine blk_ret ?_ | refine blk_exit ?_ | refine blk_other rfl ?_ | refine then_k ?_
            | refine awp_true rfl ?_
            | refine awp_false rfl ?_
            | refine awp_split rfl (fun hb => ?_) (fun hb => ?_)
            | (refine isR ?_; first | refine x_far [] tb_ok rfl ?_ | refine r_nil ?_ | refine r_nild (by kernel_rfl) ?_ | refine x_callv (c3 _) ?_ | refine x_callv (c3) ?_ | refine x_stI strT (a1 := w.text) w.pos.toNat tb_ok ?_ | refine x_addE ?_ | refine x_add ?_ | refine x_cat ?_ | refine x_lenF tb_ok ?_ | refine x_lenO tb_ok ?_ | refine x_lenN tb_ok ?_ | refine x_lenS ?_ | refine x_lssT ?_ | refine x_lssF ?_ | refine x_lss (fun hc => ?_) (fun hc => ?_) | refine x_neqT ?_ | refine x_neqF ?_ | refine x_neq (fun hc => ?_) (fun hc => ?_) | refine x_neqB ?_ | refine x_neqST ?_ | refine x_neqSF ?_ | refine x_neqS (fun hc => ?_) (fun hc => ?_) | refine x_neqI ?_ | refine x_neqN ?_ | refine x_iaF tb_ok ?_ | refine x_iaO tb_ok ?_ | refine x_iaA tb_ok ?_ | refine x_iaAF tb_ok ?_ | refine x_neqA tb_ok ?_ | refine x_neqAS tb_ok (fun hc => ?_) (fun hc => ?_))
            | refine x_ret ?_
            | refine x_nor ?_
            | exact x_le)
        refine ⟨(k + 1, L.set w.pos.toNat w.text), ⟨by dsimp only; omega, by simp [g2], g3⟩, by dsimp only; omega, ?_⟩
        exact (by exact x_le)
      | false =>
        rw [hl2] at c3
        rw [if_neg (by simp [hl2])] at g3
        repeat' (first
            | with_reducible first | refine awp_seq ?_ | refine awp_region ?_ | refine awp_draw mixed ?_ | refine then_n ?_ | refine awp_skip ?_ | refine awp_block ?_ | refine awp_exit ?_ | refine awp_ret ?_ | refine awp_label ?_ | refine then_exit ?_ | refine then_ret ?_ | refine blk_n ?_ | refine blk_ret ?_ | refine blk_exit ?_ | refine blk_other rfl ?_ | refine then_k ?_
            | refine awp_true rfl ?_
            | refine awp_false rfl ?_
            | refine awp_split rfl (fun hb => ?_) (fun hb => ?_)
            | (refine isR ?_; first | refine x_far [] tb_ok rfl ?_ | refine r_nil ?_ | refine r_nild (by kernel_rfl) ?_ | refine x_callv (c3 _) ?_ | refine x_callv (c3) ?_ | refine x_addE ?_ | refine x_add ?_ | refine x_cat ?_ | refine x_lenF tb_ok ?_ | refine x_lenO tb_ok ?_ | refine x_lenN tb_ok ?_ | refine x_lenS ?_ | refine x_lssT ?_ | refine x_lssF ?_ | refine x_lss (fun hc => ?_) (fun hc => ?_) | refine x_neqT ?_ | refine x_neqF ?_ | refine x_neq (fun hc => ?_) (fun hc => ?_) | refine x_neqB ?_ | refine x_neqST ?_ | refine x_neqSF ?_ | refine x_neqS (fun hc => ?_) (fun hc => ?_) | refine x_neqI ?_ | refine x_neqN ?_ | refine x_iaF tb_ok ?_ | refine x_iaO tb_ok ?_ | refine x_iaA tb_ok ?_ | refine x_iaAF tb_ok ?_ | refine x_neqA tb_ok ?_ | refine x_neqAS tb_ok (fun hc => ?_) (fun hc => ?_))
            | refine x_ret ?_
            | refine x_nor ?_
            | exact x_le)
        refine ⟨(k + 1, L), ⟨by dsimp only; omega, g2, g3⟩, by dsimp only; omega, ?_⟩
        exact (by exact x_le)
    · rw [List.drop_eq_nil_of_le (by omega), landF] at g3
      subst g3
      rw [← g2]
      repeat' (first
          | with_reducible first | refine awp_seq ?_ | refine awp_region ?_ | refine awp_draw mixed ?_ | refine then_n ?_ | refine awp_skip ?_ | refine awp_block ?_ | refine awp_exit ?_ | refine awp_ret ?_ | refine awp_label ?_ | refine then_exit ?_ | refine then_ret ?_ | refine blk_n ?_ | refine blk_ret ?_ | refine blk_exit ?_ | refine blk_other rfl ?_ | refine then_k ?_
          | refine awp_true rfl ?_
          | refine awp_false rfl ?_
          | refine awp_split rfl (fun hb => ?_) (fun hb => ?_)
          | (refine isR ?_; first | refine x_far [] tb_ok rfl ?_ | refine r_nil ?_ | refine r_nild (by kernel_rfl) ?_ | refine x_addE ?_ | refine x_add ?_ | refine x_cat ?_ | refine x_lenF tb_ok ?_ | refine x_lenO tb_ok ?_ | refine x_lenN tb_ok ?_ | refine x_lenS ?_ | refine x_lssT ?_ | refine x_lssF ?_ | refine x_lss (fun hc => ?_) (fun hc => ?_) | refine x_neqT ?_ | refine x_neqF ?_ | refine x_neq (fun hc => ?_) (fun hc => ?_) | refine x_neqB ?_ | refine x_neqST ?_ | refine x_neqSF ?_ | refine x_neqS (fun hc => ?_) (fun hc => ?_) | refine x_neqI ?_ | refine x_neqN ?_ | refine x_iaF tb_ok ?_ | refine x_iaO tb_ok ?_ | refine x_iaA tb_ok ?_ | refine x_iaAF tb_ok ?_ | refine x_neqA tb_ok ?_ | refine x_neqAS tb_ok (fun hc => ?_) (fun hc => ?_))
          | refine x_ret ?_
          | refine x_nor ?_
          | exact x_le)
      show V.tup [V.agg [V.fro (List.take L.length (List.drop 0 (L.map strT))), _], _] = _
      rw [full]
      rfl
  · rw [if_pos h0]
    generalize checkF d = e at *
    obtain ⟨K, W⟩ := d
    refine ACalls.nfd (r := .tup [zD, .int .i64 e]) ?_ rfl
    have c1 : ACalls Tryd.prog 13 [.agg [.fro (K.map strT), .fro (W.map Put.v)]] (.int .i64 e) := c1
    show ACalls _ _ [.agg [.fro (K.map strT), .fro (W.map Put.v)], _] _
    refine fun2 tb_ok Tryd.func27 rfl Tryd.ntmps27 Tryd.results27 rfl fun N => ?_
    repeat' (first
        | with_reducible first | refine awp_seq ?_ | refine awp_region ?_ | refine awp_draw mixed ?_ | refine then_n ?_ | refine awp_skip ?_ | refine awp_block ?_ | refine awp_exit ?_ | refine awp_ret ?_ | refine awp_label ?_ | refine then_exit ?_ | refine then_ret ?_ | refine blk_n ?_ | refine blk_ret ?_ | refine blk_exit ?_ | refine blk_other rfl ?_ | refine then_k ?_
        | refine awp_true rfl ?_
        | refine awp_false rfl ?_
        | refine awp_split rfl (fun hb => ?_) (fun hb => ?_)
        | (refine isR ?_; first | refine x_far [] tb_ok rfl ?_ | refine r_nil ?_ | refine r_nild (by kernel_rfl) ?_ | refine x_call (c1 _) ?_ | refine x_call (c1) ?_ | refine x_addE ?_ | refine x_add ?_ | refine x_cat ?_ | refine x_lenF tb_ok ?_ | refine x_lenO tb_ok ?_ | refine x_lenN tb_ok ?_ | refine x_lenS ?_ | refine x_lssT ?_ | refine x_lssF ?_ | refine x_lss (fun hc => ?_) (fun hc => ?_) | refine x_neqT ?_ | refine x_neqF ?_ | refine x_neq (fun hc => ?_) (fun hc => ?_) | refine x_neqB ?_ | refine x_neqST ?_ | refine x_neqSF ?_ | refine x_neqS (fun hc => ?_) (fun hc => ?_) | refine x_neqI ?_ | refine x_neqN ?_ | refine x_iaF tb_ok ?_ | refine x_iaO tb_ok ?_ | refine x_iaA tb_ok ?_ | refine x_iaAF tb_ok ?_ | refine x_neqA tb_ok ?_ | refine x_neqAS tb_ok (fun hc => ?_) (fun hc => ?_))
        | refine x_ret ?_
        | refine x_nor ?_
        | exact x_le)
    rfl
set_option maxRecDepth 100000 in
set_option maxHeartbeats 4000000 in
theorem flush1_v {i : Int} : ACalls Tryd.prog 28 [.int .i64 i] (.bool true) := by
  refine fun1 tb_ok Tryd.func28 rfl Tryd.ntmps28 Tryd.results28 rfl fun N => ?_
  repeat' (first
      | with_reducible first | refine awp_seq ?_ | refine awp_region ?_ | refine awp_draw mixed ?_ | refine then_n ?_ | refine awp_skip ?_ | refine awp_block ?_ | refine awp_exit ?_ | refine awp_ret ?_ | refine awp_label ?_ | refine then_exit ?_ | refine then_ret ?_ | refine blk_n ?_ | refine blk_ret ?_ | refine blk_exit ?_ | refine blk_other rfl ?_ | refine then_k ?_
      | refine awp_true rfl ?_
      | refine awp_false rfl ?_
      | refine awp_split rfl (fun hb => ?_) (fun hb => ?_)
      | (refine isR ?_; first | refine x_far [] tb_ok rfl ?_ | refine r_nil ?_ | refine r_nild (by kernel_rfl) ?_)
      | refine x_ret ?_
      | refine x_nor ?_
      | exact x_le)
  rfl
def bitF (m : Nat) (i : Nat) : Bool := decide (m / 2 ^ i % 2 = 1)
set_option maxRecDepth 100000 in
set_option maxHeartbeats 4000000 in
theorem crash1_v {m i : Nat} (hm : m < 18446744073709551616) (hi : i < 60) : ACalls Tryd.prog 29 [.int .i64 (i : Int), .fp [.int .u64 (m : Int)] 0] (.bool (bitF m i)) := by
  have h1 : i ≤ IntKind.u64.bits := by show i ≤ 64; omega
  have h2 : ((m : Int)).fdiv (2 ^ i) = ((m / 2 ^ i : Nat) : Int) := by
    have : ((2 : Int) ^ i) = ((2 ^ i : Nat) : Int) := by simp
    rw [this, Int.fdiv_eq_ediv_of_nonneg _ (Int.natCast_nonneg _)]
    exact (Int.natCast_ediv m (2 ^ i)).symm
  have h3 : m / 2 ^ i < 18446744073709551616 := Nat.lt_of_le_of_lt (Nat.div_le_self _ _) hm
  unfold bitF
  generalize m / 2 ^ i = q at *
  have h4 : InR .u64 (q : Int) := ⟨by simp only [rng]; omega, by simp only [rng]; omega⟩
  by_cases hq : q % 2 = 1
  · rw [decide_eq_true hq]
    refine fun2 tb_ok Tryd.func29 rfl Tryd.ntmps29 Tryd.results29 rfl fun N => ?_
    repeat' (first
        | with_reducible first | refine awp_seq ?_ | refine awp_region ?_ | refine awp_draw mixed ?_ | refine then_n ?_ | refine awp_skip ?_ | refine awp_block ?_ | refine awp_exit ?_ | refine awp_ret ?_ | refine awp_label ?_ | refine then_exit ?_ | refine then_ret ?_ | refine blk_n ?_ | refine blk_ret ?_ | refine blk_exit ?_ | refine blk_other rfl ?_ | refine then_k ?_
        | refine awp_true rfl ?_
        | refine awp_false rfl ?_
        | refine awp_split rfl (fun hb => ?_) (fun hb => ?_)
        | (refine isR ?_; first | refine x_far [] tb_ok rfl ?_ | refine r_nil ?_ | refine r_nild (by kernel_rfl) ?_ | refine x_shrN i ?_ | refine x_and1 ?_ | refine x_eqlT ?_ | refine x_eqlF ?_ | refine x_eql (fun hc => ?_) (fun hc => ?_) | refine x_eqlB ?_ | refine x_eqlST ?_ | refine x_eqlSF ?_ | refine x_eqlS (fun hc => ?_) (fun hc => ?_) | refine x_eqlI ?_ | refine x_eqlN ?_ | refine x_eqlA tb_ok ?_ | refine x_eqlAS tb_ok (fun hc => ?_) (fun hc => ?_))
        | refine x_ret ?_
        | refine x_nor ?_
        | exact x_le)
    rfl
  · rw [decide_eq_false hq]
    refine fun2 tb_ok Tryd.func29 rfl Tryd.ntmps29 Tryd.results29 rfl fun N => ?_
    repeat' (first
        | with_reducible first | refine awp_seq ?_ | refine awp_region ?_ | refine awp_draw mixed ?_ | refine then_n ?_ | refine awp_skip ?_ | refine awp_block ?_ | refine awp_exit ?_ | refine awp_ret ?_ | refine awp_label ?_ | refine then_exit ?_ | refine then_ret ?_ | refine blk_n ?_ | refine blk_ret ?_ | refine blk_exit ?_ | refine blk_other rfl ?_ | refine then_k ?_
        | refine awp_true rfl ?_
        | refine awp_false rfl ?_
        | refine awp_split rfl (fun hb => ?_) (fun hb => ?_)
        | (refine isR ?_; first | refine x_far [] tb_ok rfl ?_ | refine r_nil ?_ | refine r_nild (by kernel_rfl) ?_ | refine x_shrN i ?_ | refine x_and1 ?_ | refine x_eqlT ?_ | refine x_eqlF ?_ | refine x_eql (fun hc => ?_) (fun hc => ?_) | refine x_eqlB ?_ | refine x_eqlST ?_ | refine x_eqlSF ?_ | refine x_eqlS (fun hc => ?_) (fun hc => ?_) | refine x_eqlI ?_ | refine x_eqlN ?_ | refine x_eqlA tb_ok ?_ | refine x_eqlAS tb_ok (fun hc => ?_) (fun hc => ?_))
        | refine x_ret ?_
        | refine x_nor ?_
        | exact x_le)
    rfl
set_option maxRecDepth 100000 in
set_option maxHeartbeats 4000000 in
theorem flush_v {d : Disk} : ACalls Tryd.prog 8 [d.v] (.tup [(crashF d fun _ => true).1.v, .int .i64 (crashF d fun _ => true).2]) := by
  have c1 := landed_v (d := d) (F := 28) (caps := []) (lands := fun _ => true) (by kernel_rfl) rfl (fun i _ => flush1_v)
  generalize crashF d (fun _ => true) = r at *
  obtain ⟨⟨K2, W2⟩, e⟩ := r
  obtain ⟨K, W⟩ := d
  have c1 : ACalls Tryd.prog 27 [.agg [.fro (K.map strT), .fro (W.map Put.v)], .fn (.func 28) [] []] (.tup [.agg [.fro (K2.map strT), .fro (W2.map Put.v)], .int .i64 e]) := c1
  show ACalls _ _ [.agg [.fro (K.map strT), .fro (W.map Put.v)]] (.tup [.agg [.fro (K2.map strT), .fro (W2.map Put.v)], .int .i64 e])
  refine fun1 tb_ok Tryd.func8 rfl Tryd.ntmps8 Tryd.results8 rfl fun N => ?_
  repeat' (first
      | with_reducible first | refine awp_seq ?_ | refine awp_region ?_ | refine awp_draw mixed ?_ | refine then_n ?_ | refine awp_skip ?_ | refine awp_block ?_ | refine awp_exit ?_ | refine awp_ret ?_ | refine awp_label ?_ | refine then_exit ?_ | refine then_ret ?_ | refine blk_n ?_ | refine blk_ret ?_ | refine blk_exit ?_ | refine blk_other rfl ?_ | refine then_k ?_
      | refine awp_true rfl ?_
      | refine awp_false rfl ?_
      | refine awp_split rfl (fun hb => ?_) (fun hb => ?_)
      | (refine isR ?_; first | refine x_far [] tb_ok rfl ?_ | refine r_nil ?_ | refine r_nild (by kernel_rfl) ?_ | refine x_call (c1 _) ?_ | refine x_call (c1) ?_)
      | refine x_ret ?_
      | refine x_nor ?_
      | exact x_le)
  rfl
set_option maxRecDepth 100000 in
set_option maxHeartbeats 4000000 in
theorem crash_v {d : Disk} {m : Nat} (hm : m < 18446744073709551616) : ACalls Tryd.prog 9 [d.v, .int .u64 (m : Int)] (.tup [(crashF d (bitF m)).1.v, .int .i64 (crashF d (bitF m)).2]) := by
  have c1 := landed_v (d := d) (F := 29) (caps := [.fp [.int .u64 (m : Int)] 0]) (lands := bitF m) (by kernel_rfl) rfl (fun i hi => crash1_v hm hi)
  generalize crashF d (bitF m) = r at *
  obtain ⟨⟨K2, W2⟩, e⟩ := r
  obtain ⟨K, W⟩ := d
  have c1 : ACalls Tryd.prog 27 [.agg [.fro (K.map strT), .fro (W.map Put.v)], .fn (.func 29) [] [.fp [.int .u64 (m : Int)] 0]] (.tup [.agg [.fro (K2.map strT), .fro (W2.map Put.v)], .int .i64 e]) := c1
  show ACalls _ _ [.agg [.fro (K.map strT), .fro (W.map Put.v)], _] (.tup [.agg [.fro (K2.map strT), .fro (W2.map Put.v)], .int .i64 e])
  refine fun2 tb_ok Tryd.func9 rfl Tryd.ntmps9 Tryd.results9 rfl fun N => ?_
  repeat' (first
      | with_reducible first | refine awp_seq ?_ | refine awp_region ?_ | refine awp_draw mixed ?_ | refine then_n ?_ | refine awp_skip ?_ | refine awp_block ?_ | refine awp_exit ?_ | refine awp_ret ?_ | refine awp_label ?_ | refine then_exit ?_ | refine then_ret ?_ | refine blk_n ?_ | refine blk_ret ?_ | refine blk_exit ?_ | refine blk_other rfl ?_ | refine then_k ?_
      | refine awp_true rfl ?_
      | refine awp_false rfl ?_
      | refine awp_split rfl (fun hb => ?_) (fun hb => ?_)
      | (refine isR ?_; first | refine x_far [] tb_ok rfl ?_ | refine r_nil ?_ | refine r_nild (by kernel_rfl) ?_ | refine x_call (c1 _) ?_ | refine x_call (c1) ?_)
      | refine x_ret ?_
      | refine x_nor ?_
      | exact x_le)
  rfl
end Go.Proofs.YtdimidhacccdjaaDoor.DiskB
