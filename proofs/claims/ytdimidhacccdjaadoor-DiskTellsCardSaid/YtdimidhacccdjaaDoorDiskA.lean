/- Disks: the walks of Check, Write, Flush, Crash. -/
import Derived.Test.YtdimidhacccdjaaDoorDiskP
import Derived.Test.YtdimidhacccdjaaDoorFnS
import Derived.Test.YtdimidhacccdjaaDoorAbsZ
import Derived.Test.YtdimidhacccdjaaDoorGive
import Derived.Lib.SliceRun
namespace Go.Proofs.YtdimidhacccdjaaDoor.Abs
open Go.RowKit Mem Facts
section
variable {P : Program} {tb : List Ty} {N : Env} {Q : Exit → S → Prop} {s : S}
theorem fro_slice2 {X A : Nat → Prop} {φ : Nat → Pl} {w : World} {xs : List V} {v : Value} (h : Rep X A φ w (.fro xs) v) : ∃ a n c, v = .slice a n c ∧ (a = none → xs = []) := by
  cases h with
  | fz h => cases h with
    | fro0 h => exact ⟨_, _, _, rfl, fun _ => rfl⟩
    | fro c h1 => exact ⟨_, _, _, rfl, fun h => by cases h⟩
/-- Is a frozen slice nil? It may be, if it is empty. -/
theorem awp_nilq {id d1 d2 T el : Nat} {T' : TypeId} {x : Operand} {o1 o2 : Oper} {xs : List V} {e : Ty} (htb : TbOk P tb) (k : ∀ b, (b = true → xs = []) → Q .normal ⟨(d2, .bool b) :: (d1, .fro xs) :: s.tm, s.st, s.nx, s.nt⟩)
    (ho1 : o1.op = .move x := by rfl) (hx : s.ev x = some (.fro xs) := by rfl) (hg1 : o1.guard = none := by rfl) (hd1 : o1.dst = some d1 := by rfl) (l1 : Nat.blt d1 s.nt = true := by rfl)
    (ho2 : o2.op = .binOp .eql T (.tmp d1) (.const (.slice none 0 0)) T' := by rfl) (hg2 : o2.guard = none := by rfl) (hd2 : o2.dst = some d2 := by rfl) (l2 : Nat.blt d2 s.nt = true := by rfl)
    (hT : nth tb T = some e := by rfl) (hs : e.sl = some el := by rfl) : AWp P N (.region id #[o1, o2] false) Q s := fun M φ a w hr => by
  refine wp_region_lit (l := [o1, o2]) (wpList_step fun K hK => ?_)
  rw [if_pos (guard_wanted (s := s) (b := true) (by unfold guardV; rw [hg1]) hr)]
  have hv := hr.ev hx
  have r1 : (execOp a.eval o1).run P w = .ok (.value (a.eval x)) w := by unfold execOp; simp only [ho1]; rfl
  unfold Oper.wp
  rw [r1]
  refine hK _ _ (wpList_step fun K2 hK2 => ?_)
  have hr1 : Rel N M (· < s.nx) φ (s.eff o1.dst (.fro xs) [] s.nx) (a.put o1.dst (a.eval x)) w := rel_dst hr hv fun d h => by rw [hd1] at h; cases h; exact blt_lt l1
  rw [if_pos (guard_wanted (s := s.eff o1.dst (.fro xs) [] s.nx) (b := true) (by unfold guardV; rw [hg2]) hr1)]
  have hv1 : Rep (fun b => M b ∨ N b) (· < s.nx) φ w (.fro xs) ((a.put o1.dst (a.eval x)).eval (.tmp d1)) := hr1.ev (by rw [hd1]; simp [S.ev, S.eff, lk])
  obtain ⟨A, n, c, he, hA⟩ := fro_slice2 hv1
  obtain ⟨ti, d, ht⟩ := ty_at htb hT
  have r2 : (execOp (a.put o1.dst (a.eval x)).eval o2).run P w = .ok (.value (.bool A.isNone)) w := by
    have hq := Lib.run_eql_slice_nil (P := P) w T el A n c 0 0 (slOf_und ht hs)
    have hc : (a.put o1.dst (a.eval x)).eval (.const (.slice none 0 0)) = .slice none 0 0 := rfl
    unfold execOp
    simp only [ho2, he, hc, eqGuard]
    simp only [Sem.run_bind, Bool.not_true, Bool.false_eq_true, if_false, Sem.run_pure, Result.andThen_ok, hq]
  unfold Oper.wp
  rw [r2]
  refine hK2 _ _ (wpList_nil ⟨M, φ, _, .refl _ w, fun _ _ h => h, ?_, k A.isNone fun h => hA (by simpa using h)⟩)
  have hr2 := rel_dst hr1 (dst := o2.dst) (v := .bool A.isNone) (x := .bool A.isNone) (nx := s.nx) (.fz .bool) fun d h => by rw [hd2] at h; cases h; exact blt_lt l2
  exact hr2.as (fun t => by rw [hd1, hd2]; rfl) (fun _ => rfl) rfl
end
end Go.Proofs.YtdimidhacccdjaaDoor.Abs
namespace Go.Proofs.YtdimidhacccdjaaDoor.DiskA
open Go.RowKit Mem Abs DiskP FnS

abbrev TS : Nat := 9
abbrev TP : Nat := 47
abbrev rowS (K : List (List UInt8)) : Blk := .els TS 1 (K.map strT)
abbrev rowP (W : List Put) : Blk := .els TP 2 (W.map Put.v)
theorem disk_lim {d : Disk} {r : List Abs.V} (h : V.LimL (d.v :: r)) : d.kept.length ≤ 140737488355328 ∧ d.wait.length ≤ 140737488355328 := by
  have h := h.1
  simp only [V.Lim, V.LimL] at h
  have h1 := h.1.1
  have h2 := h.2.1.1
  simp only [List.length_map] at h1 h2
  exact ⟨h1, h2⟩
set_option maxRecDepth 100000 in
set_option maxHeartbeats 4000000 in
theorem check1_v {s : List UInt8} : ACalls Tryd.prog 31 [strT s] (.bool (longB s)) := by
  unfold longB
  by_cases h : 20000 < s.length
  · rw [decide_eq_true h]
    refine fun1 tb_ok Tryd.func31 rfl Tryd.ntmps31 Tryd.results31 rfl fun N => ?_
    repeat' (first
        | with_reducible first | refine awp_seq ?_ | refine awp_region ?_ | refine awp_draw mixed ?_ | refine then_n ?_ | refine awp_skip ?_ | refine awp_block ?_ | refine awp_exit ?_ | refine awp_ret ?_ | refine awp_label ?_ | refine then_exit ?_ | refine then_ret ?_ | refine blk_n ?_ | refine blk_ret ?_ | refine blk_exit ?_ | refine blk_other rfl ?_ | refine then_k ?_
        | refine awp_true rfl ?_
        | refine awp_false rfl ?_
        | refine awp_split rfl (fun hb => ?_) (fun hb => ?_)
        | (refine isR ?_; first | refine x_far [] tb_ok rfl ?_ | refine r_nil ?_ | refine r_nild (by kernel_rfl) ?_ | refine x_lenF tb_ok ?_ | refine x_lenO tb_ok ?_ | refine x_lenN tb_ok ?_ | refine x_lenS ?_ | refine x_gtrT ?_ | refine x_gtrF ?_ | refine x_gtr (fun hc => ?_) (fun hc => ?_))
        | refine x_ret ?_
        | refine x_nor ?_
        | exact x_le)
    rfl
  · rw [decide_eq_false h]
    refine fun1 tb_ok Tryd.func31 rfl Tryd.ntmps31 Tryd.results31 rfl fun N => ?_
    repeat' (first
        | with_reducible first | refine awp_seq ?_ | refine awp_region ?_ | refine awp_draw mixed ?_ | refine then_n ?_ | refine awp_skip ?_ | refine awp_block ?_ | refine awp_exit ?_ | refine awp_ret ?_ | refine awp_label ?_ | refine then_exit ?_ | refine then_ret ?_ | refine blk_n ?_ | refine blk_ret ?_ | refine blk_exit ?_ | refine blk_other rfl ?_ | refine then_k ?_
        | refine awp_true rfl ?_
        | refine awp_false rfl ?_
        | refine awp_split rfl (fun hb => ?_) (fun hb => ?_)
        | (refine isR ?_; first | refine x_far [] tb_ok rfl ?_ | refine r_nil ?_ | refine r_nild (by kernel_rfl) ?_ | refine x_lenF tb_ok ?_ | refine x_lenO tb_ok ?_ | refine x_lenN tb_ok ?_ | refine x_lenS ?_ | refine x_gtrT ?_ | refine x_gtrF ?_ | refine x_gtr (fun hc => ?_) (fun hc => ?_))
        | refine x_ret ?_
        | refine x_nor ?_
        | exact x_le)
    rfl
set_option maxRecDepth 100000 in
set_option maxHeartbeats 4000000 in
theorem check_v {d : Disk} : ACalls Tryd.prog 13 [d.v] (.int .i64 (checkF d)) := ACalls.lim fun hl => by
  obtain ⟨l1, l2⟩ := disk_lim hl
  obtain ⟨K, W⟩ := d
  dsimp only at l1 l2
  show ACalls _ _ [.agg [.fro (K.map strT), .fro (W.map Put.v)]] _
  have c1 := fun gl => contains_s (gl := gl) (g := 31) (caps := []) (p := longB) (l := K) (by kernel_rfl) rfl (by simp only [LIM]; omega) (fun c _ => check1_v gl)
  have hx : ((K.map strT).length : Int) = (K.length : Int) := by simp
  have hy : ((W.map Put.v).length : Int) = (W.length : Int) := by simp
  unfold checkF
  dsimp only
  by_cases h1 : 40 < K.length
  · rw [if_pos (.inl h1)]
    refine fun1 tb_ok Tryd.func13 rfl Tryd.ntmps13 Tryd.results13 rfl fun N => ?_
    repeat' (first
        | with_reducible first | refine awp_seq ?_ | refine awp_region ?_ | refine awp_draw mixed ?_ | refine then_n ?_ | refine awp_skip ?_ | refine awp_block ?_ | refine awp_exit ?_ | refine awp_ret ?_ | refine awp_label ?_ | refine then_exit ?_ | refine then_ret ?_ | refine blk_n ?_ | refine blk_ret ?_ | refine blk_exit ?_ | refine blk_other rfl ?_ | refine then_k ?_
        | refine awp_true rfl ?_
        | refine awp_false rfl ?_
        | refine awp_split rfl (fun hb => ?_) (fun hb => ?_)
        | (refine isR ?_; first | refine x_far [] tb_ok rfl ?_ | refine r_nil ?_ | refine r_nild (by kernel_rfl) ?_ | refine x_addE ?_ | refine x_add ?_ | refine x_cat ?_ | refine x_lenF tb_ok ?_ | refine x_lenO tb_ok ?_ | refine x_lenN tb_ok ?_ | refine x_lenS ?_ | refine x_lssT ?_ | refine x_lssF ?_ | refine x_lss (fun hc => ?_) (fun hc => ?_) | refine x_gtrT ?_ | refine x_gtrF ?_ | refine x_gtr (fun hc => ?_) (fun hc => ?_) | refine x_geqT ?_ | refine x_geqF ?_ | refine x_geq (fun hc => ?_) (fun hc => ?_) | refine x_iaF tb_ok ?_ | refine x_iaO tb_ok ?_ | refine x_iaA tb_ok ?_ | refine x_iaAF tb_ok ?_)
        | refine x_ret ?_
        | refine x_nor ?_
        | exact x_le)
    rfl
  · by_cases h2 : 60 < W.length
    · rw [if_pos (.inr (.inl h2))]
      refine fun1 tb_ok Tryd.func13 rfl Tryd.ntmps13 Tryd.results13 rfl fun N => ?_
      repeat' (first
          | with_reducible first | refine awp_seq ?_ | refine awp_region ?_ | refine awp_draw mixed ?_ | refine then_n ?_ | refine awp_skip ?_ | refine awp_block ?_ | refine awp_exit ?_ | refine awp_ret ?_ | refine awp_label ?_ | refine then_exit ?_ | refine then_ret ?_ | refine blk_n ?_ | refine blk_ret ?_ | refine blk_exit ?_ | refine blk_other rfl ?_ | refine then_k ?_
          | refine awp_true rfl ?_
          | refine awp_false rfl ?_
          | refine awp_split rfl (fun hb => ?_) (fun hb => ?_)
          | (refine isR ?_; first | refine x_far [] tb_ok rfl ?_ | refine r_nil ?_ | refine r_nild (by kernel_rfl) ?_ | refine x_addE ?_ | refine x_add ?_ | refine x_cat ?_ | refine x_lenF tb_ok ?_ | refine x_lenO tb_ok ?_ | refine x_lenN tb_ok ?_ | refine x_lenS ?_ | refine x_lssT ?_ | refine x_lssF ?_ | refine x_lss (fun hc => ?_) (fun hc => ?_) | refine x_gtrT ?_ | refine x_gtrF ?_ | refine x_gtr (fun hc => ?_) (fun hc => ?_) | refine x_geqT ?_ | refine x_geqF ?_ | refine x_geq (fun hc => ?_) (fun hc => ?_) | refine x_iaF tb_ok ?_ | refine x_iaO tb_ok ?_ | refine x_iaA tb_ok ?_ | refine x_iaAF tb_ok ?_)
          | refine x_ret ?_
          | refine x_nor ?_
          | exact x_le)
      rfl
    · cases h3 : K.any longB with
      | true =>
        rw [if_pos (.inr (.inr rfl))]
        rw [h3] at c1
        refine fun1 tb_ok Tryd.func13 rfl Tryd.ntmps13 Tryd.results13 rfl fun N => ?_
        repeat' (first
            | with_reducible first | refine awp_seq ?_ | refine awp_region ?_ | refine awp_draw mixed ?_ | refine then_n ?_ | refine awp_skip ?_ | refine awp_block ?_ | refine awp_exit ?_ | refine awp_ret ?_ | refine awp_label ?_ | refine then_exit ?_ | refine then_ret ?_ | refine blk_n ?_ | refine blk_ret ?_ | refine blk_exit ?_ | refine blk_other rfl ?_ | refine then_k ?_
            | refine awp_true rfl ?_
            | refine awp_false rfl ?_
            | refine awp_split rfl (fun hb => ?_) (fun hb => ?_)
            | (refine isR ?_; first | refine x_far [] tb_ok rfl ?_ | refine r_nil ?_ | refine r_nild (by kernel_rfl) ?_ | refine x_call (c1 _) ?_ | refine x_call (c1) ?_ | refine x_addE ?_ | refine x_add ?_ | refine x_cat ?_ | refine x_lenF tb_ok ?_ | refine x_lenO tb_ok ?_ | refine x_lenN tb_ok ?_ | refine x_lenS ?_ | refine x_lssT ?_ | refine x_lssF ?_ | refine x_lss (fun hc => ?_) (fun hc => ?_) | refine x_gtrT ?_ | refine x_gtrF ?_ | refine x_gtr (fun hc => ?_) (fun hc => ?_) | refine x_geqT ?_ | refine x_geqF ?_ | refine x_geq (fun hc => ?_) (fun hc => ?_) | refine x_iaF tb_ok ?_ | refine x_iaO tb_ok ?_ | refine x_iaA tb_ok ?_ | refine x_iaAF tb_ok ?_)
            | refine x_ret ?_
            | refine x_nor ?_
            | exact x_le)
        rfl
      | false =>
        rw [if_neg (by simp; omega)]
        rw [h3] at c1
        refine fun1 tb_ok Tryd.func13 rfl Tryd.ntmps13 Tryd.results13 rfl fun N => ?_
        repeat' (first
            | with_reducible first | refine awp_seq ?_ | refine awp_region ?_ | refine awp_draw mixed ?_ | refine then_n ?_ | refine awp_skip ?_ | refine awp_block ?_ | refine awp_exit ?_ | refine awp_ret ?_ | refine awp_label ?_ | refine then_exit ?_ | refine then_ret ?_ | refine blk_n ?_ | refine blk_ret ?_ | refine blk_exit ?_ | refine blk_other rfl ?_ | refine then_k ?_
            | refine awp_true rfl ?_
            | refine awp_false rfl ?_
            | refine awp_split rfl (fun hb => ?_) (fun hb => ?_)
            | (refine isR ?_; first | refine x_far [] tb_ok rfl ?_ | refine r_nil ?_ | refine r_nild (by kernel_rfl) ?_ | refine x_call (c1 _) ?_ | refine x_call (c1) ?_ | refine x_addE ?_ | refine x_add ?_ | refine x_cat ?_ | refine x_lenF tb_ok ?_ | refine x_lenO tb_ok ?_ | refine x_lenN tb_ok ?_ | refine x_lenS ?_ | refine x_lssT ?_ | refine x_lssF ?_ | refine x_lss (fun hc => ?_) (fun hc => ?_) | refine x_gtrT ?_ | refine x_gtrF ?_ | refine x_gtr (fun hc => ?_) (fun hc => ?_) | refine x_geqT ?_ | refine x_geqF ?_ | refine x_geq (fun hc => ?_) (fun hc => ?_) | refine x_iaF tb_ok ?_ | refine x_iaO tb_ok ?_ | refine x_iaA tb_ok ?_ | refine x_iaAF tb_ok ?_)
            | refine x_ret ?_
            | refine x_nor ?_
            | exact x_le)
        clear c1 h3
        refine awp_for (fun k => ⟨[(1, .fp [.fro (K.map strT), .fro (W.map Put.v)] 0), (3, .fn (.func 31) [] []), (23, .fro (W.map Put.v)), (24, .int .i64 (W.map Put.v).length), (25, .int .i64 (k : Int))], [], 0, 47⟩) (fun k => k ≤ W.length ∧ checkW K.length (W.drop k) = checkW K.length W) W.length 0 (by exact x_le) ⟨Nat.zero_le _, rfl⟩ ?_
        intro k ⟨hk, hq⟩
        by_cases hk2 : k < W.length
        · have e1 : (W.map Put.v)[k]? = some (W[k]).v := by simp [hk2]
          rw [List.drop_eq_getElem_cons hk2, checkW] at hq
          generalize W[k] = w at *
          have c2 := check1_v (s := w.text)
          unfold badW at hq
          by_cases b1 : w.pos < 0
          · rw [if_pos (by rw [if_pos (.inl b1)]; decide), if_pos (.inl b1)] at hq
            rw [← hq]
            repeat' (first
                | with_reducible first | refine awp_seq ?_ | refine awp_region ?_ | refine awp_draw mixed ?_ | refine then_n ?_ | refine awp_skip ?_ | refine awp_block ?_ | refine awp_exit ?_ | refine awp_ret ?_ | refine awp_label ?_ | refine then_exit ?_ | refine then_ret ?_ | refine blk_n ?_ | refine blk_ret ?_ | refine blk_exit ?_ | refine blk_other rfl ?_ | refine then_k ?_
                | refine awp_true rfl ?_
                | refine awp_false rfl ?_
                | refine awp_split rfl (fun hb => ?_) (fun hb => ?_)
                | (refine isR ?_; first | refine x_far [] tb_ok rfl ?_ | refine r_nil ?_ | refine r_nild (by kernel_rfl) ?_ | refine x_callv (c2 _) ?_ | refine x_callv (c2) ?_ | refine x_addE ?_ | refine x_add ?_ | refine x_cat ?_ | refine x_lenF tb_ok ?_ | refine x_lenO tb_ok ?_ | refine x_lenN tb_ok ?_ | refine x_lenS ?_ | refine x_lssT ?_ | refine x_lssF ?_ | refine x_lss (fun hc => ?_) (fun hc => ?_) | refine x_gtrT ?_ | refine x_gtrF ?_ | refine x_gtr (fun hc => ?_) (fun hc => ?_) | refine x_geqT ?_ | refine x_geqF ?_ | refine x_geq (fun hc => ?_) (fun hc => ?_) | refine x_iaF tb_ok ?_ | refine x_iaO tb_ok ?_ | refine x_iaA tb_ok ?_ | refine x_iaAF tb_ok ?_)
                | refine x_ret ?_
                | refine x_nor ?_
                | exact x_le)
            rfl
          · by_cases b2 : (K.length : Int) ≤ w.pos
            · rw [if_pos (by rw [if_pos (.inr b2)]; decide), if_pos (.inr b2)] at hq
              rw [← hq]
              repeat' (first
                  | with_reducible first | refine awp_seq ?_ | refine awp_region ?_ | refine awp_draw mixed ?_ | refine then_n ?_ | refine awp_skip ?_ | refine awp_block ?_ | refine awp_exit ?_ | refine awp_ret ?_ | refine awp_label ?_ | refine then_exit ?_ | refine then_ret ?_ | refine blk_n ?_ | refine blk_ret ?_ | refine blk_exit ?_ | refine blk_other rfl ?_ | refine then_k ?_
                  | refine awp_true rfl ?_
                  | refine awp_false rfl ?_
                  | refine awp_split rfl (fun hb => ?_) (fun hb => ?_)
                  | (refine isR ?_; first | refine x_far [] tb_ok rfl ?_ | refine r_nil ?_ | refine r_nild (by kernel_rfl) ?_ | refine x_callv (c2 _) ?_ | refine x_callv (c2) ?_ | refine x_addE ?_ | refine x_add ?_ | refine x_cat ?_ | refine x_lenF tb_ok ?_ | refine x_lenO tb_ok ?_ | refine x_lenN tb_ok ?_ | refine x_lenS ?_ | refine x_lssT ?_ | refine x_lssF ?_ | refine x_lss (fun hc => ?_) (fun hc => ?_) | refine x_gtrT ?_ | refine x_gtrF ?_ | refine x_gtr (fun hc => ?_) (fun hc => ?_) | refine x_geqT ?_ | refine x_geqF ?_ | refine x_geq (fun hc => ?_) (fun hc => ?_) | refine x_iaF tb_ok ?_ | refine x_iaO tb_ok ?_ | refine x_iaA tb_ok ?_ | refine x_iaAF tb_ok ?_)
                  | refine x_ret ?_
                  | refine x_nor ?_
                  | exact x_le)
              rfl
            · rw [if_neg (not_or.2 ⟨b1, b2⟩)] at hq
              unfold longB at c2
              by_cases b3 : 20000 < w.text.length
              · rw [if_pos b3, if_pos (by decide)] at hq
                rw [decide_eq_true b3] at c2
                rw [← hq]
                repeat' (first
                    | with_reducible first | refine awp_seq ?_ | refine awp_region ?_ | refine awp_draw mixed ?_ | refine then_n ?_ | refine awp_skip ?_ | refine awp_block ?_ | refine awp_exit ?_ | refine awp_ret ?_ | refine awp_label ?_ | refine then_exit ?_ | refine then_ret ?_ | refine blk_n ?_ | refine blk_ret ?_ | refine blk_exit ?_ | refine blk_other rfl ?_ | refine then_k ?_
                    | refine awp_true rfl ?_
                    | refine awp_false rfl ?_
                    | refine awp_split rfl (fun hb => ?_) (fun hb => ?_)
                    | (refine isR ?_; first | refine x_far [] tb_ok rfl ?_ | refine r_nil ?_ | refine r_nild (by kernel_rfl) ?_ | refine x_callv (c2 _) ?_ | refine x_callv (c2) ?_ | refine x_addE ?_ | refine x_add ?_ | refine x_cat ?_ | refine x_lenF tb_ok ?_ | refine x_lenO tb_ok ?_ | refine x_lenN tb_ok ?_ | refine x_lenS ?_ | refine x_lssT ?_ | refine x_lssF ?_ | refine x_lss (fun hc => ?_) (fun hc => ?_) | refine x_gtrT ?_ | refine x_gtrF ?_ | refine x_gtr (fun hc => ?_) (fun hc => ?_) | refine x_geqT ?_ | refine x_geqF ?_ | refine x_geq (fun hc => ?_) (fun hc => ?_) | refine x_iaF tb_ok ?_ | refine x_iaO tb_ok ?_ | refine x_iaA tb_ok ?_ | refine x_iaAF tb_ok ?_)
                    | refine x_ret ?_
                    | refine x_nor ?_
                    | exact x_le)
                rfl
              · rw [if_neg b3, if_neg (by decide)] at hq
                rw [decide_eq_false b3] at c2
                repeat' (first
                    | with_reducible first | refine awp_seq ?_ | refine awp_region ?_ | refine awp_draw mixed ?_ | refine then_n ?_ | refine awp_skip ?_ | refine awp_block ?_ | refine awp_exit ?_ | refine awp_ret ?_ | refine awp_label ?_ | refine then_exit ?_ | refine then_ret ?_ | refine blk_n ?_ | refine blk_ret ?_ | refine blk_exit ?_ | refine blk_other rfl ?_ | refine then_k ?_
                    | refine awp_true rfl ?_
                    | refine awp_false rfl ?_
                    | refine awp_split rfl (fun hb => ?_) (fun hb => ?_)
                    | (refine isR ?_; first | refine x_far [] tb_ok rfl ?_ | refine r_nil ?_ | refine r_nild (by kernel_rfl) ?_ | refine x_callv (c2 _) ?_ | refine x_callv (c2) ?_ | refine x_addE ?_ | refine x_add ?_ | refine x_cat ?_ | refine x_lenF tb_ok ?_ | refine x_lenO tb_ok ?_ | refine x_lenN tb_ok ?_ | refine x_lenS ?_ | refine x_lssT ?_ | refine x_lssF ?_ | refine x_lss (fun hc => ?_) (fun hc => ?_) | refine x_gtrT ?_ | refine x_gtrF ?_ | refine x_gtr (fun hc => ?_) (fun hc => ?_) | refine x_geqT ?_ | refine x_geqF ?_ | refine x_geq (fun hc => ?_) (fun hc => ?_) | refine x_iaF tb_ok ?_ | refine x_iaO tb_ok ?_ | refine x_iaA tb_ok ?_ | refine x_iaAF tb_ok ?_)
                    | refine x_ret ?_
                    | refine x_nor ?_
                    | exact x_le)
                refine ⟨⟨by omega, hq⟩, hk2, ?_⟩
                exact (by exact x_le)
        · rw [List.drop_eq_nil_of_le (by omega), checkW] at hq
          rw [← hq]
          repeat' (first
              | with_reducible first | refine awp_seq ?_ | refine awp_region ?_ | refine awp_draw mixed ?_ | refine then_n ?_ | refine awp_skip ?_ | refine awp_block ?_ | refine awp_exit ?_ | refine awp_ret ?_ | refine awp_label ?_ | refine then_exit ?_ | refine then_ret ?_ | refine blk_n ?_ | refine blk_ret ?_ | refine blk_exit ?_ | refine blk_other rfl ?_ | refine then_k ?_
              | refine awp_true rfl ?_
              | refine awp_false rfl ?_
              | refine awp_split rfl (fun hb => ?_) (fun hb => ?_)
              | (refine isR ?_; first | refine x_far [] tb_ok rfl ?_ | refine r_nil ?_ | refine r_nild (by kernel_rfl) ?_ | refine x_addE ?_ | refine x_add ?_ | refine x_cat ?_ | refine x_lenF tb_ok ?_ | refine x_lenO tb_ok ?_ | refine x_lenN tb_ok ?_ | refine x_lenS ?_ | refine x_lssT ?_ | refine x_lssF ?_ | refine x_lss (fun hc => ?_) (fun hc => ?_) | refine x_gtrT ?_ | refine x_gtrF ?_ | refine x_gtr (fun hc => ?_) (fun hc => ?_) | refine x_geqT ?_ | refine x_geqF ?_ | refine x_geq (fun hc => ?_) (fun hc => ?_) | refine x_iaF tb_ok ?_ | refine x_iaO tb_ok ?_ | refine x_iaA tb_ok ?_ | refine x_iaAF tb_ok ?_)
              | refine x_ret ?_
              | refine x_nor ?_
              | exact x_le)
          rfl
set_option maxRecDepth 100000 in
set_option maxHeartbeats 4000000 in
theorem cloneS_v {L : List (List UInt8)} (hb : L.length ≤ 1000) : MCalls Tryd.prog 35 [.fro (L.map strT)] [] (.own 0 0 L.length) [some (rowS L)] := by
  refine mfun tb_ok Tryd.func35 rfl Tryd.ntmps35 Tryd.results35 rfl rfl rfl rfl fun N pl => ?_
  repeat' (first
      | refine awp_nilq tb_ok (fun b hq => ?_)
      | (with_reducible refine awp_name (c := Code.ret) (t := 2) TS 1 (by decide) rfl rfl ?_)
      | refine x_mret [1] ?_ ?_
      | with_reducible first | refine awp_seq ?_ | refine awp_region ?_ | refine awp_draw mixed ?_ | refine then_n ?_ | refine awp_skip ?_ | refine awp_block ?_ | refine awp_exit ?_ | refine awp_ret ?_ | refine awp_label ?_ | refine then_exit ?_ | refine then_ret ?_ | refine blk_n ?_ | refine blk_ret ?_ | refine blk_exit ?_ | refine blk_other rfl ?_ | refine then_k ?_
      | refine awp_true rfl ?_
      | refine awp_false rfl ?_
      | refine awp_split rfl (fun hb => ?_) (fun hb => ?_)
      | (refine isR ?_; first | refine x_far [5] tb_ok rfl ?_ | refine r_nil ?_ | refine r_nild (by kernel_rfl) ?_ | refine x_appK strT (L := []) (K' := L) tb_ok ?_ | refine x_bsO 5 tb_ok ?_ | refine x_bs tb_ok ?_ | refine x_eqlT ?_ | refine x_eqlF ?_ | refine x_eql (fun hc => ?_) (fun hc => ?_) | refine x_eqlB ?_ | refine x_eqlST ?_ | refine x_eqlSF ?_ | refine x_eqlS (fun hc => ?_) (fun hc => ?_) | refine x_eqlI ?_ | refine x_eqlN ?_ | refine x_eqlA tb_ok ?_ | refine x_eqlAS tb_ok (fun hc => ?_) (fun hc => ?_))
      | refine x_mret [0] ?_ ?_
      | refine x_mnor [0] ?_ ?_
      | refine x_ret ?_
      | refine x_nor ?_
      | exact x_le)
  all_goals first
    | (have hn := hq hb; simp only [List.map_eq_nil_iff] at hn; subst hn; first | rfl | exact .on (.same rfl) .nil)
    | rfl
    | exact .on (.same (nl_map fun _ => rfl)) .nil
set_option maxRecDepth 100000 in
set_option maxHeartbeats 4000000 in
theorem cloneP_v {L : List Put} (hb : L.length ≤ 1000) : MCalls Tryd.prog 38 [.fro (L.map Put.v)] [] (.own 0 0 L.length) [some (rowP L)] := by
  refine mfun tb_ok Tryd.func38 rfl Tryd.ntmps38 Tryd.results38 rfl rfl rfl rfl fun N pl => ?_
  repeat' (first
      | refine awp_nilq tb_ok (fun b hq => ?_)
      | (with_reducible refine awp_name (c := Code.ret) (t := 2) TP 2 (by decide) rfl rfl ?_)
      | refine x_mret [1] ?_ ?_
      | with_reducible first | refine awp_seq ?_ | refine awp_region ?_ | refine awp_draw mixed ?_ | refine then_n ?_ | refine awp_skip ?_ | refine awp_block ?_ | refine awp_exit ?_ | refine awp_ret ?_ | refine awp_label ?_ | refine then_exit ?_ | refine then_ret ?_ | refine blk_n ?_ | refine blk_ret ?_ | refine blk_exit ?_ | refine blk_other rfl ?_ | refine then_k ?_
      | refine awp_true rfl ?_
      | refine awp_false rfl ?_
      | refine awp_split rfl (fun hb => ?_) (fun hb => ?_)
      | (refine isR ?_; first | refine x_far [5] tb_ok rfl ?_ | refine r_nil ?_ | refine r_nild (by kernel_rfl) ?_ | refine x_appK Put.v (L := []) (K' := L) tb_ok ?_ | refine x_bsO 5 tb_ok ?_ | refine x_bs tb_ok ?_ | refine x_eqlT ?_ | refine x_eqlF ?_ | refine x_eql (fun hc => ?_) (fun hc => ?_) | refine x_eqlB ?_ | refine x_eqlST ?_ | refine x_eqlSF ?_ | refine x_eqlS (fun hc => ?_) (fun hc => ?_) | refine x_eqlI ?_ | refine x_eqlN ?_ | refine x_eqlA tb_ok ?_ | refine x_eqlAS tb_ok (fun hc => ?_) (fun hc => ?_))
      | refine x_mret [0] ?_ ?_
      | refine x_mnor [0] ?_ ?_
      | refine x_ret ?_
      | refine x_nor ?_
      | exact x_le)
  all_goals first
    | (have hn := hq hb; simp only [List.map_eq_nil_iff] at hn; subst hn; first | rfl | exact .on (.same rfl) .nil)
    | rfl
    | exact .on (.same (nl_map fun _ => rfl)) .nil
set_option maxRecDepth 100000 in
set_option maxHeartbeats 4000000 in
theorem own_v {d : Disk} (h1 : d.kept.length ≤ 1000) (h2 : d.wait.length ≤ 1000) : MCalls Tryd.prog 26 [d.v] [] (.agg [.own 0 0 d.kept.length, .own 1 0 d.wait.length]) [some (rowS d.kept), some (rowP d.wait)] := by
  obtain ⟨K, W⟩ := d
  dsimp only at h1 h2 ⊢
  show MCalls _ _ [.agg [.fro (K.map strT), .fro (W.map Put.v)]] _ _ _
  have c1 := cloneS_v h1
  have c2 := cloneP_v h2
  refine mfun tb_ok Tryd.func26 rfl Tryd.ntmps26 Tryd.results26 rfl rfl rfl rfl fun N pl => ?_
  repeat' (first
      | with_reducible first | refine awp_seq ?_ | refine awp_region ?_ | refine awp_draw mixed ?_ | refine then_n ?_ | refine awp_skip ?_ | refine awp_block ?_ | refine awp_exit ?_ | refine awp_ret ?_ | refine awp_label ?_ | refine then_exit ?_ | refine then_ret ?_ | refine blk_n ?_ | refine blk_ret ?_ | refine blk_exit ?_ | refine blk_other rfl ?_ | refine then_k ?_
      | refine awp_true rfl ?_
      | refine awp_false rfl ?_
      | refine awp_split rfl (fun hb => ?_) (fun hb => ?_)
      | (refine isR ?_; first | refine x_far [] tb_ok rfl ?_ | refine r_nil ?_ | refine r_nild (by kernel_rfl) ?_ | refine x_m [] [1] (c1 _) ?_ | refine x_m0 [] [1] (c1 _) ?_ | refine x_m [] [1] (c1) ?_ | refine x_m0 [] [1] (c1) ?_ | refine x_m [] [2] (c2 _) ?_ | refine x_m0 [] [2] (c2 _) ?_ | refine x_m [] [2] (c2) ?_ | refine x_m0 [] [2] (c2) ?_)
      | refine x_mret [1, 2] ?_ ?_
      | refine x_mnor [1, 2] ?_ ?_
      | refine x_ret ?_
      | refine x_nor ?_
      | exact x_le)
  · rfl
  · exact .on (.same (nl_map fun _ => rfl)) (.on (.same (nl_map fun _ => rfl)) .nil)
end Go.Proofs.YtdimidhacccdjaaDoor.DiskA
