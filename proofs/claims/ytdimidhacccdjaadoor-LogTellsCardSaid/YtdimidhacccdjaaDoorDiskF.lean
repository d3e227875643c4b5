/- The log: a text is appended; what must be in any case. -/
import Derived.Test.YtdimidhacccdjaaDoorDiskE
import Derived.Test.YtdimidhacccdjaaDoorDiskC
namespace Go.Proofs.YtdimidhacccdjaaDoor.DiskF
open Go.RowKit Mem Abs TreeW Globs SplT Both NumP WordS DiskP FnS DiskA DiskB DiskC DiskD DiskE

abbrev kD (K : List (List UInt8)) : Abs.V := .agg [.fro (K.map strT), .fro []]
abbrev kW (K : List (List UInt8)) (p : Nat) (s : List UInt8) : Abs.V := .agg [.fro (K.map strT), .fro [.agg [.int .i64 (p : Int), strT s]]]
/-- One write, and a flush behind it. -/
theorem put_v {d : Disk} {t m p : Nat} {s : List UInt8} (h : Log d t m) (h2 : p < d.kept.length) (h3 : s.length ≤ 20000) :
    ACalls Tryd.prog 7 [kD d.kept, .int .i64 (p : Int), strT s] (.tup [kW d.kept p s, .int .i64 0]) ∧ ACalls Tryd.prog 8 [kW d.kept p s] (.tup [kD (d.kept.set p s), .int .i64 0]) := by
  have w1 := write_v (d := d) (p := (p : Int)) (s := s)
  rw [write_log h (by omega) (by omega) h3] at w1
  have f1 := flush_v (d := ⟨d.kept, [⟨(p : Int), s⟩]⟩)
  rw [crash_one (one_ok h (by omega) (by omega) h3), if_pos rfl] at f1
  obtain ⟨K, W⟩ := d
  have hW : W = [] := h.wt
  subst hW
  exact ⟨w1, f1⟩
set_option maxRecDepth 100000 in
set_option maxHeartbeats 4000000 in
theorem append_v {d : Disk} {s : List UInt8} : ACallsG Tryd.prog gBoth 19 [d.v, strT s] (.tup [(appendF d s).1.v, .int .i64 (appendF d s).2]) := by
  have c1 := steps_v (d := d) (s := s)
  by_cases h0 : (stepsF d s).2 = 0
  · obtain ⟨t, m, hL, h1, h2, h3, h4⟩ := steps_ok h0
    have hA := (append_log hL h1 h2 h3).1
    rw [hA]
    rw [h4] at c1
    obtain ⟨l1, l2, l3, l4⟩ := disk_bd hL
    obtain ⟨c2, c3⟩ := put_v (p := 2 + m) hL (by omega) h1
    obtain ⟨c4, c5⟩ := put_v (p := (t + 1) % 2) (s := txt (t + 1) (m + 1)) (hL.lay (p := 2 + m) h1 (by omega)) (by dsimp only; rw [List.length_set]; omega) (Nat.le_trans (txt_len (by omega) (by omega)) (by decide))
    obtain ⟨K, W⟩ := d
    have hW : W = [] := hL.wt
    subst hW
    dsimp only at c2 c3 c4 c5 ⊢
    clear hA h4 h0 hL l1 l2 l3 l4 h1 h2 h3
    generalize txt (t + 1) (m + 1) = w at *
    generalize (t + 1) % 2 = q at *
    generalize 2 + m = p at *
    have hz : (([⟨(p : Int), s⟩, ⟨(q : Int), w⟩] : List Put).map Put.v) = [.agg [.int .i64 (p : Int), strT s], .agg [.int .i64 (q : Int), strT w]] := rfl
    have c1 : ACallsG Tryd.prog gBoth 18 [kD K, strT s] (.tup [.fro [.agg [.int .i64 (p : Int), strT s], .agg [.int .i64 (q : Int), strT w]], .int .i64 0]) := c1
    show ACallsG _ _ _ [kD K, strT s] (.tup [kD ((K.set p s).set q w), .int .i64 0])
    generalize (K.set p s).set q w = K2 at *
    generalize K.set p s = K1 at *
    have e0 : [V.agg [.int .i64 (p : Int), strT s], V.agg [.int .i64 (q : Int), strT w]][0]? = some (V.agg [.int .i64 (p : Int), strT s]) := rfl
    have e1 : [V.agg [.int .i64 (p : Int), strT s], V.agg [.int .i64 (q : Int), strT w]][1]? = some (V.agg [.int .i64 (q : Int), strT w]) := rfl
    refine funG2 tb_ok Tryd.func19 rfl Tryd.ntmps19 Tryd.results19 rfl fun N => ?_
    repeat' (first
        | with_reducible first | refine awp_seq ?_ | refine awp_region ?_ | refine awp_draw mixed ?_ | refine then_n ?_ | refine awp_skip ?_ | refine awp_block ?_ | refine awp_exit ?_ | refine awp_ret ?_ | refine awp_label ?_ | refine then_exit ?_ | refine then_ret ?_ | refine blk_n ?_ | refine blk_ret ?_ | refine blk_exit ?_ | refine blk_other rfl ?_ | refine then_k ?_
        | refine awp_true rfl ?_
        | refine awp_false rfl ?_
        | refine awp_split rfl (fun hb => ?_) (fun hb => ?_)
        | (refine isR ?_; first | refine x_far [2] tb_ok rfl ?_ | refine r_nil ?_ | refine r_nild (by kernel_rfl) ?_ | refine x_call (c1 _) ?_ | refine x_call (c1) ?_ | refine x_addE ?_ | refine x_add ?_ | refine x_cat ?_ | refine x_lenF tb_ok ?_ | refine x_lenO tb_ok ?_ | refine x_lenN tb_ok ?_ | refine x_lenS ?_ | refine x_lssT ?_ | refine x_lssF ?_ | refine x_lss (fun hc => ?_) (fun hc => ?_) | refine x_neqT ?_ | refine x_neqF ?_ | refine x_neq (fun hc => ?_) (fun hc => ?_) | refine x_neqB ?_ | refine x_neqST ?_ | refine x_neqSF ?_ | refine x_neqS (fun hc => ?_) (fun hc => ?_) | refine x_neqI ?_ | refine x_neqN ?_ | refine x_iaF tb_ok ?_ | refine x_iaO tb_ok ?_ | refine x_iaA tb_ok ?_ | refine x_iaAF tb_ok ?_ | refine x_neqA tb_ok ?_ | refine x_neqAS tb_ok (fun hc => ?_) (fun hc => ?_))
        | refine x_ret ?_
        | refine x_nor ?_
        | exact x_le)
    refine awp_forN (fun k => ⟨[(2, .loc 0 0 0), (4, .loc 1 0 0), (20, .fro [.agg [.int .i64 (p : Int), strT s], .agg [.int .i64 (q : Int), strT w]]), (21, .int .i64 2), (22, .int .i64 (k : Int))], [(0, some (.els TD 2 [if k = 0 then kD K else if k = 1 then kD K1 else kD K2])), (1, some (.els TD 2 [zD]))], 2, 42⟩) (fun k => k ≤ 2) 2 0 (by exact x_le) (by decide) ?_
    intro k hk
    obtain rfl | rfl | rfl : k = 0 ∨ k = 1 ∨ k = 2 := by omega
    · skip
      repeat' (first
          | with_reducible first | refine awp_seq ?_ | refine awp_region ?_ | refine awp_draw mixed ?_ | refine then_n ?_ | refine awp_skip ?_ | refine awp_block ?_ | refine awp_exit ?_ | refine awp_ret ?_ | refine awp_label ?_ | refine then_exit ?_ | refine then_ret ?_ | refine blk_n ?_ | refine blk_ret ?_ | refine blk_exit ?_ | refine blk_other rfl ?_ | refine then_k ?_
          | refine awp_true rfl ?_
          | refine awp_false rfl ?_
          | refine awp_split rfl (fun hb => ?_) (fun hb => ?_)
          | (refine isR ?_; first | refine x_far [] tb_ok rfl ?_ | refine r_nil ?_ | refine r_nild (by kernel_rfl) ?_ | refine x_call (c2 _) ?_ | refine x_call (c2) ?_ | refine x_call (c3 _) ?_ | refine x_call (c3) ?_ | refine x_addE ?_ | refine x_add ?_ | refine x_cat ?_ | refine x_lenF tb_ok ?_ | refine x_lenO tb_ok ?_ | refine x_lenN tb_ok ?_ | refine x_lenS ?_ | refine x_lssT ?_ | refine x_lssF ?_ | refine x_lss (fun hc => ?_) (fun hc => ?_) | refine x_neqT ?_ | refine x_neqF ?_ | refine x_neq (fun hc => ?_) (fun hc => ?_) | refine x_neqB ?_ | refine x_neqST ?_ | refine x_neqSF ?_ | refine x_neqS (fun hc => ?_) (fun hc => ?_) | refine x_neqI ?_ | refine x_neqN ?_ | refine x_iaF tb_ok ?_ | refine x_iaO tb_ok ?_ | refine x_iaA tb_ok ?_ | refine x_iaAF tb_ok ?_ | refine x_neqA tb_ok ?_ | refine x_neqAS tb_ok (fun hc => ?_) (fun hc => ?_))
          | refine x_ret ?_
          | refine x_nor ?_
          | exact x_le)
      refine ⟨by omega, by omega, ?_⟩
      exact (by exact x_len [0,1])
    · skip
      repeat' (first
          | with_reducible first | refine awp_seq ?_ | refine awp_region ?_ | refine awp_draw mixed ?_ | refine then_n ?_ | refine awp_skip ?_ | refine awp_block ?_ | refine awp_exit ?_ | refine awp_ret ?_ | refine awp_label ?_ | refine then_exit ?_ | refine then_ret ?_ | refine blk_n ?_ | refine blk_ret ?_ | refine blk_exit ?_ | refine blk_other rfl ?_ | refine then_k ?_
          | refine awp_true rfl ?_
          | refine awp_false rfl ?_
          | refine awp_split rfl (fun hb => ?_) (fun hb => ?_)
          | (refine isR ?_; first | refine x_far [] tb_ok rfl ?_ | refine r_nil ?_ | refine r_nild (by kernel_rfl) ?_ | refine x_call (c4 _) ?_ | refine x_call (c4) ?_ | refine x_call (c5 _) ?_ | refine x_call (c5) ?_ | refine x_addE ?_ | refine x_add ?_ | refine x_cat ?_ | refine x_lenF tb_ok ?_ | refine x_lenO tb_ok ?_ | refine x_lenN tb_ok ?_ | refine x_lenS ?_ | refine x_lssT ?_ | refine x_lssF ?_ | refine x_lss (fun hc => ?_) (fun hc => ?_) | refine x_neqT ?_ | refine x_neqF ?_ | refine x_neq (fun hc => ?_) (fun hc => ?_) | refine x_neqB ?_ | refine x_neqST ?_ | refine x_neqSF ?_ | refine x_neqS (fun hc => ?_) (fun hc => ?_) | refine x_neqI ?_ | refine x_neqN ?_ | refine x_iaF tb_ok ?_ | refine x_iaO tb_ok ?_ | refine x_iaA tb_ok ?_ | refine x_iaAF tb_ok ?_ | refine x_neqA tb_ok ?_ | refine x_neqAS tb_ok (fun hc => ?_) (fun hc => ?_))
          | refine x_ret ?_
          | refine x_nor ?_
          | exact x_le)
      refine ⟨by omega, by omega, ?_⟩
      exact (by exact x_len [0,1])
    · skip
      repeat' (first
          | with_reducible first | refine awp_seq ?_ | refine awp_region ?_ | refine awp_draw mixed ?_ | refine then_n ?_ | refine awp_skip ?_ | refine awp_block ?_ | refine awp_exit ?_ | refine awp_ret ?_ | refine awp_label ?_ | refine then_exit ?_ | refine then_ret ?_ | refine blk_n ?_ | refine blk_ret ?_ | refine blk_exit ?_ | refine blk_other rfl ?_ | refine then_k ?_
          | refine awp_true rfl ?_
          | refine awp_false rfl ?_
          | refine awp_split rfl (fun hb => ?_) (fun hb => ?_)
          | (refine isR ?_; first | refine x_far [] tb_ok rfl ?_ | refine r_nil ?_ | refine r_nild (by kernel_rfl) ?_ | refine x_addE ?_ | refine x_add ?_ | refine x_cat ?_ | refine x_lenF tb_ok ?_ | refine x_lenO tb_ok ?_ | refine x_lenN tb_ok ?_ | refine x_lenS ?_ | refine x_lssT ?_ | refine x_lssF ?_ | refine x_lss (fun hc => ?_) (fun hc => ?_) | refine x_neqT ?_ | refine x_neqF ?_ | refine x_neq (fun hc => ?_) (fun hc => ?_) | refine x_neqB ?_ | refine x_neqST ?_ | refine x_neqSF ?_ | refine x_neqS (fun hc => ?_) (fun hc => ?_) | refine x_neqI ?_ | refine x_neqN ?_ | refine x_iaF tb_ok ?_ | refine x_iaO tb_ok ?_ | refine x_iaA tb_ok ?_ | refine x_iaAF tb_ok ?_ | refine x_neqA tb_ok ?_ | refine x_neqAS tb_ok (fun hc => ?_) (fun hc => ?_))
          | refine x_ret ?_
          | refine x_nor ?_
          | exact x_le)
      rfl
  · have hA : appendF d s = (d0, (stepsF d s).2) := by unfold appendF; rw [if_pos h0]
    rw [hA]
    generalize (stepsF d s) = r at *
    obtain ⟨l, e⟩ := r
    dsimp only at h0
    obtain ⟨K, W⟩ := d
    refine ACallsG.nfd (r := .tup [zD, .int .i64 e]) ?_ rfl
    have c1 : ACallsG Tryd.prog gBoth 18 [.agg [.fro (K.map strT), .fro (W.map Put.v)], strT s] (.tup [.fro (l.map Put.v), .int .i64 e]) := c1
    show ACallsG _ _ _ [.agg [.fro (K.map strT), .fro (W.map Put.v)], _] _
    refine funG2 tb_ok Tryd.func19 rfl Tryd.ntmps19 Tryd.results19 rfl fun N => ?_
    repeat' (first
        | with_reducible first | refine awp_seq ?_ | refine awp_region ?_ | refine awp_draw mixed ?_ | refine then_n ?_ | refine awp_skip ?_ | refine awp_block ?_ | refine awp_exit ?_ | refine awp_ret ?_ | refine awp_label ?_ | refine then_exit ?_ | refine then_ret ?_ | refine blk_n ?_ | refine blk_ret ?_ | refine blk_exit ?_ | refine blk_other rfl ?_ | refine then_k ?_
        | refine awp_true rfl ?_
        | refine awp_false rfl ?_
        | refine awp_split rfl (fun hb => ?_) (fun hb => ?_)
        | (refine isR ?_; first | refine x_far [2] tb_ok rfl ?_ | refine r_nil ?_ | refine r_nild (by kernel_rfl) ?_ | refine x_call (c1 _) ?_ | refine x_call (c1) ?_ | refine x_addE ?_ | refine x_add ?_ | refine x_cat ?_ | refine x_lenF tb_ok ?_ | refine x_lenO tb_ok ?_ | refine x_lenN tb_ok ?_ | refine x_lenS ?_ | refine x_lssT ?_ | refine x_lssF ?_ | refine x_lss (fun hc => ?_) (fun hc => ?_) | refine x_neqT ?_ | refine x_neqF ?_ | refine x_neq (fun hc => ?_) (fun hc => ?_) | refine x_neqB ?_ | refine x_neqST ?_ | refine x_neqSF ?_ | refine x_neqS (fun hc => ?_) (fun hc => ?_) | refine x_neqI ?_ | refine x_neqN ?_ | refine x_iaF tb_ok ?_ | refine x_iaO tb_ok ?_ | refine x_iaA tb_ok ?_ | refine x_iaAF tb_ok ?_ | refine x_neqA tb_ok ?_ | refine x_neqAS tb_ok (fun hc => ?_) (fun hc => ?_))
        | refine x_ret ?_
        | refine x_nor ?_
        | exact x_le)
    rfl

/-! ### What must be in any case -/
abbrev K0 : List (List UInt8) := [([48, 59, 48, 59] : List UInt8), [], [], [], []]
abbrev K1 : List (List UInt8) := [([48, 59, 48, 59] : List UInt8), ([49, 59, 49, 59] : List UInt8), ([111, 110, 101] : List UInt8), [], []]
abbrev K2 : List (List UInt8) := [([50, 59, 50, 59] : List UInt8), ([49, 59, 49, 59] : List UInt8), ([111, 110, 101] : List UInt8), ([116, 119, 111] : List UInt8), []]
theorem dd_small {u : Nat} (h : u < 10) : Lib.decDigits u = [UInt8.ofNat (48 + u)] := by rw [Lib.decDigits, dif_pos h]
theorem t00 : txt 0 0 = ([48, 59, 48, 59] : List UInt8) := by unfold txt; rw [dd_small (by decide)]; rfl
theorem t11 : txt 1 1 = ([49, 59, 49, 59] : List UInt8) := by unfold txt; rw [dd_small (by decide)]; rfl
theorem t22 : txt 2 2 = ([50, 59, 50, 59] : List UInt8) := by unfold txt; rw [dd_small (by decide)]; rfl
theorem hd_nil (n : Nat) : hdF [] n = none := by
  cases h : hdF [] n with
  | none => rfl
  | some p =>
    obtain ⟨t, m⟩ := p
    have := (hd_iff.1 h).1
    unfold txt at this
    simp at this
theorem log0 : Log ⟨K0, []⟩ 0 0 where
  ck := check_ok.2 ⟨by decide, by decide, by decide, fun w hw => by cases hw⟩
  wt := rfl
  ln := by decide
  hd := by
    have e1 : hdF (K0.getD 0 []) K0.length = some (0, 0) := hd_iff.2 ⟨t00.symm, by decide, by decide, by decide⟩
    have e2 : hdF (K0.getD 1 []) K0.length = none := hd_nil _
    unfold headF
    dsimp only
    rw [e1, e2]
theorem app1 : appendF ⟨K0, []⟩ ([111, 110, 101] : List UInt8) = (⟨K1, []⟩, 0) ∧ Log ⟨K1, []⟩ 1 1 := by
  obtain ⟨h1, h2, _⟩ := append_log log0 (s := ([111, 110, 101] : List UInt8)) (by decide) (by decide) (by decide)
  have e : (⟨(K0.set (2 + 0) ([111, 110, 101] : List UInt8)).set ((0 + 1) % 2) (txt (0 + 1) (0 + 1)), []⟩ : Disk) = ⟨K1, []⟩ := by
    rw [show txt (0 + 1) (0 + 1) = _ from t11]
    rfl
  rw [show (⟨K0, []⟩ : Disk).kept = K0 from rfl, e] at h1
  rw [h1] at h2
  exact ⟨h1, h2⟩
theorem app2 : appendF ⟨K1, []⟩ ([116, 119, 111] : List UInt8) = (⟨K2, []⟩, 0) ∧ Log ⟨K2, []⟩ 2 2 := by
  obtain ⟨h1, h2, _⟩ := append_log app1.2 (s := ([116, 119, 111] : List UInt8)) (by decide) (by decide) (by decide)
  have e : (⟨(K1.set (2 + 1) ([116, 119, 111] : List UInt8)).set ((1 + 1) % 2) (txt (1 + 1) (1 + 1)), []⟩ : Disk) = ⟨K2, []⟩ := by
    rw [show txt (1 + 1) (1 + 1) = _ from t22]
    rfl
  rw [show (⟨K1, []⟩ : Disk).kept = K1 from rfl, e] at h1
  rw [h1] at h2
  exact ⟨h1, h2⟩
theorem same_v {L : List (List UInt8)} : ACalls Tryd.prog 24 [strsT L, strsT L] (.bool true) := by
  have := sameTexts_v (L := L) (K := L)
  rwa [decide_eq_true rfl] at this
set_option maxRecDepth 100000 in
set_option maxHeartbeats 4000000 in
theorem begun_v : ACallsG Tryd.prog gBoth 12 [] (.bool true) := by
  have c1 : ACallsG Tryd.prog gBoth 16 [.int .i64 5] (.tup [kD K0, .int .i64 0]) := by
    have := new_v (n := 5)
    have e : newF 5 = (⟨K0, []⟩, 0) := by
      unfold newF
      rw [if_neg (by decide), t00]
      rfl
    rw [e] at this
    exact this
  have c2 : ACallsG Tryd.prog gBoth 19 [kD K0, strT ([111, 110, 101] : List UInt8)] (.tup [kD K1, .int .i64 0]) := by
    have := append_v (d := ⟨K0, []⟩) (s := ([111, 110, 101] : List UInt8))
    rw [app1.1] at this
    exact this
  have c3 : ACallsG Tryd.prog gBoth 19 [kD K1, strT ([116, 119, 111] : List UInt8)] (.tup [kD K2, .int .i64 0]) := by
    have := append_v (d := ⟨K1, []⟩) (s := ([116, 119, 111] : List UInt8))
    rw [app2.1] at this
    exact this
  have hL := app2.2
  have c4 : ACallsG Tryd.prog gBoth 17 [kD K2] (.tup [strsT [([111, 110, 101] : List UInt8), ([116, 119, 111] : List UInt8)], .int .i64 0]) := by
    have := items_v (d := ⟨K2, []⟩)
    rw [hL.items] at this
    exact this
  have c5 : ACalls Tryd.prog 7 [kD K2, .int .i64 4, strT ([120] : List UInt8)] (.tup [kW K2 4 ([120] : List UInt8), .int .i64 0]) := (put_v (p := 4) hL (by decide) (by decide)).1
  have o1 := one_ok hL (p := ((4 : Nat) : Int)) (s := ([120] : List UInt8)) (by decide) (by decide) (by decide)
  have c6 : ACalls Tryd.prog 9 [kW K2 4 ([120] : List UInt8), .int .u64 0] (.tup [kD K2, .int .i64 0]) := by
    have := crash_v (d := ⟨K2, [⟨((4 : Nat) : Int), ([120] : List UInt8)⟩]⟩) (m := 0) (by decide)
    rw [crash_one o1, if_neg (by decide)] at this
    exact this
  have c7 : ACallsG Tryd.prog gBoth 17 [kW K2 4 ([120] : List UInt8)] (.tup [.fro [], .int .i64 4]) := by
    have := items_v (d := ⟨K2, [⟨((4 : Nat) : Int), ([120] : List UInt8)⟩]⟩)
    have e : itemsF ⟨K2, [⟨((4 : Nat) : Int), ([120] : List UInt8)⟩]⟩ = ([], 4) := by
      have : countF ⟨K2, [⟨((4 : Nat) : Int), ([120] : List UInt8)⟩]⟩ = ((0, 0), 4) := by
        unfold countF
        rw [if_neg (by rw [o1]; decide), if_pos (.inl (by simp))]
      unfold itemsF
      rw [this, if_pos (by decide)]
    rw [e] at this
    exact this
  have c8 : ACallsG Tryd.prog gBoth 16 [.int .i64 2] (.tup [.agg [.fro [], .fro []], .int .i64 3]) := by
    have := new_v (n := 2)
    have e : newF 2 = (d0, 3) := by unfold newF; rw [if_pos (.inl (by decide))]
    rw [e] at this
    exact this
  have c9 : ACalls Tryd.prog 24 [strsT [([111, 110, 101] : List UInt8), ([116, 119, 111] : List UInt8)], strsT [([111, 110, 101] : List UInt8), ([116, 119, 111] : List UInt8)]] (.bool true) := same_v
  have c10 : ACalls Tryd.prog 24 [.fro (K2.map strT), .fro [strT ([50, 59, 50, 59] : List UInt8), strT ([49, 59, 49, 59] : List UInt8), strT ([111, 110, 101] : List UInt8), strT ([116, 119, 111] : List UInt8), strT []]] (.bool true) := same_v (L := K2)
  have c11 : ACalls Tryd.prog 15 [kD K2, kD K2] (.bool true) := sameDisk_v (d := ⟨K2, []⟩)
  refine funG0 tb_ok Tryd.func12 rfl Tryd.ntmps12 Tryd.results12 fun N => ?_
  repeat' (first
      | with_reducible first | refine awp_seq ?_ | refine awp_region ?_ | refine awp_draw mixed ?_ | refine then_n ?_ | refine awp_skip ?_ | refine awp_block ?_ | refine awp_exit ?_ | refine awp_ret ?_ | refine awp_label ?_ | refine then_exit ?_ | refine then_ret ?_ | refine blk_n ?_ | refine blk_ret ?_ | refine blk_exit ?_ | refine blk_other rfl ?_ | refine then_k ?_
      | refine awp_true rfl ?_
      | refine awp_false rfl ?_
      | refine awp_split rfl (fun hb => ?_) (fun hb => ?_)
      | (refine isR ?_; first | refine x_far [] tb_ok rfl ?_ | refine r_nil ?_ | refine r_nild (by kernel_rfl) ?_ | refine x_call (c1 _) ?_ | refine x_call (c1) ?_ | refine x_call (c2 _) ?_ | refine x_call (c2) ?_ | refine x_call (c3 _) ?_ | refine x_call (c3) ?_ | refine x_call (c4 _) ?_ | refine x_call (c4) ?_ | refine x_call (c5 _) ?_ | refine x_call (c5) ?_ | refine x_call (c6 _) ?_ | refine x_call (c6) ?_ | refine x_call (c7 _) ?_ | refine x_call (c7) ?_ | refine x_call (c8 _) ?_ | refine x_call (c8) ?_ | refine x_call (c9 _) ?_ | refine x_call (c9) ?_ | refine x_call (c10 _) ?_ | refine x_call (c10) ?_ | refine x_call (c11 _) ?_ | refine x_call (c11) ?_ | refine x_bs tb_ok ?_ | refine x_eqlT ?_ | refine x_eqlF ?_ | refine x_eql (fun hc => ?_) (fun hc => ?_) | refine x_eqlB ?_ | refine x_eqlST ?_ | refine x_eqlSF ?_ | refine x_eqlS (fun hc => ?_) (fun hc => ?_) | refine x_eqlI ?_ | refine x_eqlN ?_ | refine x_eqlA tb_ok ?_ | refine x_eqlAS tb_ok (fun hc => ?_) (fun hc => ?_))
      | refine x_ret ?_
      | refine x_nor ?_
      | exact x_le)
  rfl
end Go.Proofs.YtdimidhacccdjaaDoor.DiskF
