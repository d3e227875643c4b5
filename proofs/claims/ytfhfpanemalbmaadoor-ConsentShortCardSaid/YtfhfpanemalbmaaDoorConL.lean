/- The laws of consents. -/
import Derived.Test.YtfhfpanemalbmaaDoorConF
namespace Go.Proofs.YtfhfpanemalbmaaDoor.ConL
open Go.RowKit Mem Abs BitsP BitsS BitsT SixtyP SixtyQ SixtyW ConP ConQ ConC ConA ConS ConG ConR ConV ConZ ConD ConE ConF

def PA (i : Nat) : Bool := i == 0 || i == 3
abbrev UA : List Nat := [2, 3, 4, 9]
theorem rightA : RightN UA := ⟨by decide, by decide⟩
set_option maxRecDepth 100000 in
set_option maxHeartbeats 4000000 in
theorem agreed_v : ACalls Tryd.prog 27 [] (conN 1000 PA UA) := by
  refine fun0 tb_ok Tryd.func27 rfl Tryd.ntmps27 Tryd.results27 fun N => ?_
  repeat' (first
      | with_reducible first | refine awp_seq ?_ | refine awp_region ?_ | refine awp_draw mixed ?_ | refine then_n ?_ | refine awp_skip ?_ | refine awp_block ?_ | refine awp_exit ?_ | refine awp_ret ?_ | refine awp_label ?_ | refine then_exit ?_ | refine then_ret ?_ | refine blk_n ?_ | refine blk_ret ?_ | refine blk_exit ?_ | refine blk_other rfl ?_ | refine then_k ?_
      | refine awp_true rfl ?_
      | refine awp_false rfl ?_
      | refine awp_split rfl (fun hb => ?_) (fun hb => ?_)
      | (refine isR ?_; first | refine x_far [] tb_ok rfl ?_ | refine r_nil ?_ | refine r_nild (by kernel_rfl) ?_ | refine x_bs tb_ok ?_)
      | refine x_ret ?_
      | refine x_nor ?_
      | exact x_le)
  all_goals rfl
theorem lenA : (conText 1000 PA UA).length = 12 := by decide +kernel
theorem readA : rdV (readC (conText 1000 PA UA)) = .tup [conN 1000 PA UA, natV 0] := by
  obtain ⟨h1, h2, h3, h4⟩ := back (g := 1000) (P := PA) (U := UA) (by decide) rightA
  unfold rdV
  rw [h4, if_pos rfl, h1, h3]
  simp only [conN]
  rw [h2 0 (by decide), h2 1 (by decide), h2 2 (by decide), h2 3 (by decide), h2 4 (by decide), h2 5 (by decide), h2 6 (by decide), h2 7 (by decide), h2 8 (by decide), h2 9 (by decide)]
theorem codeCA : (readC [67, 65]).2.2.2 = 7 := by decide +kernel
theorem codeBA : (readC [66, 65]).2.2.2 = 5 := by decide +kernel
theorem rd_code {t : List UInt8} {c : Nat} (h : (readC t).2.2.2 = c) (h0 : c ≠ 0) : rdV (readC t) = .tup [noC, natV c] := by
  rw [read_none (by rw [h]; exact h0), h, rdV_no h0]
theorem check33 : GrantP.check 0 [3, 3] = 4 := by decide +kernel
set_option maxRecDepth 100000 in
set_option maxHeartbeats 4000000 in
theorem begun_v : ACalls Tryd.prog 11 [] (.bool true) := by
  have ca := agreed_v
  have cw := write_v (g := ((1000 : Nat) : Int)) (P := PA) (L := toI UA)
  rw [← conN_int, writeC_nat (by decide) rightA] at cw
  dsimp only at cw
  have cr := read_v (t := conText 1000 PA UA) (by rw [lenA]; decide)
  rw [readA] at cr
  have hl := lenA
  generalize conText 1000 PA UA = TX at *
  have cg := read_v (t := [67, 65]) (by decide)
  rw [rd_code codeCA (by decide)] at cg
  have ch := read_v (t := [66, 65]) (by decide)
  rw [rd_code codeBA (by decide)] at ch
  have cc := check_v (g := 0) (P := fun _ => false) (L := [3, 3])
  rw [check33] at cc
  have cs := same_t (g := ((1000 : Nat) : Int)) (P := PA) (L := toI UA)
  rw [← conN_int] at cs
  refine fun0 tb_ok Tryd.func11 rfl Tryd.ntmps11 Tryd.results11 fun N => ?_
  repeat' (first
      | with_reducible first | refine awp_seq ?_ | refine awp_region ?_ | refine awp_draw mixed ?_ | refine then_n ?_ | refine awp_skip ?_ | refine awp_block ?_ | refine awp_exit ?_ | refine awp_ret ?_ | refine awp_label ?_ | refine then_exit ?_ | refine then_ret ?_ | refine blk_n ?_ | refine blk_ret ?_ | refine blk_exit ?_ | refine blk_other rfl ?_ | refine then_k ?_
      | refine awp_true rfl ?_
      | refine awp_false rfl ?_
      | refine awp_split rfl (fun hb => ?_) (fun hb => ?_)
      | (refine isR ?_; first | refine x_far [] tb_ok rfl ?_ | refine r_nil ?_ | refine r_nild (by kernel_rfl) ?_ | refine x_call (ca _) ?_ | refine x_call (ca) ?_ | refine x_call (cw _) ?_ | refine x_call (cw) ?_ | refine x_call (cr _) ?_ | refine x_call (cr) ?_ | refine x_call (cg _) ?_ | refine x_call (cg) ?_ | refine x_call (ch _) ?_ | refine x_call (ch) ?_ | refine x_call (cs _) ?_ | refine x_call (cs) ?_ | refine x_call (cc _) ?_ | refine x_call (cc) ?_ | refine x_bs tb_ok ?_ | refine x_lenF tb_ok ?_ | refine x_lenO tb_ok ?_ | refine x_lenN tb_ok ?_ | refine x_lenS ?_ | refine x_eqlT ?_ | refine x_eqlF ?_ | refine x_eql (fun hc => ?_) (fun hc => ?_) | refine x_eqlB ?_ | refine x_eqlST ?_ | refine x_eqlSF ?_ | refine x_eqlS (fun hc => ?_) (fun hc => ?_) | refine x_eqlI ?_ | refine x_eqlN ?_ | refine x_eqlA tb_ok ?_ | refine x_eqlAS tb_ok (fun hc => ?_) (fun hc => ?_))
      | refine x_ret ?_
      | refine x_nor ?_
      | exact x_le)
  all_goals first | rfl | (exfalso; omega)
set_option maxRecDepth 100000 in
set_option maxHeartbeats 4000000 in
theorem tells_law {g : Int} {P : Nat → Bool} {L : List Int} : ACalls Tryd.prog 3 [conI g P L] (.bool true) := by
  have cb := begun_v
  have cw := write_v (g := g) (P := P) (L := L)
  have cc := check_v (g := g) (P := P) (L := L)
  have co := checkOf_v (g := g) (P := P) (L := L)
  by_cases h : GrantP.check g L = 0
  · obtain ⟨n, U, rfl, rfl, hn, hU⟩ := check_nat h
    have ct := ConY.textOf_v (P := P) hn hU
    rw [conN_int] at ct
    rw [h] at cc co
    rw [writeC_nat hn hU] at cw
    dsimp only at cw
    generalize conText n P U = TX at *
    refine fun1 tb_ok Tryd.func3 rfl Tryd.ntmps3 Tryd.results3 rfl fun N => ?_
    repeat' (first
        | with_reducible first | refine awp_seq ?_ | refine awp_region ?_ | refine awp_draw mixed ?_ | refine then_n ?_ | refine awp_skip ?_ | refine awp_block ?_ | refine awp_exit ?_ | refine awp_ret ?_ | refine awp_label ?_ | refine then_exit ?_ | refine then_ret ?_ | refine blk_n ?_ | refine blk_ret ?_ | refine blk_exit ?_ | refine blk_other rfl ?_ | refine then_k ?_
        | refine awp_true rfl ?_
        | refine awp_false rfl ?_
        | refine awp_split rfl (fun hb => ?_) (fun hb => ?_)
        | (refine isR ?_; first | refine x_far [] tb_ok rfl ?_ | refine r_nil ?_ | refine r_nild (by kernel_rfl) ?_ | refine x_call (cb _) ?_ | refine x_call (cb) ?_ | refine x_call (cw _) ?_ | refine x_call (cw) ?_ | refine x_call (cc _) ?_ | refine x_call (cc) ?_ | refine x_call (co _) ?_ | refine x_call (co) ?_ | refine x_call (ct _) ?_ | refine x_call (ct) ?_ | refine x_eqlT ?_ | refine x_eqlF ?_ | refine x_eql (fun hc => ?_) (fun hc => ?_) | refine x_eqlB ?_ | refine x_eqlST ?_ | refine x_eqlSF ?_ | refine x_eqlS (fun hc => ?_) (fun hc => ?_) | refine x_eqlI ?_ | refine x_eqlN ?_ | refine x_eqlA tb_ok ?_ | refine x_eqlAS tb_ok (fun hc => ?_) (fun hc => ?_))
        | refine x_ret ?_
        | refine x_nor ?_
        | exact x_le)
    all_goals first | rfl | (exfalso; omega)
  · have hw : writeC g P L = ([], GrantP.check g L) := by unfold writeC; rw [if_neg h]
    rw [hw] at cw
    dsimp only at cw
    have h1 : ¬ (GrantP.check g L : Int) = 0 := by omega
    generalize GrantP.check g L = z at *
    refine fun1 tb_ok Tryd.func3 rfl Tryd.ntmps3 Tryd.results3 rfl fun N => ?_
    repeat' (first
        | with_reducible first | refine awp_seq ?_ | refine awp_region ?_ | refine awp_draw mixed ?_ | refine then_n ?_ | refine awp_skip ?_ | refine awp_block ?_ | refine awp_exit ?_ | refine awp_ret ?_ | refine awp_label ?_ | refine then_exit ?_ | refine then_ret ?_ | refine blk_n ?_ | refine blk_ret ?_ | refine blk_exit ?_ | refine blk_other rfl ?_ | refine then_k ?_
        | refine awp_true rfl ?_
        | refine awp_false rfl ?_
        | refine awp_split rfl (fun hb => ?_) (fun hb => ?_)
        | (refine isR ?_; first | refine x_far [] tb_ok rfl ?_ | refine r_nil ?_ | refine r_nild (by kernel_rfl) ?_ | refine x_call (cb _) ?_ | refine x_call (cb) ?_ | refine x_call (cw _) ?_ | refine x_call (cw) ?_ | refine x_call (cc _) ?_ | refine x_call (cc) ?_ | refine x_call (co _) ?_ | refine x_call (co) ?_ | refine x_eqlT ?_ | refine x_eqlF ?_ | refine x_eql (fun hc => ?_) (fun hc => ?_) | refine x_eqlB ?_ | refine x_eqlST ?_ | refine x_eqlSF ?_ | refine x_eqlS (fun hc => ?_) (fun hc => ?_) | refine x_eqlI ?_ | refine x_eqlN ?_ | refine x_eqlA tb_ok ?_ | refine x_eqlAS tb_ok (fun hc => ?_) (fun hc => ?_))
        | refine x_ret ?_
        | refine x_nor ?_
        | exact x_le)
    all_goals first | rfl | (exfalso; omega)
set_option maxRecDepth 100000 in
set_option maxHeartbeats 4000000 in
theorem sameNN_v : ACalls Tryd.prog 34 [.nils, .nils] (.bool true) := by
  refine fun2 tb_ok Tryd.func34 rfl Tryd.ntmps34 Tryd.results34 rfl fun N => ?_
  repeat' (first
      | with_reducible first | refine awp_seq ?_ | refine awp_region ?_ | refine awp_draw mixed ?_ | refine then_n ?_ | refine awp_skip ?_ | refine awp_block ?_ | refine awp_exit ?_ | refine awp_ret ?_ | refine awp_label ?_ | refine then_exit ?_ | refine then_ret ?_ | refine blk_n ?_ | refine blk_ret ?_ | refine blk_exit ?_ | refine blk_other rfl ?_ | refine then_k ?_
      | refine awp_true rfl ?_
      | refine awp_false rfl ?_
      | refine awp_split rfl (fun hb => ?_) (fun hb => ?_)
      | (refine isR ?_; first | refine x_far [] tb_ok rfl ?_ | refine r_nil ?_ | refine r_nild (by kernel_rfl) ?_ | refine x_addE ?_ | refine x_add ?_ | refine x_cat ?_ | refine x_lenF tb_ok ?_ | refine x_lenO tb_ok ?_ | refine x_lenN tb_ok ?_ | refine x_lenS ?_ | refine x_lssT ?_ | refine x_lssF ?_ | refine x_lss (fun hc => ?_) (fun hc => ?_) | refine x_neqT ?_ | refine x_neqF ?_ | refine x_neq (fun hc => ?_) (fun hc => ?_) | refine x_neqB ?_ | refine x_neqST ?_ | refine x_neqSF ?_ | refine x_neqS (fun hc => ?_) (fun hc => ?_) | refine x_neqI ?_ | refine x_neqN ?_ | refine x_iaF tb_ok ?_ | refine x_iaO tb_ok ?_ | refine x_iaA tb_ok ?_ | refine x_iaAF tb_ok ?_ | refine x_neqA tb_ok ?_ | refine x_neqAS tb_ok (fun hc => ?_) (fun hc => ?_))
      | refine x_ret ?_
      | refine x_nor ?_
      | exact x_le)
  refine awp_for (fun k => ⟨[(0, .nils), (1, .nils), (5, .int .i64 (k : Int))], [], 0, 26⟩) (fun k => k = 0) 0 0 (by exact x_le) rfl ?_
  rintro k rfl
  repeat' (first
      | with_reducible first | refine awp_seq ?_ | refine awp_region ?_ | refine awp_draw mixed ?_ | refine then_n ?_ | refine awp_skip ?_ | refine awp_block ?_ | refine awp_exit ?_ | refine awp_ret ?_ | refine awp_label ?_ | refine then_exit ?_ | refine then_ret ?_ | refine blk_n ?_ | refine blk_ret ?_ | refine blk_exit ?_ | refine blk_other rfl ?_ | refine then_k ?_
      | refine awp_true rfl ?_
      | refine awp_false rfl ?_
      | refine awp_split rfl (fun hb => ?_) (fun hb => ?_)
      | (refine isR ?_; first | refine x_far [] tb_ok rfl ?_ | refine r_nil ?_ | refine r_nild (by kernel_rfl) ?_ | refine x_addE ?_ | refine x_add ?_ | refine x_cat ?_ | refine x_lenF tb_ok ?_ | refine x_lenO tb_ok ?_ | refine x_lenN tb_ok ?_ | refine x_lenS ?_ | refine x_lssT ?_ | refine x_lssF ?_ | refine x_lss (fun hc => ?_) (fun hc => ?_) | refine x_neqT ?_ | refine x_neqF ?_ | refine x_neq (fun hc => ?_) (fun hc => ?_) | refine x_neqB ?_ | refine x_neqST ?_ | refine x_neqSF ?_ | refine x_neqS (fun hc => ?_) (fun hc => ?_) | refine x_neqI ?_ | refine x_neqN ?_ | refine x_iaF tb_ok ?_ | refine x_iaO tb_ok ?_ | refine x_iaA tb_ok ?_ | refine x_iaAF tb_ok ?_ | refine x_neqA tb_ok ?_ | refine x_neqAS tb_ok (fun hc => ?_) (fun hc => ?_))
      | refine x_ret ?_
      | refine x_nor ?_
      | exact x_le)
  rfl
set_option maxRecDepth 100000 in
set_option maxHeartbeats 4000000 in
theorem same_nn : ACalls Tryd.prog 15 [noC, noC] (.bool true) := by
  have c := sameNN_v
  refine fun2 tb_ok Tryd.func15 rfl Tryd.ntmps15 Tryd.results15 rfl fun N => ?_
  repeat' (first
      | with_reducible first | refine awp_seq ?_ | refine awp_region ?_ | refine awp_draw mixed ?_ | refine then_n ?_ | refine awp_skip ?_ | refine awp_block ?_ | refine awp_exit ?_ | refine awp_ret ?_ | refine awp_label ?_ | refine then_exit ?_ | refine then_ret ?_ | refine blk_n ?_ | refine blk_ret ?_ | refine blk_exit ?_ | refine blk_other rfl ?_ | refine then_k ?_
      | refine awp_true rfl ?_
      | refine awp_false rfl ?_
      | refine awp_split rfl (fun hb => ?_) (fun hb => ?_)
      | (refine isR ?_; first | refine x_far [] tb_ok rfl ?_ | refine r_nil ?_ | refine r_nild (by kernel_rfl) ?_ | refine x_eqlR tb_ok ?_ | refine x_call (c _) ?_ | refine x_call (c) ?_ | refine x_eqlT ?_ | refine x_eqlF ?_ | refine x_eql (fun hc => ?_) (fun hc => ?_) | refine x_eqlB ?_ | refine x_eqlST ?_ | refine x_eqlSF ?_ | refine x_eqlS (fun hc => ?_) (fun hc => ?_) | refine x_eqlI ?_ | refine x_eqlN ?_ | refine x_eqlA tb_ok ?_ | refine x_eqlAS tb_ok (fun hc => ?_) (fun hc => ?_))
      | refine x_ret ?_
      | refine x_nor ?_
      | exact x_le)
  all_goals first | rfl | (exfalso; omega)
set_option maxRecDepth 100000 in
set_option maxHeartbeats 4000000 in
theorem reads_law {t : List UInt8} (ht : t.length ≤ 1048576) : ACalls Tryd.prog 4 [strT t] (.bool true) := by
  have cb := begun_v
  have c1 := read_v (t := t) (by omega)
  have c2 := consentOf_v ht
  by_cases h : (readC t).2.2.2 = 0
  · have hr : rdV (readC t) = .tup [conN (readC t).1 (readC t).2.1 (readC t).2.2.1, natV 0] := by unfold rdV; rw [if_pos h, h]
    rw [hr] at c1 c2
    have cs := same_t (g := ((readC t).1 : Int)) (P := (readC t).2.1) (L := toI (readC t).2.2.1)
    rw [← conN_int] at cs
    generalize (readC t).1 = g at *
    generalize (readC t).2.1 = P at *
    generalize (readC t).2.2.1 = U at *
    refine fun1 tb_ok Tryd.func4 rfl Tryd.ntmps4 Tryd.results4 rfl fun N => ?_
    repeat' (first
        | with_reducible first | refine awp_seq ?_ | refine awp_region ?_ | refine awp_draw mixed ?_ | refine then_n ?_ | refine awp_skip ?_ | refine awp_block ?_ | refine awp_exit ?_ | refine awp_ret ?_ | refine awp_label ?_ | refine then_exit ?_ | refine then_ret ?_ | refine blk_n ?_ | refine blk_ret ?_ | refine blk_exit ?_ | refine blk_other rfl ?_ | refine then_k ?_
        | refine awp_true rfl ?_
        | refine awp_false rfl ?_
        | refine awp_split rfl (fun hb => ?_) (fun hb => ?_)
        | (refine isR ?_; first | refine x_far [] tb_ok rfl ?_ | refine r_nil ?_ | refine r_nild (by kernel_rfl) ?_ | refine x_call (cb _) ?_ | refine x_call (cb) ?_ | refine x_call (c1 _) ?_ | refine x_call (c1) ?_ | refine x_call (c2 _) ?_ | refine x_call (c2) ?_ | refine x_call (cs _) ?_ | refine x_call (cs) ?_ | refine x_eqlT ?_ | refine x_eqlF ?_ | refine x_eql (fun hc => ?_) (fun hc => ?_) | refine x_eqlB ?_ | refine x_eqlST ?_ | refine x_eqlSF ?_ | refine x_eqlS (fun hc => ?_) (fun hc => ?_) | refine x_eqlI ?_ | refine x_eqlN ?_ | refine x_eqlA tb_ok ?_ | refine x_eqlAS tb_ok (fun hc => ?_) (fun hc => ?_))
        | refine x_ret ?_
        | refine x_nor ?_
        | exact x_le)
    all_goals first | rfl | (exfalso; omega)
  · rw [rd_code rfl h] at c1 c2
    have cs := same_nn
    generalize (readC t).2.2.2 = z at *
    refine fun1 tb_ok Tryd.func4 rfl Tryd.ntmps4 Tryd.results4 rfl fun N => ?_
    repeat' (first
        | with_reducible first | refine awp_seq ?_ | refine awp_region ?_ | refine awp_draw mixed ?_ | refine then_n ?_ | refine awp_skip ?_ | refine awp_block ?_ | refine awp_exit ?_ | refine awp_ret ?_ | refine awp_label ?_ | refine then_exit ?_ | refine then_ret ?_ | refine blk_n ?_ | refine blk_ret ?_ | refine blk_exit ?_ | refine blk_other rfl ?_ | refine then_k ?_
        | refine awp_true rfl ?_
        | refine awp_false rfl ?_
        | refine awp_split rfl (fun hb => ?_) (fun hb => ?_)
        | (refine isR ?_; first | refine x_far [] tb_ok rfl ?_ | refine r_nil ?_ | refine r_nild (by kernel_rfl) ?_ | refine x_call (cb _) ?_ | refine x_call (cb) ?_ | refine x_call (c1 _) ?_ | refine x_call (c1) ?_ | refine x_call (c2 _) ?_ | refine x_call (c2) ?_ | refine x_call (cs _) ?_ | refine x_call (cs) ?_ | refine x_eqlT ?_ | refine x_eqlF ?_ | refine x_eql (fun hc => ?_) (fun hc => ?_) | refine x_eqlB ?_ | refine x_eqlST ?_ | refine x_eqlSF ?_ | refine x_eqlS (fun hc => ?_) (fun hc => ?_) | refine x_eqlI ?_ | refine x_eqlN ?_ | refine x_eqlA tb_ok ?_ | refine x_eqlAS tb_ok (fun hc => ?_) (fun hc => ?_))
        | refine x_ret ?_
        | refine x_nor ?_
        | exact x_le)
    all_goals first | rfl | (exfalso; omega)
/-- What was read, when it is written. -/
theorem rewrite_v {t : List UInt8} (h : (readC t).2.2.2 = 0) : ACalls Tryd.prog 8 [conN (readC t).1 (readC t).2.1 (readC t).2.2.1] (.tup [strT t, .int .i64 0]) := by
  obtain ⟨h1, h2⟩ := read_right h
  obtain ⟨hg, hR⟩ := check_iff.1 h1
  have cw := write_v (g := ((readC t).1 : Int)) (P := (readC t).2.1) (L := toI (readC t).2.2.1)
  rw [writeC_nat (by omega) (right_toI.1 hR), ← conN_int, h2] at cw
  exact cw
/-- What was written, when it is read. -/
theorem reread_v {g : Nat} {P : Nat → Bool} {U : List Nat} (hg : g ≤ 68719476735) (hU : RightN U) : ACalls Tryd.prog 13 [strT (conText g P U)] (.tup [conN g P U, natV 0]) := by
  obtain ⟨h1, h2, h3, h4⟩ := back (P := P) hg hU
  have hl : (conText g P U).length ≤ 140737488355328 := by
    have := conBits_len g P U
    have := lastOf_le hU
    have e := enc6_len _ (tbits (packT (conBits g P U))) (Nat.le_refl _)
    rw [tbits_len, packT_len] at e
    show (enc6 _).length ≤ _
    omega
  have cr := read_v hl
  have hr : rdV (readC (conText g P U)) = .tup [conN g P U, natV 0] := by
    unfold rdV
    rw [h4, if_pos rfl, h1, h3]
    simp only [conN]
    rw [h2 0 (by decide), h2 1 (by decide), h2 2 (by decide), h2 3 (by decide), h2 4 (by decide), h2 5 (by decide), h2 6 (by decide), h2 7 (by decide), h2 8 (by decide), h2 9 (by decide)]
  rw [hr] at cr
  exact cr
set_option maxRecDepth 100000 in
set_option maxHeartbeats 4000000 in
theorem back_law {g : Int} {P : Nat → Bool} {L : List Int} {t : List UInt8} (ht : t.length ≤ 140737488355328) : ACalls Tryd.prog 5 [conI g P L, strT t] (.bool true) := by
  have cb := begun_v
  have cw := write_v (g := g) (P := P) (L := L)
  have cr := read_v ht
  have cn := same_nn
  by_cases h : GrantP.check g L = 0
  · obtain ⟨n, U, rfl, rfl, hn, hU⟩ := check_nat h
    have cx := reread_v (P := P) hn hU
    have cs := same_t (g := (n : Int)) (P := P) (L := toI U)
    rw [conN_int] at cx
    rw [writeC_nat hn hU] at cw
    dsimp only at cw
    generalize conText n P U = TX at *
    by_cases h2 : (readC t).2.2.2 = 0
    · have hr : rdV (readC t) = .tup [conN (readC t).1 (readC t).2.1 (readC t).2.2.1, natV 0] := by unfold rdV; rw [if_pos h2, h2]
      have cu := rewrite_v h2
      rw [hr] at cr
      clear h hr h2
      generalize (readC t).1 = g2 at *
      generalize (readC t).2.1 = P2 at *
      generalize (readC t).2.2.1 = U2 at *
      refine fun2 tb_ok Tryd.func5 rfl Tryd.ntmps5 Tryd.results5 rfl fun N => ?_
      repeat' (first
          | with_reducible first | refine awp_seq ?_ | refine awp_region ?_ | refine awp_draw mixed ?_ | refine then_n ?_ | refine awp_skip ?_ | refine awp_block ?_ | refine awp_exit ?_ | refine awp_ret ?_ | refine awp_label ?_ | refine then_exit ?_ | refine then_ret ?_ | refine blk_n ?_ | refine blk_ret ?_ | refine blk_exit ?_ | refine blk_other rfl ?_ | refine then_k ?_
          | refine awp_true rfl ?_
          | refine awp_false rfl ?_
          | refine awp_split rfl (fun hb => ?_) (fun hb => ?_)
          | (refine isR ?_; first | refine x_far [] tb_ok rfl ?_ | refine r_nil ?_ | refine r_nild (by kernel_rfl) ?_ | refine x_call (cb _) ?_ | refine x_call (cb) ?_ | refine x_call (cw _) ?_ | refine x_call (cw) ?_ | refine x_call (cr _) ?_ | refine x_call (cr) ?_ | refine x_call (cx _) ?_ | refine x_call (cx) ?_ | refine x_call (cs _) ?_ | refine x_call (cs) ?_ | refine x_call (cu _) ?_ | refine x_call (cu) ?_ | refine x_eqlT ?_ | refine x_eqlF ?_ | refine x_eql (fun hc => ?_) (fun hc => ?_) | refine x_neqT ?_ | refine x_neqF ?_ | refine x_neq (fun hc => ?_) (fun hc => ?_) | refine x_eqlB ?_ | refine x_eqlST ?_ | refine x_eqlSF ?_ | refine x_eqlS (fun hc => ?_) (fun hc => ?_) | refine x_eqlI ?_ | refine x_eqlN ?_ | refine x_neqB ?_ | refine x_neqST ?_ | refine x_neqSF ?_ | refine x_neqS (fun hc => ?_) (fun hc => ?_) | refine x_neqI ?_ | refine x_neqN ?_ | refine x_eqlA tb_ok ?_ | refine x_eqlAS tb_ok (fun hc => ?_) (fun hc => ?_) | refine x_neqA tb_ok ?_ | refine x_neqAS tb_ok (fun hc => ?_) (fun hc => ?_))
          | refine x_ret ?_
          | refine x_nor ?_
          | exact x_le)
      all_goals first | rfl | (exfalso; omega)
    · rw [rd_code rfl h2] at cr
      have h3 : ((readC t).2.2.2 : Int) ≠ 0 := by omega
      generalize (readC t).2.2.2 = z at *
      refine fun2 tb_ok Tryd.func5 rfl Tryd.ntmps5 Tryd.results5 rfl fun N => ?_
      repeat' (first
          | with_reducible first | refine awp_seq ?_ | refine awp_region ?_ | refine awp_draw mixed ?_ | refine then_n ?_ | refine awp_skip ?_ | refine awp_block ?_ | refine awp_exit ?_ | refine awp_ret ?_ | refine awp_label ?_ | refine then_exit ?_ | refine then_ret ?_ | refine blk_n ?_ | refine blk_ret ?_ | refine blk_exit ?_ | refine blk_other rfl ?_ | refine then_k ?_
          | refine awp_true rfl ?_
          | refine awp_false rfl ?_
          | refine awp_split rfl (fun hb => ?_) (fun hb => ?_)
          | (refine isR ?_; first | refine x_far [] tb_ok rfl ?_ | refine r_nil ?_ | refine r_nild (by kernel_rfl) ?_ | refine x_call (cb _) ?_ | refine x_call (cb) ?_ | refine x_call (cw _) ?_ | refine x_call (cw) ?_ | refine x_call (cr _) ?_ | refine x_call (cr) ?_ | refine x_call (cx _) ?_ | refine x_call (cx) ?_ | refine x_call (cs _) ?_ | refine x_call (cs) ?_ | refine x_call (cn _) ?_ | refine x_call (cn) ?_ | refine x_eqlT ?_ | refine x_eqlF ?_ | refine x_eql (fun hc => ?_) (fun hc => ?_) | refine x_neqT ?_ | refine x_neqF ?_ | refine x_neq (fun hc => ?_) (fun hc => ?_) | refine x_eqlB ?_ | refine x_eqlST ?_ | refine x_eqlSF ?_ | refine x_eqlS (fun hc => ?_) (fun hc => ?_) | refine x_eqlI ?_ | refine x_eqlN ?_ | refine x_neqB ?_ | refine x_neqST ?_ | refine x_neqSF ?_ | refine x_neqS (fun hc => ?_) (fun hc => ?_) | refine x_neqI ?_ | refine x_neqN ?_ | refine x_eqlA tb_ok ?_ | refine x_eqlAS tb_ok (fun hc => ?_) (fun hc => ?_) | refine x_neqA tb_ok ?_ | refine x_neqAS tb_ok (fun hc => ?_) (fun hc => ?_))
          | refine x_ret ?_
          | refine x_nor ?_
          | exact x_le)
      all_goals first | rfl | (exfalso; omega)
  · have hw : writeC g P L = ([], GrantP.check g L) := by unfold writeC; rw [if_neg h]
    rw [hw] at cw
    dsimp only at cw
    have h1 : ¬ (GrantP.check g L : Int) = 0 := by omega
    generalize GrantP.check g L = y at *
    by_cases h2 : (readC t).2.2.2 = 0
    · have hr : rdV (readC t) = .tup [conN (readC t).1 (readC t).2.1 (readC t).2.2.1, natV 0] := by unfold rdV; rw [if_pos h2, h2]
      have cu := rewrite_v h2
      rw [hr] at cr
      clear h hr h2
      generalize (readC t).1 = g2 at *
      generalize (readC t).2.1 = P2 at *
      generalize (readC t).2.2.1 = U2 at *
      refine fun2 tb_ok Tryd.func5 rfl Tryd.ntmps5 Tryd.results5 rfl fun N => ?_
      repeat' (first
          | with_reducible first | refine awp_seq ?_ | refine awp_region ?_ | refine awp_draw mixed ?_ | refine then_n ?_ | refine awp_skip ?_ | refine awp_block ?_ | refine awp_exit ?_ | refine awp_ret ?_ | refine awp_label ?_ | refine then_exit ?_ | refine then_ret ?_ | refine blk_n ?_ | refine blk_ret ?_ | refine blk_exit ?_ | refine blk_other rfl ?_ | refine then_k ?_
          | refine awp_true rfl ?_
          | refine awp_false rfl ?_
          | refine awp_split rfl (fun hb => ?_) (fun hb => ?_)
          | (refine isR ?_; first | refine x_far [] tb_ok rfl ?_ | refine r_nil ?_ | refine r_nild (by kernel_rfl) ?_ | refine x_call (cb _) ?_ | refine x_call (cb) ?_ | refine x_call (cw _) ?_ | refine x_call (cw) ?_ | refine x_call (cr _) ?_ | refine x_call (cr) ?_ | refine x_call (cu _) ?_ | refine x_call (cu) ?_ | refine x_eqlT ?_ | refine x_eqlF ?_ | refine x_eql (fun hc => ?_) (fun hc => ?_) | refine x_neqT ?_ | refine x_neqF ?_ | refine x_neq (fun hc => ?_) (fun hc => ?_) | refine x_eqlB ?_ | refine x_eqlST ?_ | refine x_eqlSF ?_ | refine x_eqlS (fun hc => ?_) (fun hc => ?_) | refine x_eqlI ?_ | refine x_eqlN ?_ | refine x_neqB ?_ | refine x_neqST ?_ | refine x_neqSF ?_ | refine x_neqS (fun hc => ?_) (fun hc => ?_) | refine x_neqI ?_ | refine x_neqN ?_ | refine x_eqlA tb_ok ?_ | refine x_eqlAS tb_ok (fun hc => ?_) (fun hc => ?_) | refine x_neqA tb_ok ?_ | refine x_neqAS tb_ok (fun hc => ?_) (fun hc => ?_))
          | refine x_ret ?_
          | refine x_nor ?_
          | exact x_le)
      all_goals first | rfl | (exfalso; omega)
    · rw [rd_code rfl h2] at cr
      have h3 : ((readC t).2.2.2 : Int) ≠ 0 := by omega
      generalize (readC t).2.2.2 = z at *
      refine fun2 tb_ok Tryd.func5 rfl Tryd.ntmps5 Tryd.results5 rfl fun N => ?_
      repeat' (first
          | with_reducible first | refine awp_seq ?_ | refine awp_region ?_ | refine awp_draw mixed ?_ | refine then_n ?_ | refine awp_skip ?_ | refine awp_block ?_ | refine awp_exit ?_ | refine awp_ret ?_ | refine awp_label ?_ | refine then_exit ?_ | refine then_ret ?_ | refine blk_n ?_ | refine blk_ret ?_ | refine blk_exit ?_ | refine blk_other rfl ?_ | refine then_k ?_
          | refine awp_true rfl ?_
          | refine awp_false rfl ?_
          | refine awp_split rfl (fun hb => ?_) (fun hb => ?_)
          | (refine isR ?_; first | refine x_far [] tb_ok rfl ?_ | refine r_nil ?_ | refine r_nild (by kernel_rfl) ?_ | refine x_call (cb _) ?_ | refine x_call (cb) ?_ | refine x_call (cw _) ?_ | refine x_call (cw) ?_ | refine x_call (cr _) ?_ | refine x_call (cr) ?_ | refine x_call (cn _) ?_ | refine x_call (cn) ?_ | refine x_eqlT ?_ | refine x_eqlF ?_ | refine x_eql (fun hc => ?_) (fun hc => ?_) | refine x_neqT ?_ | refine x_neqF ?_ | refine x_neq (fun hc => ?_) (fun hc => ?_) | refine x_eqlB ?_ | refine x_eqlST ?_ | refine x_eqlSF ?_ | refine x_eqlS (fun hc => ?_) (fun hc => ?_) | refine x_eqlI ?_ | refine x_eqlN ?_ | refine x_neqB ?_ | refine x_neqST ?_ | refine x_neqSF ?_ | refine x_neqS (fun hc => ?_) (fun hc => ?_) | refine x_neqI ?_ | refine x_neqN ?_ | refine x_eqlA tb_ok ?_ | refine x_eqlAS tb_ok (fun hc => ?_) (fun hc => ?_) | refine x_neqA tb_ok ?_ | refine x_neqAS tb_ok (fun hc => ?_) (fun hc => ?_))
          | refine x_ret ?_
          | refine x_nor ?_
          | exact x_le)
      all_goals first | rfl | (exfalso; omega)
set_option maxRecDepth 100000 in
set_option maxHeartbeats 4000000 in
theorem short_law {g : Int} {P : Nat → Bool} {L : List Int} : ACalls Tryd.prog 6 [conI g P L] (.bool true) := by
  have cb := begun_v
  have cw := write_v (g := g) (P := P) (L := L)
  by_cases h : GrantP.check g L = 0
  · obtain ⟨n, U, rfl, rfl, hn, hU⟩ := check_nat h
    rw [writeC_nat hn hU, ← conN_int] at cw
    dsimp only at cw
    have hlen : (conText n P U).length ≤ (8 * ((59 + lastOf U + 7) / 8) + 5) / 6 := by
      have h1 := conBits_len n P U
      have e := enc6_len _ (tbits (packT (conBits n P U))) (Nat.le_refl _)
      rw [tbits_len, packT_len] at e
      show (enc6 _).length ≤ _
      omega
    have hl40 := lastOf_le hU
    have hf := right_few hU
    have hml : (U.map natV).length = U.length := List.length_map _
    have hU0 : U.length = 0 → lastOf U = 0 := fun h => by rw [List.eq_nil_of_length_eq_zero h]; rfl
    have hat := fun h => at_map (f := natV) (ConY.last_at (U := U) h)
    rw [← conN_int]
    generalize conText n P U = TX at *
    generalize hla : lastOf U = la at *
    have q1 : IntKind.i64.wrap (((59 : Int) + (la : Int) + 7).tdiv 8) = (((59 + la + 7) / 8 : Nat) : Int) := by
      rw [Int.tdiv_eq_ediv_of_nonneg (by omega), IntWalk.i64_in _ (by omega)]; omega
    generalize hz : (59 + la + 7) / 8 = z at *
    have q2 : IntKind.i64.wrap (((8 : Int) * (z : Int) + 5).tdiv 6) = (((8 * z + 5) / 6 : Nat) : Int) := by
      rw [Int.tdiv_eq_ediv_of_nonneg (by omega), IntWalk.i64_in _ (by omega)]; omega
    have i1 : InR .i64 ((z : Nat) : Int) := ⟨by show (-9223372036854775808 : Int) ≤ _; omega, by show _ ≤ (9223372036854775807 : Int); omega⟩
    have i2 : InR .i64 (((8 * z + 5) / 6 : Nat) : Int) := ⟨by show (-9223372036854775808 : Int) ≤ _; omega, by show _ ≤ (9223372036854775807 : Int); omega⟩
    generalize hy : (8 * z + 5) / 6 = y at *
    by_cases hu : 0 < U.length
    · have hat := hat hu
      have hk1 : ((U.map natV).length : Int) - 1 = ((U.length - 1 : Nat) : Int) := by omega
      refine fun1 tb_ok Tryd.func6 rfl Tryd.ntmps6 Tryd.results6 rfl fun N => ?_
      repeat' (first
          | with_reducible first | refine awp_seq ?_ | refine awp_region ?_ | refine awp_draw mixed ?_ | refine then_n ?_ | refine awp_skip ?_ | refine awp_block ?_ | refine awp_exit ?_ | refine awp_ret ?_ | refine awp_label ?_ | refine then_exit ?_ | refine then_ret ?_ | refine blk_n ?_ | refine blk_ret ?_ | refine blk_exit ?_ | refine blk_other rfl ?_ | refine then_k ?_
          | refine awp_true rfl ?_
          | refine awp_false rfl ?_
          | refine awp_split rfl (fun hb => ?_) (fun hb => ?_)
          | (refine isR ?_; first | refine x_far [] tb_ok rfl ?_ | refine r_nil ?_ | refine r_nild (by kernel_rfl) ?_ | refine x_call (cb _) ?_ | refine x_call (cb) ?_ | refine x_call (cw _) ?_ | refine x_call (cw) ?_ | refine x_quo ?_ | refine x_addE ?_ | refine x_add ?_ | refine x_subE ?_ | refine x_sub ?_ | refine x_mulE ?_ | refine x_mul ?_ | refine x_cat ?_ | refine x_lenF tb_ok ?_ | refine x_lenO tb_ok ?_ | refine x_lenN tb_ok ?_ | refine x_lenS ?_ | refine x_leqT ?_ | refine x_leqF ?_ | refine x_leq (fun hc => ?_) (fun hc => ?_) | refine x_gtrT ?_ | refine x_gtrF ?_ | refine x_gtr (fun hc => ?_) (fun hc => ?_) | refine x_eqlT ?_ | refine x_eqlF ?_ | refine x_eql (fun hc => ?_) (fun hc => ?_) | refine x_neqT ?_ | refine x_neqF ?_ | refine x_neq (fun hc => ?_) (fun hc => ?_) | refine x_eqlB ?_ | refine x_eqlST ?_ | refine x_eqlSF ?_ | refine x_eqlS (fun hc => ?_) (fun hc => ?_) | refine x_eqlI ?_ | refine x_eqlN ?_ | refine x_neqB ?_ | refine x_neqST ?_ | refine x_neqSF ?_ | refine x_neqS (fun hc => ?_) (fun hc => ?_) | refine x_neqI ?_ | refine x_neqN ?_ | refine x_iaF tb_ok ?_ | refine x_iaO tb_ok ?_ | refine x_iaA tb_ok ?_ | refine x_iaAF tb_ok ?_ | refine x_eqlA tb_ok ?_ | refine x_eqlAS tb_ok (fun hc => ?_) (fun hc => ?_) | refine x_neqA tb_ok ?_ | refine x_neqAS tb_ok (fun hc => ?_) (fun hc => ?_))
          | refine x_ret ?_
          | refine x_nor ?_
          | exact x_le)
      all_goals first | rfl | (exfalso; omega)
    · have h0 := hU0 (by omega)
      subst h0
      refine fun1 tb_ok Tryd.func6 rfl Tryd.ntmps6 Tryd.results6 rfl fun N => ?_
      repeat' (first
          | with_reducible first | refine awp_seq ?_ | refine awp_region ?_ | refine awp_draw mixed ?_ | refine then_n ?_ | refine awp_skip ?_ | refine awp_block ?_ | refine awp_exit ?_ | refine awp_ret ?_ | refine awp_label ?_ | refine then_exit ?_ | refine then_ret ?_ | refine blk_n ?_ | refine blk_ret ?_ | refine blk_exit ?_ | refine blk_other rfl ?_ | refine then_k ?_
          | refine awp_true rfl ?_
          | refine awp_false rfl ?_
          | refine awp_split rfl (fun hb => ?_) (fun hb => ?_)
          | (refine isR ?_; first | refine x_far [] tb_ok rfl ?_ | refine r_nil ?_ | refine r_nild (by kernel_rfl) ?_ | refine x_call (cb _) ?_ | refine x_call (cb) ?_ | refine x_call (cw _) ?_ | refine x_call (cw) ?_ | refine x_quo ?_ | refine x_addE ?_ | refine x_add ?_ | refine x_subE ?_ | refine x_sub ?_ | refine x_mulE ?_ | refine x_mul ?_ | refine x_cat ?_ | refine x_lenF tb_ok ?_ | refine x_lenO tb_ok ?_ | refine x_lenN tb_ok ?_ | refine x_lenS ?_ | refine x_leqT ?_ | refine x_leqF ?_ | refine x_leq (fun hc => ?_) (fun hc => ?_) | refine x_gtrT ?_ | refine x_gtrF ?_ | refine x_gtr (fun hc => ?_) (fun hc => ?_) | refine x_eqlT ?_ | refine x_eqlF ?_ | refine x_eql (fun hc => ?_) (fun hc => ?_) | refine x_neqT ?_ | refine x_neqF ?_ | refine x_neq (fun hc => ?_) (fun hc => ?_) | refine x_eqlB ?_ | refine x_eqlST ?_ | refine x_eqlSF ?_ | refine x_eqlS (fun hc => ?_) (fun hc => ?_) | refine x_eqlI ?_ | refine x_eqlN ?_ | refine x_neqB ?_ | refine x_neqST ?_ | refine x_neqSF ?_ | refine x_neqS (fun hc => ?_) (fun hc => ?_) | refine x_neqI ?_ | refine x_neqN ?_ | refine x_iaF tb_ok ?_ | refine x_iaO tb_ok ?_ | refine x_iaA tb_ok ?_ | refine x_iaAF tb_ok ?_ | refine x_eqlA tb_ok ?_ | refine x_eqlAS tb_ok (fun hc => ?_) (fun hc => ?_) | refine x_neqA tb_ok ?_ | refine x_neqAS tb_ok (fun hc => ?_) (fun hc => ?_))
          | refine x_ret ?_
          | refine x_nor ?_
          | exact x_le)
      all_goals first | rfl | (exfalso; omega)
  · have hw : writeC g P L = ([], GrantP.check g L) := by unfold writeC; rw [if_neg h]
    rw [hw] at cw
    dsimp only at cw
    have h1 : ¬ (GrantP.check g L : Int) = 0 := by omega
    generalize GrantP.check g L = z at *
    refine fun1 tb_ok Tryd.func6 rfl Tryd.ntmps6 Tryd.results6 rfl fun N => ?_
    repeat' (first
        | with_reducible first | refine awp_seq ?_ | refine awp_region ?_ | refine awp_draw mixed ?_ | refine then_n ?_ | refine awp_skip ?_ | refine awp_block ?_ | refine awp_exit ?_ | refine awp_ret ?_ | refine awp_label ?_ | refine then_exit ?_ | refine then_ret ?_ | refine blk_n ?_ | refine blk_ret ?_ | refine blk_exit ?_ | refine blk_other rfl ?_ | refine then_k ?_
        | refine awp_true rfl ?_
        | refine awp_false rfl ?_
        | refine awp_split rfl (fun hb => ?_) (fun hb => ?_)
        | (refine isR ?_; first | refine x_far [] tb_ok rfl ?_ | refine r_nil ?_ | refine r_nild (by kernel_rfl) ?_ | refine x_call (cb _) ?_ | refine x_call (cb) ?_ | refine x_call (cw _) ?_ | refine x_call (cw) ?_ | refine x_addE ?_ | refine x_add ?_ | refine x_subE ?_ | refine x_sub ?_ | refine x_mulE ?_ | refine x_mul ?_ | refine x_cat ?_ | refine x_lenF tb_ok ?_ | refine x_lenO tb_ok ?_ | refine x_lenN tb_ok ?_ | refine x_lenS ?_ | refine x_leqT ?_ | refine x_leqF ?_ | refine x_leq (fun hc => ?_) (fun hc => ?_) | refine x_gtrT ?_ | refine x_gtrF ?_ | refine x_gtr (fun hc => ?_) (fun hc => ?_) | refine x_eqlT ?_ | refine x_eqlF ?_ | refine x_eql (fun hc => ?_) (fun hc => ?_) | refine x_neqT ?_ | refine x_neqF ?_ | refine x_neq (fun hc => ?_) (fun hc => ?_) | refine x_eqlB ?_ | refine x_eqlST ?_ | refine x_eqlSF ?_ | refine x_eqlS (fun hc => ?_) (fun hc => ?_) | refine x_eqlI ?_ | refine x_eqlN ?_ | refine x_neqB ?_ | refine x_neqST ?_ | refine x_neqSF ?_ | refine x_neqS (fun hc => ?_) (fun hc => ?_) | refine x_neqI ?_ | refine x_neqN ?_ | refine x_iaF tb_ok ?_ | refine x_iaO tb_ok ?_ | refine x_iaA tb_ok ?_ | refine x_iaAF tb_ok ?_ | refine x_eqlA tb_ok ?_ | refine x_eqlAS tb_ok (fun hc => ?_) (fun hc => ?_) | refine x_neqA tb_ok ?_ | refine x_neqAS tb_ok (fun hc => ?_) (fun hc => ?_))
        | refine x_ret ?_
        | refine x_nor ?_
        | exact x_le)
    all_goals first | rfl | (exfalso; omega)
end Go.Proofs.YtfhfpanemalbmaaDoor.ConL
