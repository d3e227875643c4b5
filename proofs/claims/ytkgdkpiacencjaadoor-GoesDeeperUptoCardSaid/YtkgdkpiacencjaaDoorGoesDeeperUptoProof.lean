/- Proves 'GoesDeeperUpto': for every input of bulk at most 1048576 the law returns true, and each argument reads behind the call as it did; no condition but that bound. -/
import Derived.Test.YtkgdkpiacencjaaDoorRows
import Derived.Test.YtkgdkpiacencjaaDoorFrame
import Derived.Test.YtkgdkpiacencjaaDoorTy
import Derived.Test.YtkgdkpiacencjaaDoorGoesL
import Derived.Test.YtkgdkpiacencjaaDoorCards
import Derived.Test.YtkgdkpiacencjaaDoorTie
import Derived.WalkKit
import Derived.ProofKit
import Derived.Deep.DeepHandedRow
import Derived.Lib.LaidTab
import Derived.LaidMore
import Derived.MakeChecks
import Derived.OpenShut
import Derived.ShutString
import Derived.SizedLaws
import Derived.JoinedCond
import Derived.Deep.CondSized
namespace Go.Proofs.YtkgdkpiacencjaaDoor.goesDeeperUpto
open Go.ChangeShapes Go.WideShapes Go.ChangeAt Go.RowKit Ends
open Go.ChangeMaps (open_string shut_string)
set_option linter.unusedVariables false

theorem own : ownKnob Tryd.prog.godebug = none := by kernel_rfl

set_option maxRecDepth 100000 in
/-- A world for the witness: what the variables' initialisers make. -/
noncomputable def laidWorld (os : Os) : World := World.doorLaid Tryd.prog 400 os
theorem laid_met (os : Os) : laidMet Tryd.prog Rows.goesDeeperUptoRow.laid ((laidWorld os).forCall (fun _ _ => 0) ⟨#[], #[.agg #[.string ByteArray.empty, .string ByteArray.empty, .string ByteArray.empty, .string ByteArray.empty, .bool false, .bool false, .bool false, .bool false, .int .i64 0, .int .i64 0, .int .i64 0, .int .i64 0, .int .i64 0], .agg #[.string ByteArray.empty, .string ByteArray.empty, .bool false, .bool false, .bool false], .int .i64 0, .string ByteArray.empty, .string ByteArray.empty], []⟩).memory :=
  laidMet_of_run' 8 (by kernel_rfl) (by kernel_rfl)
theorem reads (os : Os) {H : Type} (enc : TypeId × Value → H) : ∃ places, DataW.whole enc Tryd.prog ((laidWorld os).forCall (fun _ _ => 0) ⟨#[], #[.agg #[.string ByteArray.empty, .string ByteArray.empty, .string ByteArray.empty, .string ByteArray.empty, .bool false, .bool false, .bool false, .bool false, .int .i64 0, .int .i64 0, .int .i64 0, .int .i64 0, .int .i64 0], .agg #[.string ByteArray.empty, .string ByteArray.empty, .bool false, .bool false, .bool false], .int .i64 0, .string ByteArray.empty, .string ByteArray.empty], []⟩).memory Tryd.f5.params.toList Rows.goesDeeperSpec.vars false (#[.agg #[.string ByteArray.empty, .string ByteArray.empty, .string ByteArray.empty, .string ByteArray.empty, .bool false, .bool false, .bool false, .bool false, .int .i64 0, .int .i64 0, .int .i64 0, .int .i64 0, .int .i64 0], .agg #[.string ByteArray.empty, .string ByteArray.empty, .bool false, .bool false, .bool false], .int .i64 0, .string ByteArray.empty, .string ByteArray.empty] : Array Value).toList 8 = some ([.agg [.lit (.string []), .lit (.string []), .lit (.string []), .lit (.string []), .lit (.bool false), .lit (.bool false), .lit (.bool false), .lit (.bool false), .lit (.int .i64 0), .lit (.int .i64 0), .lit (.int .i64 0), .lit (.int .i64 0), .lit (.int .i64 0)], .agg [.lit (.string []), .lit (.string []), .lit (.bool false), .lit (.bool false), .lit (.bool false)], .lit (.int .i64 0), .lit (.string []), .lit (.string [])], [], places) :=
  ⟨[], by kernel_rfl⟩
set_option maxRecDepth 100000 in
theorem lifted (os : Os) (started : os.Started) (H : Type) (enc : TypeId × Value → H) (F : Stop.Interp) :
    ReturnsInHanded {} Tryd.checked os 5 .any ((Rows.OpenSpec.upto Rows.goesDeeperSpec).preRow enc Tryd.prog Tryd.f5 Rows.goesDeeperUptoRow.domain false Rows.goesDeeperUptoRow.laid) (((Rows.OpenSpec.upto Rows.goesDeeperSpec).at F).post enc Tryd.prog Tryd.f5 false true false false) := by
  obtain ⟨places, hx⟩ := reads os enc
  refine returnsInHanded_of_row (C := Tryd.checked) (s := Rows.OpenSpec.upto Rows.goesDeeperSpec) own started (by kernel_rfl) Tryd.func5
    (witness_row_at (enc := enc) (C := Tryd.checked) false (laidWorld os) #[.agg #[.string ByteArray.empty, .string ByteArray.empty, .string ByteArray.empty, .string ByteArray.empty, .bool false, .bool false, .bool false, .bool false, .int .i64 0, .int .i64 0, .int .i64 0, .int .i64 0, .int .i64 0], .agg #[.string ByteArray.empty, .string ByteArray.empty, .bool false, .bool false, .bool false], .int .i64 0, .string ByteArray.empty, .string ByteArray.empty] rfl (by kernel_rfl) (by kernel_rfl) (by kernel_rfl)
      (OpenSpec.preRow_of_cond 8 hx (by kernel_rfl) (fun k hk => by cases hk; kernel_rfl) (by kernel_rfl) (laid_met os))) ?_
  intro W base args ds gs before hval0 hW hcnd hk0 hsz hlaid _ _
  have hGl : Abs.GlOk Globs.gStr (fun _ => False) W := by
    rw [MakeChecks.laidMetH_plain _ _ _ (by kernel_rfl)] at hlaid
    exact Globs.glob_of hlaid (d1 := Rows.laid_strconv_ErrSyntax) (d2 := Rows.laid_strconv_ErrRange) (by repeat (first | exact List.Mem.head _ | refine List.Mem.tail _ ?_)) (by repeat (first | exact List.Mem.head _ | refine List.Mem.tail _ ?_)) (by repeat (first | exact List.Mem.head _ | refine List.Mem.tail _ ?_))
  have hk : Rows.uptoSmall H (ds ++ gs) = true := hk0 _ rfl
  have hval : ∀ (j : Nat) t v, Tryd.f5.params[j]? = some t → args[j]? = some v → Value.okWide Tryd.prog W .any base t v := hval0
  have hW0 := hW
  obtain ⟨p, q, hA0, hV, rfl, hfz, hnd⟩ := hW
  have hA : DataW.TrodAll enc Tryd.prog W 0 (fun _ => true) true Tryd.f5.params.toList args.toList ds p := hA0
  rw [Tryd.params5] at hA hval hsz
  obtain ⟨v0, vs0, d0, ds0, p0, q0, hargs, rfl, rfl, h0, r0⟩ := trodAll_cons hA
  obtain ⟨v1, vs1, d1, ds1, p1, q1, rfl, rfl, rfl, h1, r1⟩ := trodAll_cons r0
  obtain ⟨v2, vs2, d2, ds2, p2, q2, rfl, rfl, rfl, h2, r2⟩ := trodAll_cons r1
  obtain ⟨v3, vs3, d3, ds3, p3, q3, rfl, rfl, rfl, h3, r3⟩ := trodAll_cons r2
  obtain ⟨v4, vs4, d4, ds4, p4, q4, rfl, rfl, rfl, h4, r4⟩ := trodAll_cons r3
  obtain ⟨rfl, rfl, rfl⟩ := trodAll_nil r4
  obtain rfl : args = #[v0, v1, v2, v3, v4] := by cases args; simp_all
  obtain ⟨rfl, rfl⟩ := trodVars_none hV
  have hB := Seen.Bound.and (Seen.bound_upto (P := Tryd.prog) (H := H) 1048576) (Seen.bound_reach (P := Tryd.prog) (H := H))
  simp only [List.append_nil] at hk
  have z0 : Rows.uptoBulk d0 ≤ 1048576 ∧ ∀ n ∈ d0.weights Tryd.prog 23, n ≤ 140737488351232 := ⟨Nat.le_trans (Seen.bulk_part (by simp)) (of_decide_eq_true hk), Seen.weigh_each hsz 0 23 d0 rfl rfl⟩
  have z1 : Rows.uptoBulk d1 ≤ 1048576 ∧ ∀ n ∈ d1.weights Tryd.prog 25, n ≤ 140737488351232 := ⟨Nat.le_trans (Seen.bulk_part (by simp)) (of_decide_eq_true hk), Seen.weigh_each hsz 1 25 d1 rfl rfl⟩
  have z2 : Rows.uptoBulk d2 ≤ 1048576 ∧ ∀ n ∈ d2.weights Tryd.prog 3, n ≤ 140737488351232 := ⟨Nat.le_trans (Seen.bulk_part (by simp)) (of_decide_eq_true hk), Seen.weigh_each hsz 2 3 d2 rfl rfl⟩
  have z3 : Rows.uptoBulk d3 ≤ 1048576 ∧ ∀ n ∈ d3.weights Tryd.prog 9, n ≤ 140737488351232 := ⟨Nat.le_trans (Seen.bulk_part (by simp)) (of_decide_eq_true hk), Seen.weigh_each hsz 3 9 d3 rfl rfl⟩
  have z4 : Rows.uptoBulk d4 ≤ 1048576 ∧ ∀ n ∈ d4.weights Tryd.prog 9, n ≤ 140737488351232 := ⟨Nat.le_trans (Seen.bulk_part (by simp)) (of_decide_eq_true hk), Seen.weigh_each hsz 4 9 d4 rfl rfl⟩
  have hL : ∀ e n, n ≤ 1048576 ∧ n * Tryd.prog.bytesOf e ≤ 140737488351232 → n * Tryd.prog.bytesOf e ≤ 140737488351232 := fun e n h => h.2
  have hS : ∀ n, n ≤ 1048576 ∧ n ≤ 140737488351232 → n ≤ Abs.SLIM := fun n h => by have := h.2; simp only [Abs.SLIM]; omega
  obtain ⟨n0, u0, t0, f0⟩ := Abs.open_any (okL := fun e n => n ≤ 1048576 ∧ n * Tryd.prog.bytesOf e ≤ 140737488351232) (okS := fun n => n ≤ 1048576 ∧ n ≤ 140737488351232) hL hS (by kernel_rfl) (hval 0 23 v0 rfl rfl) (Seen.sees_trod hB h0 z0)
  obtain ⟨a0, e0, k0⟩ := Abs.Cookie.of t0
  rw [Abs.mk_agg (by kernel_rfl), e0] at f0
  obtain ⟨n1, u1, t1, f1⟩ := Abs.open_any (okL := fun e n => n ≤ 1048576 ∧ n * Tryd.prog.bytesOf e ≤ 140737488351232) (okS := fun n => n ≤ 1048576 ∧ n ≤ 140737488351232) hL hS (by kernel_rfl) (hval 1 25 v1 rfl rfl) (Seen.sees_trod hB h1 z1)
  obtain ⟨a1, e1, k1⟩ := Abs.From.of t1
  rw [Abs.mk_agg (by kernel_rfl), e1] at f1
  obtain ⟨n2, u2, t2, f2⟩ := Abs.open_any (okL := fun e n => n ≤ 1048576 ∧ n * Tryd.prog.bytesOf e ≤ 140737488351232) (okS := fun n => n ≤ 1048576 ∧ n ≤ 140737488351232) hL hS (by kernel_rfl) (hval 2 3 v2 rfl rfl) (Seen.sees_trod hB h2 z2)
  obtain ⟨a2, rfl⟩ := Abs.ty_int Tryd.underlying3 t2
  rw [Abs.mk_one (by kernel_rfl)] at f2
  obtain ⟨n3, u3, t3, f3⟩ := Abs.open_any (okL := fun e n => n ≤ 1048576 ∧ n * Tryd.prog.bytesOf e ≤ 140737488351232) (okS := fun n => n ≤ 1048576 ∧ n ≤ 140737488351232) hL hS (by kernel_rfl) (hval 3 9 v3 rfl rfl) (Seen.sees_trod hB h3 z3)
  obtain ⟨a3, rfl, k3⟩ := Abs.ty_strL Tryd.underlying9 t3
  rw [Abs.mk_one (by kernel_rfl)] at f3
  obtain ⟨n4, u4, t4, f4⟩ := Abs.open_any (okL := fun e n => n ≤ 1048576 ∧ n * Tryd.prog.bytesOf e ≤ 140737488351232) (okS := fun n => n ≤ 1048576 ∧ n ≤ 140737488351232) hL hS (by kernel_rfl) (hval 4 9 v4 rfl rfl) (Seen.sees_trod hB h4 z4)
  obtain ⟨a4, rfl, k4⟩ := Abs.ty_strL Tryd.underlying9 t4
  rw [Abs.mk_one (by kernel_rfl)] at f4
  clear hA0 hval0
  refine (Abs.law_callsG (GoesL.deeper_law (c := a0) (f := a1) (now := a2) (h := a3) (p := a4) (by have := k0.2.2.1.1; omega) (by have := k1.1.1; omega) (by have := k3.1; omega)) hGl (.cons f0 (.cons f1 (.cons f2 (.cons f3 (.cons f4 .nil)))))).mono fun e W' ⟨he, hb⟩ => ?_
  subst he
  exact ⟨_, rfl, post_law laidOut (by kernel_rfl) Tryd.underlying4 rfl rfl rfl hW0 hb⟩

theorem said : Rows.GoesDeeperUptoSaid :=
  OpenClaim.holds_of_cond 5 Tryd.f5 rfl rfl rfl rfl rfl rfl rfl ⟨rfl, rfl, rfl, rfl, rfl⟩ rfl rfl rfl rfl rfl (by kernel_rfl) Tryd.func5 (by kernel_rfl)
    (of_decide_eq_true (by kernel_rfl)) (by unfold Func.isWrapper; first | (rw [if_pos (by decide +kernel)]; kernel_rfl) | (rw [if_neg (by decide +kernel)]; exact ⟨rfl, rfl⟩))
    (fun os started H enc _ F => by rw [OpenClaim.pre_eq_preRow]; exact lifted os started H enc F)
theorem plain (f : FuncId) (fn : Func) (hf : Tryd.pinned.checked.prog.funcNamed "gingersnap/gingersnaplaw.GoesDeeper" = some f) (hfn : Tryd.pinned.checked.prog.funcs[f]? = some fn) :
    true = Tryd.pinned.checked.prog.looks [] ∧ ∀ (j : Nat) t, fn.params[j]? = some t → Tryd.pinned.checked.prog.wantsStandIn t = false := by
  obtain rfl : f = 5 := Option.some.inj ((show Tryd.prog.funcNamed "gingersnap/gingersnaplaw.GoesDeeper" = some 5 by kernel_rfl).symm.trans hf) |>.symm
  obtain rfl : fn = Tryd.f5 := (Option.some.inj (Tryd.func5.symm.trans hfn)).symm
  refine ⟨by kernel_rfl, fun j t ht => ?_⟩
  have hall : (Tryd.f5.params.toList.all fun t => !Tryd.prog.wantsStandIn t) = true := by kernel_rfl
  have hm : t ∈ Tryd.f5.params.toList := by simpa using Array.mem_of_getElem? ht
  have h := List.all_eq_true.1 hall t hm
  rw [Bool.not_eq_true'] at h
  exact h
theorem proved : Rows.GoesDeeperUptoCardSaid :=
  Claim7.holds_tied_plain_at .later [] _ _ _ _ said (fun _ h => by cases h) (by kernel_rfl) (fun _ h => by cases h) goesDeeperUpto_row_tie rfl ⟨rfl, rfl⟩ (by kernel_rfl) rfl plain (by kernel_rfl)
#print axioms proved
end Go.Proofs.YtkgdkpiacencjaaDoor.goesDeeperUpto
