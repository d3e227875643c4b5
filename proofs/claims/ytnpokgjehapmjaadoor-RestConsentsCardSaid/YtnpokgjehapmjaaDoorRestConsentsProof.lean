/- Proves 'RestConsents': for every input the law returns true, and each argument reads behind the call as it did; no condition. -/
import Derived.Test.YtnpokgjehapmjaaDoorRows
import Derived.Test.YtnpokgjehapmjaaDoorFrame
import Derived.Test.YtnpokgjehapmjaaDoorG8
import Derived.Test.YtnpokgjehapmjaaDoorG17
import Derived.Test.YtnpokgjehapmjaaDoorCards
import Derived.Test.YtnpokgjehapmjaaDoorTie
import Derived.WalkKit
import Derived.ProofKit
import Derived.Deep.DeepHandedRow
import Derived.Lib.LaidTab
import Derived.LaidMore
import Derived.Lay
import Derived.MakeChecks
import Derived.OpenShut
import Derived.ShutString
import Derived.SizedLaws
namespace Go.Proofs.YtnpokgjehapmjaaDoor.restConsents
open Go.ChangeShapes Go.WideShapes Go.ChangeAt Go.RowKit Ends
open Go.ChangeMaps (open_string shut_string)
set_option linter.unusedVariables false

theorem own : ownKnob Tryd.prog.godebug = none := by kernel_rfl

set_option maxRecDepth 100000 in
/-- A world for the witness: the listed variables as the row lists them. -/
noncomputable def laidWorld (os : Os) : World := World.laidAll Tryd.prog os Rows.restConsentsRow.laid
theorem laid_met (os : Os) : laidMet Tryd.prog Rows.restConsentsRow.laid ((laidWorld os).forCall (fun _ _ => 0) ⟨#[], #[.agg #[.int .i64 0, .bool false, .bool false, .bool false, .bool false, .bool false, .bool false, .bool false, .bool false, .bool false, .bool false, .slice none 0 0], .agg #[.int .i64 0, .bool false, .bool false, .bool false, .bool false, .bool false, .bool false, .bool false, .bool false, .bool false, .bool false, .slice none 0 0], .int .i64 0, .int .i64 0, .int .i64 0], []⟩).memory :=
  laidMet_laidAll _ (by kernel_rfl) (by kernel_rfl)
theorem reads (os : Os) {H : Type} (enc : TypeId × Value → H) : ∃ places, DataW.whole enc Tryd.prog ((laidWorld os).forCall (fun _ _ => 0) ⟨#[], #[.agg #[.int .i64 0, .bool false, .bool false, .bool false, .bool false, .bool false, .bool false, .bool false, .bool false, .bool false, .bool false, .slice none 0 0], .agg #[.int .i64 0, .bool false, .bool false, .bool false, .bool false, .bool false, .bool false, .bool false, .bool false, .bool false, .bool false, .slice none 0 0], .int .i64 0, .int .i64 0, .int .i64 0], []⟩).memory Tryd.f3.params.toList Rows.restConsentsSpec.vars false (#[.agg #[.int .i64 0, .bool false, .bool false, .bool false, .bool false, .bool false, .bool false, .bool false, .bool false, .bool false, .bool false, .slice none 0 0], .agg #[.int .i64 0, .bool false, .bool false, .bool false, .bool false, .bool false, .bool false, .bool false, .bool false, .bool false, .bool false, .slice none 0 0], .int .i64 0, .int .i64 0, .int .i64 0] : Array Value).toList 8 = some ([.agg [.lit (.int .i64 0), .agg [.lit (.bool false), .lit (.bool false), .lit (.bool false), .lit (.bool false), .lit (.bool false), .lit (.bool false), .lit (.bool false), .lit (.bool false), .lit (.bool false), .lit (.bool false)], .nil], .agg [.lit (.int .i64 0), .agg [.lit (.bool false), .lit (.bool false), .lit (.bool false), .lit (.bool false), .lit (.bool false), .lit (.bool false), .lit (.bool false), .lit (.bool false), .lit (.bool false), .lit (.bool false)], .nil], .lit (.int .i64 0), .lit (.int .i64 0), .lit (.int .i64 0)], [], places) :=
  ⟨[], by kernel_rfl⟩
set_option maxRecDepth 100000 in
theorem lifted (os : Os) (started : os.Started) (H : Type) (enc : TypeId × Value → H) (F : Stop.Interp) :
    ReturnsInHanded {} Tryd.checked os 3 .any ((OpenSpec.ofChange Rows.restConsentsSpec).preRow enc Tryd.prog Tryd.f3 Rows.restConsentsRow.domain false Rows.restConsentsRow.laid) (((OpenSpec.ofChange Rows.restConsentsSpec).at F).post enc Tryd.prog Tryd.f3 false true false false) := by
  obtain ⟨places, hx⟩ := reads os enc
  refine returnsInHanded_of_row (C := Tryd.checked) (s := OpenSpec.ofChange Rows.restConsentsSpec) own started (by kernel_rfl) Tryd.func3
    (witness_row_at (enc := enc) (C := Tryd.checked) false (laidWorld os) #[.agg #[.int .i64 0, .bool false, .bool false, .bool false, .bool false, .bool false, .bool false, .bool false, .bool false, .bool false, .bool false, .slice none 0 0], .agg #[.int .i64 0, .bool false, .bool false, .bool false, .bool false, .bool false, .bool false, .bool false, .bool false, .bool false, .bool false, .slice none 0 0], .int .i64 0, .int .i64 0, .int .i64 0] (World.laidAll_os _ _ _) (by kernel_rfl) (by kernel_rfl) (by kernel_rfl)
      (OpenSpec.preRow_of_cond 8 hx (by kernel_rfl) (fun k hk => by cases hk) (by kernel_rfl) (laid_met os))) ?_
  intro W base args ds gs before hval0 hW hcnd hk0 hsz hlaid hsh _
  have hval : ∀ (j : Nat) t v, Tryd.f3.params[j]? = some t → args[j]? = some v → Value.okWide Tryd.prog W .any base t v := hval0
  have hW0 := hW
  obtain ⟨p, q, hA0, hV, rfl, hfz, hnd⟩ := hW
  have hA : DataW.TrodAll enc Tryd.prog W 0 (fun _ => true) true Tryd.f3.params.toList args.toList ds p := hA0
  rw [Tryd.params3] at hA hval hsz
  obtain ⟨v0, vs0, d0, ds0, p0, q0, hargs, rfl, rfl, h0, r0⟩ := trodAll_cons hA
  obtain ⟨v1, vs1, d1, ds1, p1, q1, rfl, rfl, rfl, h1, r1⟩ := trodAll_cons r0
  obtain ⟨v2, vs2, d2, ds2, p2, q2, rfl, rfl, rfl, h2, r2⟩ := trodAll_cons r1
  obtain ⟨v3, vs3, d3, ds3, p3, q3, rfl, rfl, rfl, h3, r3⟩ := trodAll_cons r2
  obtain ⟨v4, vs4, d4, ds4, p4, q4, rfl, rfl, rfl, h4, r4⟩ := trodAll_cons r3
  obtain ⟨rfl, rfl, rfl⟩ := trodAll_nil r4
  obtain rfl : args = #[v0, v1, v2, v3, v4] := by cases args; simp_all
  obtain ⟨rfl, rfl⟩ := trodVars_none hV
  have hB := Seen.bound_reach (P := Tryd.prog) (H := H)
  have z0 := Seen.weigh_each hsz 0 25 d0 rfl rfl
  have z1 := Seen.weigh_each hsz 1 25 d1 rfl rfl
  have z2 := Seen.weigh_each hsz 2 3 d2 rfl rfl
  have z3 := Seen.weigh_each hsz 3 3 d3 rfl rfl
  have z4 := Seen.weigh_each hsz 4 3 d4 rfl rfl
  have hL : ∀ e n, n * Tryd.prog.bytesOf e ≤ 140737488351232 → n * Tryd.prog.bytesOf e ≤ 140737488351232 := fun e n h => h
  have hS : ∀ n, n ≤ 140737488351232 → n ≤ Abs.SLIM := fun n h => by simp only [Abs.SLIM]; omega
  obtain ⟨n0, u0, t0, f0⟩ := Abs.open_any (okL := fun e n => n * Tryd.prog.bytesOf e ≤ 140737488351232) (okS := fun n => n ≤ 140737488351232) hL hS (by kernel_rfl) (hval 0 25 v0 rfl rfl) (Seen.sees_trod hB h0 z0)
  obtain ⟨a0, e0, k0⟩ := Abs.Consent.of t0
  rw [Abs.mk_agg (by kernel_rfl), e0] at f0
  obtain ⟨n1, u1, t1, f1⟩ := Abs.open_any (okL := fun e n => n * Tryd.prog.bytesOf e ≤ 140737488351232) (okS := fun n => n ≤ 140737488351232) hL hS (by kernel_rfl) (hval 1 25 v1 rfl rfl) (Seen.sees_trod hB h1 z1)
  obtain ⟨a1, e1, k1⟩ := Abs.Consent.of t1
  rw [Abs.mk_agg (by kernel_rfl), e1] at f1
  obtain ⟨n2, u2, t2, f2⟩ := Abs.open_any (okL := fun e n => n * Tryd.prog.bytesOf e ≤ 140737488351232) (okS := fun n => n ≤ 140737488351232) hL hS (by kernel_rfl) (hval 2 3 v2 rfl rfl) (Seen.sees_trod hB h2 z2)
  obtain ⟨a2, rfl⟩ := Abs.ty_int Tryd.underlying3 t2
  rw [Abs.mk_one (by kernel_rfl)] at f2
  obtain ⟨n3, u3, t3, f3⟩ := Abs.open_any (okL := fun e n => n * Tryd.prog.bytesOf e ≤ 140737488351232) (okS := fun n => n ≤ 140737488351232) hL hS (by kernel_rfl) (hval 3 3 v3 rfl rfl) (Seen.sees_trod hB h3 z3)
  obtain ⟨a3, rfl⟩ := Abs.ty_int Tryd.underlying3 t3
  rw [Abs.mk_one (by kernel_rfl)] at f3
  obtain ⟨n4, u4, t4, f4⟩ := Abs.open_any (okL := fun e n => n * Tryd.prog.bytesOf e ≤ 140737488351232) (okS := fun n => n ≤ 140737488351232) hL hS (by kernel_rfl) (hval 4 3 v4 rfl rfl) (Seen.sees_trod hB h4 z4)
  obtain ⟨a4, rfl⟩ := Abs.ty_int Tryd.underlying3 t4
  rw [Abs.mk_one (by kernel_rfl)] at f4
  clear hA0 hval0
  refine (Abs.law_calls (ConU.law (g1 := a0.given) (g2 := a1.given) (p := a2) (w := a3) (n := a4) (P := a0.purposes) (Q := a1.purposes) (L := a0.vendors) (K := a1.vendors) (by obtain ⟨c, h1, h2⟩ := k0.1; have e : Tryd.prog.bytesOf 3 = 8 := (by kernel_rfl); dsimp only at h2; rw [e] at h2; omega) (by obtain ⟨c, h1, h2⟩ := k1.1; have e : Tryd.prog.bytesOf 3 = 8 := (by kernel_rfl); dsimp only at h2; rw [e] at h2; omega)) (.cons f0 (.cons f1 (.cons f2 (.cons f3 (.cons f4 .nil)))))).mono fun e W' ⟨he, hb⟩ => ?_
  subst he
  exact ⟨_, rfl, post_law laidOut (by kernel_rfl) Tryd.underlying4 rfl rfl rfl hW0 hb⟩

theorem said : Rows.RestConsentsSaid :=
  OpenClaim.holds_of_cond 3 Tryd.f3 rfl rfl rfl rfl rfl rfl rfl ⟨rfl, rfl, rfl, rfl, rfl⟩ rfl rfl rfl rfl rfl (by kernel_rfl) Tryd.func3 (by kernel_rfl)
    (of_decide_eq_true (by kernel_rfl)) (by unfold Func.isWrapper; first | (rw [if_pos (by decide +kernel)]; kernel_rfl) | (rw [if_neg (by decide +kernel)]; exact ⟨rfl, rfl⟩))
    (fun os started H enc _ F => by rw [OpenClaim.pre_eq_preRow]; exact lifted os started H enc F)
theorem plain (f : FuncId) (fn : Func) (hf : Tryd.pinned.checked.prog.funcNamed "gingersnap/gingersnaplaw.RestConsents" = some f) (hfn : Tryd.pinned.checked.prog.funcs[f]? = some fn) :
    true = Tryd.pinned.checked.prog.looks [] ∧ ∀ (j : Nat) t, fn.params[j]? = some t → Tryd.pinned.checked.prog.wantsStandIn t = false := by
  obtain rfl : f = 3 := Option.some.inj ((show Tryd.prog.funcNamed "gingersnap/gingersnaplaw.RestConsents" = some 3 by kernel_rfl).symm.trans hf) |>.symm
  obtain rfl : fn = Tryd.f3 := (Option.some.inj (Tryd.func3.symm.trans hfn)).symm
  refine ⟨by kernel_rfl, fun j t ht => ?_⟩
  have hall : (Tryd.f3.params.toList.all fun t => !Tryd.prog.wantsStandIn t) = true := by kernel_rfl
  have hm : t ∈ Tryd.f3.params.toList := by simpa using Array.mem_of_getElem? ht
  have h := List.all_eq_true.1 hall t hm
  rw [Bool.not_eq_true'] at h
  exact h
theorem proved : Rows.RestConsentsCardSaid :=
  Claim7.holds_tied_plain_at .later [] _ _ _ _ said (fun _ h => by cases h) (by kernel_rfl) (fun _ h => by cases h) restConsents_row_tie rfl ⟨rfl, rfl⟩ (by kernel_rfl) rfl plain (by kernel_rfl)
#print axioms proved
end Go.Proofs.YtnpokgjehapmjaaDoor.restConsents
