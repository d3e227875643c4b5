/- Proves 'GrantDrop': for every input the law returns true, and each argument reads behind the call as it did; no condition. -/
import Derived.Test.YtnjaepdlfnidfaaRows
import Derived.Test.YtnjaepdlfnidfaaFrame
import Derived.Test.YtnjaepdlfnidfaaTy
import Derived.Test.YtnjaepdlfnidfaaGrantS
import Derived.ProofKit
import Derived.OpenShut
import Derived.ShutString
import Derived.SizedLaws
namespace Go.Proofs.Ytnjaepdlfnidfaa.grantDrop
open Go.ChangeShapes Go.WideShapes Go.ChangeAt Go.RowKit Ends
open Go.ChangeMaps (open_string shut_string)
set_option linter.unusedVariables false

theorem own : ownKnob Try.prog.godebug = none := by kernel_rfl

set_option maxRecDepth 100000 in
theorem lifted (os : Os) (started : os.Started) (H : Type) (enc : TypeId × Value → H) :
    ReturnsInHanded {} Try.checked os 6 .any (Rows.grantDropSpec.pre6 enc Try.prog Try.f6 Rows.grantDropRow.domain false) (Rows.grantDropSpec.post enc Try.prog Try.f6 false true false false) := by
  refine returnsInHanded_of_change_sized (C := Try.checked) own started (by kernel_rfl) Try.func6
    (ChangeSpec.witness6 (enc := enc) (C := Try.checked) false ⟨#[], #[.agg #[.int .i64 0, .bool false, .bool false, .bool false, .bool false, .bool false, .bool false, .bool false, .bool false, .bool false, .bool false, .slice none 0 0], .int .i64 0, .int .i64 0, .int .i64 0, .int .i64 0, .int .i64 0], []⟩ 8 (by kernel_rfl) (by kernel_rfl) (by kernel_rfl) (by kernel_rfl)) ?_
  intro W base args ds gs before hval0 hW hcnd hsz _
  have hval : ∀ (j : Nat) t v, Try.f6.params[j]? = some t → args[j]? = some v → Value.okWide Try.prog W .any base t v := hval0
  have hW0 := hW
  obtain ⟨p, q, hA0, hV, rfl, hfz, hnd⟩ := hW
  have hA : DataW.TrodAll enc Try.prog W 0 (fun _ => true) true Try.f6.params.toList args.toList ds p := hA0
  rw [Try.params6] at hA hval hsz
  obtain ⟨v0, vs0, d0, ds0, p0, q0, hargs, rfl, rfl, h0, r0⟩ := trodAll_cons hA
  obtain ⟨v1, vs1, d1, ds1, p1, q1, rfl, rfl, rfl, h1, r1⟩ := trodAll_cons r0
  obtain ⟨v2, vs2, d2, ds2, p2, q2, rfl, rfl, rfl, h2, r2⟩ := trodAll_cons r1
  obtain ⟨v3, vs3, d3, ds3, p3, q3, rfl, rfl, rfl, h3, r3⟩ := trodAll_cons r2
  obtain ⟨v4, vs4, d4, ds4, p4, q4, rfl, rfl, rfl, h4, r4⟩ := trodAll_cons r3
  obtain ⟨v5, vs5, d5, ds5, p5, q5, rfl, rfl, rfl, h5, r5⟩ := trodAll_cons r4
  obtain ⟨rfl, rfl, rfl⟩ := trodAll_nil r5
  obtain rfl : args = #[v0, v1, v2, v3, v4, v5] := by cases args; simp_all
  obtain ⟨rfl, rfl⟩ := trodVars_none hV
  have hB := Seen.bound_reach (P := Try.prog) (H := H)
  have z0 := Seen.weigh_each hsz 0 25 d0 rfl rfl
  have z1 := Seen.weigh_each hsz 1 3 d1 rfl rfl
  have z2 := Seen.weigh_each hsz 2 3 d2 rfl rfl
  have z3 := Seen.weigh_each hsz 3 3 d3 rfl rfl
  have z4 := Seen.weigh_each hsz 4 3 d4 rfl rfl
  have z5 := Seen.weigh_each hsz 5 3 d5 rfl rfl
  have hL : ∀ e n, n * Try.prog.bytesOf e ≤ 140737488351232 → n * Try.prog.bytesOf e ≤ 140737488351232 := fun e n h => h
  have hS : ∀ n, n ≤ 140737488351232 → n ≤ Abs.SLIM := fun n h => by simp only [Abs.SLIM]; omega
  obtain ⟨n0, u0, t0, f0⟩ := Abs.open_any (okL := fun e n => n * Try.prog.bytesOf e ≤ 140737488351232) (okS := fun n => n ≤ 140737488351232) hL hS (by kernel_rfl) (hval 0 25 v0 rfl rfl) (Seen.sees_trod hB h0 z0)
  obtain ⟨a0, e0, k0⟩ := Abs.Consent.of t0
  rw [Abs.mk_agg (by kernel_rfl), e0] at f0
  obtain ⟨n1, u1, t1, f1⟩ := Abs.open_any (okL := fun e n => n * Try.prog.bytesOf e ≤ 140737488351232) (okS := fun n => n ≤ 140737488351232) hL hS (by kernel_rfl) (hval 1 3 v1 rfl rfl) (Seen.sees_trod hB h1 z1)
  obtain ⟨a1, rfl⟩ := Abs.ty_int Try.underlying3 t1
  rw [Abs.mk_one (by kernel_rfl)] at f1
  obtain ⟨n2, u2, t2, f2⟩ := Abs.open_any (okL := fun e n => n * Try.prog.bytesOf e ≤ 140737488351232) (okS := fun n => n ≤ 140737488351232) hL hS (by kernel_rfl) (hval 2 3 v2 rfl rfl) (Seen.sees_trod hB h2 z2)
  obtain ⟨a2, rfl⟩ := Abs.ty_int Try.underlying3 t2
  rw [Abs.mk_one (by kernel_rfl)] at f2
  obtain ⟨n3, u3, t3, f3⟩ := Abs.open_any (okL := fun e n => n * Try.prog.bytesOf e ≤ 140737488351232) (okS := fun n => n ≤ 140737488351232) hL hS (by kernel_rfl) (hval 3 3 v3 rfl rfl) (Seen.sees_trod hB h3 z3)
  obtain ⟨a3, rfl⟩ := Abs.ty_int Try.underlying3 t3
  rw [Abs.mk_one (by kernel_rfl)] at f3
  obtain ⟨n4, u4, t4, f4⟩ := Abs.open_any (okL := fun e n => n * Try.prog.bytesOf e ≤ 140737488351232) (okS := fun n => n ≤ 140737488351232) hL hS (by kernel_rfl) (hval 4 3 v4 rfl rfl) (Seen.sees_trod hB h4 z4)
  obtain ⟨a4, rfl⟩ := Abs.ty_int Try.underlying3 t4
  rw [Abs.mk_one (by kernel_rfl)] at f4
  obtain ⟨n5, u5, t5, f5⟩ := Abs.open_any (okL := fun e n => n * Try.prog.bytesOf e ≤ 140737488351232) (okS := fun n => n ≤ 140737488351232) hL hS (by kernel_rfl) (hval 5 3 v5 rfl rfl) (Seen.sees_trod hB h5 z5)
  obtain ⟨a5, rfl⟩ := Abs.ty_int Try.underlying3 t5
  rw [Abs.mk_one (by kernel_rfl)] at f5
  clear hA0 hval0
  refine (Abs.law_calls (GrantS.drop_law (g := a0.given) (P := a0.purposes) (L := a0.vendors) (p := a1) (v := a2) (n := a3) (a := a4) (b := a5)) (.cons f0 (.cons f1 (.cons f2 (.cons f3 (.cons f4 (.cons f5 .nil))))))).mono fun e W' ⟨he, hb⟩ => ?_
  subst he
  exact ⟨_, rfl, post_law laidOut (by kernel_rfl) Try.underlying4 rfl rfl rfl hW0 hb⟩

theorem over : Rows.grantDropRow.holds Try.pinned (OpenSpec.ofChange Rows.grantDropSpec) :=
  OpenClaim.holds_of_wide 6 Try.f6 rfl rfl rfl rfl rfl rfl rfl ⟨rfl, rfl, rfl, rfl, rfl⟩ rfl rfl rfl rfl rfl (by kernel_rfl) Try.func6 (by kernel_rfl)
    (of_decide_eq_true (by kernel_rfl)) (by unfold Func.isWrapper; first | (rw [if_pos (by decide +kernel)]; kernel_rfl) | (rw [if_neg (by decide +kernel)]; exact ⟨rfl, rfl⟩))
    (fun os started H enc _ => lifted os started H enc)

theorem proved : Rows.GrantDropSaid :=
  over
#print axioms proved
end Go.Proofs.Ytnjaepdlfnidfaa.grantDrop
