/- Proves 'GrantLattice': for every input the law returns true, and each argument reads behind the call as it did; no condition. -/
import Derived.Test.YtnjaepdlfnidfaaRows
import Derived.Test.YtnjaepdlfnidfaaFrame
import Derived.Test.YtnjaepdlfnidfaaTy
import Derived.Test.YtnjaepdlfnidfaaGrantT
import Derived.ProofKit
import Derived.OpenShut
import Derived.ShutString
import Derived.SizedLaws
namespace Go.Proofs.Ytnjaepdlfnidfaa.grantLattice
open Go.ChangeShapes Go.WideShapes Go.ChangeAt Go.RowKit Ends
open Go.ChangeMaps (open_string shut_string)
set_option linter.unusedVariables false

theorem own : ownKnob Try.prog.godebug = none := by kernel_rfl

set_option maxRecDepth 100000 in
theorem lifted (os : Os) (started : os.Started) (H : Type) (enc : TypeId × Value → H) :
    ReturnsInHanded {} Try.checked os 4 .any (Rows.grantLatticeSpec.pre6 enc Try.prog Try.f4 Rows.grantLatticeRow.domain false) (Rows.grantLatticeSpec.post enc Try.prog Try.f4 false true false false) := by
  refine returnsInHanded_of_change_sized (C := Try.checked) own started (by kernel_rfl) Try.func4
    (ChangeSpec.witness6 (enc := enc) (C := Try.checked) false ⟨#[], #[.agg #[.int .i64 0, .bool false, .bool false, .bool false, .bool false, .bool false, .bool false, .bool false, .bool false, .bool false, .bool false, .slice none 0 0], .agg #[.int .i64 0, .bool false, .bool false, .bool false, .bool false, .bool false, .bool false, .bool false, .bool false, .bool false, .bool false, .slice none 0 0], .agg #[.int .i64 0, .bool false, .bool false, .bool false, .bool false, .bool false, .bool false, .bool false, .bool false, .bool false, .bool false, .slice none 0 0]], []⟩ 8 (by kernel_rfl) (by kernel_rfl) (by kernel_rfl) (by kernel_rfl)) ?_
  intro W base args ds gs before hval0 hW hcnd hsz _
  have hval : ∀ (j : Nat) t v, Try.f4.params[j]? = some t → args[j]? = some v → Value.okWide Try.prog W .any base t v := hval0
  have hW0 := hW
  obtain ⟨p, q, hA0, hV, rfl, hfz, hnd⟩ := hW
  have hA : DataW.TrodAll enc Try.prog W 0 (fun _ => true) true Try.f4.params.toList args.toList ds p := hA0
  rw [Try.params4] at hA hval hsz
  obtain ⟨v0, vs0, d0, ds0, p0, q0, hargs, rfl, rfl, h0, r0⟩ := trodAll_cons hA
  obtain ⟨v1, vs1, d1, ds1, p1, q1, rfl, rfl, rfl, h1, r1⟩ := trodAll_cons r0
  obtain ⟨v2, vs2, d2, ds2, p2, q2, rfl, rfl, rfl, h2, r2⟩ := trodAll_cons r1
  obtain ⟨rfl, rfl, rfl⟩ := trodAll_nil r2
  obtain rfl : args = #[v0, v1, v2] := by cases args; simp_all
  obtain ⟨rfl, rfl⟩ := trodVars_none hV
  have hB := Seen.bound_reach (P := Try.prog) (H := H)
  have z0 := Seen.weigh_each hsz 0 25 d0 rfl rfl
  have z1 := Seen.weigh_each hsz 1 25 d1 rfl rfl
  have z2 := Seen.weigh_each hsz 2 25 d2 rfl rfl
  have hL : ∀ e n, n * Try.prog.bytesOf e ≤ 140737488351232 → n * Try.prog.bytesOf e ≤ 140737488351232 := fun e n h => h
  have hS : ∀ n, n ≤ 140737488351232 → n ≤ Abs.SLIM := fun n h => by simp only [Abs.SLIM]; omega
  obtain ⟨n0, u0, t0, f0⟩ := Abs.open_any (okL := fun e n => n * Try.prog.bytesOf e ≤ 140737488351232) (okS := fun n => n ≤ 140737488351232) hL hS (by kernel_rfl) (hval 0 25 v0 rfl rfl) (Seen.sees_trod hB h0 z0)
  obtain ⟨a0, e0, k0⟩ := Abs.Consent.of t0
  rw [Abs.mk_agg (by kernel_rfl), e0] at f0
  obtain ⟨n1, u1, t1, f1⟩ := Abs.open_any (okL := fun e n => n * Try.prog.bytesOf e ≤ 140737488351232) (okS := fun n => n ≤ 140737488351232) hL hS (by kernel_rfl) (hval 1 25 v1 rfl rfl) (Seen.sees_trod hB h1 z1)
  obtain ⟨a1, e1, k1⟩ := Abs.Consent.of t1
  rw [Abs.mk_agg (by kernel_rfl), e1] at f1
  obtain ⟨n2, u2, t2, f2⟩ := Abs.open_any (okL := fun e n => n * Try.prog.bytesOf e ≤ 140737488351232) (okS := fun n => n ≤ 140737488351232) hL hS (by kernel_rfl) (hval 2 25 v2 rfl rfl) (Seen.sees_trod hB h2 z2)
  obtain ⟨a2, e2, k2⟩ := Abs.Consent.of t2
  rw [Abs.mk_agg (by kernel_rfl), e2] at f2
  clear hA0 hval0
  refine (Abs.law_calls (GrantT.lattice_law (a := (a0.given, a0.purposes, a0.vendors)) (b := (a1.given, a1.purposes, a1.vendors)) (c := (a2.given, a2.purposes, a2.vendors))) (.cons f0 (.cons f1 (.cons f2 .nil)))).mono fun e W' ⟨he, hb⟩ => ?_
  subst he
  exact ⟨_, rfl, post_law laidOut (by kernel_rfl) Try.underlying4 rfl rfl rfl hW0 hb⟩

theorem over : Rows.grantLatticeRow.holds Try.pinned (OpenSpec.ofChange Rows.grantLatticeSpec) :=
  OpenClaim.holds_of_wide 4 Try.f4 rfl rfl rfl rfl rfl rfl rfl ⟨rfl, rfl, rfl, rfl, rfl⟩ rfl rfl rfl rfl rfl (by kernel_rfl) Try.func4 (by kernel_rfl)
    (of_decide_eq_true (by kernel_rfl)) (by unfold Func.isWrapper; first | (rw [if_pos (by decide +kernel)]; kernel_rfl) | (rw [if_neg (by decide +kernel)]; exact ⟨rfl, rfl⟩))
    (fun os started H enc _ => lifted os started H enc)

theorem proved : Rows.GrantLatticeSaid :=
  over
#print axioms proved
end Go.Proofs.Ytnjaepdlfnidfaa.grantLattice
