/- Proves 'StampTells': for every input the law returns true, and each argument reads behind the call as it did; no condition. -/
import Derived.Test.YtaojlikkaajpmaaRows
import Derived.Test.YtaojlikkaajpmaaFrame
import Derived.Test.YtaojlikkaajpmaaTy
import Derived.Test.YtaojlikkaajpmaaDateE
import Derived.WalkKit
import Derived.ProofKit
import Derived.Deep.DeepHandedRow
import Derived.Lib.LaidTab
import Derived.LaidMore
import Derived.MakeChecks
import Derived.OpenShut
import Derived.ShutString
import Derived.SizedLaws
namespace Go.Proofs.Ytaojlikkaajpmaa.stampTells
open Go.ChangeShapes Go.WideShapes Go.ChangeAt Go.RowKit Ends
open Go.ChangeMaps (open_string shut_string)
set_option linter.unusedVariables false

theorem own : ownKnob Try.prog.godebug = none := by kernel_rfl

set_option maxRecDepth 100000 in
/-- A world for the witness: what the variables' initialisers make. -/
noncomputable def laidWorld (os : Os) : World := World.doorLaid Try.prog 400 os
theorem laid_met (os : Os) : laidMet Try.prog Rows.stampTellsRow.laid ((laidWorld os).forCall (fun _ _ => 0) ⟨#[], #[.string ByteArray.empty, .int .i64 0], []⟩).memory :=
  laidMet_of_run' 8 (by kernel_rfl) (by kernel_rfl)
theorem reads (os : Os) {H : Type} (enc : TypeId × Value → H) : ∃ places, DataW.whole enc Try.prog ((laidWorld os).forCall (fun _ _ => 0) ⟨#[], #[.string ByteArray.empty, .int .i64 0], []⟩).memory Try.f3.params.toList Rows.stampTellsSpec.vars false (#[.string ByteArray.empty, .int .i64 0] : Array Value).toList 8 = some ([.lit (.string []), .lit (.int .i64 0)], [], places) :=
  ⟨[], by kernel_rfl⟩
set_option maxRecDepth 100000 in
theorem lifted (os : Os) (started : os.Started) (H : Type) (enc : TypeId × Value → H) (F : Stop.Interp) :
    ReturnsInHanded {} Try.checked os 3 .any ((OpenSpec.ofChange Rows.stampTellsSpec).preRow enc Try.prog Try.f3 Rows.stampTellsRow.domain false Rows.stampTellsRow.laid) (((OpenSpec.ofChange Rows.stampTellsSpec).at F).post enc Try.prog Try.f3 false true false false) := by
  obtain ⟨places, hx⟩ := reads os enc
  refine returnsInHanded_of_row (C := Try.checked) (s := OpenSpec.ofChange Rows.stampTellsSpec) own started (by kernel_rfl) Try.func3
    (witness_row_at (enc := enc) (C := Try.checked) false (laidWorld os) #[.string ByteArray.empty, .int .i64 0] rfl (by kernel_rfl) (by kernel_rfl) (by kernel_rfl)
      (OpenSpec.preRow_of_cond 8 hx (by kernel_rfl) (fun k hk => by cases hk) (by kernel_rfl) (laid_met os))) ?_
  intro W base args ds gs before hval0 hW hcnd hk0 hsz hlaid hsh _
  have hGl : Abs.GlOk StampX.gMax (fun _ => False) W := StampX.glob_max hsh
  have hval : ∀ (j : Nat) t v, Try.f3.params[j]? = some t → args[j]? = some v → Value.okWide Try.prog W .any base t v := hval0
  have hW0 := hW
  obtain ⟨p, q, hA0, hV, rfl, hfz, hnd⟩ := hW
  have hA : DataW.TrodAll enc Try.prog W 0 (fun _ => true) true Try.f3.params.toList args.toList ds p := hA0
  rw [Try.params3] at hA hval hsz
  obtain ⟨v0, vs0, d0, ds0, p0, q0, hargs, rfl, rfl, h0, r0⟩ := trodAll_cons hA
  obtain ⟨v1, vs1, d1, ds1, p1, q1, rfl, rfl, rfl, h1, r1⟩ := trodAll_cons r0
  obtain ⟨rfl, rfl, rfl⟩ := trodAll_nil r1
  obtain rfl : args = #[v0, v1] := by cases args; simp_all
  obtain ⟨rfl, rfl⟩ := trodVars_none hV
  have hB := Seen.bound_reach (P := Try.prog) (H := H)
  have z0 := Seen.weigh_each hsz 0 9 d0 rfl rfl
  have z1 := Seen.weigh_each hsz 1 3 d1 rfl rfl
  have hL : ∀ e n, n * Try.prog.bytesOf e ≤ 140737488351232 → n * Try.prog.bytesOf e ≤ 140737488351232 := fun e n h => h
  have hS : ∀ n, n ≤ 140737488351232 → n ≤ Abs.SLIM := fun n h => by simp only [Abs.SLIM]; omega
  obtain ⟨n0, u0, t0, f0⟩ := Abs.open_any (okL := fun e n => n * Try.prog.bytesOf e ≤ 140737488351232) (okS := fun n => n ≤ 140737488351232) hL hS (by kernel_rfl) (hval 0 9 v0 rfl rfl) (Seen.sees_trod hB h0 z0)
  obtain ⟨a0, rfl, k0⟩ := Abs.ty_strL Try.underlying9 t0
  rw [Abs.mk_one (by kernel_rfl)] at f0
  obtain ⟨n1, u1, t1, f1⟩ := Abs.open_any (okL := fun e n => n * Try.prog.bytesOf e ≤ 140737488351232) (okS := fun n => n ≤ 140737488351232) hL hS (by kernel_rfl) (hval 1 3 v1 rfl rfl) (Seen.sees_trod hB h1 z1)
  obtain ⟨a1, rfl⟩ := Abs.ty_int Try.underlying3 t1
  rw [Abs.mk_one (by kernel_rfl)] at f1
  clear hA0 hval0
  refine (Abs.law_callsG (StampO.tells_law StampX.hasMax (s := a0) (n := a1)) hGl (.cons f0 (.cons f1 .nil))).mono fun e W' ⟨he, hb⟩ => ?_
  subst he
  exact ⟨_, rfl, post_law laidOut (by kernel_rfl) Try.underlying4 rfl rfl rfl hW0 hb⟩

theorem said : Rows.StampTellsSaid :=
  OpenClaim.holds_of_cond 3 Try.f3 rfl rfl rfl rfl rfl rfl rfl ⟨rfl, rfl, rfl, rfl, rfl⟩ rfl rfl rfl rfl rfl (by kernel_rfl) Try.func3 (by kernel_rfl)
    (of_decide_eq_true (by kernel_rfl)) (by unfold Func.isWrapper; first | (rw [if_pos (by decide +kernel)]; kernel_rfl) | (rw [if_neg (by decide +kernel)]; exact ⟨rfl, rfl⟩))
    (fun os started H enc _ F => by rw [OpenClaim.pre_eq_preRow]; exact lifted os started H enc F)
theorem proved : Rows.StampTellsSaid :=
  said
#print axioms proved
end Go.Proofs.Ytaojlikkaajpmaa.stampTells
