/- Proves 'LineBackUpto': for every input of bulk at most 1048576 the law returns true, and each argument reads behind the call as it did; no condition but that bound. -/
import Derived.Test.YtclekbkpcigkcaaRows
import Derived.Test.YtclekbkpcigkcaaFrame
import Derived.Test.YtclekbkpcigkcaaTy
import Derived.Test.YtclekbkpcigkcaaLineD
import Derived.WalkKit
import Derived.ProofKit
import Derived.Deep.DeepHandedRow
import Derived.Lib.LaidTab
import Derived.LaidMore
import Derived.MakeChecks
import Derived.OpenShut
import Derived.ShutString
import Derived.SizedLaws
import Derived.JoinedCond
import Derived.Deep.CondSized
namespace Go.Proofs.Ytclekbkpcigkcaa.lineBackUpto
open Go.ChangeShapes Go.WideShapes Go.ChangeAt Go.RowKit Ends
open Go.ChangeMaps (open_string shut_string)
set_option linter.unusedVariables false

theorem own : ownKnob Try.prog.godebug = none := by kernel_rfl

set_option maxRecDepth 100000 in
/-- A world for the witness: what the variables' initialisers make. -/
noncomputable def laidWorld (os : Os) : World := World.doorLaid Try.prog 400 os
theorem laid_met (os : Os) : laidMet Try.prog Rows.lineBackUptoRow.laid ((laidWorld os).forCall (fun _ _ => 0) ⟨#[], #[.slice none 0 0], []⟩).memory :=
  laidMet_of_run' 8 (by kernel_rfl) (by kernel_rfl)
theorem reads (os : Os) {H : Type} (enc : TypeId × Value → H) : ∃ places, DataW.whole enc Try.prog ((laidWorld os).forCall (fun _ _ => 0) ⟨#[], #[.slice none 0 0], []⟩).memory Try.f6.params.toList Rows.lineBackSpec.vars false (#[.slice none 0 0] : Array Value).toList 8 = some ([.nil], [], places) :=
  ⟨[], by kernel_rfl⟩
set_option maxRecDepth 100000 in
theorem lifted (os : Os) (started : os.Started) (H : Type) (enc : TypeId × Value → H) (F : Stop.Interp) :
    ReturnsInHanded {} Try.checked os 6 .any ((Rows.OpenSpec.upto Rows.lineBackSpec).preRow enc Try.prog Try.f6 Rows.lineBackUptoRow.domain false Rows.lineBackUptoRow.laid) (((Rows.OpenSpec.upto Rows.lineBackSpec).at F).post enc Try.prog Try.f6 false true false false) := by
  obtain ⟨places, hx⟩ := reads os enc
  refine returnsInHanded_of_row (C := Try.checked) (s := Rows.OpenSpec.upto Rows.lineBackSpec) own started (by kernel_rfl) Try.func6
    (witness_row_at (enc := enc) (C := Try.checked) false (laidWorld os) #[.slice none 0 0] rfl (by kernel_rfl) (by kernel_rfl) (by kernel_rfl)
      (OpenSpec.preRow_of_cond 8 hx (by kernel_rfl) (fun k hk => by cases hk; kernel_rfl) (by kernel_rfl) (laid_met os))) ?_
  intro W base args ds gs before hval0 hW hcnd hk0 hsz hlaid hsh _
  have hk : Rows.uptoSmall H (ds ++ gs) = true := hk0 _ rfl
  have hval : ∀ (j : Nat) t v, Try.f6.params[j]? = some t → args[j]? = some v → Value.okWide Try.prog W .any base t v := hval0
  have hW0 := hW
  obtain ⟨p, q, hA0, hV, rfl, hfz, hnd⟩ := hW
  have hA : DataW.TrodAll enc Try.prog W 0 (fun _ => true) true Try.f6.params.toList args.toList ds p := hA0
  rw [Try.params6] at hA hval hsz
  obtain ⟨v0, vs0, d0, ds0, p0, q0, hargs, rfl, rfl, h0, r0⟩ := trodAll_cons hA
  obtain ⟨rfl, rfl, rfl⟩ := trodAll_nil r0
  obtain rfl : args = #[v0] := by cases args; simp_all
  obtain ⟨rfl, rfl⟩ := trodVars_none hV
  have hB := Seen.Bound.and (Seen.bound_upto (P := Try.prog) (H := H) 1048576) (Seen.bound_reach (P := Try.prog) (H := H))
  simp only [List.append_nil] at hk
  have z0 : Rows.uptoBulk d0 ≤ 1048576 ∧ ∀ n ∈ d0.weights Try.prog 22, n ≤ 140737488351232 := ⟨Nat.le_trans (Seen.bulk_part (by simp)) (of_decide_eq_true hk), Seen.weigh_each hsz 0 22 d0 rfl rfl⟩
  have hL : ∀ e n, n ≤ 1048576 ∧ n * Try.prog.bytesOf e ≤ 140737488351232 → n * Try.prog.bytesOf e ≤ 140737488351232 := fun e n h => h.2
  have hS : ∀ n, n ≤ 1048576 ∧ n ≤ 140737488351232 → n ≤ Abs.SLIM := fun n h => by have := h.2; simp only [Abs.SLIM]; omega
  obtain ⟨n0, u0, t0, f0⟩ := Abs.open_any (okL := fun e n => n ≤ 1048576 ∧ n * Try.prog.bytesOf e ≤ 140737488351232) (okS := fun n => n ≤ 1048576 ∧ n ≤ 140737488351232) hL hS (by kernel_rfl) (hval 0 22 v0 rfl rfl) (Seen.sees_trod hB h0 z0)
  obtain ⟨a0, rfl, k0, l0⟩ := Abs.ty_slice Abs.Cookie.v (Abs.Cookie.Ok _ _) Try.underlying22 t0 (fun m x hx => by obtain ⟨a, h1, h2⟩ := Abs.Cookie.of hx; exact ⟨a, by rw [Abs.mk_agg (by kernel_rfl)]; exact h1, h2⟩)
  rw [Abs.mk_one (by kernel_rfl)] at f0
  clear hA0 hval0
  refine (Abs.law_calls (LineD.back_law (L := a0) ⟨by obtain ⟨c, h1, h2⟩ := l0; rcases h2 with h2 | h2; omega; have := h2.1; omega, fun c hc => ⟨(k0 c hc).1.1, (k0 c hc).2.1.1⟩⟩) (.cons f0 .nil)).mono fun e W' ⟨he, hb⟩ => ?_
  subst he
  exact ⟨_, rfl, post_law laidOut (by kernel_rfl) Try.underlying4 rfl rfl rfl hW0 hb⟩

theorem said : Rows.LineBackUptoSaid :=
  OpenClaim.holds_of_cond 6 Try.f6 rfl rfl rfl rfl rfl rfl rfl ⟨rfl, rfl, rfl, rfl, rfl⟩ rfl rfl rfl rfl rfl (by kernel_rfl) Try.func6 (by kernel_rfl)
    (of_decide_eq_true (by kernel_rfl)) (by unfold Func.isWrapper; first | (rw [if_pos (by decide +kernel)]; kernel_rfl) | (rw [if_neg (by decide +kernel)]; exact ⟨rfl, rfl⟩))
    (fun os started H enc _ F => by rw [OpenClaim.pre_eq_preRow]; exact lifted os started H enc F)
theorem proved : Rows.LineBackUptoSaid :=
  said
#print axioms proved
end Go.Proofs.Ytclekbkpcigkcaa.lineBackUpto
