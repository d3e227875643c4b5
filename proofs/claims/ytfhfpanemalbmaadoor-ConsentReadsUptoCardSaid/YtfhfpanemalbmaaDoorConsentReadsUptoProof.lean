/- Proves 'ConsentReadsUpto': for every input of bulk at most 1048576 the law returns true, and each argument reads behind the call as it did; no condition but that bound. -/
import Derived.Test.YtfhfpanemalbmaaDoorRows
import Derived.Test.YtfhfpanemalbmaaDoorFrame
import Derived.Test.YtfhfpanemalbmaaDoorTy
import Derived.Test.YtfhfpanemalbmaaDoorConL
import Derived.Test.YtfhfpanemalbmaaDoorCards
import Derived.Test.YtfhfpanemalbmaaDoorTie
import Derived.WalkKit
import Derived.ProofKit
import Derived.Deep.DeepHandedRow
import Derived.Lib.LaidTab
import Derived.LaidMore
import Derived.Lay
import Derived.MakeChecks
import Derived.OpenShut
import Derived.ShutString
import Derived.SizedLaws
import Derived.JoinedCond
import Derived.Deep.CondSized
namespace Go.Proofs.YtfhfpanemalbmaaDoor.consentReadsUpto
open Go.ChangeShapes Go.WideShapes Go.ChangeAt Go.RowKit Ends
open Go.ChangeMaps (open_string shut_string)
set_option linter.unusedVariables false

theorem own : ownKnob Tryd.prog.godebug = none := by kernel_rfl

set_option maxRecDepth 100000 in
/-- A world for the witness: the listed variables as the row lists them. -/
noncomputable def laidWorld (os : Os) : World := World.laidAll Tryd.prog os Rows.consentReadsUptoRow.laid
theorem laid_met (os : Os) : laidMet Tryd.prog Rows.consentReadsUptoRow.laid ((laidWorld os).forCall (fun _ _ => 0) ⟨#[], #[.string ByteArray.empty], []⟩).memory :=
  laidMet_laidAll _ (by kernel_rfl) (by kernel_rfl)
theorem reads (os : Os) {H : Type} (enc : TypeId × Value → H) : ∃ places, DataW.whole enc Tryd.prog ((laidWorld os).forCall (fun _ _ => 0) ⟨#[], #[.string ByteArray.empty], []⟩).memory Tryd.f4.params.toList Rows.consentReadsSpec.vars false (#[.string ByteArray.empty] : Array Value).toList 8 = some ([.lit (.string [])], [], places) :=
  ⟨[], by kernel_rfl⟩
set_option maxRecDepth 100000 in
theorem lifted (os : Os) (started : os.Started) (H : Type) (enc : TypeId × Value → H) (F : Stop.Interp) :
    ReturnsInHanded {} Tryd.checked os 4 .any ((Rows.OpenSpec.upto Rows.consentReadsSpec).preRow enc Tryd.prog Tryd.f4 Rows.consentReadsUptoRow.domain false Rows.consentReadsUptoRow.laid) (((Rows.OpenSpec.upto Rows.consentReadsSpec).at F).post enc Tryd.prog Tryd.f4 false true false false) := by
  obtain ⟨places, hx⟩ := reads os enc
  refine returnsInHanded_of_row (C := Tryd.checked) (s := Rows.OpenSpec.upto Rows.consentReadsSpec) own started (by kernel_rfl) Tryd.func4
    (witness_row_at (enc := enc) (C := Tryd.checked) false (laidWorld os) #[.string ByteArray.empty] (World.laidAll_os _ _ _) (by kernel_rfl) (by kernel_rfl) (by kernel_rfl)
      (OpenSpec.preRow_of_cond 8 hx (by kernel_rfl) (fun k hk => by cases hk; kernel_rfl) (by kernel_rfl) (laid_met os))) ?_
  intro W base args ds gs before hval0 hW hcnd hk0 hsz hlaid hsh _
  have hk : Rows.uptoSmall H (ds ++ gs) = true := hk0 _ rfl
  have hval : ∀ (j : Nat) t v, Tryd.f4.params[j]? = some t → args[j]? = some v → Value.okWide Tryd.prog W .any base t v := hval0
  have hW0 := hW
  obtain ⟨p, q, hA0, hV, rfl, hfz, hnd⟩ := hW
  have hA : DataW.TrodAll enc Tryd.prog W 0 (fun _ => true) true Tryd.f4.params.toList args.toList ds p := hA0
  rw [Tryd.params4] at hA hval hsz
  obtain ⟨v0, vs0, d0, ds0, p0, q0, hargs, rfl, rfl, h0, r0⟩ := trodAll_cons hA
  obtain ⟨rfl, rfl, rfl⟩ := trodAll_nil r0
  obtain rfl : args = #[v0] := by cases args; simp_all
  obtain ⟨rfl, rfl⟩ := trodVars_none hV
  have hB := Seen.Bound.and (Seen.bound_upto (P := Tryd.prog) (H := H) 1048576) (Seen.bound_reach (P := Tryd.prog) (H := H))
  simp only [List.append_nil] at hk
  have z0 : Rows.uptoBulk d0 ≤ 1048576 ∧ ∀ n ∈ d0.weights Tryd.prog 9, n ≤ 140737488351232 := ⟨Nat.le_trans (Seen.bulk_part (by simp)) (of_decide_eq_true hk), Seen.weigh_each hsz 0 9 d0 rfl rfl⟩
  have hL : ∀ e n, n ≤ 1048576 ∧ n * Tryd.prog.bytesOf e ≤ 140737488351232 → n * Tryd.prog.bytesOf e ≤ 140737488351232 := fun e n h => h.2
  have hS : ∀ n, n ≤ 1048576 ∧ n ≤ 140737488351232 → n ≤ Abs.SLIM := fun n h => by have := h.2; simp only [Abs.SLIM]; omega
  obtain ⟨n0, u0, t0, f0⟩ := Abs.open_any (okL := fun e n => n ≤ 1048576 ∧ n * Tryd.prog.bytesOf e ≤ 140737488351232) (okS := fun n => n ≤ 1048576 ∧ n ≤ 140737488351232) hL hS (by kernel_rfl) (hval 0 9 v0 rfl rfl) (Seen.sees_trod hB h0 z0)
  obtain ⟨a0, rfl, k0⟩ := Abs.ty_strL Tryd.underlying9 t0
  rw [Abs.mk_one (by kernel_rfl)] at f0
  clear hA0 hval0
  refine (Abs.law_calls (ConL.reads_law (t := a0) (by have := k0.1; omega)) (.cons f0 .nil)).mono fun e W' ⟨he, hb⟩ => ?_
  subst he
  exact ⟨_, rfl, post_law laidOut (by kernel_rfl) Tryd.underlying4 rfl rfl rfl hW0 hb⟩

theorem said : Rows.ConsentReadsUptoSaid :=
  OpenClaim.holds_of_cond 4 Tryd.f4 rfl rfl rfl rfl rfl rfl rfl ⟨rfl, rfl, rfl, rfl, rfl⟩ rfl rfl rfl rfl rfl (by kernel_rfl) Tryd.func4 (by kernel_rfl)
    (of_decide_eq_true (by kernel_rfl)) (by unfold Func.isWrapper; first | (rw [if_pos (by decide +kernel)]; kernel_rfl) | (rw [if_neg (by decide +kernel)]; exact ⟨rfl, rfl⟩))
    (fun os started H enc _ F => by rw [OpenClaim.pre_eq_preRow]; exact lifted os started H enc F)
theorem plain (f : FuncId) (fn : Func) (hf : Tryd.pinned.checked.prog.funcNamed "gingersnap/gingersnaplaw.ConsentReads" = some f) (hfn : Tryd.pinned.checked.prog.funcs[f]? = some fn) :
    true = Tryd.pinned.checked.prog.looks [] ∧ ∀ (j : Nat) t, fn.params[j]? = some t → Tryd.pinned.checked.prog.wantsStandIn t = false := by
  obtain rfl : f = 4 := Option.some.inj ((show Tryd.prog.funcNamed "gingersnap/gingersnaplaw.ConsentReads" = some 4 by kernel_rfl).symm.trans hf) |>.symm
  obtain rfl : fn = Tryd.f4 := (Option.some.inj (Tryd.func4.symm.trans hfn)).symm
  refine ⟨by kernel_rfl, fun j t ht => ?_⟩
  have hall : (Tryd.f4.params.toList.all fun t => !Tryd.prog.wantsStandIn t) = true := by kernel_rfl
  have hm : t ∈ Tryd.f4.params.toList := by simpa using Array.mem_of_getElem? ht
  have h := List.all_eq_true.1 hall t hm
  rw [Bool.not_eq_true'] at h
  exact h
theorem proved : Rows.ConsentReadsUptoCardSaid :=
  Claim7.holds_tied_plain_at .later [] _ _ _ _ said (fun _ h => by cases h) (by kernel_rfl) (fun _ h => by cases h) consentReadsUpto_row_tie rfl ⟨rfl, rfl⟩ (by kernel_rfl) rfl plain (by kernel_rfl)
#print axioms proved
end Go.Proofs.YtfhfpanemalbmaaDoor.consentReadsUpto
