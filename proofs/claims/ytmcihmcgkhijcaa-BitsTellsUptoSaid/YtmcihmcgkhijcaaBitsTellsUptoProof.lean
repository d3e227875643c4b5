/- Proves 'BitsTellsUpto': for every input of bulk at most 1048576 the law returns true, and each argument reads behind the call as it did; no condition but that bound. -/
import Derived.Test.YtmcihmcgkhijcaaRows
import Derived.Test.YtmcihmcgkhijcaaFrame
import Derived.Test.YtmcihmcgkhijcaaSeen
import Derived.Test.YtmcihmcgkhijcaaBitsO
import Derived.Test.YtmcihmcgkhijcaaBitsY
import Derived.ProofKit
import Derived.OpenShut
import Derived.ShutString
import Derived.SizedLaws
import Derived.JoinedCond
import Derived.Deep.CondSized
namespace Go.Proofs.Ytmcihmcgkhijcaa.bitsTellsUpto
open Go.ChangeShapes Go.WideShapes Go.ChangeAt Go.RowKit Ends
open Go.ChangeMaps (open_string shut_string)
set_option linter.unusedVariables false

theorem own : ownKnob Try.prog.godebug = none := by kernel_rfl

set_option maxRecDepth 100000 in
theorem lifted (os : Os) (started : os.Started) (H : Type) (enc : TypeId × Value → H) (F : Stop.Interp) :
    ReturnsInHanded {} Try.checked os 10 .any ((Rows.OpenSpec.upto Rows.bitsTellsSpec).pre6 enc Try.prog Try.f10 Rows.bitsTellsUptoRow.domain false) (((Rows.OpenSpec.upto Rows.bitsTellsSpec).at F).post enc Try.prog Try.f10 false true false false) := by
  refine returnsInHanded_of_cond_sized (C := Try.checked) (s := Rows.OpenSpec.upto Rows.bitsTellsSpec) (k := Rows.uptoSmall) rfl own started (by kernel_rfl) Try.func10
    (OpenSpec.witness (enc := enc) (C := Try.checked) (s := Rows.OpenSpec.upto Rows.bitsTellsSpec) (k := Rows.uptoSmall) rfl false ⟨#[], #[.slice none 0 0, .string ByteArray.empty, .slice none 0 0], []⟩ 8 (by kernel_rfl) (by kernel_rfl) (by kernel_rfl)
      (x := ([.nil, .lit (.string []), .nil], [], [])) (by kernel_rfl) rfl (by kernel_rfl)) ?_
  intro W base args ds gs before hval0 hW hcnd hk hsz _
  have hval : ∀ (j : Nat) t v, Try.f10.params[j]? = some t → args[j]? = some v → Value.okWide Try.prog W .any base t v := hval0
  have hW0 := hW
  obtain ⟨p, q, hA0, hV, rfl, hfz, hnd⟩ := hW
  have hA : DataW.TrodAll enc Try.prog W 0 (fun _ => true) true Try.f10.params.toList args.toList ds p := hA0
  rw [Try.params10] at hA hval hsz
  obtain ⟨v0, vs0, d0, ds0, p0, q0, hargs, rfl, rfl, h0, r0⟩ := trodAll_cons hA
  obtain ⟨v1, vs1, d1, ds1, p1, q1, rfl, rfl, rfl, h1, r1⟩ := trodAll_cons r0
  obtain ⟨v2, vs2, d2, ds2, p2, q2, rfl, rfl, rfl, h2, r2⟩ := trodAll_cons r1
  obtain ⟨rfl, rfl, rfl⟩ := trodAll_nil r2
  obtain rfl : args = #[v0, v1, v2] := by cases args; simp_all
  obtain ⟨rfl, rfl⟩ := trodVars_none hV
  have hB := Seen.Bound.and (Seen.bound_upto (P := Try.prog) (H := H) 1048576) (Seen.bound_reach (P := Try.prog) (H := H))
  simp only [List.append_nil] at hk
  have z0 : Rows.uptoBulk d0 ≤ 1048576 ∧ ∀ n ∈ d0.weights Try.prog 39, n ≤ 140737488351232 := ⟨Nat.le_trans (Seen.bulk_part (by simp)) (of_decide_eq_true hk), Seen.weigh_each hsz 0 39 d0 rfl rfl⟩
  have z1 : Rows.uptoBulk d1 ≤ 1048576 ∧ ∀ n ∈ d1.weights Try.prog 9, n ≤ 140737488351232 := ⟨Nat.le_trans (Seen.bulk_part (by simp)) (of_decide_eq_true hk), Seen.weigh_each hsz 1 9 d1 rfl rfl⟩
  have z2 : Rows.uptoBulk d2 ≤ 1048576 ∧ ∀ n ∈ d2.weights Try.prog 40, n ≤ 140737488351232 := ⟨Nat.le_trans (Seen.bulk_part (by simp)) (of_decide_eq_true hk), Seen.weigh_each hsz 2 40 d2 rfl rfl⟩
  obtain ⟨A0, c0, L0, rfl, H0⟩ := BitsO.open_fields (hval 0 39 v0 rfl rfl) (Seen.sees_trod hB h0 z0) (fun n h => h.2)
  obtain ⟨a1, rfl, rfl, rfl, w1⟩ := open_string Try.underlying9 (hval 1 9 v1 rfl rfl) h1
  have y1 := hB.str _ _ Try.underlying9 z1
  simp only [← Lib.size_eq] at y1
  obtain ⟨A2, c2, L2, rfl, H2⟩ := BitsO.open_intsL (hval 2 40 v2 rfl rfl) (Seen.sees_trod hB h2 z2) (fun n h => h.2)
  clear hA0 hval0
  refine (BitsY.bitsTells_any A0 c0 L0 a1 A2 c2 L2 W H0 H2 (by have := y1.1; omega)).mono fun e W' ⟨he, hb⟩ => ?_
  subst he
  exact ⟨_, rfl, post_law laidOut (by kernel_rfl) Try.underlying4 rfl rfl rfl hW0 hb⟩

theorem proved : Rows.BitsTellsUptoSaid :=
  OpenClaim.holds_of_cond 10 Try.f10 rfl rfl rfl rfl rfl rfl rfl ⟨rfl, rfl, rfl, rfl, rfl⟩ rfl rfl rfl rfl rfl (by kernel_rfl) Try.func10 (by kernel_rfl)
    (of_decide_eq_true (by kernel_rfl)) (by unfold Func.isWrapper; first | (rw [if_pos (by decide +kernel)]; kernel_rfl) | (rw [if_neg (by decide +kernel)]; exact ⟨rfl, rfl⟩))
    (fun os started H enc _ F => lifted os started H enc F)
#print axioms proved
end Go.Proofs.Ytmcihmcgkhijcaa.bitsTellsUpto
