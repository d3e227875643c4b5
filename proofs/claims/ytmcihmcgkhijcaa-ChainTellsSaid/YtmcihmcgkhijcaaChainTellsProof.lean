/- Proves 'ChainTells': for every input the law returns true, and each argument reads behind the call as it did; no condition. -/
import Derived.Test.YtmcihmcgkhijcaaRows
import Derived.Test.YtmcihmcgkhijcaaFrame
import Derived.Test.YtmcihmcgkhijcaaChainT
import Derived.ProofKit
import Derived.OpenShut
import Derived.ShutString
import Derived.SizedLaws
import Derived.Test.YtmcihmcgkhijcaaFrameS
namespace Go.Proofs.Ytmcihmcgkhijcaa.chainTells
open Go.ChangeShapes Go.WideShapes Go.ChangeAt Go.RowKit Ends
open Go.ChangeMaps (open_string shut_string)
set_option linter.unusedVariables false

theorem own : ownKnob Try.prog.godebug = none := by kernel_rfl

set_option maxRecDepth 100000 in
theorem lifted (os : Os) (started : os.Started) (H : Type) (enc : TypeId × Value → H) :
    ReturnsInHanded {} Try.checked os 6 .any (Rows.chainTellsSpec.pre6 enc Try.prog Try.f6 Rows.chainTellsRow.domain false) (Rows.chainTellsSpec.post enc Try.prog Try.f6 false true false false) := by
  refine returnsInHanded_of_change_sized (C := Try.checked) own started (by kernel_rfl) Try.func6
    (ChangeSpec.witness6 (enc := enc) (C := Try.checked) false ⟨#[], #[.string ByteArray.empty, .int .u64 0, .slice none 0 0, .slice none 0 0], []⟩ 8 (by kernel_rfl) (by kernel_rfl) (by kernel_rfl) (by kernel_rfl)) ?_
  intro W base args ds gs before hval0 hW hcnd hsz _
  have hval : ∀ (j : Nat) t v, Try.f6.params[j]? = some t → args[j]? = some v → Value.okWide Try.prog W .any base t v := hval0
  have hW0 := hW
  obtain ⟨p, q, hA0, hV, rfl, hfz, hnd⟩ := hW
  have hA : DataW.TrodAll enc Try.prog W 0 (fun _ => true) true Try.f6.params.toList args.toList ds p := hA0
  rw [Try.params6] at hA hval hsz
  obtain ⟨v0, vs0, d0, ds0, p0, q0, hargs, rfl, rfl, h0, r0⟩ := trodAll_cons hA
  obtain ⟨v1, vs1, d1, ds1, p1, q1, rfl, rfl, rfl, h1, r1⟩ := trodAll_cons r0
  obtain ⟨v2, vs2, d2, ds2, p2, q2, rfl, rfl, rfl, h2, r2⟩ := trodAll_cons r1
  obtain ⟨v3, vs3, d3, ds3, p3, q3, rfl, rfl, rfl, h3, r3⟩ := trodAll_cons r2
  obtain ⟨rfl, rfl, rfl⟩ := trodAll_nil r3
  obtain rfl : args = #[v0, v1, v2, v3] := by cases args; simp_all
  obtain ⟨rfl, rfl⟩ := trodVars_none hV
  have z0 := EndsS.reach_each hsz 0 9 d0 rfl rfl
  have z1 := EndsS.reach_each hsz 1 26 d1 rfl rfl
  have z2 := EndsS.reach_each hsz 2 27 d2 rfl rfl
  have z3 := EndsS.reach_each hsz 3 27 d3 rfl rfl
  obtain ⟨a0, rfl, rfl, rfl, w0⟩ := open_string Try.underlying9 (hval 0 9 v0 rfl rfl) h0
  obtain ⟨a1, rfl, rfl, rfl, w1⟩ := open_int Try.underlying26 (hval 1 26 v1 rfl rfl) h1
  obtain ⟨A2, c2, L2, rfl, H2⟩ := EndsS.open_strsL Try.underlying27 (Try.underlying9) (by kernel_rfl) (by kernel_rfl) (hval 2 27 v2 rfl rfl) h2 z2
  obtain ⟨A3, c3, L3, rfl, H3⟩ := EndsS.open_strsL Try.underlying27 (Try.underlying9) (by kernel_rfl) (by kernel_rfl) (hval 3 27 v3 rfl rfl) h3 z3
  have y0 := EndsS.str_reach z0
  clear hA0 hval0
  refine (ChainT.chainTells_int a0 a1 (bounds_u64 w1).1 (by have := (bounds_u64 w1).2; omega) y0 A2 c2 L2 A3 c3 L3 W H2 H3).mono fun e W' ⟨he, hb⟩ => ?_
  subst he
  exact ⟨_, rfl, post_law laidOut (by kernel_rfl) Try.underlying4 rfl rfl rfl hW0 hb⟩

theorem over : Rows.chainTellsRow.holds Try.pinned (OpenSpec.ofChange Rows.chainTellsSpec) :=
  OpenClaim.holds_of_wide 6 Try.f6 rfl rfl rfl rfl rfl rfl rfl ⟨rfl, rfl, rfl, rfl, rfl⟩ rfl rfl rfl rfl rfl (by kernel_rfl) Try.func6 (by kernel_rfl)
    (of_decide_eq_true (by kernel_rfl)) (by unfold Func.isWrapper; first | (rw [if_pos (by decide +kernel)]; kernel_rfl) | (rw [if_neg (by decide +kernel)]; exact ⟨rfl, rfl⟩))
    (fun os started H enc _ => lifted os started H enc)

theorem proved : Rows.ChainTellsSaid :=
  over
#print axioms proved
end Go.Proofs.Ytmcihmcgkhijcaa.chainTells
