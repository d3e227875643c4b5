/-
  No cell of these rows narrows 'for every input' (looked for: loops, veiled, ifaces, maps, wideKeys, modest, calm, conditions, laid).
  DERIVED. THE GIVEN ROWS OF THIS SEAT. 4 by the template 'for every input the law returns true; each argument reads behind the call as it read before'; 0 by the template 'total and deterministic' (their statements: YtnjaepdlfnidfaaTotals.lean).
  GIVEN WITH THE SEED: the statements are not yours to turn. If you find one false, say at which input.
  Laid BY PROGRAM, IN A SANDBOX (cutbox-rows.mjs): the forced cells as the released guide's own fill.sh prints them over the translation 488e3d50c3932549… (all of the seat's roots in one cut). By AI agents, Wed Nov 11 2026. No macro, syntax, notation, axiom, sorry.
-/
import Derived.Test.YtnjaepdlfnidfaaChecked
import GoSem.Claim
import GoSem.ClaimJoined
import GoSem.ClaimMapViews
import Derived.JoinedTies
import Derived.KernelRfl
namespace Go.Proofs.Ytnjaepdlfnidfaa
/- THE CELL 'sum', in the pinned program and in every row, IS THE sha256 OF THE DUMP (.gsa) THAT YtnjaepdlfnidfaaProg.lean LOADS. Nothing in Lean hashes anything: it is a label: what it is worth is what the hold of that sum in a sandbox is worth. -/
noncomputable def Try.pinned : Pinned := { name := "ytnjaepdlfnidfaa", sum := "488e3d50c3932549f2a5dabd25eec975bcf1f0fe512f84186d0cb8c53610cf40", checked := Try.checked }
namespace Rows
def none {H : Type} : Left H := { results := [], args := [] }

/-- 'gingersnaplaw.GrantTells': WHATEVER THE INPUT: true; the input reads as it did. -/
def grantTellsSpec : ChangeSpec := { name := "grantTells", fn := fun _ => fun
  | [d1, d2, d3, d4, d5] => { results := [.lit (.bool true)], args := [d1, d2, d3, d4, d5] }
  | _ => none }
def grantTellsRow : OpenClaim := { program := "ytnjaepdlfnidfaa", sum := "488e3d50c3932549f2a5dabd25eec975bcf1f0fe512f84186d0cb8c53610cf40", func := "gingersnap/gingersnaplaw.GrantTells", spec := "grantTells", unfollowed := true, recurses := true, apart := false }
def GrantTellsSaid : Prop := grantTellsRow.holds Try.pinned (OpenSpec.ofChange grantTellsSpec)

/-- ITS FALSE NEIGHBOUR: 'it returns false'. Refute it at one input. -/
def grantTellsWrong : ChangeSpec := { name := "grantTells", fn := fun _ => fun
  | [d1, d2, d3, d4, d5] => { results := [.lit (.bool false)], args := [d1, d2, d3, d4, d5] }
  | _ => none }
def GrantTellsWrongFalsely : Prop := grantTellsRow.holds Try.pinned (OpenSpec.ofChange grantTellsWrong)

/-- 'gingersnaplaw.GrantLattice': WHATEVER THE INPUT: true; the input reads as it did. -/
def grantLatticeSpec : ChangeSpec := { name := "grantLattice", fn := fun _ => fun
  | [d1, d2, d3] => { results := [.lit (.bool true)], args := [d1, d2, d3] }
  | _ => none }
def grantLatticeRow : OpenClaim := { program := "ytnjaepdlfnidfaa", sum := "488e3d50c3932549f2a5dabd25eec975bcf1f0fe512f84186d0cb8c53610cf40", func := "gingersnap/gingersnaplaw.GrantLattice", spec := "grantLattice", unfollowed := true, recurses := true, apart := false }
def GrantLatticeSaid : Prop := grantLatticeRow.holds Try.pinned (OpenSpec.ofChange grantLatticeSpec)

/-- ITS FALSE NEIGHBOUR: 'it returns false'. Refute it at one input. -/
def grantLatticeWrong : ChangeSpec := { name := "grantLattice", fn := fun _ => fun
  | [d1, d2, d3] => { results := [.lit (.bool false)], args := [d1, d2, d3] }
  | _ => none }
def GrantLatticeWrongFalsely : Prop := grantLatticeRow.holds Try.pinned (OpenSpec.ofChange grantLatticeWrong)

/-- 'gingersnaplaw.GrantMay': WHATEVER THE INPUT: true; the input reads as it did. -/
def grantMaySpec : ChangeSpec := { name := "grantMay", fn := fun _ => fun
  | [d1, d2, d3, d4] => { results := [.lit (.bool true)], args := [d1, d2, d3, d4] }
  | _ => none }
def grantMayRow : OpenClaim := { program := "ytnjaepdlfnidfaa", sum := "488e3d50c3932549f2a5dabd25eec975bcf1f0fe512f84186d0cb8c53610cf40", func := "gingersnap/gingersnaplaw.GrantMay", spec := "grantMay", unfollowed := true, recurses := true, apart := false }
def GrantMaySaid : Prop := grantMayRow.holds Try.pinned (OpenSpec.ofChange grantMaySpec)

/-- ITS FALSE NEIGHBOUR: 'it returns false'. Refute it at one input. -/
def grantMayWrong : ChangeSpec := { name := "grantMay", fn := fun _ => fun
  | [d1, d2, d3, d4] => { results := [.lit (.bool false)], args := [d1, d2, d3, d4] }
  | _ => none }
def GrantMayWrongFalsely : Prop := grantMayRow.holds Try.pinned (OpenSpec.ofChange grantMayWrong)

/-- 'gingersnaplaw.GrantDrop': WHATEVER THE INPUT: true; the input reads as it did. -/
def grantDropSpec : ChangeSpec := { name := "grantDrop", fn := fun _ => fun
  | [d1, d2, d3, d4, d5, d6] => { results := [.lit (.bool true)], args := [d1, d2, d3, d4, d5, d6] }
  | _ => none }
def grantDropRow : OpenClaim := { program := "ytnjaepdlfnidfaa", sum := "488e3d50c3932549f2a5dabd25eec975bcf1f0fe512f84186d0cb8c53610cf40", func := "gingersnap/gingersnaplaw.GrantDrop", spec := "grantDrop", unfollowed := true, recurses := true, apart := false }
def GrantDropSaid : Prop := grantDropRow.holds Try.pinned (OpenSpec.ofChange grantDropSpec)

/-- ITS FALSE NEIGHBOUR: 'it returns false'. Refute it at one input. -/
def grantDropWrong : ChangeSpec := { name := "grantDrop", fn := fun _ => fun
  | [d1, d2, d3, d4, d5, d6] => { results := [.lit (.bool false)], args := [d1, d2, d3, d4, d5, d6] }
  | _ => none }
def GrantDropWrongFalsely : Prop := grantDropRow.holds Try.pinned (OpenSpec.ofChange grantDropWrong)

/- THE SECOND FORM. 'bulk': how many values and letters a reading holds, each counted each time it is reached (what is shared counts as often as it is met; a slice's spare places count too). A statement '..UptoSaid' is the law's where the arguments, and the package variables that the reading takes, are together of bulk at most 1048576: NARROWER than '..Said'. Prove '..Said' where nothing that the law and all that it calls make is longer than what came in: it says more and counts as full. Else prove '..UptoSaid'. A law counts once. -/
mutual
def uptoBulk {H : Type} : DataW H → Nat
  | .lit (.string bytes) => bytes.length + 1
  | .lit _ => 1
  | .nil => 1
  | .ptr d => uptoBulk d + 1
  | .slice elems spare => uptoBulkAll elems + uptoBulkAll spare + 1
  | .agg parts => uptoBulkAll parts + 1
  | .iface _ d => uptoBulk d + 1
  | .map entries => uptoBulkEntries entries + 1
  | .held _ => 1
def uptoBulkAll {H : Type} : List (DataW H) → Nat
  | [] => 0
  | d :: r => uptoBulk d + uptoBulkAll r
def uptoBulkEntries {H : Type} : List (Lit × DataW H) → Nat
  | [] => 0
  | x :: r => uptoBulkEntry x + uptoBulkEntries r
def uptoBulkEntry {H : Type} : Lit × DataW H → Nat
  | (.string bytes, d) => bytes.length + uptoBulk d + 1
  | (_, d) => uptoBulk d + 1
 end
def uptoSmall : (H : Type) → List (DataW H) → Bool := fun _ ds => decide (uptoBulkAll ds ≤ 1048576)
def OpenSpec.upto (s : _root_.Go.ChangeSpec) : _root_.Go.OpenSpec := { _root_.Go.OpenSpec.ofChange s with cond := some uptoSmall }

/-- 'gingersnaplaw.GrantTells', WHERE WHAT IT READS IS OF BULK AT MOST 1048576: true; the input reads as it did. -/
def grantTellsUptoRow : OpenClaim := { program := "ytnjaepdlfnidfaa", sum := "488e3d50c3932549f2a5dabd25eec975bcf1f0fe512f84186d0cb8c53610cf40", func := "gingersnap/gingersnaplaw.GrantTells", spec := "grantTells", unfollowed := true, recurses := true, apart := false, narrowed := true }
def GrantTellsUptoSaid : Prop := grantTellsUptoRow.holds Try.pinned (OpenSpec.upto grantTellsSpec)

/-- 'gingersnaplaw.GrantLattice', WHERE WHAT IT READS IS OF BULK AT MOST 1048576: true; the input reads as it did. -/
def grantLatticeUptoRow : OpenClaim := { program := "ytnjaepdlfnidfaa", sum := "488e3d50c3932549f2a5dabd25eec975bcf1f0fe512f84186d0cb8c53610cf40", func := "gingersnap/gingersnaplaw.GrantLattice", spec := "grantLattice", unfollowed := true, recurses := true, apart := false, narrowed := true }
def GrantLatticeUptoSaid : Prop := grantLatticeUptoRow.holds Try.pinned (OpenSpec.upto grantLatticeSpec)

/-- 'gingersnaplaw.GrantMay', WHERE WHAT IT READS IS OF BULK AT MOST 1048576: true; the input reads as it did. -/
def grantMayUptoRow : OpenClaim := { program := "ytnjaepdlfnidfaa", sum := "488e3d50c3932549f2a5dabd25eec975bcf1f0fe512f84186d0cb8c53610cf40", func := "gingersnap/gingersnaplaw.GrantMay", spec := "grantMay", unfollowed := true, recurses := true, apart := false, narrowed := true }
def GrantMayUptoSaid : Prop := grantMayUptoRow.holds Try.pinned (OpenSpec.upto grantMaySpec)

/-- 'gingersnaplaw.GrantDrop', WHERE WHAT IT READS IS OF BULK AT MOST 1048576: true; the input reads as it did. -/
def grantDropUptoRow : OpenClaim := { program := "ytnjaepdlfnidfaa", sum := "488e3d50c3932549f2a5dabd25eec975bcf1f0fe512f84186d0cb8c53610cf40", func := "gingersnap/gingersnaplaw.GrantDrop", spec := "grantDrop", unfollowed := true, recurses := true, apart := false, narrowed := true }
def GrantDropUptoSaid : Prop := grantDropUptoRow.holds Try.pinned (OpenSpec.upto grantDropSpec)

end Rows
end Go.Proofs.Ytnjaepdlfnidfaa
