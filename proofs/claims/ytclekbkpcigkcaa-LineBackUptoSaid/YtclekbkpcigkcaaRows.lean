/-
  No cell of these rows narrows 'for every input' (looked for: loops, veiled, ifaces, maps, wideKeys, modest, calm, conditions, laid).
  DERIVED. THE GIVEN ROWS OF THIS SEAT. 6 by the template 'for every input the law returns true; each argument reads behind the call as it read before'; 0 by the template 'total and deterministic' (their statements: YtclekbkpcigkcaaTotals.lean).
  GIVEN WITH THE SEED: the statements are not yours to turn. If you find one false, say at which input.
  Laid BY PROGRAM, IN A SANDBOX (cutbox-rows.mjs): the forced cells as the released guide's own fill.sh prints them over the translation 68faa60714b06f64… (all of the seat's roots in one cut). By AI agents, Wed Nov 11 2026. No macro, syntax, notation, axiom, sorry.
-/
import Derived.Test.YtclekbkpcigkcaaChecked
import GoSem.Claim
import GoSem.ClaimJoined
import GoSem.ClaimMapViews
import Derived.JoinedTies
import Derived.KernelRfl
namespace Go.Proofs.Ytclekbkpcigkcaa
/- THE CELL 'sum', in the pinned program and in every row, IS THE sha256 OF THE DUMP (.gsa) THAT YtclekbkpcigkcaaProg.lean LOADS. Nothing in Lean hashes anything: it is a label: what it is worth is what the hold of that sum in a sandbox is worth. -/
noncomputable def Try.pinned : Pinned := { name := "ytclekbkpcigkcaa", sum := "68faa60714b06f64dab0928f975af8a5933391c5e2c336f264eec140fdca8d95", checked := Try.checked }
namespace Rows
def none {H : Type} : Left H := { results := [], args := [] }

/-- 'gingersnaplaw.LineTells': WHATEVER THE INPUT: true; the input reads as it did. -/
def lineTellsSpec : ChangeSpec := { name := "lineTells", fn := fun _ => fun
  | [d1, d2] => { results := [.lit (.bool true)], args := [d1, d2] }
  | _ => none }
def lineTellsRow : OpenClaim := { program := "ytclekbkpcigkcaa", sum := "68faa60714b06f64dab0928f975af8a5933391c5e2c336f264eec140fdca8d95", func := "gingersnap/gingersnaplaw.LineTells", spec := "lineTells", inPlace := ["internal/bytealg.IndexByteString", "internal/abi.NoEscape"], unfollowed := true, recurses := true, apart := false }
def LineTellsSaid : Prop := lineTellsRow.holds Try.pinned (OpenSpec.ofChange lineTellsSpec)

/-- ITS FALSE NEIGHBOUR: 'it returns false'. Refute it at one input. -/
def lineTellsWrong : ChangeSpec := { name := "lineTells", fn := fun _ => fun
  | [d1, d2] => { results := [.lit (.bool false)], args := [d1, d2] }
  | _ => none }
def LineTellsWrongFalsely : Prop := lineTellsRow.holds Try.pinned (OpenSpec.ofChange lineTellsWrong)

/-- 'gingersnaplaw.SortAny': WHATEVER THE INPUT: true; the input reads as it did. -/
def sortAnySpec : ChangeSpec := { name := "sortAny", fn := fun _ => fun
  | [d1, d2] => { results := [.lit (.bool true)], args := [d1, d2] }
  | _ => none }
def sortAnyRow : OpenClaim := { program := "ytclekbkpcigkcaa", sum := "68faa60714b06f64dab0928f975af8a5933391c5e2c336f264eec140fdca8d95", func := "gingersnap/gingersnaplaw.SortAny", spec := "sortAny", inPlace := ["internal/bytealg.IndexByteString", "internal/abi.NoEscape"], unfollowed := true, recurses := true, apart := false }
def SortAnySaid : Prop := sortAnyRow.holds Try.pinned (OpenSpec.ofChange sortAnySpec)

/-- ITS FALSE NEIGHBOUR: 'it returns false'. Refute it at one input. -/
def sortAnyWrong : ChangeSpec := { name := "sortAny", fn := fun _ => fun
  | [d1, d2] => { results := [.lit (.bool false)], args := [d1, d2] }
  | _ => none }
def SortAnyWrongFalsely : Prop := sortAnyRow.holds Try.pinned (OpenSpec.ofChange sortAnyWrong)

/-- 'gingersnaplaw.SortSteps': WHATEVER THE INPUT: true; the input reads as it did. -/
def sortStepsSpec : ChangeSpec := { name := "sortSteps", fn := fun _ => fun
  | [d] => { results := [.lit (.bool true)], args := [d] }
  | _ => none }
def sortStepsRow : OpenClaim := { program := "ytclekbkpcigkcaa", sum := "68faa60714b06f64dab0928f975af8a5933391c5e2c336f264eec140fdca8d95", func := "gingersnap/gingersnaplaw.SortSteps", spec := "sortSteps", inPlace := ["internal/bytealg.IndexByteString", "internal/abi.NoEscape"], unfollowed := true, recurses := true, apart := false }
def SortStepsSaid : Prop := sortStepsRow.holds Try.pinned (OpenSpec.ofChange sortStepsSpec)

/-- ITS FALSE NEIGHBOUR: 'it returns false'. Refute it at one input. -/
def sortStepsWrong : ChangeSpec := { name := "sortSteps", fn := fun _ => fun
  | [d] => { results := [.lit (.bool false)], args := [d] }
  | _ => none }
def SortStepsWrongFalsely : Prop := sortStepsRow.holds Try.pinned (OpenSpec.ofChange sortStepsWrong)

/-- 'gingersnaplaw.LineBack': WHATEVER THE INPUT: true; the input reads as it did. -/
def lineBackSpec : ChangeSpec := { name := "lineBack", fn := fun _ => fun
  | [d] => { results := [.lit (.bool true)], args := [d] }
  | _ => none }
def lineBackRow : OpenClaim := { program := "ytclekbkpcigkcaa", sum := "68faa60714b06f64dab0928f975af8a5933391c5e2c336f264eec140fdca8d95", func := "gingersnap/gingersnaplaw.LineBack", spec := "lineBack", inPlace := ["internal/bytealg.IndexByteString", "internal/abi.NoEscape"], unfollowed := true, recurses := true, apart := false }
def LineBackSaid : Prop := lineBackRow.holds Try.pinned (OpenSpec.ofChange lineBackSpec)

/-- ITS FALSE NEIGHBOUR: 'it returns false'. Refute it at one input. -/
def lineBackWrong : ChangeSpec := { name := "lineBack", fn := fun _ => fun
  | [d] => { results := [.lit (.bool false)], args := [d] }
  | _ => none }
def LineBackWrongFalsely : Prop := lineBackRow.holds Try.pinned (OpenSpec.ofChange lineBackWrong)

/-- 'gingersnaplaw.StampBack': WHATEVER THE INPUT: true; the input reads as it did. -/
def stampBackSpec : ChangeSpec := { name := "stampBack", fn := fun _ => fun
  | [d1, d2] => { results := [.lit (.bool true)], args := [d1, d2] }
  | _ => none }
def stampBackRow : OpenClaim := { program := "ytclekbkpcigkcaa", sum := "68faa60714b06f64dab0928f975af8a5933391c5e2c336f264eec140fdca8d95", func := "gingersnap/gingersnaplaw.StampBack", spec := "stampBack", inPlace := ["internal/bytealg.IndexByteString", "internal/bytealg.IndexString"], unfollowed := true, recurses := true, named := ["internal/bytealg.MaxLen"], apart := false }
def StampBackSaid : Prop := stampBackRow.holds Try.pinned (OpenSpec.ofChange stampBackSpec)

/-- ITS FALSE NEIGHBOUR: 'it returns false'. Refute it at one input. -/
def stampBackWrong : ChangeSpec := { name := "stampBack", fn := fun _ => fun
  | [d1, d2] => { results := [.lit (.bool false)], args := [d1, d2] }
  | _ => none }
def StampBackWrongFalsely : Prop := stampBackRow.holds Try.pinned (OpenSpec.ofChange stampBackWrong)

/-- 'gingersnaplaw.StampParts': WHATEVER THE INPUT: true; the input reads as it did. -/
def stampPartsSpec : ChangeSpec := { name := "stampParts", fn := fun _ => fun
  | [d1, d2] => { results := [.lit (.bool true)], args := [d1, d2] }
  | _ => none }
def stampPartsRow : OpenClaim := { program := "ytclekbkpcigkcaa", sum := "68faa60714b06f64dab0928f975af8a5933391c5e2c336f264eec140fdca8d95", func := "gingersnap/gingersnaplaw.StampParts", spec := "stampParts", inPlace := ["internal/bytealg.IndexByteString", "internal/bytealg.IndexString"], unfollowed := true, recurses := true, named := ["internal/bytealg.MaxLen"], apart := false }
def StampPartsSaid : Prop := stampPartsRow.holds Try.pinned (OpenSpec.ofChange stampPartsSpec)

/-- ITS FALSE NEIGHBOUR: 'it returns false'. Refute it at one input. -/
def stampPartsWrong : ChangeSpec := { name := "stampParts", fn := fun _ => fun
  | [d1, d2] => { results := [.lit (.bool false)], args := [d1, d2] }
  | _ => none }
def StampPartsWrongFalsely : Prop := stampPartsRow.holds Try.pinned (OpenSpec.ofChange stampPartsWrong)

/- THE SECOND FORM. 'bulk': how many values and letters a reading holds, each counted each time it is reached (what is shared counts as often as it is met; a slice's spare places count too). A statement '..UptoSaid' is the law's where the arguments, and the package variables that the reading takes, are together of bulk at most 1048576: NARROWER than '..Said'. Prove '..Said' where nothing that the law and all that it calls make is longer than what came in: it says more and counts as full. Else prove '..UptoSaid'. A law counts once. -/
mutual
def uptoBulk {H : Type} : DataW H → Nat
  | .lit (.string bytes) => bytes.length + 1
  | .lit _ => 1
  | .nil => 1
  | .ptr d => uptoBulk d + 1
  | .slice elems spare => uptoBulkAll elems + uptoBulkAll spare + 1
  | .agg parts => uptoBulkAll parts + 1
  | .iface _ d => uptoBulk d + 1
  | .map entries => uptoBulkEntries entries + 1
  | .held _ => 1
def uptoBulkAll {H : Type} : List (DataW H) → Nat
  | [] => 0
  | d :: r => uptoBulk d + uptoBulkAll r
def uptoBulkEntries {H : Type} : List (Lit × DataW H) → Nat
  | [] => 0
  | x :: r => uptoBulkEntry x + uptoBulkEntries r
def uptoBulkEntry {H : Type} : Lit × DataW H → Nat
  | (.string bytes, d) => bytes.length + uptoBulk d + 1
  | (_, d) => uptoBulk d + 1
 end
def uptoSmall : (H : Type) → List (DataW H) → Bool := fun _ ds => decide (uptoBulkAll ds ≤ 1048576)
def OpenSpec.upto (s : _root_.Go.ChangeSpec) : _root_.Go.OpenSpec := { _root_.Go.OpenSpec.ofChange s with cond := some uptoSmall }

/-- 'gingersnaplaw.LineTells', WHERE WHAT IT READS IS OF BULK AT MOST 1048576: true; the input reads as it did. -/
def lineTellsUptoRow : OpenClaim := { program := "ytclekbkpcigkcaa", sum := "68faa60714b06f64dab0928f975af8a5933391c5e2c336f264eec140fdca8d95", func := "gingersnap/gingersnaplaw.LineTells", spec := "lineTells", inPlace := ["internal/bytealg.IndexByteString", "internal/abi.NoEscape"], unfollowed := true, recurses := true, apart := false, narrowed := true }
def LineTellsUptoSaid : Prop := lineTellsUptoRow.holds Try.pinned (OpenSpec.upto lineTellsSpec)

/-- 'gingersnaplaw.SortAny', WHERE WHAT IT READS IS OF BULK AT MOST 1048576: true; the input reads as it did. -/
def sortAnyUptoRow : OpenClaim := { program := "ytclekbkpcigkcaa", sum := "68faa60714b06f64dab0928f975af8a5933391c5e2c336f264eec140fdca8d95", func := "gingersnap/gingersnaplaw.SortAny", spec := "sortAny", inPlace := ["internal/bytealg.IndexByteString", "internal/abi.NoEscape"], unfollowed := true, recurses := true, apart := false, narrowed := true }
def SortAnyUptoSaid : Prop := sortAnyUptoRow.holds Try.pinned (OpenSpec.upto sortAnySpec)

/-- 'gingersnaplaw.SortSteps', WHERE WHAT IT READS IS OF BULK AT MOST 1048576: true; the input reads as it did. -/
def sortStepsUptoRow : OpenClaim := { program := "ytclekbkpcigkcaa", sum := "68faa60714b06f64dab0928f975af8a5933391c5e2c336f264eec140fdca8d95", func := "gingersnap/gingersnaplaw.SortSteps", spec := "sortSteps", inPlace := ["internal/bytealg.IndexByteString", "internal/abi.NoEscape"], unfollowed := true, recurses := true, apart := false, narrowed := true }
def SortStepsUptoSaid : Prop := sortStepsUptoRow.holds Try.pinned (OpenSpec.upto sortStepsSpec)

/-- 'gingersnaplaw.LineBack', WHERE WHAT IT READS IS OF BULK AT MOST 1048576: true; the input reads as it did. -/
def lineBackUptoRow : OpenClaim := { program := "ytclekbkpcigkcaa", sum := "68faa60714b06f64dab0928f975af8a5933391c5e2c336f264eec140fdca8d95", func := "gingersnap/gingersnaplaw.LineBack", spec := "lineBack", inPlace := ["internal/bytealg.IndexByteString", "internal/abi.NoEscape"], unfollowed := true, recurses := true, apart := false, narrowed := true }
def LineBackUptoSaid : Prop := lineBackUptoRow.holds Try.pinned (OpenSpec.upto lineBackSpec)

/-- 'gingersnaplaw.StampBack', WHERE WHAT IT READS IS OF BULK AT MOST 1048576: true; the input reads as it did. -/
def stampBackUptoRow : OpenClaim := { program := "ytclekbkpcigkcaa", sum := "68faa60714b06f64dab0928f975af8a5933391c5e2c336f264eec140fdca8d95", func := "gingersnap/gingersnaplaw.StampBack", spec := "stampBack", inPlace := ["internal/bytealg.IndexByteString", "internal/bytealg.IndexString"], unfollowed := true, recurses := true, named := ["internal/bytealg.MaxLen"], apart := false, narrowed := true }
def StampBackUptoSaid : Prop := stampBackUptoRow.holds Try.pinned (OpenSpec.upto stampBackSpec)

/-- 'gingersnaplaw.StampParts', WHERE WHAT IT READS IS OF BULK AT MOST 1048576: true; the input reads as it did. -/
def stampPartsUptoRow : OpenClaim := { program := "ytclekbkpcigkcaa", sum := "68faa60714b06f64dab0928f975af8a5933391c5e2c336f264eec140fdca8d95", func := "gingersnap/gingersnaplaw.StampParts", spec := "stampParts", inPlace := ["internal/bytealg.IndexByteString", "internal/bytealg.IndexString"], unfollowed := true, recurses := true, named := ["internal/bytealg.MaxLen"], apart := false, narrowed := true }
def StampPartsUptoSaid : Prop := stampPartsUptoRow.holds Try.pinned (OpenSpec.upto stampPartsSpec)

end Rows
end Go.Proofs.Ytclekbkpcigkcaa
