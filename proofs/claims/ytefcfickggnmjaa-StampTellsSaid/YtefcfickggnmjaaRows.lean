/-
  No cell of these rows narrows 'for every input' (looked for: loops, veiled, ifaces, maps, wideKeys, modest, calm, conditions, laid).
  DERIVED. THE GIVEN ROWS OF THIS SEAT. 10 by the template 'for every input the law returns true; each argument reads behind the call as it read before'; 0 by the template 'total and deterministic' (their statements: YtefcfickggnmjaaTotals.lean).
  GIVEN WITH THE SEED: the statements are not yours to turn. If you find one false, say at which input.
  Laid BY PROGRAM, IN A SANDBOX (cutbox-rows.mjs): the forced cells as the released guide's own fill.sh prints them over the translation 66787c70050568cc… (all of the seat's roots in one cut). By AI agents, Wed Nov 11 2026. No macro, syntax, notation, axiom, sorry.
-/
import Derived.Test.YtefcfickggnmjaaChecked
import GoSem.Claim
import GoSem.ClaimJoined
import GoSem.ClaimMapViews
import Derived.JoinedTies
import Derived.KernelRfl
namespace Go.Proofs.Ytefcfickggnmjaa
/- THE CELL 'sum', in the pinned program and in every row, IS THE sha256 OF THE DUMP (.gsa) THAT YtefcfickggnmjaaProg.lean LOADS. Nothing in Lean hashes anything: it is a label: what it is worth is what the hold of that sum in a sandbox is worth. -/
noncomputable def Try.pinned : Pinned := { name := "ytefcfickggnmjaa", sum := "66787c70050568ccdb0c9b1c020930cf18cf98dc496be5932126c63674609bda", checked := Try.checked }
namespace Rows
def none {H : Type} : Left H := { results := [], args := [] }

/-- 'gingersnaplaw.StampTells': WHATEVER THE INPUT: true; the input reads as it did. -/
def stampTellsSpec : ChangeSpec := { name := "stampTells", fn := fun _ => fun
  | [d1, d2] => { results := [.lit (.bool true)], args := [d1, d2] }
  | _ => none }
def stampTellsRow : OpenClaim := { program := "ytefcfickggnmjaa", sum := "66787c70050568ccdb0c9b1c020930cf18cf98dc496be5932126c63674609bda", func := "gingersnap/gingersnaplaw.StampTells", spec := "stampTells", inPlace := ["internal/bytealg.IndexByteString", "internal/bytealg.IndexString"], unfollowed := true, recurses := true, named := ["internal/bytealg.MaxLen"], apart := false }
def StampTellsSaid : Prop := stampTellsRow.holds Try.pinned (OpenSpec.ofChange stampTellsSpec)

/-- ITS FALSE NEIGHBOUR: 'it returns false'. Refute it at one input. -/
def stampTellsWrong : ChangeSpec := { name := "stampTells", fn := fun _ => fun
  | [d1, d2] => { results := [.lit (.bool false)], args := [d1, d2] }
  | _ => none }
def StampTellsWrongFalsely : Prop := stampTellsRow.holds Try.pinned (OpenSpec.ofChange stampTellsWrong)

/-- 'gingersnaplaw.StampBack': WHATEVER THE INPUT: true; the input reads as it did. -/
def stampBackSpec : ChangeSpec := { name := "stampBack", fn := fun _ => fun
  | [d1, d2] => { results := [.lit (.bool true)], args := [d1, d2] }
  | _ => none }
def stampBackRow : OpenClaim := { program := "ytefcfickggnmjaa", sum := "66787c70050568ccdb0c9b1c020930cf18cf98dc496be5932126c63674609bda", func := "gingersnap/gingersnaplaw.StampBack", spec := "stampBack", inPlace := ["internal/bytealg.IndexByteString", "internal/bytealg.IndexString"], unfollowed := true, recurses := true, named := ["internal/bytealg.MaxLen"], apart := false }
def StampBackSaid : Prop := stampBackRow.holds Try.pinned (OpenSpec.ofChange stampBackSpec)

/-- ITS FALSE NEIGHBOUR: 'it returns false'. Refute it at one input. -/
def stampBackWrong : ChangeSpec := { name := "stampBack", fn := fun _ => fun
  | [d1, d2] => { results := [.lit (.bool false)], args := [d1, d2] }
  | _ => none }
def StampBackWrongFalsely : Prop := stampBackRow.holds Try.pinned (OpenSpec.ofChange stampBackWrong)

/-- 'gingersnaplaw.StampParts': WHATEVER THE INPUT: true; the input reads as it did. -/
def stampPartsSpec : ChangeSpec := { name := "stampParts", fn := fun _ => fun
  | [d1, d2] => { results := [.lit (.bool true)], args := [d1, d2] }
  | _ => none }
def stampPartsRow : OpenClaim := { program := "ytefcfickggnmjaa", sum := "66787c70050568ccdb0c9b1c020930cf18cf98dc496be5932126c63674609bda", func := "gingersnap/gingersnaplaw.StampParts", spec := "stampParts", inPlace := ["internal/bytealg.IndexByteString", "internal/bytealg.IndexString"], unfollowed := true, recurses := true, named := ["internal/bytealg.MaxLen"], apart := false }
def StampPartsSaid : Prop := stampPartsRow.holds Try.pinned (OpenSpec.ofChange stampPartsSpec)

/-- ITS FALSE NEIGHBOUR: 'it returns false'. Refute it at one input. -/
def stampPartsWrong : ChangeSpec := { name := "stampParts", fn := fun _ => fun
  | [d1, d2] => { results := [.lit (.bool false)], args := [d1, d2] }
  | _ => none }
def StampPartsWrongFalsely : Prop := stampPartsRow.holds Try.pinned (OpenSpec.ofChange stampPartsWrong)

/-- 'gingersnaplaw.PolicyTells': WHATEVER THE INPUT: true; the input reads as it did. -/
def policyTellsSpec : ChangeSpec := { name := "policyTells", fn := fun _ => fun
  | [d1, d2, d3] => { results := [.lit (.bool true)], args := [d1, d2, d3] }
  | _ => none }
def policyTellsRow : OpenClaim := { program := "ytefcfickggnmjaa", sum := "66787c70050568ccdb0c9b1c020930cf18cf98dc496be5932126c63674609bda", func := "gingersnap/gingersnaplaw.PolicyTells", spec := "policyTells", inPlace := ["internal/bytealg.IndexByteString"], unfollowed := true, recurses := true, apart := false }
def PolicyTellsSaid : Prop := policyTellsRow.holds Try.pinned (OpenSpec.ofChange policyTellsSpec)

/-- ITS FALSE NEIGHBOUR: 'it returns false'. Refute it at one input. -/
def policyTellsWrong : ChangeSpec := { name := "policyTells", fn := fun _ => fun
  | [d1, d2, d3] => { results := [.lit (.bool false)], args := [d1, d2, d3] }
  | _ => none }
def PolicyTellsWrongFalsely : Prop := policyTellsRow.holds Try.pinned (OpenSpec.ofChange policyTellsWrong)

/-- 'gingersnaplaw.PolicyFirst': WHATEVER THE INPUT: true; the input reads as it did. -/
def policyFirstSpec : ChangeSpec := { name := "policyFirst", fn := fun _ => fun
  | [d1, d2, d3, d4] => { results := [.lit (.bool true)], args := [d1, d2, d3, d4] }
  | _ => none }
def policyFirstRow : OpenClaim := { program := "ytefcfickggnmjaa", sum := "66787c70050568ccdb0c9b1c020930cf18cf98dc496be5932126c63674609bda", func := "gingersnap/gingersnaplaw.PolicyFirst", spec := "policyFirst", inPlace := ["internal/bytealg.IndexByteString"], unfollowed := true, recurses := true, apart := false }
def PolicyFirstSaid : Prop := policyFirstRow.holds Try.pinned (OpenSpec.ofChange policyFirstSpec)

/-- ITS FALSE NEIGHBOUR: 'it returns false'. Refute it at one input. -/
def policyFirstWrong : ChangeSpec := { name := "policyFirst", fn := fun _ => fun
  | [d1, d2, d3, d4] => { results := [.lit (.bool false)], args := [d1, d2, d3, d4] }
  | _ => none }
def PolicyFirstWrongFalsely : Prop := policyFirstRow.holds Try.pinned (OpenSpec.ofChange policyFirstWrong)

/-- 'gingersnaplaw.PolicyAway': WHATEVER THE INPUT: true; the input reads as it did. -/
def policyAwaySpec : ChangeSpec := { name := "policyAway", fn := fun _ => fun
  | [d1, d2] => { results := [.lit (.bool true)], args := [d1, d2] }
  | _ => none }
def policyAwayRow : OpenClaim := { program := "ytefcfickggnmjaa", sum := "66787c70050568ccdb0c9b1c020930cf18cf98dc496be5932126c63674609bda", func := "gingersnap/gingersnaplaw.PolicyAway", spec := "policyAway", inPlace := ["internal/bytealg.IndexByteString"], unfollowed := true, recurses := true, apart := false }
def PolicyAwaySaid : Prop := policyAwayRow.holds Try.pinned (OpenSpec.ofChange policyAwaySpec)

/-- ITS FALSE NEIGHBOUR: 'it returns false'. Refute it at one input. -/
def policyAwayWrong : ChangeSpec := { name := "policyAway", fn := fun _ => fun
  | [d1, d2] => { results := [.lit (.bool false)], args := [d1, d2] }
  | _ => none }
def PolicyAwayWrongFalsely : Prop := policyAwayRow.holds Try.pinned (OpenSpec.ofChange policyAwayWrong)

/-- 'gingersnaplaw.CapTells': WHATEVER THE INPUT: true; the input reads as it did. -/
def capTellsSpec : ChangeSpec := { name := "capTells", fn := fun _ => fun
  | [d1, d2] => { results := [.lit (.bool true)], args := [d1, d2] }
  | _ => none }
def capTellsRow : OpenClaim := { program := "ytefcfickggnmjaa", sum := "66787c70050568ccdb0c9b1c020930cf18cf98dc496be5932126c63674609bda", func := "gingersnap/gingersnaplaw.CapTells", spec := "capTells", inPlace := ["internal/bytealg.IndexByteString"], unfollowed := true, recurses := true, apart := false }
def CapTellsSaid : Prop := capTellsRow.holds Try.pinned (OpenSpec.ofChange capTellsSpec)

/-- ITS FALSE NEIGHBOUR: 'it returns false'. Refute it at one input. -/
def capTellsWrong : ChangeSpec := { name := "capTells", fn := fun _ => fun
  | [d1, d2] => { results := [.lit (.bool false)], args := [d1, d2] }
  | _ => none }
def CapTellsWrongFalsely : Prop := capTellsRow.holds Try.pinned (OpenSpec.ofChange capTellsWrong)

/-- 'gingersnaplaw.CapTwice': WHATEVER THE INPUT: true; the input reads as it did. -/
def capTwiceSpec : ChangeSpec := { name := "capTwice", fn := fun _ => fun
  | [d1, d2] => { results := [.lit (.bool true)], args := [d1, d2] }
  | _ => none }
def capTwiceRow : OpenClaim := { program := "ytefcfickggnmjaa", sum := "66787c70050568ccdb0c9b1c020930cf18cf98dc496be5932126c63674609bda", func := "gingersnap/gingersnaplaw.CapTwice", spec := "capTwice", inPlace := ["internal/bytealg.IndexByteString"], unfollowed := true, recurses := true, apart := false }
def CapTwiceSaid : Prop := capTwiceRow.holds Try.pinned (OpenSpec.ofChange capTwiceSpec)

/-- ITS FALSE NEIGHBOUR: 'it returns false'. Refute it at one input. -/
def capTwiceWrong : ChangeSpec := { name := "capTwice", fn := fun _ => fun
  | [d1, d2] => { results := [.lit (.bool false)], args := [d1, d2] }
  | _ => none }
def CapTwiceWrongFalsely : Prop := capTwiceRow.holds Try.pinned (OpenSpec.ofChange capTwiceWrong)

/-- 'gingersnaplaw.CapLess': WHATEVER THE INPUT: true; the input reads as it did. -/
def capLessSpec : ChangeSpec := { name := "capLess", fn := fun _ => fun
  | [d1, d2, d3] => { results := [.lit (.bool true)], args := [d1, d2, d3] }
  | _ => none }
def capLessRow : OpenClaim := { program := "ytefcfickggnmjaa", sum := "66787c70050568ccdb0c9b1c020930cf18cf98dc496be5932126c63674609bda", func := "gingersnap/gingersnaplaw.CapLess", spec := "capLess", inPlace := ["internal/bytealg.IndexByteString"], unfollowed := true, recurses := true, apart := false }
def CapLessSaid : Prop := capLessRow.holds Try.pinned (OpenSpec.ofChange capLessSpec)

/-- ITS FALSE NEIGHBOUR: 'it returns false'. Refute it at one input. -/
def capLessWrong : ChangeSpec := { name := "capLess", fn := fun _ => fun
  | [d1, d2, d3] => { results := [.lit (.bool false)], args := [d1, d2, d3] }
  | _ => none }
def CapLessWrongFalsely : Prop := capLessRow.holds Try.pinned (OpenSpec.ofChange capLessWrong)

/-- 'gingersnaplaw.PolicyLess': WHATEVER THE INPUT: true; the input reads as it did. -/
def policyLessSpec : ChangeSpec := { name := "policyLess", fn := fun _ => fun
  | [d1, d2, d3, d4] => { results := [.lit (.bool true)], args := [d1, d2, d3, d4] }
  | _ => none }
def policyLessRow : OpenClaim := { program := "ytefcfickggnmjaa", sum := "66787c70050568ccdb0c9b1c020930cf18cf98dc496be5932126c63674609bda", func := "gingersnap/gingersnaplaw.PolicyLess", spec := "policyLess", inPlace := ["internal/bytealg.IndexByteString"], unfollowed := true, recurses := true, apart := false }
def PolicyLessSaid : Prop := policyLessRow.holds Try.pinned (OpenSpec.ofChange policyLessSpec)

/-- ITS FALSE NEIGHBOUR: 'it returns false'. Refute it at one input. -/
def policyLessWrong : ChangeSpec := { name := "policyLess", fn := fun _ => fun
  | [d1, d2, d3, d4] => { results := [.lit (.bool false)], args := [d1, d2, d3, d4] }
  | _ => none }
def PolicyLessWrongFalsely : Prop := policyLessRow.holds Try.pinned (OpenSpec.ofChange policyLessWrong)

/- THE SECOND FORM. 'bulk': how many values and letters a reading holds, each counted each time it is reached (what is shared counts as often as it is met; a slice's spare places count too). A statement '..UptoSaid' is the law's where the arguments, and the package variables that the reading takes, are together of bulk at most 1048576: NARROWER than '..Said'. Prove '..Said' where nothing that the law and all that it calls make is longer than what came in: it says more and counts as full. Else prove '..UptoSaid'. A law counts once. -/
mutual
def uptoBulk {H : Type} : DataW H → Nat
  | .lit (.string bytes) => bytes.length + 1
  | .lit _ => 1
  | .nil => 1
  | .ptr d => uptoBulk d + 1
  | .slice elems spare => uptoBulkAll elems + uptoBulkAll spare + 1
  | .agg parts => uptoBulkAll parts + 1
  | .iface _ d => uptoBulk d + 1
  | .map entries => uptoBulkEntries entries + 1
  | .held _ => 1
def uptoBulkAll {H : Type} : List (DataW H) → Nat
  | [] => 0
  | d :: r => uptoBulk d + uptoBulkAll r
def uptoBulkEntries {H : Type} : List (Lit × DataW H) → Nat
  | [] => 0
  | x :: r => uptoBulkEntry x + uptoBulkEntries r
def uptoBulkEntry {H : Type} : Lit × DataW H → Nat
  | (.string bytes, d) => bytes.length + uptoBulk d + 1
  | (_, d) => uptoBulk d + 1
 end
def uptoSmall : (H : Type) → List (DataW H) → Bool := fun _ ds => decide (uptoBulkAll ds ≤ 1048576)
def OpenSpec.upto (s : _root_.Go.ChangeSpec) : _root_.Go.OpenSpec := { _root_.Go.OpenSpec.ofChange s with cond := some uptoSmall }

/-- 'gingersnaplaw.StampTells', WHERE WHAT IT READS IS OF BULK AT MOST 1048576: true; the input reads as it did. -/
def stampTellsUptoRow : OpenClaim := { program := "ytefcfickggnmjaa", sum := "66787c70050568ccdb0c9b1c020930cf18cf98dc496be5932126c63674609bda", func := "gingersnap/gingersnaplaw.StampTells", spec := "stampTells", inPlace := ["internal/bytealg.IndexByteString", "internal/bytealg.IndexString"], unfollowed := true, recurses := true, named := ["internal/bytealg.MaxLen"], apart := false, narrowed := true }
def StampTellsUptoSaid : Prop := stampTellsUptoRow.holds Try.pinned (OpenSpec.upto stampTellsSpec)

/-- 'gingersnaplaw.StampBack', WHERE WHAT IT READS IS OF BULK AT MOST 1048576: true; the input reads as it did. -/
def stampBackUptoRow : OpenClaim := { program := "ytefcfickggnmjaa", sum := "66787c70050568ccdb0c9b1c020930cf18cf98dc496be5932126c63674609bda", func := "gingersnap/gingersnaplaw.StampBack", spec := "stampBack", inPlace := ["internal/bytealg.IndexByteString", "internal/bytealg.IndexString"], unfollowed := true, recurses := true, named := ["internal/bytealg.MaxLen"], apart := false, narrowed := true }
def StampBackUptoSaid : Prop := stampBackUptoRow.holds Try.pinned (OpenSpec.upto stampBackSpec)

/-- 'gingersnaplaw.StampParts', WHERE WHAT IT READS IS OF BULK AT MOST 1048576: true; the input reads as it did. -/
def stampPartsUptoRow : OpenClaim := { program := "ytefcfickggnmjaa", sum := "66787c70050568ccdb0c9b1c020930cf18cf98dc496be5932126c63674609bda", func := "gingersnap/gingersnaplaw.StampParts", spec := "stampParts", inPlace := ["internal/bytealg.IndexByteString", "internal/bytealg.IndexString"], unfollowed := true, recurses := true, named := ["internal/bytealg.MaxLen"], apart := false, narrowed := true }
def StampPartsUptoSaid : Prop := stampPartsUptoRow.holds Try.pinned (OpenSpec.upto stampPartsSpec)

/-- 'gingersnaplaw.PolicyTells', WHERE WHAT IT READS IS OF BULK AT MOST 1048576: true; the input reads as it did. -/
def policyTellsUptoRow : OpenClaim := { program := "ytefcfickggnmjaa", sum := "66787c70050568ccdb0c9b1c020930cf18cf98dc496be5932126c63674609bda", func := "gingersnap/gingersnaplaw.PolicyTells", spec := "policyTells", inPlace := ["internal/bytealg.IndexByteString"], unfollowed := true, recurses := true, apart := false, narrowed := true }
def PolicyTellsUptoSaid : Prop := policyTellsUptoRow.holds Try.pinned (OpenSpec.upto policyTellsSpec)

/-- 'gingersnaplaw.PolicyFirst', WHERE WHAT IT READS IS OF BULK AT MOST 1048576: true; the input reads as it did. -/
def policyFirstUptoRow : OpenClaim := { program := "ytefcfickggnmjaa", sum := "66787c70050568ccdb0c9b1c020930cf18cf98dc496be5932126c63674609bda", func := "gingersnap/gingersnaplaw.PolicyFirst", spec := "policyFirst", inPlace := ["internal/bytealg.IndexByteString"], unfollowed := true, recurses := true, apart := false, narrowed := true }
def PolicyFirstUptoSaid : Prop := policyFirstUptoRow.holds Try.pinned (OpenSpec.upto policyFirstSpec)

/-- 'gingersnaplaw.PolicyAway', WHERE WHAT IT READS IS OF BULK AT MOST 1048576: true; the input reads as it did. -/
def policyAwayUptoRow : OpenClaim := { program := "ytefcfickggnmjaa", sum := "66787c70050568ccdb0c9b1c020930cf18cf98dc496be5932126c63674609bda", func := "gingersnap/gingersnaplaw.PolicyAway", spec := "policyAway", inPlace := ["internal/bytealg.IndexByteString"], unfollowed := true, recurses := true, apart := false, narrowed := true }
def PolicyAwayUptoSaid : Prop := policyAwayUptoRow.holds Try.pinned (OpenSpec.upto policyAwaySpec)

/-- 'gingersnaplaw.CapTells', WHERE WHAT IT READS IS OF BULK AT MOST 1048576: true; the input reads as it did. -/
def capTellsUptoRow : OpenClaim := { program := "ytefcfickggnmjaa", sum := "66787c70050568ccdb0c9b1c020930cf18cf98dc496be5932126c63674609bda", func := "gingersnap/gingersnaplaw.CapTells", spec := "capTells", inPlace := ["internal/bytealg.IndexByteString"], unfollowed := true, recurses := true, apart := false, narrowed := true }
def CapTellsUptoSaid : Prop := capTellsUptoRow.holds Try.pinned (OpenSpec.upto capTellsSpec)

/-- 'gingersnaplaw.CapTwice', WHERE WHAT IT READS IS OF BULK AT MOST 1048576: true; the input reads as it did. -/
def capTwiceUptoRow : OpenClaim := { program := "ytefcfickggnmjaa", sum := "66787c70050568ccdb0c9b1c020930cf18cf98dc496be5932126c63674609bda", func := "gingersnap/gingersnaplaw.CapTwice", spec := "capTwice", inPlace := ["internal/bytealg.IndexByteString"], unfollowed := true, recurses := true, apart := false, narrowed := true }
def CapTwiceUptoSaid : Prop := capTwiceUptoRow.holds Try.pinned (OpenSpec.upto capTwiceSpec)

/-- 'gingersnaplaw.CapLess', WHERE WHAT IT READS IS OF BULK AT MOST 1048576: true; the input reads as it did. -/
def capLessUptoRow : OpenClaim := { program := "ytefcfickggnmjaa", sum := "66787c70050568ccdb0c9b1c020930cf18cf98dc496be5932126c63674609bda", func := "gingersnap/gingersnaplaw.CapLess", spec := "capLess", inPlace := ["internal/bytealg.IndexByteString"], unfollowed := true, recurses := true, apart := false, narrowed := true }
def CapLessUptoSaid : Prop := capLessUptoRow.holds Try.pinned (OpenSpec.upto capLessSpec)

/-- 'gingersnaplaw.PolicyLess', WHERE WHAT IT READS IS OF BULK AT MOST 1048576: true; the input reads as it did. -/
def policyLessUptoRow : OpenClaim := { program := "ytefcfickggnmjaa", sum := "66787c70050568ccdb0c9b1c020930cf18cf98dc496be5932126c63674609bda", func := "gingersnap/gingersnaplaw.PolicyLess", spec := "policyLess", inPlace := ["internal/bytealg.IndexByteString"], unfollowed := true, recurses := true, apart := false, narrowed := true }
def PolicyLessUptoSaid : Prop := policyLessUptoRow.holds Try.pinned (OpenSpec.upto policyLessSpec)

end Rows
end Go.Proofs.Ytefcfickggnmjaa
