/-
  NARROWER THAN 'FOR EVERY INPUT', by the rows' own cells (each row's printed sentence says how): SixtyTells: laid · SixtyBack: laid · SixtyJoins: laid · WordTells: laid · PartsTell: laid · PartsBack: laid · FoldTwice: laid · TokenParts: laid · RestWords: laid.
  DERIVED. THE GIVEN ROWS OF THIS SEAT. 9 by the template 'for every input the law returns true; each argument reads behind the call as it read before'; 0 by the template 'total and deterministic' (their statements: YtagijlfjdknhpaaDoorTotals.lean).
  GIVEN WITH THE SEED: the statements are not yours to turn. If you find one false, say at which input.
  Laid BY PROGRAM, IN A SANDBOX (cutbox-rows.mjs): the forced cells as the released guide's own fill.sh prints them over the translation 98d99f5eae1b04db… (all of the seat's roots in one cut). By AI agents, Wed Nov 11 2026. No macro, syntax, notation, axiom, sorry.
-/
import Derived.Test.YtagijlfjdknhpaaDoorChecked
import GoSem.PinnedTables
import GoSem.Claim
import GoSem.ClaimJoined
import GoSem.ClaimMapViews
import Derived.JoinedTies
import Derived.KernelRfl
namespace Go.Proofs.YtagijlfjdknhpaaDoor
/- THE CELL 'sum', in the pinned program and in every row, IS THE sha256 OF THE DUMP (.gsa) THAT YtagijlfjdknhpaaDoorProg.lean LOADS. Nothing in Lean hashes anything: it is a label: what it is worth is what the hold of that sum in a sandbox is worth. -/
noncomputable def Tryd.pinned : Pinned := { name := "ytagijlfjdknhpaadoor", sum := "98d99f5eae1b04db3f6810d4c70a2bbe9fbd44bb5c71ea4acb39e335492b832b", checked := Tryd.checked }
namespace Rows
def none {H : Type} : Left H := { results := [], args := [] }

/- WHAT THE LISTED PACKAGE-LEVEL VARIABLES READ AS WHEN THE CALL BEGINS. Each datum BY PROGRAM (the guide's laid-datum.mjs) off the statement by which the dump's own 'gosem.cut.vars' lays the variable. In a bare row this is a premise. The card (YtagijlfjdknhpaaDoorCards.lean) ties it to the program's text. -/
def laid_unicode_utf8_acceptRanges {H : Type} : DataW H := .agg [.agg [.lit (.int .u8 128), .lit (.int .u8 191)], .agg [.lit (.int .u8 160), .lit (.int .u8 191)], .agg [.lit (.int .u8 128), .lit (.int .u8 159)], .agg [.lit (.int .u8 144), .lit (.int .u8 191)], .agg [.lit (.int .u8 128), .lit (.int .u8 143)], .agg [.lit (.int .u8 0), .lit (.int .u8 0)], .agg [.lit (.int .u8 0), .lit (.int .u8 0)], .agg [.lit (.int .u8 0), .lit (.int .u8 0)], .agg [.lit (.int .u8 0), .lit (.int .u8 0)], .agg [.lit (.int .u8 0), .lit (.int .u8 0)], .agg [.lit (.int .u8 0), .lit (.int .u8 0)], .agg [.lit (.int .u8 0), .lit (.int .u8 0)], .agg [.lit (.int .u8 0), .lit (.int .u8 0)], .agg [.lit (.int .u8 0), .lit (.int .u8 0)], .agg [.lit (.int .u8 0), .lit (.int .u8 0)], .agg [.lit (.int .u8 0), .lit (.int .u8 0)]]
/-- One of Go's own tables, pinned by name: the form's constant. -/
def laid_unicode_utf8_first : DataW Unit := Go.Pinned.utf8First

/-- 'gingersnaplaw.SixtyTells': WHATEVER THE INPUT: true; the input reads as it did. -/
def sixtyTellsSpec : ChangeSpec := { name := "sixtyTells", fn := fun _ => fun
  | [d1, d2] => { results := [.lit (.bool true)], args := [d1, d2] }
  | _ => none }
def sixtyTellsRow : OpenClaim := { program := "ytagijlfjdknhpaadoor", sum := "98d99f5eae1b04db3f6810d4c70a2bbe9fbd44bb5c71ea4acb39e335492b832b", func := "gingersnap/gingersnaplaw.SixtyTells", spec := "sixtyTells", inPlace := ["internal/bytealg.IndexByteString", "internal/bytealg.IndexString"], named := ["unicode/utf8.first", "unicode/utf8.acceptRanges", "internal/bytealg.MaxLen"], apart := false, laid := [("unicode/utf8.acceptRanges", laid_unicode_utf8_acceptRanges), ("unicode/utf8.first", laid_unicode_utf8_first)] }
def SixtyTellsSaid : Prop := sixtyTellsRow.holds Tryd.pinned (OpenSpec.ofChange sixtyTellsSpec)

/-- ITS FALSE NEIGHBOUR: 'it returns false'. Refute it at one input. -/
def sixtyTellsWrong : ChangeSpec := { name := "sixtyTells", fn := fun _ => fun
  | [d1, d2] => { results := [.lit (.bool false)], args := [d1, d2] }
  | _ => none }
def SixtyTellsWrongFalsely : Prop := sixtyTellsRow.holds Tryd.pinned (OpenSpec.ofChange sixtyTellsWrong)

/-- 'gingersnaplaw.SixtyBack': WHATEVER THE INPUT: true; the input reads as it did. -/
def sixtyBackSpec : ChangeSpec := { name := "sixtyBack", fn := fun _ => fun
  | [d1, d2] => { results := [.lit (.bool true)], args := [d1, d2] }
  | _ => none }
def sixtyBackRow : OpenClaim := { program := "ytagijlfjdknhpaadoor", sum := "98d99f5eae1b04db3f6810d4c70a2bbe9fbd44bb5c71ea4acb39e335492b832b", func := "gingersnap/gingersnaplaw.SixtyBack", spec := "sixtyBack", inPlace := ["internal/bytealg.IndexByteString", "internal/bytealg.IndexString"], named := ["unicode/utf8.first", "unicode/utf8.acceptRanges", "internal/bytealg.MaxLen"], apart := false, laid := [("unicode/utf8.acceptRanges", laid_unicode_utf8_acceptRanges), ("unicode/utf8.first", laid_unicode_utf8_first)] }
def SixtyBackSaid : Prop := sixtyBackRow.holds Tryd.pinned (OpenSpec.ofChange sixtyBackSpec)

/-- ITS FALSE NEIGHBOUR: 'it returns false'. Refute it at one input. -/
def sixtyBackWrong : ChangeSpec := { name := "sixtyBack", fn := fun _ => fun
  | [d1, d2] => { results := [.lit (.bool false)], args := [d1, d2] }
  | _ => none }
def SixtyBackWrongFalsely : Prop := sixtyBackRow.holds Tryd.pinned (OpenSpec.ofChange sixtyBackWrong)

/-- 'gingersnaplaw.SixtyJoins': WHATEVER THE INPUT: true; the input reads as it did. -/
def sixtyJoinsSpec : ChangeSpec := { name := "sixtyJoins", fn := fun _ => fun
  | [d1, d2] => { results := [.lit (.bool true)], args := [d1, d2] }
  | _ => none }
def sixtyJoinsRow : OpenClaim := { program := "ytagijlfjdknhpaadoor", sum := "98d99f5eae1b04db3f6810d4c70a2bbe9fbd44bb5c71ea4acb39e335492b832b", func := "gingersnap/gingersnaplaw.SixtyJoins", spec := "sixtyJoins", inPlace := ["internal/bytealg.IndexByteString", "internal/bytealg.IndexString"], named := ["unicode/utf8.first", "unicode/utf8.acceptRanges", "internal/bytealg.MaxLen"], apart := false, laid := [("unicode/utf8.acceptRanges", laid_unicode_utf8_acceptRanges), ("unicode/utf8.first", laid_unicode_utf8_first)] }
def SixtyJoinsSaid : Prop := sixtyJoinsRow.holds Tryd.pinned (OpenSpec.ofChange sixtyJoinsSpec)

/-- ITS FALSE NEIGHBOUR: 'it returns false'. Refute it at one input. -/
def sixtyJoinsWrong : ChangeSpec := { name := "sixtyJoins", fn := fun _ => fun
  | [d1, d2] => { results := [.lit (.bool false)], args := [d1, d2] }
  | _ => none }
def SixtyJoinsWrongFalsely : Prop := sixtyJoinsRow.holds Tryd.pinned (OpenSpec.ofChange sixtyJoinsWrong)

/-- 'gingersnaplaw.WordTells': WHATEVER THE INPUT: true; the input reads as it did. -/
def wordTellsSpec : ChangeSpec := { name := "wordTells", fn := fun _ => fun
  | [d] => { results := [.lit (.bool true)], args := [d] }
  | _ => none }
def wordTellsRow : OpenClaim := { program := "ytagijlfjdknhpaadoor", sum := "98d99f5eae1b04db3f6810d4c70a2bbe9fbd44bb5c71ea4acb39e335492b832b", func := "gingersnap/gingersnaplaw.WordTells", spec := "wordTells", inPlace := ["internal/bytealg.IndexByteString", "internal/bytealg.IndexString", "internal/abi.NoEscape", "internal/bytealg.MakeNoZero"], unfollowed := true, recurses := true, named := ["unicode/utf8.first", "unicode/utf8.acceptRanges", "internal/bytealg.MaxLen"], apart := false, laid := [("unicode/utf8.acceptRanges", laid_unicode_utf8_acceptRanges), ("unicode/utf8.first", laid_unicode_utf8_first)] }
def WordTellsSaid : Prop := wordTellsRow.holds Tryd.pinned (OpenSpec.ofChange wordTellsSpec)

/-- ITS FALSE NEIGHBOUR: 'it returns false'. Refute it at one input. -/
def wordTellsWrong : ChangeSpec := { name := "wordTells", fn := fun _ => fun
  | [d] => { results := [.lit (.bool false)], args := [d] }
  | _ => none }
def WordTellsWrongFalsely : Prop := wordTellsRow.holds Tryd.pinned (OpenSpec.ofChange wordTellsWrong)

/-- 'gingersnaplaw.PartsTell': WHATEVER THE INPUT: true; the input reads as it did. -/
def partsTellSpec : ChangeSpec := { name := "partsTell", fn := fun _ => fun
  | [d1, d2, d3] => { results := [.lit (.bool true)], args := [d1, d2, d3] }
  | _ => none }
def partsTellRow : OpenClaim := { program := "ytagijlfjdknhpaadoor", sum := "98d99f5eae1b04db3f6810d4c70a2bbe9fbd44bb5c71ea4acb39e335492b832b", func := "gingersnap/gingersnaplaw.PartsTell", spec := "partsTell", inPlace := ["internal/bytealg.IndexByteString", "internal/bytealg.IndexString", "internal/abi.NoEscape", "internal/bytealg.MakeNoZero"], unfollowed := true, recurses := true, named := ["unicode/utf8.first", "unicode/utf8.acceptRanges", "internal/bytealg.MaxLen"], apart := false, laid := [("unicode/utf8.acceptRanges", laid_unicode_utf8_acceptRanges), ("unicode/utf8.first", laid_unicode_utf8_first)] }
def PartsTellSaid : Prop := partsTellRow.holds Tryd.pinned (OpenSpec.ofChange partsTellSpec)

/-- ITS FALSE NEIGHBOUR: 'it returns false'. Refute it at one input. -/
def partsTellWrong : ChangeSpec := { name := "partsTell", fn := fun _ => fun
  | [d1, d2, d3] => { results := [.lit (.bool false)], args := [d1, d2, d3] }
  | _ => none }
def PartsTellWrongFalsely : Prop := partsTellRow.holds Tryd.pinned (OpenSpec.ofChange partsTellWrong)

/-- 'gingersnaplaw.PartsBack': WHATEVER THE INPUT: true; the input reads as it did. -/
def partsBackSpec : ChangeSpec := { name := "partsBack", fn := fun _ => fun
  | [d1, d2, d3] => { results := [.lit (.bool true)], args := [d1, d2, d3] }
  | _ => none }
def partsBackRow : OpenClaim := { program := "ytagijlfjdknhpaadoor", sum := "98d99f5eae1b04db3f6810d4c70a2bbe9fbd44bb5c71ea4acb39e335492b832b", func := "gingersnap/gingersnaplaw.PartsBack", spec := "partsBack", inPlace := ["internal/bytealg.IndexByteString", "internal/bytealg.IndexString", "internal/abi.NoEscape", "internal/bytealg.MakeNoZero"], unfollowed := true, recurses := true, named := ["unicode/utf8.first", "unicode/utf8.acceptRanges", "internal/bytealg.MaxLen"], apart := false, laid := [("unicode/utf8.acceptRanges", laid_unicode_utf8_acceptRanges), ("unicode/utf8.first", laid_unicode_utf8_first)] }
def PartsBackSaid : Prop := partsBackRow.holds Tryd.pinned (OpenSpec.ofChange partsBackSpec)

/-- ITS FALSE NEIGHBOUR: 'it returns false'. Refute it at one input. -/
def partsBackWrong : ChangeSpec := { name := "partsBack", fn := fun _ => fun
  | [d1, d2, d3] => { results := [.lit (.bool false)], args := [d1, d2, d3] }
  | _ => none }
def PartsBackWrongFalsely : Prop := partsBackRow.holds Tryd.pinned (OpenSpec.ofChange partsBackWrong)

/-- 'gingersnaplaw.FoldTwice': WHATEVER THE INPUT: true; the input reads as it did. -/
def foldTwiceSpec : ChangeSpec := { name := "foldTwice", fn := fun _ => fun
  | [d1, d2] => { results := [.lit (.bool true)], args := [d1, d2] }
  | _ => none }
def foldTwiceRow : OpenClaim := { program := "ytagijlfjdknhpaadoor", sum := "98d99f5eae1b04db3f6810d4c70a2bbe9fbd44bb5c71ea4acb39e335492b832b", func := "gingersnap/gingersnaplaw.FoldTwice", spec := "foldTwice", inPlace := ["internal/bytealg.IndexByteString", "internal/bytealg.IndexString", "internal/abi.NoEscape", "internal/bytealg.MakeNoZero"], unfollowed := true, recurses := true, named := ["unicode/utf8.first", "unicode/utf8.acceptRanges", "internal/bytealg.MaxLen"], apart := false, laid := [("unicode/utf8.acceptRanges", laid_unicode_utf8_acceptRanges), ("unicode/utf8.first", laid_unicode_utf8_first)] }
def FoldTwiceSaid : Prop := foldTwiceRow.holds Tryd.pinned (OpenSpec.ofChange foldTwiceSpec)

/-- ITS FALSE NEIGHBOUR: 'it returns false'. Refute it at one input. -/
def foldTwiceWrong : ChangeSpec := { name := "foldTwice", fn := fun _ => fun
  | [d1, d2] => { results := [.lit (.bool false)], args := [d1, d2] }
  | _ => none }
def FoldTwiceWrongFalsely : Prop := foldTwiceRow.holds Tryd.pinned (OpenSpec.ofChange foldTwiceWrong)

/-- 'gingersnaplaw.TokenParts': WHATEVER THE INPUT: true; the input reads as it did. -/
def tokenPartsSpec : ChangeSpec := { name := "tokenParts", fn := fun _ => fun
  | [d1, d2] => { results := [.lit (.bool true)], args := [d1, d2] }
  | _ => none }
def tokenPartsRow : OpenClaim := { program := "ytagijlfjdknhpaadoor", sum := "98d99f5eae1b04db3f6810d4c70a2bbe9fbd44bb5c71ea4acb39e335492b832b", func := "gingersnap/gingersnaplaw.TokenParts", spec := "tokenParts", inPlace := ["internal/bytealg.IndexByteString", "internal/bytealg.IndexString", "internal/abi.NoEscape", "internal/bytealg.MakeNoZero"], unfollowed := true, recurses := true, named := ["unicode/utf8.first", "unicode/utf8.acceptRanges", "internal/bytealg.MaxLen"], apart := false, laid := [("unicode/utf8.acceptRanges", laid_unicode_utf8_acceptRanges), ("unicode/utf8.first", laid_unicode_utf8_first)] }
def TokenPartsSaid : Prop := tokenPartsRow.holds Tryd.pinned (OpenSpec.ofChange tokenPartsSpec)

/-- ITS FALSE NEIGHBOUR: 'it returns false'. Refute it at one input. -/
def tokenPartsWrong : ChangeSpec := { name := "tokenParts", fn := fun _ => fun
  | [d1, d2] => { results := [.lit (.bool false)], args := [d1, d2] }
  | _ => none }
def TokenPartsWrongFalsely : Prop := tokenPartsRow.holds Tryd.pinned (OpenSpec.ofChange tokenPartsWrong)

/-- 'gingersnaplaw.RestWords': WHATEVER THE INPUT: true; the input reads as it did. -/
def restWordsSpec : ChangeSpec := { name := "restWords", fn := fun _ => fun
  | [d1, d2] => { results := [.lit (.bool true)], args := [d1, d2] }
  | _ => none }
def restWordsRow : OpenClaim := { program := "ytagijlfjdknhpaadoor", sum := "98d99f5eae1b04db3f6810d4c70a2bbe9fbd44bb5c71ea4acb39e335492b832b", func := "gingersnap/gingersnaplaw.RestWords", spec := "restWords", inPlace := ["internal/abi.NoEscape", "internal/bytealg.MakeNoZero", "internal/bytealg.IndexByteString", "internal/bytealg.IndexString"], unfollowed := true, recurses := true, named := ["unicode/utf8.first", "unicode/utf8.acceptRanges", "internal/bytealg.MaxLen"], apart := false, laid := [("unicode/utf8.acceptRanges", laid_unicode_utf8_acceptRanges), ("unicode/utf8.first", laid_unicode_utf8_first)] }
def RestWordsSaid : Prop := restWordsRow.holds Tryd.pinned (OpenSpec.ofChange restWordsSpec)

/-- ITS FALSE NEIGHBOUR: 'it returns false'. Refute it at one input. -/
def restWordsWrong : ChangeSpec := { name := "restWords", fn := fun _ => fun
  | [d1, d2] => { results := [.lit (.bool false)], args := [d1, d2] }
  | _ => none }
def RestWordsWrongFalsely : Prop := restWordsRow.holds Tryd.pinned (OpenSpec.ofChange restWordsWrong)

/- THE SECOND FORM. 'bulk': how many values and letters a reading holds, each counted each time it is reached (what is shared counts as often as it is met; a slice's spare places count too). A statement '..UptoSaid' is the law's where the arguments, and the package variables that the reading takes, are together of bulk at most 1048576: NARROWER than '..Said'. Prove '..Said' where nothing that the law and all that it calls make is longer than what came in: it says more and counts as full. Else prove '..UptoSaid'. A law counts once. -/
mutual
def uptoBulk {H : Type} : DataW H → Nat
  | .lit (.string bytes) => bytes.length + 1
  | .lit _ => 1
  | .nil => 1
  | .ptr d => uptoBulk d + 1
  | .slice elems spare => uptoBulkAll elems + uptoBulkAll spare + 1
  | .agg parts => uptoBulkAll parts + 1
  | .iface _ d => uptoBulk d + 1
  | .map entries => uptoBulkEntries entries + 1
  | .held _ => 1
def uptoBulkAll {H : Type} : List (DataW H) → Nat
  | [] => 0
  | d :: r => uptoBulk d + uptoBulkAll r
def uptoBulkEntries {H : Type} : List (Lit × DataW H) → Nat
  | [] => 0
  | x :: r => uptoBulkEntry x + uptoBulkEntries r
def uptoBulkEntry {H : Type} : Lit × DataW H → Nat
  | (.string bytes, d) => bytes.length + uptoBulk d + 1
  | (_, d) => uptoBulk d + 1
 end
def uptoSmall : (H : Type) → List (DataW H) → Bool := fun _ ds => decide (uptoBulkAll ds ≤ 1048576)
def OpenSpec.upto (s : _root_.Go.ChangeSpec) : _root_.Go.OpenSpec := { _root_.Go.OpenSpec.ofChange s with cond := some uptoSmall }

/-- 'gingersnaplaw.SixtyTells', WHERE WHAT IT READS IS OF BULK AT MOST 1048576: true; the input reads as it did. -/
def sixtyTellsUptoRow : OpenClaim := { program := "ytagijlfjdknhpaadoor", sum := "98d99f5eae1b04db3f6810d4c70a2bbe9fbd44bb5c71ea4acb39e335492b832b", func := "gingersnap/gingersnaplaw.SixtyTells", spec := "sixtyTells", inPlace := ["internal/bytealg.IndexByteString", "internal/bytealg.IndexString"], named := ["unicode/utf8.first", "unicode/utf8.acceptRanges", "internal/bytealg.MaxLen"], apart := false, laid := [("unicode/utf8.acceptRanges", laid_unicode_utf8_acceptRanges), ("unicode/utf8.first", laid_unicode_utf8_first)], narrowed := true }
def SixtyTellsUptoSaid : Prop := sixtyTellsUptoRow.holds Tryd.pinned (OpenSpec.upto sixtyTellsSpec)

/-- 'gingersnaplaw.SixtyBack', WHERE WHAT IT READS IS OF BULK AT MOST 1048576: true; the input reads as it did. -/
def sixtyBackUptoRow : OpenClaim := { program := "ytagijlfjdknhpaadoor", sum := "98d99f5eae1b04db3f6810d4c70a2bbe9fbd44bb5c71ea4acb39e335492b832b", func := "gingersnap/gingersnaplaw.SixtyBack", spec := "sixtyBack", inPlace := ["internal/bytealg.IndexByteString", "internal/bytealg.IndexString"], named := ["unicode/utf8.first", "unicode/utf8.acceptRanges", "internal/bytealg.MaxLen"], apart := false, laid := [("unicode/utf8.acceptRanges", laid_unicode_utf8_acceptRanges), ("unicode/utf8.first", laid_unicode_utf8_first)], narrowed := true }
def SixtyBackUptoSaid : Prop := sixtyBackUptoRow.holds Tryd.pinned (OpenSpec.upto sixtyBackSpec)

/-- 'gingersnaplaw.SixtyJoins', WHERE WHAT IT READS IS OF BULK AT MOST 1048576: true; the input reads as it did. -/
def sixtyJoinsUptoRow : OpenClaim := { program := "ytagijlfjdknhpaadoor", sum := "98d99f5eae1b04db3f6810d4c70a2bbe9fbd44bb5c71ea4acb39e335492b832b", func := "gingersnap/gingersnaplaw.SixtyJoins", spec := "sixtyJoins", inPlace := ["internal/bytealg.IndexByteString", "internal/bytealg.IndexString"], named := ["unicode/utf8.first", "unicode/utf8.acceptRanges", "internal/bytealg.MaxLen"], apart := false, laid := [("unicode/utf8.acceptRanges", laid_unicode_utf8_acceptRanges), ("unicode/utf8.first", laid_unicode_utf8_first)], narrowed := true }
def SixtyJoinsUptoSaid : Prop := sixtyJoinsUptoRow.holds Tryd.pinned (OpenSpec.upto sixtyJoinsSpec)

/-- 'gingersnaplaw.WordTells', WHERE WHAT IT READS IS OF BULK AT MOST 1048576: true; the input reads as it did. -/
def wordTellsUptoRow : OpenClaim := { program := "ytagijlfjdknhpaadoor", sum := "98d99f5eae1b04db3f6810d4c70a2bbe9fbd44bb5c71ea4acb39e335492b832b", func := "gingersnap/gingersnaplaw.WordTells", spec := "wordTells", inPlace := ["internal/bytealg.IndexByteString", "internal/bytealg.IndexString", "internal/abi.NoEscape", "internal/bytealg.MakeNoZero"], unfollowed := true, recurses := true, named := ["unicode/utf8.first", "unicode/utf8.acceptRanges", "internal/bytealg.MaxLen"], apart := false, laid := [("unicode/utf8.acceptRanges", laid_unicode_utf8_acceptRanges), ("unicode/utf8.first", laid_unicode_utf8_first)], narrowed := true }
def WordTellsUptoSaid : Prop := wordTellsUptoRow.holds Tryd.pinned (OpenSpec.upto wordTellsSpec)

/-- 'gingersnaplaw.PartsTell', WHERE WHAT IT READS IS OF BULK AT MOST 1048576: true; the input reads as it did. -/
def partsTellUptoRow : OpenClaim := { program := "ytagijlfjdknhpaadoor", sum := "98d99f5eae1b04db3f6810d4c70a2bbe9fbd44bb5c71ea4acb39e335492b832b", func := "gingersnap/gingersnaplaw.PartsTell", spec := "partsTell", inPlace := ["internal/bytealg.IndexByteString", "internal/bytealg.IndexString", "internal/abi.NoEscape", "internal/bytealg.MakeNoZero"], unfollowed := true, recurses := true, named := ["unicode/utf8.first", "unicode/utf8.acceptRanges", "internal/bytealg.MaxLen"], apart := false, laid := [("unicode/utf8.acceptRanges", laid_unicode_utf8_acceptRanges), ("unicode/utf8.first", laid_unicode_utf8_first)], narrowed := true }
def PartsTellUptoSaid : Prop := partsTellUptoRow.holds Tryd.pinned (OpenSpec.upto partsTellSpec)

/-- 'gingersnaplaw.PartsBack', WHERE WHAT IT READS IS OF BULK AT MOST 1048576: true; the input reads as it did. -/
def partsBackUptoRow : OpenClaim := { program := "ytagijlfjdknhpaadoor", sum := "98d99f5eae1b04db3f6810d4c70a2bbe9fbd44bb5c71ea4acb39e335492b832b", func := "gingersnap/gingersnaplaw.PartsBack", spec := "partsBack", inPlace := ["internal/bytealg.IndexByteString", "internal/bytealg.IndexString", "internal/abi.NoEscape", "internal/bytealg.MakeNoZero"], unfollowed := true, recurses := true, named := ["unicode/utf8.first", "unicode/utf8.acceptRanges", "internal/bytealg.MaxLen"], apart := false, laid := [("unicode/utf8.acceptRanges", laid_unicode_utf8_acceptRanges), ("unicode/utf8.first", laid_unicode_utf8_first)], narrowed := true }
def PartsBackUptoSaid : Prop := partsBackUptoRow.holds Tryd.pinned (OpenSpec.upto partsBackSpec)

/-- 'gingersnaplaw.FoldTwice', WHERE WHAT IT READS IS OF BULK AT MOST 1048576: true; the input reads as it did. -/
def foldTwiceUptoRow : OpenClaim := { program := "ytagijlfjdknhpaadoor", sum := "98d99f5eae1b04db3f6810d4c70a2bbe9fbd44bb5c71ea4acb39e335492b832b", func := "gingersnap/gingersnaplaw.FoldTwice", spec := "foldTwice", inPlace := ["internal/bytealg.IndexByteString", "internal/bytealg.IndexString", "internal/abi.NoEscape", "internal/bytealg.MakeNoZero"], unfollowed := true, recurses := true, named := ["unicode/utf8.first", "unicode/utf8.acceptRanges", "internal/bytealg.MaxLen"], apart := false, laid := [("unicode/utf8.acceptRanges", laid_unicode_utf8_acceptRanges), ("unicode/utf8.first", laid_unicode_utf8_first)], narrowed := true }
def FoldTwiceUptoSaid : Prop := foldTwiceUptoRow.holds Tryd.pinned (OpenSpec.upto foldTwiceSpec)

/-- 'gingersnaplaw.TokenParts', WHERE WHAT IT READS IS OF BULK AT MOST 1048576: true; the input reads as it did. -/
def tokenPartsUptoRow : OpenClaim := { program := "ytagijlfjdknhpaadoor", sum := "98d99f5eae1b04db3f6810d4c70a2bbe9fbd44bb5c71ea4acb39e335492b832b", func := "gingersnap/gingersnaplaw.TokenParts", spec := "tokenParts", inPlace := ["internal/bytealg.IndexByteString", "internal/bytealg.IndexString", "internal/abi.NoEscape", "internal/bytealg.MakeNoZero"], unfollowed := true, recurses := true, named := ["unicode/utf8.first", "unicode/utf8.acceptRanges", "internal/bytealg.MaxLen"], apart := false, laid := [("unicode/utf8.acceptRanges", laid_unicode_utf8_acceptRanges), ("unicode/utf8.first", laid_unicode_utf8_first)], narrowed := true }
def TokenPartsUptoSaid : Prop := tokenPartsUptoRow.holds Tryd.pinned (OpenSpec.upto tokenPartsSpec)

/-- 'gingersnaplaw.RestWords', WHERE WHAT IT READS IS OF BULK AT MOST 1048576: true; the input reads as it did. -/
def restWordsUptoRow : OpenClaim := { program := "ytagijlfjdknhpaadoor", sum := "98d99f5eae1b04db3f6810d4c70a2bbe9fbd44bb5c71ea4acb39e335492b832b", func := "gingersnap/gingersnaplaw.RestWords", spec := "restWords", inPlace := ["internal/abi.NoEscape", "internal/bytealg.MakeNoZero", "internal/bytealg.IndexByteString", "internal/bytealg.IndexString"], unfollowed := true, recurses := true, named := ["unicode/utf8.first", "unicode/utf8.acceptRanges", "internal/bytealg.MaxLen"], apart := false, laid := [("unicode/utf8.acceptRanges", laid_unicode_utf8_acceptRanges), ("unicode/utf8.first", laid_unicode_utf8_first)], narrowed := true }
def RestWordsUptoSaid : Prop := restWordsUptoRow.holds Tryd.pinned (OpenSpec.upto restWordsSpec)

end Rows
end Go.Proofs.YtagijlfjdknhpaaDoor
