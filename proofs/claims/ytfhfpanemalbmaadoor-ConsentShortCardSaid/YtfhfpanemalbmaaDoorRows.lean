/-
  NARROWER THAN 'FOR EVERY INPUT', by the rows' own cells (each row's printed sentence says how): ConsentTells: laid · ConsentReads: laid · ConsentBack: laid · ConsentShort: laid · RestConsents: laid.
  DERIVED. THE GIVEN ROWS OF THIS SEAT. 5 by the template 'for every input the law returns true; each argument reads behind the call as it read before'; 0 by the template 'total and deterministic' (their statements: YtfhfpanemalbmaaDoorTotals.lean).
  GIVEN WITH THE SEED: the statements are not yours to turn. If you find one false, say at which input.
  Laid BY PROGRAM, IN A SANDBOX (cutbox-rows.mjs): the forced cells as the released guide's own fill.sh prints them over the translation 9728cdff250b75d6… (all of the seat's roots in one cut). By AI agents, Wed Nov 11 2026. No macro, syntax, notation, axiom, sorry.
-/
import Derived.Test.YtfhfpanemalbmaaDoorChecked
import GoSem.PinnedTables
import GoSem.Claim
import GoSem.ClaimJoined
import GoSem.ClaimMapViews
import Derived.JoinedTies
import Derived.KernelRfl
namespace Go.Proofs.YtfhfpanemalbmaaDoor
/- THE CELL 'sum', in the pinned program and in every row, IS THE sha256 OF THE DUMP (.gsa) THAT YtfhfpanemalbmaaDoorProg.lean LOADS. Nothing in Lean hashes anything: it is a label: what it is worth is what the hold of that sum in a sandbox is worth. -/
noncomputable def Tryd.pinned : Pinned := { name := "ytfhfpanemalbmaadoor", sum := "9728cdff250b75d6660db60117b910918254e5660ccdd7c8339ff31a6dfb8a57", checked := Tryd.checked }
namespace Rows
def none {H : Type} : Left H := { results := [], args := [] }

/- WHAT THE LISTED PACKAGE-LEVEL VARIABLES READ AS WHEN THE CALL BEGINS. Each datum BY PROGRAM (the guide's laid-datum.mjs) off the statement by which the dump's own 'gosem.cut.vars' lays the variable. In a bare row this is a premise. The card (YtfhfpanemalbmaaDoorCards.lean) ties it to the program's text. -/
def laid_unicode_utf8_acceptRanges {H : Type} : DataW H := .agg [.agg [.lit (.int .u8 128), .lit (.int .u8 191)], .agg [.lit (.int .u8 160), .lit (.int .u8 191)], .agg [.lit (.int .u8 128), .lit (.int .u8 159)], .agg [.lit (.int .u8 144), .lit (.int .u8 191)], .agg [.lit (.int .u8 128), .lit (.int .u8 143)], .agg [.lit (.int .u8 0), .lit (.int .u8 0)], .agg [.lit (.int .u8 0), .lit (.int .u8 0)], .agg [.lit (.int .u8 0), .lit (.int .u8 0)], .agg [.lit (.int .u8 0), .lit (.int .u8 0)], .agg [.lit (.int .u8 0), .lit (.int .u8 0)], .agg [.lit (.int .u8 0), .lit (.int .u8 0)], .agg [.lit (.int .u8 0), .lit (.int .u8 0)], .agg [.lit (.int .u8 0), .lit (.int .u8 0)], .agg [.lit (.int .u8 0), .lit (.int .u8 0)], .agg [.lit (.int .u8 0), .lit (.int .u8 0)], .agg [.lit (.int .u8 0), .lit (.int .u8 0)]]
/-- One of Go's own tables, pinned by name: the form's constant. -/
def laid_unicode_utf8_first : DataW Unit := Go.Pinned.utf8First

/-- 'gingersnaplaw.ConsentTells': WHATEVER THE INPUT: true; the input reads as it did. -/
def consentTellsSpec : ChangeSpec := { name := "consentTells", fn := fun _ => fun
  | [d] => { results := [.lit (.bool true)], args := [d] }
  | _ => none }
def consentTellsRow : OpenClaim := { program := "ytfhfpanemalbmaadoor", sum := "9728cdff250b75d6660db60117b910918254e5660ccdd7c8339ff31a6dfb8a57", func := "gingersnap/gingersnaplaw.ConsentTells", spec := "consentTells", inPlace := ["internal/bytealg.IndexByteString", "internal/bytealg.IndexString"], unfollowed := true, recurses := true, named := ["unicode/utf8.first", "unicode/utf8.acceptRanges", "internal/bytealg.MaxLen"], apart := false, laid := [("unicode/utf8.acceptRanges", laid_unicode_utf8_acceptRanges), ("unicode/utf8.first", laid_unicode_utf8_first)] }
def ConsentTellsSaid : Prop := consentTellsRow.holds Tryd.pinned (OpenSpec.ofChange consentTellsSpec)

/-- ITS FALSE NEIGHBOUR: 'it returns false'. Refute it at one input. -/
def consentTellsWrong : ChangeSpec := { name := "consentTells", fn := fun _ => fun
  | [d] => { results := [.lit (.bool false)], args := [d] }
  | _ => none }
def ConsentTellsWrongFalsely : Prop := consentTellsRow.holds Tryd.pinned (OpenSpec.ofChange consentTellsWrong)

/-- 'gingersnaplaw.ConsentReads': WHATEVER THE INPUT: true; the input reads as it did. -/
def consentReadsSpec : ChangeSpec := { name := "consentReads", fn := fun _ => fun
  | [d] => { results := [.lit (.bool true)], args := [d] }
  | _ => none }
def consentReadsRow : OpenClaim := { program := "ytfhfpanemalbmaadoor", sum := "9728cdff250b75d6660db60117b910918254e5660ccdd7c8339ff31a6dfb8a57", func := "gingersnap/gingersnaplaw.ConsentReads", spec := "consentReads", inPlace := ["internal/bytealg.IndexByteString", "internal/bytealg.IndexString"], unfollowed := true, recurses := true, named := ["unicode/utf8.first", "unicode/utf8.acceptRanges", "internal/bytealg.MaxLen"], apart := false, laid := [("unicode/utf8.acceptRanges", laid_unicode_utf8_acceptRanges), ("unicode/utf8.first", laid_unicode_utf8_first)] }
def ConsentReadsSaid : Prop := consentReadsRow.holds Tryd.pinned (OpenSpec.ofChange consentReadsSpec)

/-- ITS FALSE NEIGHBOUR: 'it returns false'. Refute it at one input. -/
def consentReadsWrong : ChangeSpec := { name := "consentReads", fn := fun _ => fun
  | [d] => { results := [.lit (.bool false)], args := [d] }
  | _ => none }
def ConsentReadsWrongFalsely : Prop := consentReadsRow.holds Tryd.pinned (OpenSpec.ofChange consentReadsWrong)

/-- 'gingersnaplaw.ConsentBack': WHATEVER THE INPUT: true; the input reads as it did. -/
def consentBackSpec : ChangeSpec := { name := "consentBack", fn := fun _ => fun
  | [d1, d2] => { results := [.lit (.bool true)], args := [d1, d2] }
  | _ => none }
def consentBackRow : OpenClaim := { program := "ytfhfpanemalbmaadoor", sum := "9728cdff250b75d6660db60117b910918254e5660ccdd7c8339ff31a6dfb8a57", func := "gingersnap/gingersnaplaw.ConsentBack", spec := "consentBack", inPlace := ["internal/bytealg.IndexByteString", "internal/bytealg.IndexString"], unfollowed := true, recurses := true, named := ["unicode/utf8.first", "unicode/utf8.acceptRanges", "internal/bytealg.MaxLen"], apart := false, laid := [("unicode/utf8.acceptRanges", laid_unicode_utf8_acceptRanges), ("unicode/utf8.first", laid_unicode_utf8_first)] }
def ConsentBackSaid : Prop := consentBackRow.holds Tryd.pinned (OpenSpec.ofChange consentBackSpec)

/-- ITS FALSE NEIGHBOUR: 'it returns false'. Refute it at one input. -/
def consentBackWrong : ChangeSpec := { name := "consentBack", fn := fun _ => fun
  | [d1, d2] => { results := [.lit (.bool false)], args := [d1, d2] }
  | _ => none }
def ConsentBackWrongFalsely : Prop := consentBackRow.holds Tryd.pinned (OpenSpec.ofChange consentBackWrong)

/-- 'gingersnaplaw.ConsentShort': WHATEVER THE INPUT: true; the input reads as it did. -/
def consentShortSpec : ChangeSpec := { name := "consentShort", fn := fun _ => fun
  | [d] => { results := [.lit (.bool true)], args := [d] }
  | _ => none }
def consentShortRow : OpenClaim := { program := "ytfhfpanemalbmaadoor", sum := "9728cdff250b75d6660db60117b910918254e5660ccdd7c8339ff31a6dfb8a57", func := "gingersnap/gingersnaplaw.ConsentShort", spec := "consentShort", inPlace := ["internal/bytealg.IndexByteString", "internal/bytealg.IndexString"], unfollowed := true, recurses := true, named := ["unicode/utf8.first", "unicode/utf8.acceptRanges", "internal/bytealg.MaxLen"], apart := false, laid := [("unicode/utf8.acceptRanges", laid_unicode_utf8_acceptRanges), ("unicode/utf8.first", laid_unicode_utf8_first)] }
def ConsentShortSaid : Prop := consentShortRow.holds Tryd.pinned (OpenSpec.ofChange consentShortSpec)

/-- ITS FALSE NEIGHBOUR: 'it returns false'. Refute it at one input. -/
def consentShortWrong : ChangeSpec := { name := "consentShort", fn := fun _ => fun
  | [d] => { results := [.lit (.bool false)], args := [d] }
  | _ => none }
def ConsentShortWrongFalsely : Prop := consentShortRow.holds Tryd.pinned (OpenSpec.ofChange consentShortWrong)

/-- 'gingersnaplaw.RestConsents': WHATEVER THE INPUT: true; the input reads as it did. -/
def restConsentsSpec : ChangeSpec := { name := "restConsents", fn := fun _ => fun
  | [d1, d2, d3, d4, d5] => { results := [.lit (.bool true)], args := [d1, d2, d3, d4, d5] }
  | _ => none }
def restConsentsRow : OpenClaim := { program := "ytfhfpanemalbmaadoor", sum := "9728cdff250b75d6660db60117b910918254e5660ccdd7c8339ff31a6dfb8a57", func := "gingersnap/gingersnaplaw.RestConsents", spec := "restConsents", inPlace := ["internal/bytealg.IndexByteString", "internal/bytealg.IndexString"], unfollowed := true, recurses := true, named := ["unicode/utf8.first", "unicode/utf8.acceptRanges", "internal/bytealg.MaxLen"], apart := false, laid := [("unicode/utf8.acceptRanges", laid_unicode_utf8_acceptRanges), ("unicode/utf8.first", laid_unicode_utf8_first)] }
def RestConsentsSaid : Prop := restConsentsRow.holds Tryd.pinned (OpenSpec.ofChange restConsentsSpec)

/-- ITS FALSE NEIGHBOUR: 'it returns false'. Refute it at one input. -/
def restConsentsWrong : ChangeSpec := { name := "restConsents", fn := fun _ => fun
  | [d1, d2, d3, d4, d5] => { results := [.lit (.bool false)], args := [d1, d2, d3, d4, d5] }
  | _ => none }
def RestConsentsWrongFalsely : Prop := restConsentsRow.holds Tryd.pinned (OpenSpec.ofChange restConsentsWrong)

/- THE SECOND FORM. 'bulk': how many values and letters a reading holds, each counted each time it is reached (what is shared counts as often as it is met; a slice's spare places count too). A statement '..UptoSaid' is the law's where the arguments, and the package variables that the reading takes, are together of bulk at most 1048576: NARROWER than '..Said'. Prove '..Said' where nothing that the law and all that it calls make is longer than what came in: it says more and counts as full. Else prove '..UptoSaid'. A law counts once. -/
mutual
def uptoBulk {H : Type} : DataW H → Nat
  | .lit (.string bytes) => bytes.length + 1
  | .lit _ => 1
  | .nil => 1
  | .ptr d => uptoBulk d + 1
  | .slice elems spare => uptoBulkAll elems + uptoBulkAll spare + 1
  | .agg parts => uptoBulkAll parts + 1
  | .iface _ d => uptoBulk d + 1
  | .map entries => uptoBulkEntries entries + 1
  | .held _ => 1
def uptoBulkAll {H : Type} : List (DataW H) → Nat
  | [] => 0
  | d :: r => uptoBulk d + uptoBulkAll r
def uptoBulkEntries {H : Type} : List (Lit × DataW H) → Nat
  | [] => 0
  | x :: r => uptoBulkEntry x + uptoBulkEntries r
def uptoBulkEntry {H : Type} : Lit × DataW H → Nat
  | (.string bytes, d) => bytes.length + uptoBulk d + 1
  | (_, d) => uptoBulk d + 1
 end
def uptoSmall : (H : Type) → List (DataW H) → Bool := fun _ ds => decide (uptoBulkAll ds ≤ 1048576)
def OpenSpec.upto (s : _root_.Go.ChangeSpec) : _root_.Go.OpenSpec := { _root_.Go.OpenSpec.ofChange s with cond := some uptoSmall }

/-- 'gingersnaplaw.ConsentTells', WHERE WHAT IT READS IS OF BULK AT MOST 1048576: true; the input reads as it did. -/
def consentTellsUptoRow : OpenClaim := { program := "ytfhfpanemalbmaadoor", sum := "9728cdff250b75d6660db60117b910918254e5660ccdd7c8339ff31a6dfb8a57", func := "gingersnap/gingersnaplaw.ConsentTells", spec := "consentTells", inPlace := ["internal/bytealg.IndexByteString", "internal/bytealg.IndexString"], unfollowed := true, recurses := true, named := ["unicode/utf8.first", "unicode/utf8.acceptRanges", "internal/bytealg.MaxLen"], apart := false, laid := [("unicode/utf8.acceptRanges", laid_unicode_utf8_acceptRanges), ("unicode/utf8.first", laid_unicode_utf8_first)], narrowed := true }
def ConsentTellsUptoSaid : Prop := consentTellsUptoRow.holds Tryd.pinned (OpenSpec.upto consentTellsSpec)

/-- 'gingersnaplaw.ConsentReads', WHERE WHAT IT READS IS OF BULK AT MOST 1048576: true; the input reads as it did. -/
def consentReadsUptoRow : OpenClaim := { program := "ytfhfpanemalbmaadoor", sum := "9728cdff250b75d6660db60117b910918254e5660ccdd7c8339ff31a6dfb8a57", func := "gingersnap/gingersnaplaw.ConsentReads", spec := "consentReads", inPlace := ["internal/bytealg.IndexByteString", "internal/bytealg.IndexString"], unfollowed := true, recurses := true, named := ["unicode/utf8.first", "unicode/utf8.acceptRanges", "internal/bytealg.MaxLen"], apart := false, laid := [("unicode/utf8.acceptRanges", laid_unicode_utf8_acceptRanges), ("unicode/utf8.first", laid_unicode_utf8_first)], narrowed := true }
def ConsentReadsUptoSaid : Prop := consentReadsUptoRow.holds Tryd.pinned (OpenSpec.upto consentReadsSpec)

/-- 'gingersnaplaw.ConsentBack', WHERE WHAT IT READS IS OF BULK AT MOST 1048576: true; the input reads as it did. -/
def consentBackUptoRow : OpenClaim := { program := "ytfhfpanemalbmaadoor", sum := "9728cdff250b75d6660db60117b910918254e5660ccdd7c8339ff31a6dfb8a57", func := "gingersnap/gingersnaplaw.ConsentBack", spec := "consentBack", inPlace := ["internal/bytealg.IndexByteString", "internal/bytealg.IndexString"], unfollowed := true, recurses := true, named := ["unicode/utf8.first", "unicode/utf8.acceptRanges", "internal/bytealg.MaxLen"], apart := false, laid := [("unicode/utf8.acceptRanges", laid_unicode_utf8_acceptRanges), ("unicode/utf8.first", laid_unicode_utf8_first)], narrowed := true }
def ConsentBackUptoSaid : Prop := consentBackUptoRow.holds Tryd.pinned (OpenSpec.upto consentBackSpec)

/-- 'gingersnaplaw.ConsentShort', WHERE WHAT IT READS IS OF BULK AT MOST 1048576: true; the input reads as it did. -/
def consentShortUptoRow : OpenClaim := { program := "ytfhfpanemalbmaadoor", sum := "9728cdff250b75d6660db60117b910918254e5660ccdd7c8339ff31a6dfb8a57", func := "gingersnap/gingersnaplaw.ConsentShort", spec := "consentShort", inPlace := ["internal/bytealg.IndexByteString", "internal/bytealg.IndexString"], unfollowed := true, recurses := true, named := ["unicode/utf8.first", "unicode/utf8.acceptRanges", "internal/bytealg.MaxLen"], apart := false, laid := [("unicode/utf8.acceptRanges", laid_unicode_utf8_acceptRanges), ("unicode/utf8.first", laid_unicode_utf8_first)], narrowed := true }
def ConsentShortUptoSaid : Prop := consentShortUptoRow.holds Tryd.pinned (OpenSpec.upto consentShortSpec)

/-- 'gingersnaplaw.RestConsents', WHERE WHAT IT READS IS OF BULK AT MOST 1048576: true; the input reads as it did. -/
def restConsentsUptoRow : OpenClaim := { program := "ytfhfpanemalbmaadoor", sum := "9728cdff250b75d6660db60117b910918254e5660ccdd7c8339ff31a6dfb8a57", func := "gingersnap/gingersnaplaw.RestConsents", spec := "restConsents", inPlace := ["internal/bytealg.IndexByteString", "internal/bytealg.IndexString"], unfollowed := true, recurses := true, named := ["unicode/utf8.first", "unicode/utf8.acceptRanges", "internal/bytealg.MaxLen"], apart := false, laid := [("unicode/utf8.acceptRanges", laid_unicode_utf8_acceptRanges), ("unicode/utf8.first", laid_unicode_utf8_first)], narrowed := true }
def RestConsentsUptoSaid : Prop := restConsentsUptoRow.holds Tryd.pinned (OpenSpec.upto restConsentsSpec)

end Rows
end Go.Proofs.YtfhfpanemalbmaaDoor
