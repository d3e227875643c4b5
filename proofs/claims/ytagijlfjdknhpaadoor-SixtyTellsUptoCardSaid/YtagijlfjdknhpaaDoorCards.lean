/-
  DERIVED. GIVEN WITH THE SEED: THE CARDS: each row of YtagijlfjdknhpaaDoorRows.lean that lists a variable, with what it lists TIED to the program's text (the seventh form; the later family's looks); each row that meets fmt, with fmt's text TOLD by the authors' own Lean function (tested against real Go, not proved from fmt's source: count such statements apart). THE CARD IS WHAT COUNTS. Prove the row's statement (the work); the ties are given (YtagijlfjdknhpaaDoorTie.lean); close each card by the builder's one call (the guide's Derived/Test/ToyasCard.lean, 'card_holds'). Laid BY PROGRAM, IN A SANDBOX (cutbox-door.mjs). By AI agents, Wed Nov 11 2026. No macro, syntax, notation, axiom, sorry.
-/
import Derived.Test.YtagijlfjdknhpaaDoorRows
import GoSem.ClaimSeven
namespace Go.Proofs.YtagijlfjdknhpaaDoor
namespace Rows

/-- THE TIED CARD OF 'gingersnaplaw.SixtyTells'. -/
def sixtyTellsCard : Claim7 := { stood := { row := sixtyTellsRow, standIns := [], harness := (true, "b1123e75c3a441005e3f0d1c1fdbbb01332a6c6953d722bf9d30683aac04d28c"), looks := false }, kinds := [], alts := [], laidByText := true, laidKinds := [.data, .pinned], laidTests := true, laidLooks := .later }
def SixtyTellsCardSaid : Prop := Claim7.holds Tryd.pinned (.plain (OpenSpec.ofChange sixtyTellsSpec)) sixtyTellsCard

/-- THE TIED CARD OF 'gingersnaplaw.SixtyBack'. -/
def sixtyBackCard : Claim7 := { stood := { row := sixtyBackRow, standIns := [], harness := (true, "b1123e75c3a441005e3f0d1c1fdbbb01332a6c6953d722bf9d30683aac04d28c"), looks := false }, kinds := [], alts := [], laidByText := true, laidKinds := [.data, .pinned], laidTests := true, laidLooks := .later }
def SixtyBackCardSaid : Prop := Claim7.holds Tryd.pinned (.plain (OpenSpec.ofChange sixtyBackSpec)) sixtyBackCard

/-- THE TIED CARD OF 'gingersnaplaw.SixtyJoins'. -/
def sixtyJoinsCard : Claim7 := { stood := { row := sixtyJoinsRow, standIns := [], harness := (true, "b1123e75c3a441005e3f0d1c1fdbbb01332a6c6953d722bf9d30683aac04d28c"), looks := false }, kinds := [], alts := [], laidByText := true, laidKinds := [.data, .pinned], laidTests := true, laidLooks := .later }
def SixtyJoinsCardSaid : Prop := Claim7.holds Tryd.pinned (.plain (OpenSpec.ofChange sixtyJoinsSpec)) sixtyJoinsCard

/-- THE TIED CARD OF 'gingersnaplaw.WordTells'. -/
def wordTellsCard : Claim7 := { stood := { row := wordTellsRow, standIns := [], harness := (true, "b1123e75c3a441005e3f0d1c1fdbbb01332a6c6953d722bf9d30683aac04d28c"), looks := false }, kinds := [], alts := [], laidByText := true, laidKinds := [.data, .pinned], laidTests := true, laidLooks := .later }
def WordTellsCardSaid : Prop := Claim7.holds Tryd.pinned (.plain (OpenSpec.ofChange wordTellsSpec)) wordTellsCard

/-- THE TIED CARD OF 'gingersnaplaw.PartsTell'. -/
def partsTellCard : Claim7 := { stood := { row := partsTellRow, standIns := [], harness := (true, "b1123e75c3a441005e3f0d1c1fdbbb01332a6c6953d722bf9d30683aac04d28c"), looks := false }, kinds := [], alts := [], laidByText := true, laidKinds := [.data, .pinned], laidTests := true, laidLooks := .later }
def PartsTellCardSaid : Prop := Claim7.holds Tryd.pinned (.plain (OpenSpec.ofChange partsTellSpec)) partsTellCard

/-- THE TIED CARD OF 'gingersnaplaw.PartsBack'. -/
def partsBackCard : Claim7 := { stood := { row := partsBackRow, standIns := [], harness := (true, "b1123e75c3a441005e3f0d1c1fdbbb01332a6c6953d722bf9d30683aac04d28c"), looks := false }, kinds := [], alts := [], laidByText := true, laidKinds := [.data, .pinned], laidTests := true, laidLooks := .later }
def PartsBackCardSaid : Prop := Claim7.holds Tryd.pinned (.plain (OpenSpec.ofChange partsBackSpec)) partsBackCard

/-- THE TIED CARD OF 'gingersnaplaw.FoldTwice'. -/
def foldTwiceCard : Claim7 := { stood := { row := foldTwiceRow, standIns := [], harness := (true, "b1123e75c3a441005e3f0d1c1fdbbb01332a6c6953d722bf9d30683aac04d28c"), looks := false }, kinds := [], alts := [], laidByText := true, laidKinds := [.data, .pinned], laidTests := true, laidLooks := .later }
def FoldTwiceCardSaid : Prop := Claim7.holds Tryd.pinned (.plain (OpenSpec.ofChange foldTwiceSpec)) foldTwiceCard

/-- THE TIED CARD OF 'gingersnaplaw.TokenParts'. -/
def tokenPartsCard : Claim7 := { stood := { row := tokenPartsRow, standIns := [], harness := (true, "b1123e75c3a441005e3f0d1c1fdbbb01332a6c6953d722bf9d30683aac04d28c"), looks := false }, kinds := [], alts := [], laidByText := true, laidKinds := [.data, .pinned], laidTests := true, laidLooks := .later }
def TokenPartsCardSaid : Prop := Claim7.holds Tryd.pinned (.plain (OpenSpec.ofChange tokenPartsSpec)) tokenPartsCard

/-- THE TIED CARD OF 'gingersnaplaw.RestWords'. -/
def restWordsCard : Claim7 := { stood := { row := restWordsRow, standIns := [], harness := (true, "b1123e75c3a441005e3f0d1c1fdbbb01332a6c6953d722bf9d30683aac04d28c"), looks := false }, kinds := [], alts := [], laidByText := true, laidKinds := [.data, .pinned], laidTests := true, laidLooks := .later }
def RestWordsCardSaid : Prop := Claim7.holds Tryd.pinned (.plain (OpenSpec.ofChange restWordsSpec)) restWordsCard

/-- THE SECOND FORM's CARD OF 'gingersnaplaw.SixtyTells'. -/
def sixtyTellsUptoCard : Claim7 := { stood := { row := sixtyTellsUptoRow, standIns := [], harness := (true, "b1123e75c3a441005e3f0d1c1fdbbb01332a6c6953d722bf9d30683aac04d28c"), looks := false }, kinds := [], alts := [], laidByText := true, laidKinds := [.data, .pinned], laidTests := true, laidLooks := .later }
def SixtyTellsUptoCardSaid : Prop := Claim7.holds Tryd.pinned (.plain (OpenSpec.upto sixtyTellsSpec)) sixtyTellsUptoCard

/-- THE SECOND FORM's CARD OF 'gingersnaplaw.SixtyBack'. -/
def sixtyBackUptoCard : Claim7 := { stood := { row := sixtyBackUptoRow, standIns := [], harness := (true, "b1123e75c3a441005e3f0d1c1fdbbb01332a6c6953d722bf9d30683aac04d28c"), looks := false }, kinds := [], alts := [], laidByText := true, laidKinds := [.data, .pinned], laidTests := true, laidLooks := .later }
def SixtyBackUptoCardSaid : Prop := Claim7.holds Tryd.pinned (.plain (OpenSpec.upto sixtyBackSpec)) sixtyBackUptoCard

/-- THE SECOND FORM's CARD OF 'gingersnaplaw.SixtyJoins'. -/
def sixtyJoinsUptoCard : Claim7 := { stood := { row := sixtyJoinsUptoRow, standIns := [], harness := (true, "b1123e75c3a441005e3f0d1c1fdbbb01332a6c6953d722bf9d30683aac04d28c"), looks := false }, kinds := [], alts := [], laidByText := true, laidKinds := [.data, .pinned], laidTests := true, laidLooks := .later }
def SixtyJoinsUptoCardSaid : Prop := Claim7.holds Tryd.pinned (.plain (OpenSpec.upto sixtyJoinsSpec)) sixtyJoinsUptoCard

/-- THE SECOND FORM's CARD OF 'gingersnaplaw.WordTells'. -/
def wordTellsUptoCard : Claim7 := { stood := { row := wordTellsUptoRow, standIns := [], harness := (true, "b1123e75c3a441005e3f0d1c1fdbbb01332a6c6953d722bf9d30683aac04d28c"), looks := false }, kinds := [], alts := [], laidByText := true, laidKinds := [.data, .pinned], laidTests := true, laidLooks := .later }
def WordTellsUptoCardSaid : Prop := Claim7.holds Tryd.pinned (.plain (OpenSpec.upto wordTellsSpec)) wordTellsUptoCard

/-- THE SECOND FORM's CARD OF 'gingersnaplaw.PartsTell'. -/
def partsTellUptoCard : Claim7 := { stood := { row := partsTellUptoRow, standIns := [], harness := (true, "b1123e75c3a441005e3f0d1c1fdbbb01332a6c6953d722bf9d30683aac04d28c"), looks := false }, kinds := [], alts := [], laidByText := true, laidKinds := [.data, .pinned], laidTests := true, laidLooks := .later }
def PartsTellUptoCardSaid : Prop := Claim7.holds Tryd.pinned (.plain (OpenSpec.upto partsTellSpec)) partsTellUptoCard

/-- THE SECOND FORM's CARD OF 'gingersnaplaw.PartsBack'. -/
def partsBackUptoCard : Claim7 := { stood := { row := partsBackUptoRow, standIns := [], harness := (true, "b1123e75c3a441005e3f0d1c1fdbbb01332a6c6953d722bf9d30683aac04d28c"), looks := false }, kinds := [], alts := [], laidByText := true, laidKinds := [.data, .pinned], laidTests := true, laidLooks := .later }
def PartsBackUptoCardSaid : Prop := Claim7.holds Tryd.pinned (.plain (OpenSpec.upto partsBackSpec)) partsBackUptoCard

/-- THE SECOND FORM's CARD OF 'gingersnaplaw.FoldTwice'. -/
def foldTwiceUptoCard : Claim7 := { stood := { row := foldTwiceUptoRow, standIns := [], harness := (true, "b1123e75c3a441005e3f0d1c1fdbbb01332a6c6953d722bf9d30683aac04d28c"), looks := false }, kinds := [], alts := [], laidByText := true, laidKinds := [.data, .pinned], laidTests := true, laidLooks := .later }
def FoldTwiceUptoCardSaid : Prop := Claim7.holds Tryd.pinned (.plain (OpenSpec.upto foldTwiceSpec)) foldTwiceUptoCard

/-- THE SECOND FORM's CARD OF 'gingersnaplaw.TokenParts'. -/
def tokenPartsUptoCard : Claim7 := { stood := { row := tokenPartsUptoRow, standIns := [], harness := (true, "b1123e75c3a441005e3f0d1c1fdbbb01332a6c6953d722bf9d30683aac04d28c"), looks := false }, kinds := [], alts := [], laidByText := true, laidKinds := [.data, .pinned], laidTests := true, laidLooks := .later }
def TokenPartsUptoCardSaid : Prop := Claim7.holds Tryd.pinned (.plain (OpenSpec.upto tokenPartsSpec)) tokenPartsUptoCard

/-- THE SECOND FORM's CARD OF 'gingersnaplaw.RestWords'. -/
def restWordsUptoCard : Claim7 := { stood := { row := restWordsUptoRow, standIns := [], harness := (true, "b1123e75c3a441005e3f0d1c1fdbbb01332a6c6953d722bf9d30683aac04d28c"), looks := false }, kinds := [], alts := [], laidByText := true, laidKinds := [.data, .pinned], laidTests := true, laidLooks := .later }
def RestWordsUptoCardSaid : Prop := Claim7.holds Tryd.pinned (.plain (OpenSpec.upto restWordsSpec)) restWordsUptoCard
end Rows
end Go.Proofs.YtagijlfjdknhpaaDoor
