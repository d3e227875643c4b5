/-
  DERIVED. GIVEN WITH THE SEED: THE CARDS: each row of YtdimidhacccdjaaDoorRows.lean that lists a variable, with what it lists TIED to the program's text (the seventh form; the later family's looks); each row that meets fmt, with fmt's text TOLD by the authors' own Lean function (tested against real Go, not proved from fmt's source: count such statements apart). THE CARD IS WHAT COUNTS. Prove the row's statement (the work); the ties are given (YtdimidhacccdjaaDoorTie.lean); close each card by the builder's one call (the guide's Derived/Test/ToyasCard.lean, 'card_holds'). Laid BY PROGRAM, IN A SANDBOX (cutbox-door.mjs). By AI agents, Wed Nov 11 2026. No macro, syntax, notation, axiom, sorry.
-/
import Derived.Test.YtdimidhacccdjaaDoorRows
import GoSem.ClaimSeven
namespace Go.Proofs.YtdimidhacccdjaaDoor
namespace Rows

/-- THE TIED CARD OF 'gingersnaplaw.DiskTells'. -/
def diskTellsCard : Claim7 := { stood := { row := diskTellsRow, standIns := [], harness := (true, "fc5cb1a6476fcb5e2326c8301e25031f32ea4308590baa94b3f892851e509576"), looks := true }, kinds := [], alts := [], laidByText := true, laidKinds := [.data, .data, .data, .data, .sentinel, .sentinel, .pinned], laidTests := true, laidLooks := .later }
def DiskTellsCardSaid : Prop := Claim7.holds Tryd.pinned (.plain (OpenSpec.ofChange diskTellsSpec)) diskTellsCard

/-- THE TIED CARD OF 'gingersnaplaw.LogTells'. -/
def logTellsCard : Claim7 := { stood := { row := logTellsRow, standIns := [], harness := (true, "fc5cb1a6476fcb5e2326c8301e25031f32ea4308590baa94b3f892851e509576"), looks := true }, kinds := [], alts := [], laidByText := true, laidKinds := [.data, .data, .data, .data, .sentinel, .sentinel, .pinned], laidTests := true, laidLooks := .later }
def LogTellsCardSaid : Prop := Claim7.holds Tryd.pinned (.plain (OpenSpec.ofChange logTellsSpec)) logTellsCard

/-- THE TIED CARD OF 'gingersnaplaw.LogAdds'. -/
def logAddsCard : Claim7 := { stood := { row := logAddsRow, standIns := [], harness := (true, "fc5cb1a6476fcb5e2326c8301e25031f32ea4308590baa94b3f892851e509576"), looks := true }, kinds := [], alts := [], laidByText := true, laidKinds := [.data, .data, .data, .data, .sentinel, .sentinel, .pinned], laidTests := true, laidLooks := .later }
def LogAddsCardSaid : Prop := Claim7.holds Tryd.pinned (.plain (OpenSpec.ofChange logAddsSpec)) logAddsCard

/-- THE TIED CARD OF 'gingersnaplaw.LogWhole'. -/
def logWholeCard : Claim7 := { stood := { row := logWholeRow, standIns := [], harness := (true, "fc5cb1a6476fcb5e2326c8301e25031f32ea4308590baa94b3f892851e509576"), looks := true }, kinds := [], alts := [], laidByText := true, laidKinds := [.data, .data, .data, .data, .sentinel, .sentinel, .pinned], laidTests := true, laidLooks := .later }
def LogWholeCardSaid : Prop := Claim7.holds Tryd.pinned (.plain (OpenSpec.ofChange logWholeSpec)) logWholeCard

/-- THE SECOND FORM's CARD OF 'gingersnaplaw.DiskTells'. -/
def diskTellsUptoCard : Claim7 := { stood := { row := diskTellsUptoRow, standIns := [], harness := (true, "fc5cb1a6476fcb5e2326c8301e25031f32ea4308590baa94b3f892851e509576"), looks := true }, kinds := [], alts := [], laidByText := true, laidKinds := [.data, .data, .data, .data, .sentinel, .sentinel, .pinned], laidTests := true, laidLooks := .later }
def DiskTellsUptoCardSaid : Prop := Claim7.holds Tryd.pinned (.plain (OpenSpec.upto diskTellsSpec)) diskTellsUptoCard

/-- THE SECOND FORM's CARD OF 'gingersnaplaw.LogTells'. -/
def logTellsUptoCard : Claim7 := { stood := { row := logTellsUptoRow, standIns := [], harness := (true, "fc5cb1a6476fcb5e2326c8301e25031f32ea4308590baa94b3f892851e509576"), looks := true }, kinds := [], alts := [], laidByText := true, laidKinds := [.data, .data, .data, .data, .sentinel, .sentinel, .pinned], laidTests := true, laidLooks := .later }
def LogTellsUptoCardSaid : Prop := Claim7.holds Tryd.pinned (.plain (OpenSpec.upto logTellsSpec)) logTellsUptoCard

/-- THE SECOND FORM's CARD OF 'gingersnaplaw.LogAdds'. -/
def logAddsUptoCard : Claim7 := { stood := { row := logAddsUptoRow, standIns := [], harness := (true, "fc5cb1a6476fcb5e2326c8301e25031f32ea4308590baa94b3f892851e509576"), looks := true }, kinds := [], alts := [], laidByText := true, laidKinds := [.data, .data, .data, .data, .sentinel, .sentinel, .pinned], laidTests := true, laidLooks := .later }
def LogAddsUptoCardSaid : Prop := Claim7.holds Tryd.pinned (.plain (OpenSpec.upto logAddsSpec)) logAddsUptoCard

/-- THE SECOND FORM's CARD OF 'gingersnaplaw.LogWhole'. -/
def logWholeUptoCard : Claim7 := { stood := { row := logWholeUptoRow, standIns := [], harness := (true, "fc5cb1a6476fcb5e2326c8301e25031f32ea4308590baa94b3f892851e509576"), looks := true }, kinds := [], alts := [], laidByText := true, laidKinds := [.data, .data, .data, .data, .sentinel, .sentinel, .pinned], laidTests := true, laidLooks := .later }
def LogWholeUptoCardSaid : Prop := Claim7.holds Tryd.pinned (.plain (OpenSpec.upto logWholeSpec)) logWholeUptoCard
end Rows
end Go.Proofs.YtdimidhacccdjaaDoor
