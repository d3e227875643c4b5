/-
  DERIVED. GIVEN WITH THE SEED: THE CARDS: each row of YtfhfpanemalbmaaDoorRows.lean that lists a variable, with what it lists TIED to the program's text (the seventh form; the later family's looks); each row that meets fmt, with fmt's text TOLD by the authors' own Lean function (tested against real Go, not proved from fmt's source: count such statements apart). THE CARD IS WHAT COUNTS. Prove the row's statement (the work); the ties are given (YtfhfpanemalbmaaDoorTie.lean); close each card by the builder's one call (the guide's Derived/Test/ToyasCard.lean, 'card_holds'). Laid BY PROGRAM, IN A SANDBOX (cutbox-door.mjs). By AI agents, Wed Nov 11 2026. No macro, syntax, notation, axiom, sorry.
-/
import Derived.Test.YtfhfpanemalbmaaDoorRows
import GoSem.ClaimSeven
namespace Go.Proofs.YtfhfpanemalbmaaDoor
namespace Rows

/-- THE TIED CARD OF 'gingersnaplaw.ConsentTells'. -/
def consentTellsCard : Claim7 := { stood := { row := consentTellsRow, standIns := [], harness := (true, "bd4f1381714ec4f96c38e1e0395a7753f48857f98ad3d3935f98cf1dad848620"), looks := true }, kinds := [], alts := [], laidByText := true, laidKinds := [.data, .pinned], laidTests := true, laidLooks := .later }
def ConsentTellsCardSaid : Prop := Claim7.holds Tryd.pinned (.plain (OpenSpec.ofChange consentTellsSpec)) consentTellsCard

/-- THE TIED CARD OF 'gingersnaplaw.ConsentReads'. -/
def consentReadsCard : Claim7 := { stood := { row := consentReadsRow, standIns := [], harness := (true, "bd4f1381714ec4f96c38e1e0395a7753f48857f98ad3d3935f98cf1dad848620"), looks := true }, kinds := [], alts := [], laidByText := true, laidKinds := [.data, .pinned], laidTests := true, laidLooks := .later }
def ConsentReadsCardSaid : Prop := Claim7.holds Tryd.pinned (.plain (OpenSpec.ofChange consentReadsSpec)) consentReadsCard

/-- THE TIED CARD OF 'gingersnaplaw.ConsentBack'. -/
def consentBackCard : Claim7 := { stood := { row := consentBackRow, standIns := [], harness := (true, "bd4f1381714ec4f96c38e1e0395a7753f48857f98ad3d3935f98cf1dad848620"), looks := true }, kinds := [], alts := [], laidByText := true, laidKinds := [.data, .pinned], laidTests := true, laidLooks := .later }
def ConsentBackCardSaid : Prop := Claim7.holds Tryd.pinned (.plain (OpenSpec.ofChange consentBackSpec)) consentBackCard

/-- THE TIED CARD OF 'gingersnaplaw.ConsentShort'. -/
def consentShortCard : Claim7 := { stood := { row := consentShortRow, standIns := [], harness := (true, "bd4f1381714ec4f96c38e1e0395a7753f48857f98ad3d3935f98cf1dad848620"), looks := true }, kinds := [], alts := [], laidByText := true, laidKinds := [.data, .pinned], laidTests := true, laidLooks := .later }
def ConsentShortCardSaid : Prop := Claim7.holds Tryd.pinned (.plain (OpenSpec.ofChange consentShortSpec)) consentShortCard

/-- THE TIED CARD OF 'gingersnaplaw.RestConsents'. -/
def restConsentsCard : Claim7 := { stood := { row := restConsentsRow, standIns := [], harness := (true, "bd4f1381714ec4f96c38e1e0395a7753f48857f98ad3d3935f98cf1dad848620"), looks := true }, kinds := [], alts := [], laidByText := true, laidKinds := [.data, .pinned], laidTests := true, laidLooks := .later }
def RestConsentsCardSaid : Prop := Claim7.holds Tryd.pinned (.plain (OpenSpec.ofChange restConsentsSpec)) restConsentsCard

/-- THE SECOND FORM's CARD OF 'gingersnaplaw.ConsentTells'. -/
def consentTellsUptoCard : Claim7 := { stood := { row := consentTellsUptoRow, standIns := [], harness := (true, "bd4f1381714ec4f96c38e1e0395a7753f48857f98ad3d3935f98cf1dad848620"), looks := true }, kinds := [], alts := [], laidByText := true, laidKinds := [.data, .pinned], laidTests := true, laidLooks := .later }
def ConsentTellsUptoCardSaid : Prop := Claim7.holds Tryd.pinned (.plain (OpenSpec.upto consentTellsSpec)) consentTellsUptoCard

/-- THE SECOND FORM's CARD OF 'gingersnaplaw.ConsentReads'. -/
def consentReadsUptoCard : Claim7 := { stood := { row := consentReadsUptoRow, standIns := [], harness := (true, "bd4f1381714ec4f96c38e1e0395a7753f48857f98ad3d3935f98cf1dad848620"), looks := true }, kinds := [], alts := [], laidByText := true, laidKinds := [.data, .pinned], laidTests := true, laidLooks := .later }
def ConsentReadsUptoCardSaid : Prop := Claim7.holds Tryd.pinned (.plain (OpenSpec.upto consentReadsSpec)) consentReadsUptoCard

/-- THE SECOND FORM's CARD OF 'gingersnaplaw.ConsentBack'. -/
def consentBackUptoCard : Claim7 := { stood := { row := consentBackUptoRow, standIns := [], harness := (true, "bd4f1381714ec4f96c38e1e0395a7753f48857f98ad3d3935f98cf1dad848620"), looks := true }, kinds := [], alts := [], laidByText := true, laidKinds := [.data, .pinned], laidTests := true, laidLooks := .later }
def ConsentBackUptoCardSaid : Prop := Claim7.holds Tryd.pinned (.plain (OpenSpec.upto consentBackSpec)) consentBackUptoCard

/-- THE SECOND FORM's CARD OF 'gingersnaplaw.ConsentShort'. -/
def consentShortUptoCard : Claim7 := { stood := { row := consentShortUptoRow, standIns := [], harness := (true, "bd4f1381714ec4f96c38e1e0395a7753f48857f98ad3d3935f98cf1dad848620"), looks := true }, kinds := [], alts := [], laidByText := true, laidKinds := [.data, .pinned], laidTests := true, laidLooks := .later }
def ConsentShortUptoCardSaid : Prop := Claim7.holds Tryd.pinned (.plain (OpenSpec.upto consentShortSpec)) consentShortUptoCard

/-- THE SECOND FORM's CARD OF 'gingersnaplaw.RestConsents'. -/
def restConsentsUptoCard : Claim7 := { stood := { row := restConsentsUptoRow, standIns := [], harness := (true, "bd4f1381714ec4f96c38e1e0395a7753f48857f98ad3d3935f98cf1dad848620"), looks := true }, kinds := [], alts := [], laidByText := true, laidKinds := [.data, .pinned], laidTests := true, laidLooks := .later }
def RestConsentsUptoCardSaid : Prop := Claim7.holds Tryd.pinned (.plain (OpenSpec.upto restConsentsSpec)) restConsentsUptoCard
end Rows
end Go.Proofs.YtfhfpanemalbmaaDoor
