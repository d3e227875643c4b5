/-
  DERIVED. GIVEN WITH THE SEED: THE CARDS: each row of YtnpokgjehapmjaaDoorRows.lean that lists a variable, with what it lists TIED to the program's text (the seventh form; the later family's looks); each row that meets fmt, with fmt's text TOLD by the authors' own Lean function (tested against real Go, not proved from fmt's source: count such statements apart). THE CARD IS WHAT COUNTS. Prove the row's statement (the work); the ties are given (YtnpokgjehapmjaaDoorTie.lean); close each card by the builder's one call (the guide's Derived/Test/ToyasCard.lean, 'card_holds'). Laid BY PROGRAM, IN A SANDBOX (cutbox-door.mjs). By AI agents, Wed Nov 11 2026. No macro, syntax, notation, axiom, sorry.
-/
import Derived.Test.YtnpokgjehapmjaaDoorRows
import GoSem.ClaimSeven
namespace Go.Proofs.YtnpokgjehapmjaaDoor
namespace Rows

/-- THE TIED CARD OF 'gingersnaplaw.RestConsents'. -/
def restConsentsCard : Claim7 := { stood := { row := restConsentsRow, standIns := [], harness := (true, "14bd70030c03242b3b8e5d3784c9071986dffa98f8a2843bb390d9d4c8a37941"), looks := true }, kinds := [], alts := [], laidByText := true, laidKinds := [.data, .pinned], laidTests := true, laidLooks := .later }
def RestConsentsCardSaid : Prop := Claim7.holds Tryd.pinned (.plain (OpenSpec.ofChange restConsentsSpec)) restConsentsCard

/-- THE SECOND FORM's CARD OF 'gingersnaplaw.RestConsents'. -/
def restConsentsUptoCard : Claim7 := { stood := { row := restConsentsUptoRow, standIns := [], harness := (true, "14bd70030c03242b3b8e5d3784c9071986dffa98f8a2843bb390d9d4c8a37941"), looks := true }, kinds := [], alts := [], laidByText := true, laidKinds := [.data, .pinned], laidTests := true, laidLooks := .later }
def RestConsentsUptoCardSaid : Prop := Claim7.holds Tryd.pinned (.plain (OpenSpec.upto restConsentsSpec)) restConsentsUptoCard
end Rows
end Go.Proofs.YtnpokgjehapmjaaDoor
