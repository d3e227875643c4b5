/-
  DERIVED. GIVEN WITH THE SEED: THE CARDS: each row of YtepnalbefjicgaaGreatDoorRows.lean that lists a variable, with what it lists TIED to the program's text (the seventh form; the later family's looks); each row that meets fmt, with fmt's text TOLD by the authors' own Lean function (tested against real Go, not proved from fmt's source: count such statements apart). THE CARD IS WHAT COUNTS. Prove the row's statement (the work); the ties are given (YtepnalbefjicgaaGreatDoorTie.lean); close each card by the builder's one call (the guide's Derived/Test/ToyasCard.lean, 'card_holds'). Laid BY PROGRAM, IN A SANDBOX (cutbox-door.mjs). By AI agents, Wed Nov 11 2026. No macro, syntax, notation, axiom, sorry.
-/
import Derived.Test.YtepnalbefjicgaaGreatDoorRows
import GoSem.ClaimSeven
namespace Go.Proofs.YtepnalbefjicgaaGreatDoor
namespace Rows

/-- THE TIED CARD OF 'gingersnaplaw.RestJars'. -/
def restJarsCard : Claim7 := { stood := { row := restJarsRow, standIns := [], harness := (true, "454049326ec797b2580ee89404d889d00aae0b7630732236d020a24e5c3c6e02"), looks := true }, kinds := [], alts := [], laidByText := true, laidKinds := [.data, .data, .data, .sentinel, .sentinel], laidTests := true, laidLooks := .later }
def RestJarsCardSaid : Prop := Claim7.holds Tryz.pinned (.plain (OpenSpec.ofChange restJarsSpec)) restJarsCard

/-- THE SECOND FORM's CARD OF 'gingersnaplaw.RestJars'. -/
def restJarsUptoCard : Claim7 := { stood := { row := restJarsUptoRow, standIns := [], harness := (true, "454049326ec797b2580ee89404d889d00aae0b7630732236d020a24e5c3c6e02"), looks := true }, kinds := [], alts := [], laidByText := true, laidKinds := [.data, .data, .data, .sentinel, .sentinel], laidTests := true, laidLooks := .later }
def RestJarsUptoCardSaid : Prop := Claim7.holds Tryz.pinned (.plain (OpenSpec.upto restJarsSpec)) restJarsUptoCard
end Rows
end Go.Proofs.YtepnalbefjicgaaGreatDoor
