/-
  DERIVED. GIVEN WITH THE SEED: THE CARDS: each row of YtoehdmbogdpncaaGreatDoorRows.lean that lists a variable, with what it lists TIED to the program's text (the seventh form; the later family's looks); each row that meets fmt, with fmt's text TOLD by the authors' own Lean function (tested against real Go, not proved from fmt's source: count such statements apart). THE CARD IS WHAT COUNTS. Prove the row's statement (the work); the ties are given (YtoehdmbogdpncaaGreatDoorTie.lean); close each card by the builder's one call (the guide's Derived/Test/ToyasCard.lean, 'card_holds'). Laid BY PROGRAM, IN A SANDBOX (cutbox-door.mjs). By AI agents, Wed Nov 11 2026. No macro, syntax, notation, axiom, sorry.
-/
import Derived.Test.YtoehdmbogdpncaaGreatDoorRows
import GoSem.ClaimSeven
namespace Go.Proofs.YtoehdmbogdpncaaGreatDoor
namespace Rows

/-- THE TIED CARD OF 'gingersnaplaw.JarTells'. -/
def jarTellsCard : Claim7 := { stood := { row := jarTellsRow, standIns := [], harness := (true, "f9ce8f302ec652d403ebec791014222788dd06d7c6973ffa2bbca67d8cbb1c45"), looks := true }, kinds := [], alts := [], laidByText := true, laidKinds := [.data, .data, .data, .sentinel, .sentinel], laidTests := true, laidLooks := .later }
def JarTellsCardSaid : Prop := Claim7.holds Tryz.pinned (.plain (OpenSpec.ofChange jarTellsSpec)) jarTellsCard

/-- THE TIED CARD OF 'gingersnaplaw.JarGets'. -/
def jarGetsCard : Claim7 := { stood := { row := jarGetsRow, standIns := [], harness := (true, "f9ce8f302ec652d403ebec791014222788dd06d7c6973ffa2bbca67d8cbb1c45"), looks := true }, kinds := [], alts := [], laidByText := true, laidKinds := [.data, .data, .data, .sentinel, .sentinel], laidTests := true, laidLooks := .later }
def JarGetsCardSaid : Prop := Claim7.holds Tryz.pinned (.plain (OpenSpec.ofChange jarGetsSpec)) jarGetsCard

/-- THE TIED CARD OF 'gingersnaplaw.JarRight'. -/
def jarRightCard : Claim7 := { stood := { row := jarRightRow, standIns := [], harness := (true, "f9ce8f302ec652d403ebec791014222788dd06d7c6973ffa2bbca67d8cbb1c45"), looks := true }, kinds := [], alts := [], laidByText := true, laidKinds := [.data, .data, .data, .sentinel, .sentinel], laidTests := true, laidLooks := .later }
def JarRightCardSaid : Prop := Claim7.holds Tryz.pinned (.plain (OpenSpec.ofChange jarRightSpec)) jarRightCard

/-- THE TIED CARD OF 'gingersnaplaw.JarPuts'. -/
def jarPutsCard : Claim7 := { stood := { row := jarPutsRow, standIns := [], harness := (true, "f9ce8f302ec652d403ebec791014222788dd06d7c6973ffa2bbca67d8cbb1c45"), looks := true }, kinds := [], alts := [], laidByText := true, laidKinds := [.data, .data, .data, .sentinel, .sentinel], laidTests := true, laidLooks := .later }
def JarPutsCardSaid : Prop := Claim7.holds Tryz.pinned (.plain (OpenSpec.ofChange jarPutsSpec)) jarPutsCard

/-- THE TIED CARD OF 'gingersnaplaw.JarEvicts'. -/
def jarEvictsCard : Claim7 := { stood := { row := jarEvictsRow, standIns := [], harness := (true, "f9ce8f302ec652d403ebec791014222788dd06d7c6973ffa2bbca67d8cbb1c45"), looks := true }, kinds := [], alts := [], laidByText := true, laidKinds := [.data, .data, .data, .sentinel, .sentinel], laidTests := true, laidLooks := .later }
def JarEvictsCardSaid : Prop := Claim7.holds Tryz.pinned (.plain (OpenSpec.ofChange jarEvictsSpec)) jarEvictsCard

/-- THE TIED CARD OF 'gingersnaplaw.JarOnly'. -/
def jarOnlyCard : Claim7 := { stood := { row := jarOnlyRow, standIns := [], harness := (true, "f9ce8f302ec652d403ebec791014222788dd06d7c6973ffa2bbca67d8cbb1c45"), looks := true }, kinds := [], alts := [], laidByText := true, laidKinds := [.data, .data, .data, .sentinel, .sentinel], laidTests := true, laidLooks := .later }
def JarOnlyCardSaid : Prop := Claim7.holds Tryz.pinned (.plain (OpenSpec.ofChange jarOnlySpec)) jarOnlyCard

/-- THE SECOND FORM's CARD OF 'gingersnaplaw.JarTells'. -/
def jarTellsUptoCard : Claim7 := { stood := { row := jarTellsUptoRow, standIns := [], harness := (true, "f9ce8f302ec652d403ebec791014222788dd06d7c6973ffa2bbca67d8cbb1c45"), looks := true }, kinds := [], alts := [], laidByText := true, laidKinds := [.data, .data, .data, .sentinel, .sentinel], laidTests := true, laidLooks := .later }
def JarTellsUptoCardSaid : Prop := Claim7.holds Tryz.pinned (.plain (OpenSpec.upto jarTellsSpec)) jarTellsUptoCard

/-- THE SECOND FORM's CARD OF 'gingersnaplaw.JarGets'. -/
def jarGetsUptoCard : Claim7 := { stood := { row := jarGetsUptoRow, standIns := [], harness := (true, "f9ce8f302ec652d403ebec791014222788dd06d7c6973ffa2bbca67d8cbb1c45"), looks := true }, kinds := [], alts := [], laidByText := true, laidKinds := [.data, .data, .data, .sentinel, .sentinel], laidTests := true, laidLooks := .later }
def JarGetsUptoCardSaid : Prop := Claim7.holds Tryz.pinned (.plain (OpenSpec.upto jarGetsSpec)) jarGetsUptoCard

/-- THE SECOND FORM's CARD OF 'gingersnaplaw.JarRight'. -/
def jarRightUptoCard : Claim7 := { stood := { row := jarRightUptoRow, standIns := [], harness := (true, "f9ce8f302ec652d403ebec791014222788dd06d7c6973ffa2bbca67d8cbb1c45"), looks := true }, kinds := [], alts := [], laidByText := true, laidKinds := [.data, .data, .data, .sentinel, .sentinel], laidTests := true, laidLooks := .later }
def JarRightUptoCardSaid : Prop := Claim7.holds Tryz.pinned (.plain (OpenSpec.upto jarRightSpec)) jarRightUptoCard

/-- THE SECOND FORM's CARD OF 'gingersnaplaw.JarPuts'. -/
def jarPutsUptoCard : Claim7 := { stood := { row := jarPutsUptoRow, standIns := [], harness := (true, "f9ce8f302ec652d403ebec791014222788dd06d7c6973ffa2bbca67d8cbb1c45"), looks := true }, kinds := [], alts := [], laidByText := true, laidKinds := [.data, .data, .data, .sentinel, .sentinel], laidTests := true, laidLooks := .later }
def JarPutsUptoCardSaid : Prop := Claim7.holds Tryz.pinned (.plain (OpenSpec.upto jarPutsSpec)) jarPutsUptoCard

/-- THE SECOND FORM's CARD OF 'gingersnaplaw.JarEvicts'. -/
def jarEvictsUptoCard : Claim7 := { stood := { row := jarEvictsUptoRow, standIns := [], harness := (true, "f9ce8f302ec652d403ebec791014222788dd06d7c6973ffa2bbca67d8cbb1c45"), looks := true }, kinds := [], alts := [], laidByText := true, laidKinds := [.data, .data, .data, .sentinel, .sentinel], laidTests := true, laidLooks := .later }
def JarEvictsUptoCardSaid : Prop := Claim7.holds Tryz.pinned (.plain (OpenSpec.upto jarEvictsSpec)) jarEvictsUptoCard

/-- THE SECOND FORM's CARD OF 'gingersnaplaw.JarOnly'. -/
def jarOnlyUptoCard : Claim7 := { stood := { row := jarOnlyUptoRow, standIns := [], harness := (true, "f9ce8f302ec652d403ebec791014222788dd06d7c6973ffa2bbca67d8cbb1c45"), looks := true }, kinds := [], alts := [], laidByText := true, laidKinds := [.data, .data, .data, .sentinel, .sentinel], laidTests := true, laidLooks := .later }
def JarOnlyUptoCardSaid : Prop := Claim7.holds Tryz.pinned (.plain (OpenSpec.upto jarOnlySpec)) jarOnlyUptoCard
end Rows
end Go.Proofs.YtoehdmbogdpncaaGreatDoor
