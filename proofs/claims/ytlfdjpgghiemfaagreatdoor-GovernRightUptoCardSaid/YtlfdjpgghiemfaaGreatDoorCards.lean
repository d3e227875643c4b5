/-
  DERIVED. GIVEN WITH THE SEED: THE CARDS: each row of YtlfdjpgghiemfaaGreatDoorRows.lean that lists a variable, with what it lists TIED to the program's text (the seventh form; the later family's looks); each row that meets fmt, with fmt's text TOLD by the authors' own Lean function (tested against real Go, not proved from fmt's source: count such statements apart). THE CARD IS WHAT COUNTS. Prove the row's statement (the work); the ties are given (YtlfdjpgghiemfaaGreatDoorTie.lean); close each card by the builder's one call (the guide's Derived/Test/ToyasCard.lean, 'card_holds'). Laid BY PROGRAM, IN A SANDBOX (cutbox-door.mjs). By AI agents, Wed Nov 11 2026. No macro, syntax, notation, axiom, sorry.
-/
import Derived.Test.YtlfdjpgghiemfaaGreatDoorRows
import GoSem.ClaimSeven
namespace Go.Proofs.YtlfdjpgghiemfaaGreatDoor
namespace Rows

/-- THE TIED CARD OF 'gingersnaplaw.GovernRight'. -/
def governRightCard : Claim7 := { stood := { row := governRightRow, standIns := [], harness := (true, "7acdcabeeb1ffd7bfa34db033c3d8a16983903d1331f9d9d312e08c9a5968802"), looks := true }, kinds := [], alts := [], laidByText := true, laidKinds := [.data, .data, .data, .data, .sentinel, .sentinel, .pinned], laidTests := true, laidLooks := .later }
def GovernRightCardSaid : Prop := Claim7.holds Tryz.pinned (.plain (OpenSpec.ofChange governRightSpec)) governRightCard

/-- THE TIED CARD OF 'gingersnaplaw.GovernTick'. -/
def governTickCard : Claim7 := { stood := { row := governTickRow, standIns := [], harness := (true, "7acdcabeeb1ffd7bfa34db033c3d8a16983903d1331f9d9d312e08c9a5968802"), looks := true }, kinds := [], alts := [], laidByText := true, laidKinds := [.data, .data, .data, .data, .sentinel, .sentinel, .pinned], laidTests := true, laidLooks := .later }
def GovernTickCardSaid : Prop := Claim7.holds Tryz.pinned (.plain (OpenSpec.ofChange governTickSpec)) governTickCard

/-- THE TIED CARD OF 'gingersnaplaw.GovernWithdraws'. -/
def governWithdrawsCard : Claim7 := { stood := { row := governWithdrawsRow, standIns := [], harness := (true, "7acdcabeeb1ffd7bfa34db033c3d8a16983903d1331f9d9d312e08c9a5968802"), looks := true }, kinds := [], alts := [], laidByText := true, laidKinds := [.data, .data, .data, .data, .sentinel, .sentinel, .pinned], laidTests := true, laidLooks := .later }
def GovernWithdrawsCardSaid : Prop := Claim7.holds Tryz.pinned (.plain (OpenSpec.ofChange governWithdrawsSpec)) governWithdrawsCard

/-- THE SECOND FORM's CARD OF 'gingersnaplaw.GovernRight'. -/
def governRightUptoCard : Claim7 := { stood := { row := governRightUptoRow, standIns := [], harness := (true, "7acdcabeeb1ffd7bfa34db033c3d8a16983903d1331f9d9d312e08c9a5968802"), looks := true }, kinds := [], alts := [], laidByText := true, laidKinds := [.data, .data, .data, .data, .sentinel, .sentinel, .pinned], laidTests := true, laidLooks := .later }
def GovernRightUptoCardSaid : Prop := Claim7.holds Tryz.pinned (.plain (OpenSpec.upto governRightSpec)) governRightUptoCard

/-- THE SECOND FORM's CARD OF 'gingersnaplaw.GovernTick'. -/
def governTickUptoCard : Claim7 := { stood := { row := governTickUptoRow, standIns := [], harness := (true, "7acdcabeeb1ffd7bfa34db033c3d8a16983903d1331f9d9d312e08c9a5968802"), looks := true }, kinds := [], alts := [], laidByText := true, laidKinds := [.data, .data, .data, .data, .sentinel, .sentinel, .pinned], laidTests := true, laidLooks := .later }
def GovernTickUptoCardSaid : Prop := Claim7.holds Tryz.pinned (.plain (OpenSpec.upto governTickSpec)) governTickUptoCard

/-- THE SECOND FORM's CARD OF 'gingersnaplaw.GovernWithdraws'. -/
def governWithdrawsUptoCard : Claim7 := { stood := { row := governWithdrawsUptoRow, standIns := [], harness := (true, "7acdcabeeb1ffd7bfa34db033c3d8a16983903d1331f9d9d312e08c9a5968802"), looks := true }, kinds := [], alts := [], laidByText := true, laidKinds := [.data, .data, .data, .data, .sentinel, .sentinel, .pinned], laidTests := true, laidLooks := .later }
def GovernWithdrawsUptoCardSaid : Prop := Claim7.holds Tryz.pinned (.plain (OpenSpec.upto governWithdrawsSpec)) governWithdrawsUptoCard
end Rows
end Go.Proofs.YtlfdjpgghiemfaaGreatDoor
