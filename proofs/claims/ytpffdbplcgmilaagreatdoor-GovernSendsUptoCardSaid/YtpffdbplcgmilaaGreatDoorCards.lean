/-
  DERIVED. GIVEN WITH THE SEED: THE CARDS: each row of YtpffdbplcgmilaaGreatDoorRows.lean that lists a variable, with what it lists TIED to the program's text (the seventh form; the later family's looks); each row that meets fmt, with fmt's text TOLD by the authors' own Lean function (tested against real Go, not proved from fmt's source: count such statements apart). THE CARD IS WHAT COUNTS. Prove the row's statement (the work); the ties are given (YtpffdbplcgmilaaGreatDoorTie.lean); close each card by the builder's one call (the guide's Derived/Test/ToyasCard.lean, 'card_holds'). Laid BY PROGRAM, IN A SANDBOX (cutbox-door.mjs). By AI agents, Wed Nov 11 2026. No macro, syntax, notation, axiom, sorry.
-/
import Derived.Test.YtpffdbplcgmilaaGreatDoorRows
import GoSem.ClaimSeven
namespace Go.Proofs.YtpffdbplcgmilaaGreatDoor
namespace Rows

/-- THE TIED CARD OF 'gingersnaplaw.GovernSends'. -/
def governSendsCard : Claim7 := { stood := { row := governSendsRow, standIns := [], harness := (true, "f755a9cae036d7e382e7e99c6f69593e782e92ab59b0e9eeda3f515266d5279f"), looks := true }, kinds := [], alts := [], laidByText := true, laidKinds := [.data, .data, .data, .data, .sentinel, .sentinel, .pinned], laidTests := true, laidLooks := .later }
def GovernSendsCardSaid : Prop := Claim7.holds Tryz.pinned (.plain (OpenSpec.ofChange governSendsSpec)) governSendsCard

/-- THE TIED CARD OF 'gingersnaplaw.GovernWithdraws'. -/
def governWithdrawsCard : Claim7 := { stood := { row := governWithdrawsRow, standIns := [], harness := (true, "f755a9cae036d7e382e7e99c6f69593e782e92ab59b0e9eeda3f515266d5279f"), looks := true }, kinds := [], alts := [], laidByText := true, laidKinds := [.data, .data, .data, .data, .sentinel, .sentinel, .pinned], laidTests := true, laidLooks := .later }
def GovernWithdrawsCardSaid : Prop := Claim7.holds Tryz.pinned (.plain (OpenSpec.ofChange governWithdrawsSpec)) governWithdrawsCard

/-- THE SECOND FORM's CARD OF 'gingersnaplaw.GovernSends'. -/
def governSendsUptoCard : Claim7 := { stood := { row := governSendsUptoRow, standIns := [], harness := (true, "f755a9cae036d7e382e7e99c6f69593e782e92ab59b0e9eeda3f515266d5279f"), looks := true }, kinds := [], alts := [], laidByText := true, laidKinds := [.data, .data, .data, .data, .sentinel, .sentinel, .pinned], laidTests := true, laidLooks := .later }
def GovernSendsUptoCardSaid : Prop := Claim7.holds Tryz.pinned (.plain (OpenSpec.upto governSendsSpec)) governSendsUptoCard

/-- THE SECOND FORM's CARD OF 'gingersnaplaw.GovernWithdraws'. -/
def governWithdrawsUptoCard : Claim7 := { stood := { row := governWithdrawsUptoRow, standIns := [], harness := (true, "f755a9cae036d7e382e7e99c6f69593e782e92ab59b0e9eeda3f515266d5279f"), looks := true }, kinds := [], alts := [], laidByText := true, laidKinds := [.data, .data, .data, .data, .sentinel, .sentinel, .pinned], laidTests := true, laidLooks := .later }
def GovernWithdrawsUptoCardSaid : Prop := Claim7.holds Tryz.pinned (.plain (OpenSpec.upto governWithdrawsSpec)) governWithdrawsUptoCard
end Rows
end Go.Proofs.YtpffdbplcgmilaaGreatDoor
