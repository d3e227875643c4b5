/-
  DERIVED. GIVEN WITH THE SEED: THE CARDS: each row of YtkgdkpiacencjaaGreatDoorRows.lean that lists a variable, with what it lists TIED to the program's text (the seventh form; the later family's looks); each row that meets fmt, with fmt's text TOLD by the authors' own Lean function (tested against real Go, not proved from fmt's source: count such statements apart). THE CARD IS WHAT COUNTS. Prove the row's statement (the work); the ties are given (YtkgdkpiacencjaaGreatDoorTie.lean); close each card by the builder's one call (the guide's Derived/Test/ToyasCard.lean, 'card_holds'). Laid BY PROGRAM, IN A SANDBOX (cutbox-door.mjs). By AI agents, Wed Nov 11 2026. No macro, syntax, notation, axiom, sorry.
-/
import Derived.Test.YtkgdkpiacencjaaGreatDoorRows
import GoSem.ClaimSeven
namespace Go.Proofs.YtkgdkpiacencjaaGreatDoor
namespace Rows

/-- THE TIED CARD OF 'gingersnaplaw.CookieTells'. -/
def cookieTellsCard : Claim7 := { stood := { row := cookieTellsRow, standIns := [], harness := (true, "31d18d29e62cbe54e6466b12ea8851fb9f43831fc9a5867f1544ca2b102fad29"), looks := true }, kinds := [], alts := [], laidByText := true, laidKinds := [.data, .data, .data, .data, .sentinel, .sentinel, .pinned], laidTests := true, laidLooks := .later }
def CookieTellsCardSaid : Prop := Claim7.holds Tryz.pinned (.plain (OpenSpec.ofChange cookieTellsSpec)) cookieTellsCard

/-- THE TIED CARD OF 'gingersnaplaw.CookieDomain'. -/
def cookieDomainCard : Claim7 := { stood := { row := cookieDomainRow, standIns := [], harness := (true, "31d18d29e62cbe54e6466b12ea8851fb9f43831fc9a5867f1544ca2b102fad29"), looks := true }, kinds := [], alts := [], laidByText := true, laidKinds := [.data, .data, .data, .data, .sentinel, .sentinel, .pinned], laidTests := true, laidLooks := .later }
def CookieDomainCardSaid : Prop := Claim7.holds Tryz.pinned (.plain (OpenSpec.ofChange cookieDomainSpec)) cookieDomainCard

/-- THE TIED CARD OF 'gingersnaplaw.CookieBars'. -/
def cookieBarsCard : Claim7 := { stood := { row := cookieBarsRow, standIns := [], harness := (true, "31d18d29e62cbe54e6466b12ea8851fb9f43831fc9a5867f1544ca2b102fad29"), looks := true }, kinds := [], alts := [], laidByText := true, laidKinds := [.data, .data, .data, .data, .sentinel, .sentinel, .pinned], laidTests := true, laidLooks := .later }
def CookieBarsCardSaid : Prop := Claim7.holds Tryz.pinned (.plain (OpenSpec.ofChange cookieBarsSpec)) cookieBarsCard

/-- THE TIED CARD OF 'gingersnaplaw.CookieExpiry'. -/
def cookieExpiryCard : Claim7 := { stood := { row := cookieExpiryRow, standIns := [], harness := (true, "31d18d29e62cbe54e6466b12ea8851fb9f43831fc9a5867f1544ca2b102fad29"), looks := true }, kinds := [], alts := [], laidByText := true, laidKinds := [.data, .data, .data, .data, .sentinel, .sentinel, .pinned], laidTests := true, laidLooks := .later }
def CookieExpiryCardSaid : Prop := Claim7.holds Tryz.pinned (.plain (OpenSpec.ofChange cookieExpirySpec)) cookieExpiryCard

/-- THE TIED CARD OF 'gingersnaplaw.CookieLast'. -/
def cookieLastCard : Claim7 := { stood := { row := cookieLastRow, standIns := [], harness := (true, "31d18d29e62cbe54e6466b12ea8851fb9f43831fc9a5867f1544ca2b102fad29"), looks := true }, kinds := [], alts := [], laidByText := true, laidKinds := [.data, .data, .data, .data, .sentinel, .sentinel, .pinned], laidTests := true, laidLooks := .later }
def CookieLastCardSaid : Prop := Claim7.holds Tryz.pinned (.plain (OpenSpec.ofChange cookieLastSpec)) cookieLastCard

/-- THE TIED CARD OF 'gingersnaplaw.GoesBack'. -/
def goesBackCard : Claim7 := { stood := { row := goesBackRow, standIns := [], harness := (true, "31d18d29e62cbe54e6466b12ea8851fb9f43831fc9a5867f1544ca2b102fad29"), looks := true }, kinds := [], alts := [], laidByText := true, laidKinds := [.data, .data, .data, .data, .sentinel, .sentinel, .pinned], laidTests := true, laidLooks := .later }
def GoesBackCardSaid : Prop := Claim7.holds Tryz.pinned (.plain (OpenSpec.ofChange goesBackSpec)) goesBackCard

/-- THE SECOND FORM's CARD OF 'gingersnaplaw.CookieTells'. -/
def cookieTellsUptoCard : Claim7 := { stood := { row := cookieTellsUptoRow, standIns := [], harness := (true, "31d18d29e62cbe54e6466b12ea8851fb9f43831fc9a5867f1544ca2b102fad29"), looks := true }, kinds := [], alts := [], laidByText := true, laidKinds := [.data, .data, .data, .data, .sentinel, .sentinel, .pinned], laidTests := true, laidLooks := .later }
def CookieTellsUptoCardSaid : Prop := Claim7.holds Tryz.pinned (.plain (OpenSpec.upto cookieTellsSpec)) cookieTellsUptoCard

/-- THE SECOND FORM's CARD OF 'gingersnaplaw.CookieDomain'. -/
def cookieDomainUptoCard : Claim7 := { stood := { row := cookieDomainUptoRow, standIns := [], harness := (true, "31d18d29e62cbe54e6466b12ea8851fb9f43831fc9a5867f1544ca2b102fad29"), looks := true }, kinds := [], alts := [], laidByText := true, laidKinds := [.data, .data, .data, .data, .sentinel, .sentinel, .pinned], laidTests := true, laidLooks := .later }
def CookieDomainUptoCardSaid : Prop := Claim7.holds Tryz.pinned (.plain (OpenSpec.upto cookieDomainSpec)) cookieDomainUptoCard

/-- THE SECOND FORM's CARD OF 'gingersnaplaw.CookieBars'. -/
def cookieBarsUptoCard : Claim7 := { stood := { row := cookieBarsUptoRow, standIns := [], harness := (true, "31d18d29e62cbe54e6466b12ea8851fb9f43831fc9a5867f1544ca2b102fad29"), looks := true }, kinds := [], alts := [], laidByText := true, laidKinds := [.data, .data, .data, .data, .sentinel, .sentinel, .pinned], laidTests := true, laidLooks := .later }
def CookieBarsUptoCardSaid : Prop := Claim7.holds Tryz.pinned (.plain (OpenSpec.upto cookieBarsSpec)) cookieBarsUptoCard

/-- THE SECOND FORM's CARD OF 'gingersnaplaw.CookieExpiry'. -/
def cookieExpiryUptoCard : Claim7 := { stood := { row := cookieExpiryUptoRow, standIns := [], harness := (true, "31d18d29e62cbe54e6466b12ea8851fb9f43831fc9a5867f1544ca2b102fad29"), looks := true }, kinds := [], alts := [], laidByText := true, laidKinds := [.data, .data, .data, .data, .sentinel, .sentinel, .pinned], laidTests := true, laidLooks := .later }
def CookieExpiryUptoCardSaid : Prop := Claim7.holds Tryz.pinned (.plain (OpenSpec.upto cookieExpirySpec)) cookieExpiryUptoCard

/-- THE SECOND FORM's CARD OF 'gingersnaplaw.CookieLast'. -/
def cookieLastUptoCard : Claim7 := { stood := { row := cookieLastUptoRow, standIns := [], harness := (true, "31d18d29e62cbe54e6466b12ea8851fb9f43831fc9a5867f1544ca2b102fad29"), looks := true }, kinds := [], alts := [], laidByText := true, laidKinds := [.data, .data, .data, .data, .sentinel, .sentinel, .pinned], laidTests := true, laidLooks := .later }
def CookieLastUptoCardSaid : Prop := Claim7.holds Tryz.pinned (.plain (OpenSpec.upto cookieLastSpec)) cookieLastUptoCard

/-- THE SECOND FORM's CARD OF 'gingersnaplaw.GoesBack'. -/
def goesBackUptoCard : Claim7 := { stood := { row := goesBackUptoRow, standIns := [], harness := (true, "31d18d29e62cbe54e6466b12ea8851fb9f43831fc9a5867f1544ca2b102fad29"), looks := true }, kinds := [], alts := [], laidByText := true, laidKinds := [.data, .data, .data, .data, .sentinel, .sentinel, .pinned], laidTests := true, laidLooks := .later }
def GoesBackUptoCardSaid : Prop := Claim7.holds Tryz.pinned (.plain (OpenSpec.upto goesBackSpec)) goesBackUptoCard
end Rows
end Go.Proofs.YtkgdkpiacencjaaGreatDoor
