/-
  DERIVED. GIVEN WITH THE SEED: THE CARDS: each row of YtbacakgjhohedaaDoorRows.lean that lists a variable, with what it lists TIED to the program's text (the seventh form; the later family's looks); each row that meets fmt, with fmt's text TOLD by the authors' own Lean function (tested against real Go, not proved from fmt's source: count such statements apart). THE CARD IS WHAT COUNTS. Prove the row's statement (the work); the ties are given (YtbacakgjhohedaaDoorTie.lean); close each card by the builder's one call (the guide's Derived/Test/ToyasCard.lean, 'card_holds'). Laid BY PROGRAM, IN A SANDBOX (cutbox-door.mjs). By AI agents, Wed Nov 11 2026. No macro, syntax, notation, axiom, sorry.
-/
import Derived.Test.YtbacakgjhohedaaDoorRows
import GoSem.ClaimSeven
namespace Go.Proofs.YtbacakgjhohedaaDoor
namespace Rows

/-- THE TIED CARD OF 'gingersnaplaw.HeaderTells'. -/
def headerTellsCard : Claim7 := { stood := { row := headerTellsRow, standIns := [], harness := (true, "b40f2e9b07f8453bb819442fe339650ff60bf7acbdf90bc3c3f16e6787315361"), looks := false }, kinds := [], alts := [], laidByText := true, laidKinds := [.data, .pinned], laidTests := true, laidLooks := .later }
def HeaderTellsCardSaid : Prop := Claim7.holds Tryd.pinned (.plain (OpenSpec.ofChange headerTellsSpec)) headerTellsCard

/-- THE TIED CARD OF 'gingersnaplaw.HeaderBack'. -/
def headerBackCard : Claim7 := { stood := { row := headerBackRow, standIns := [], harness := (true, "b40f2e9b07f8453bb819442fe339650ff60bf7acbdf90bc3c3f16e6787315361"), looks := false }, kinds := [], alts := [], laidByText := true, laidKinds := [.data, .pinned], laidTests := true, laidLooks := .later }
def HeaderBackCardSaid : Prop := Claim7.holds Tryd.pinned (.plain (OpenSpec.ofChange headerBackSpec)) headerBackCard

/-- THE TIED CARD OF 'gingersnaplaw.HeaderTwice'. -/
def headerTwiceCard : Claim7 := { stood := { row := headerTwiceRow, standIns := [], harness := (true, "b40f2e9b07f8453bb819442fe339650ff60bf7acbdf90bc3c3f16e6787315361"), looks := false }, kinds := [], alts := [], laidByText := true, laidKinds := [.data, .pinned], laidTests := true, laidLooks := .later }
def HeaderTwiceCardSaid : Prop := Claim7.holds Tryd.pinned (.plain (OpenSpec.ofChange headerTwiceSpec)) headerTwiceCard

/-- THE TIED CARD OF 'gingersnaplaw.HeaderAdds'. -/
def headerAddsCard : Claim7 := { stood := { row := headerAddsRow, standIns := [], harness := (true, "b40f2e9b07f8453bb819442fe339650ff60bf7acbdf90bc3c3f16e6787315361"), looks := false }, kinds := [], alts := [], laidByText := true, laidKinds := [.data, .pinned], laidTests := true, laidLooks := .later }
def HeaderAddsCardSaid : Prop := Claim7.holds Tryd.pinned (.plain (OpenSpec.ofChange headerAddsSpec)) headerAddsCard

/-- THE SECOND FORM's CARD OF 'gingersnaplaw.HeaderTells'. -/
def headerTellsUptoCard : Claim7 := { stood := { row := headerTellsUptoRow, standIns := [], harness := (true, "b40f2e9b07f8453bb819442fe339650ff60bf7acbdf90bc3c3f16e6787315361"), looks := false }, kinds := [], alts := [], laidByText := true, laidKinds := [.data, .pinned], laidTests := true, laidLooks := .later }
def HeaderTellsUptoCardSaid : Prop := Claim7.holds Tryd.pinned (.plain (OpenSpec.upto headerTellsSpec)) headerTellsUptoCard

/-- THE SECOND FORM's CARD OF 'gingersnaplaw.HeaderBack'. -/
def headerBackUptoCard : Claim7 := { stood := { row := headerBackUptoRow, standIns := [], harness := (true, "b40f2e9b07f8453bb819442fe339650ff60bf7acbdf90bc3c3f16e6787315361"), looks := false }, kinds := [], alts := [], laidByText := true, laidKinds := [.data, .pinned], laidTests := true, laidLooks := .later }
def HeaderBackUptoCardSaid : Prop := Claim7.holds Tryd.pinned (.plain (OpenSpec.upto headerBackSpec)) headerBackUptoCard

/-- THE SECOND FORM's CARD OF 'gingersnaplaw.HeaderTwice'. -/
def headerTwiceUptoCard : Claim7 := { stood := { row := headerTwiceUptoRow, standIns := [], harness := (true, "b40f2e9b07f8453bb819442fe339650ff60bf7acbdf90bc3c3f16e6787315361"), looks := false }, kinds := [], alts := [], laidByText := true, laidKinds := [.data, .pinned], laidTests := true, laidLooks := .later }
def HeaderTwiceUptoCardSaid : Prop := Claim7.holds Tryd.pinned (.plain (OpenSpec.upto headerTwiceSpec)) headerTwiceUptoCard

/-- THE SECOND FORM's CARD OF 'gingersnaplaw.HeaderAdds'. -/
def headerAddsUptoCard : Claim7 := { stood := { row := headerAddsUptoRow, standIns := [], harness := (true, "b40f2e9b07f8453bb819442fe339650ff60bf7acbdf90bc3c3f16e6787315361"), looks := false }, kinds := [], alts := [], laidByText := true, laidKinds := [.data, .pinned], laidTests := true, laidLooks := .later }
def HeaderAddsUptoCardSaid : Prop := Claim7.holds Tryd.pinned (.plain (OpenSpec.upto headerAddsSpec)) headerAddsUptoCard
end Rows
end Go.Proofs.YtbacakgjhohedaaDoor
