/-
  DERIVED. GIVEN WITH THE SEED: THE CARDS: each row of YtkgdkpiacencjaaDoorRows.lean that lists a variable, with what it lists TIED to the program's text (the seventh form; the later family's looks); each row that meets fmt, with fmt's text TOLD by the authors' own Lean function (tested against real Go, not proved from fmt's source: count such statements apart). THE CARD IS WHAT COUNTS. Prove the row's statement (the work); the ties are given (YtkgdkpiacencjaaDoorTie.lean); close each card by the builder's one call (the guide's Derived/Test/ToyasCard.lean, 'card_holds'). Laid BY PROGRAM, IN A SANDBOX (cutbox-door.mjs). By AI agents, Wed Nov 11 2026. No macro, syntax, notation, axiom, sorry.
-/
import Derived.Test.YtkgdkpiacencjaaDoorRows
import GoSem.ClaimSeven
namespace Go.Proofs.YtkgdkpiacencjaaDoor
namespace Rows

/-- THE TIED CARD OF 'gingersnaplaw.GoesTells'. -/
def goesTellsCard : Claim7 := { stood := { row := goesTellsRow, standIns := [], harness := (true, "d79eec8b65c2010acbfb82aeb9ce21ba53a0a4a3fdca372688ace16289dc49e6"), looks := true }, kinds := [], alts := [], laidByText := true, laidKinds := [.data, .data, .data, .sentinel, .sentinel], laidTests := true, laidLooks := .later }
def GoesTellsCardSaid : Prop := Claim7.holds Tryd.pinned (.plain (OpenSpec.ofChange goesTellsSpec)) goesTellsCard

/-- THE TIED CARD OF 'gingersnaplaw.GoesLess'. -/
def goesLessCard : Claim7 := { stood := { row := goesLessRow, standIns := [], harness := (true, "d79eec8b65c2010acbfb82aeb9ce21ba53a0a4a3fdca372688ace16289dc49e6"), looks := true }, kinds := [], alts := [], laidByText := true, laidKinds := [.data, .data, .data, .sentinel, .sentinel], laidTests := true, laidLooks := .later }
def GoesLessCardSaid : Prop := Claim7.holds Tryd.pinned (.plain (OpenSpec.ofChange goesLessSpec)) goesLessCard

/-- THE TIED CARD OF 'gingersnaplaw.GoesDeeper'. -/
def goesDeeperCard : Claim7 := { stood := { row := goesDeeperRow, standIns := [], harness := (true, "d79eec8b65c2010acbfb82aeb9ce21ba53a0a4a3fdca372688ace16289dc49e6"), looks := true }, kinds := [], alts := [], laidByText := true, laidKinds := [.data, .data, .data, .sentinel, .sentinel], laidTests := true, laidLooks := .later }
def GoesDeeperCardSaid : Prop := Claim7.holds Tryd.pinned (.plain (OpenSpec.ofChange goesDeeperSpec)) goesDeeperCard

/-- THE TIED CARD OF 'gingersnaplaw.HostTells'. -/
def hostTellsCard : Claim7 := { stood := { row := hostTellsRow, standIns := [], harness := (true, "d79eec8b65c2010acbfb82aeb9ce21ba53a0a4a3fdca372688ace16289dc49e6"), looks := true }, kinds := [], alts := [], laidByText := true, laidKinds := [.data, .data, .data, .sentinel, .sentinel], laidTests := true, laidLooks := .later }
def HostTellsCardSaid : Prop := Claim7.holds Tryd.pinned (.plain (OpenSpec.ofChange hostTellsSpec)) hostTellsCard

/-- THE TIED CARD OF 'gingersnaplaw.HostTwice'. -/
def hostTwiceCard : Claim7 := { stood := { row := hostTwiceRow, standIns := [], harness := (true, "d79eec8b65c2010acbfb82aeb9ce21ba53a0a4a3fdca372688ace16289dc49e6"), looks := true }, kinds := [], alts := [], laidByText := true, laidKinds := [.data, .data, .data, .sentinel, .sentinel], laidTests := true, laidLooks := .later }
def HostTwiceCardSaid : Prop := Claim7.holds Tryd.pinned (.plain (OpenSpec.ofChange hostTwiceSpec)) hostTwiceCard

/-- THE TIED CARD OF 'gingersnaplaw.MatchOrder'. -/
def matchOrderCard : Claim7 := { stood := { row := matchOrderRow, standIns := [], harness := (true, "d79eec8b65c2010acbfb82aeb9ce21ba53a0a4a3fdca372688ace16289dc49e6"), looks := true }, kinds := [], alts := [], laidByText := true, laidKinds := [.data, .data, .data, .sentinel, .sentinel], laidTests := true, laidLooks := .later }
def MatchOrderCardSaid : Prop := Claim7.holds Tryd.pinned (.plain (OpenSpec.ofChange matchOrderSpec)) matchOrderCard

/-- THE TIED CARD OF 'gingersnaplaw.MatchChain'. -/
def matchChainCard : Claim7 := { stood := { row := matchChainRow, standIns := [], harness := (true, "d79eec8b65c2010acbfb82aeb9ce21ba53a0a4a3fdca372688ace16289dc49e6"), looks := true }, kinds := [], alts := [], laidByText := true, laidKinds := [.data, .data, .data, .sentinel, .sentinel], laidTests := true, laidLooks := .later }
def MatchChainCardSaid : Prop := Claim7.holds Tryd.pinned (.plain (OpenSpec.ofChange matchChainSpec)) matchChainCard

/-- THE TIED CARD OF 'gingersnaplaw.SuffixTells'. -/
def suffixTellsCard : Claim7 := { stood := { row := suffixTellsRow, standIns := [], harness := (true, "d79eec8b65c2010acbfb82aeb9ce21ba53a0a4a3fdca372688ace16289dc49e6"), looks := true }, kinds := [], alts := [], laidByText := true, laidKinds := [.data, .data, .data, .sentinel, .sentinel], laidTests := true, laidLooks := .later }
def SuffixTellsCardSaid : Prop := Claim7.holds Tryd.pinned (.plain (OpenSpec.ofChange suffixTellsSpec)) suffixTellsCard

/-- THE TIED CARD OF 'gingersnaplaw.OwnerTwice'. -/
def ownerTwiceCard : Claim7 := { stood := { row := ownerTwiceRow, standIns := [], harness := (true, "d79eec8b65c2010acbfb82aeb9ce21ba53a0a4a3fdca372688ace16289dc49e6"), looks := true }, kinds := [], alts := [], laidByText := true, laidKinds := [.data, .data, .data, .sentinel, .sentinel], laidTests := true, laidLooks := .later }
def OwnerTwiceCardSaid : Prop := Claim7.holds Tryd.pinned (.plain (OpenSpec.ofChange ownerTwiceSpec)) ownerTwiceCard

/-- THE TIED CARD OF 'gingersnaplaw.OwnerSame'. -/
def ownerSameCard : Claim7 := { stood := { row := ownerSameRow, standIns := [], harness := (true, "d79eec8b65c2010acbfb82aeb9ce21ba53a0a4a3fdca372688ace16289dc49e6"), looks := true }, kinds := [], alts := [], laidByText := true, laidKinds := [.data, .data, .data, .sentinel, .sentinel], laidTests := true, laidLooks := .later }
def OwnerSameCardSaid : Prop := Claim7.holds Tryd.pinned (.plain (OpenSpec.ofChange ownerSameSpec)) ownerSameCard

/-- THE SECOND FORM's CARD OF 'gingersnaplaw.GoesTells'. -/
def goesTellsUptoCard : Claim7 := { stood := { row := goesTellsUptoRow, standIns := [], harness := (true, "d79eec8b65c2010acbfb82aeb9ce21ba53a0a4a3fdca372688ace16289dc49e6"), looks := true }, kinds := [], alts := [], laidByText := true, laidKinds := [.data, .data, .data, .sentinel, .sentinel], laidTests := true, laidLooks := .later }
def GoesTellsUptoCardSaid : Prop := Claim7.holds Tryd.pinned (.plain (OpenSpec.upto goesTellsSpec)) goesTellsUptoCard

/-- THE SECOND FORM's CARD OF 'gingersnaplaw.GoesLess'. -/
def goesLessUptoCard : Claim7 := { stood := { row := goesLessUptoRow, standIns := [], harness := (true, "d79eec8b65c2010acbfb82aeb9ce21ba53a0a4a3fdca372688ace16289dc49e6"), looks := true }, kinds := [], alts := [], laidByText := true, laidKinds := [.data, .data, .data, .sentinel, .sentinel], laidTests := true, laidLooks := .later }
def GoesLessUptoCardSaid : Prop := Claim7.holds Tryd.pinned (.plain (OpenSpec.upto goesLessSpec)) goesLessUptoCard

/-- THE SECOND FORM's CARD OF 'gingersnaplaw.GoesDeeper'. -/
def goesDeeperUptoCard : Claim7 := { stood := { row := goesDeeperUptoRow, standIns := [], harness := (true, "d79eec8b65c2010acbfb82aeb9ce21ba53a0a4a3fdca372688ace16289dc49e6"), looks := true }, kinds := [], alts := [], laidByText := true, laidKinds := [.data, .data, .data, .sentinel, .sentinel], laidTests := true, laidLooks := .later }
def GoesDeeperUptoCardSaid : Prop := Claim7.holds Tryd.pinned (.plain (OpenSpec.upto goesDeeperSpec)) goesDeeperUptoCard

/-- THE SECOND FORM's CARD OF 'gingersnaplaw.HostTells'. -/
def hostTellsUptoCard : Claim7 := { stood := { row := hostTellsUptoRow, standIns := [], harness := (true, "d79eec8b65c2010acbfb82aeb9ce21ba53a0a4a3fdca372688ace16289dc49e6"), looks := true }, kinds := [], alts := [], laidByText := true, laidKinds := [.data, .data, .data, .sentinel, .sentinel], laidTests := true, laidLooks := .later }
def HostTellsUptoCardSaid : Prop := Claim7.holds Tryd.pinned (.plain (OpenSpec.upto hostTellsSpec)) hostTellsUptoCard

/-- THE SECOND FORM's CARD OF 'gingersnaplaw.HostTwice'. -/
def hostTwiceUptoCard : Claim7 := { stood := { row := hostTwiceUptoRow, standIns := [], harness := (true, "d79eec8b65c2010acbfb82aeb9ce21ba53a0a4a3fdca372688ace16289dc49e6"), looks := true }, kinds := [], alts := [], laidByText := true, laidKinds := [.data, .data, .data, .sentinel, .sentinel], laidTests := true, laidLooks := .later }
def HostTwiceUptoCardSaid : Prop := Claim7.holds Tryd.pinned (.plain (OpenSpec.upto hostTwiceSpec)) hostTwiceUptoCard

/-- THE SECOND FORM's CARD OF 'gingersnaplaw.MatchOrder'. -/
def matchOrderUptoCard : Claim7 := { stood := { row := matchOrderUptoRow, standIns := [], harness := (true, "d79eec8b65c2010acbfb82aeb9ce21ba53a0a4a3fdca372688ace16289dc49e6"), looks := true }, kinds := [], alts := [], laidByText := true, laidKinds := [.data, .data, .data, .sentinel, .sentinel], laidTests := true, laidLooks := .later }
def MatchOrderUptoCardSaid : Prop := Claim7.holds Tryd.pinned (.plain (OpenSpec.upto matchOrderSpec)) matchOrderUptoCard

/-- THE SECOND FORM's CARD OF 'gingersnaplaw.MatchChain'. -/
def matchChainUptoCard : Claim7 := { stood := { row := matchChainUptoRow, standIns := [], harness := (true, "d79eec8b65c2010acbfb82aeb9ce21ba53a0a4a3fdca372688ace16289dc49e6"), looks := true }, kinds := [], alts := [], laidByText := true, laidKinds := [.data, .data, .data, .sentinel, .sentinel], laidTests := true, laidLooks := .later }
def MatchChainUptoCardSaid : Prop := Claim7.holds Tryd.pinned (.plain (OpenSpec.upto matchChainSpec)) matchChainUptoCard

/-- THE SECOND FORM's CARD OF 'gingersnaplaw.SuffixTells'. -/
def suffixTellsUptoCard : Claim7 := { stood := { row := suffixTellsUptoRow, standIns := [], harness := (true, "d79eec8b65c2010acbfb82aeb9ce21ba53a0a4a3fdca372688ace16289dc49e6"), looks := true }, kinds := [], alts := [], laidByText := true, laidKinds := [.data, .data, .data, .sentinel, .sentinel], laidTests := true, laidLooks := .later }
def SuffixTellsUptoCardSaid : Prop := Claim7.holds Tryd.pinned (.plain (OpenSpec.upto suffixTellsSpec)) suffixTellsUptoCard

/-- THE SECOND FORM's CARD OF 'gingersnaplaw.OwnerTwice'. -/
def ownerTwiceUptoCard : Claim7 := { stood := { row := ownerTwiceUptoRow, standIns := [], harness := (true, "d79eec8b65c2010acbfb82aeb9ce21ba53a0a4a3fdca372688ace16289dc49e6"), looks := true }, kinds := [], alts := [], laidByText := true, laidKinds := [.data, .data, .data, .sentinel, .sentinel], laidTests := true, laidLooks := .later }
def OwnerTwiceUptoCardSaid : Prop := Claim7.holds Tryd.pinned (.plain (OpenSpec.upto ownerTwiceSpec)) ownerTwiceUptoCard

/-- THE SECOND FORM's CARD OF 'gingersnaplaw.OwnerSame'. -/
def ownerSameUptoCard : Claim7 := { stood := { row := ownerSameUptoRow, standIns := [], harness := (true, "d79eec8b65c2010acbfb82aeb9ce21ba53a0a4a3fdca372688ace16289dc49e6"), looks := true }, kinds := [], alts := [], laidByText := true, laidKinds := [.data, .data, .data, .sentinel, .sentinel], laidTests := true, laidLooks := .later }
def OwnerSameUptoCardSaid : Prop := Claim7.holds Tryd.pinned (.plain (OpenSpec.upto ownerSameSpec)) ownerSameUptoCard
end Rows
end Go.Proofs.YtkgdkpiacencjaaDoor
