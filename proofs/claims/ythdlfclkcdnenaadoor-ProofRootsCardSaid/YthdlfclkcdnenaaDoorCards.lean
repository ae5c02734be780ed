/-
  DERIVED. GIVEN WITH THE SEED: THE CARDS: each row of YthdlfclkcdnenaaDoorRows.lean that lists a variable, with what it lists TIED to the program's text (the seventh form; the later family's looks); each row that meets fmt, with fmt's text TOLD by the authors' own Lean function (tested against real Go, not proved from fmt's source: count such statements apart). THE CARD IS WHAT COUNTS. Prove the row's statement (the work); the ties are given (YthdlfclkcdnenaaDoorTie.lean); close each card by the builder's one call (the guide's Derived/Test/ToyasCard.lean, 'card_holds'). Laid BY PROGRAM, IN A SANDBOX (cutbox-door.mjs). By AI agents, Wed Nov 11 2026. No macro, syntax, notation, axiom, sorry.
-/
import Derived.Test.YthdlfclkcdnenaaDoorRows
import GoSem.ClaimSeven
namespace Go.Proofs.YthdlfclkcdnenaaDoor
namespace Rows

/-- THE TIED CARD OF 'juratlaw09.LedgerFull'. -/
def ledgerFullCard : Claim7 := { stood := { row := ledgerFullRow, standIns := [], harness := (true, "c92a12add0dfd28e4bd25d7f01d48e3e9090b4f7da87768a99996404527764f5"), looks := false }, kinds := [], alts := [], laidByText := true, laidKinds := [.data, .data], laidTests := true, laidLooks := .later }
def LedgerFullCardSaid : Prop := Claim7.holds Tryd.pinned (.plain (OpenSpec.ofChange ledgerFullSpec)) ledgerFullCard

/-- THE TIED CARD OF 'juratlaw08.ProofRoots'. -/
def proofRootsCard : Claim7 := { stood := { row := proofRootsRow, standIns := [], harness := (true, "c92a12add0dfd28e4bd25d7f01d48e3e9090b4f7da87768a99996404527764f5"), looks := false }, kinds := [], alts := [], laidByText := true, laidKinds := [.data, .data, .data, .data], laidTests := true, laidLooks := .later }
def ProofRootsCardSaid : Prop := Claim7.holds Tryd.pinned (.plain (OpenSpec.ofChange proofRootsSpec)) proofRootsCard

/-- THE TIED CARD OF 'juratlaw08.ProofGrows'. -/
def proofGrowsCard : Claim7 := { stood := { row := proofGrowsRow, standIns := [], harness := (true, "c92a12add0dfd28e4bd25d7f01d48e3e9090b4f7da87768a99996404527764f5"), looks := false }, kinds := [], alts := [], laidByText := true, laidKinds := [.data, .data], laidTests := true, laidLooks := .later }
def ProofGrowsCardSaid : Prop := Claim7.holds Tryd.pinned (.plain (OpenSpec.ofChange proofGrowsSpec)) proofGrowsCard

/-- THE TIED CARD OF 'juratlaw08.ProofMakes'. -/
def proofMakesCard : Claim7 := { stood := { row := proofMakesRow, standIns := [], harness := (true, "c92a12add0dfd28e4bd25d7f01d48e3e9090b4f7da87768a99996404527764f5"), looks := false }, kinds := [], alts := [], laidByText := true, laidKinds := [.data, .data, .data, .data], laidTests := true, laidLooks := .later }
def ProofMakesCardSaid : Prop := Claim7.holds Tryd.pinned (.plain (OpenSpec.ofChange proofMakesSpec)) proofMakesCard

/-- THE TIED CARD OF 'juratlaw08.ProofShort'. -/
def proofShortCard : Claim7 := { stood := { row := proofShortRow, standIns := [], harness := (true, "c92a12add0dfd28e4bd25d7f01d48e3e9090b4f7da87768a99996404527764f5"), looks := false }, kinds := [], alts := [], laidByText := true, laidKinds := [.data, .data], laidTests := true, laidLooks := .later }
def ProofShortCardSaid : Prop := Claim7.holds Tryd.pinned (.plain (OpenSpec.ofChange proofShortSpec)) proofShortCard

/-- THE TIED CARD OF 'juratlaw08.ProofIncluded'. -/
def proofIncludedCard : Claim7 := { stood := { row := proofIncludedRow, standIns := [], harness := (true, "c92a12add0dfd28e4bd25d7f01d48e3e9090b4f7da87768a99996404527764f5"), looks := false }, kinds := [], alts := [], laidByText := true, laidKinds := [.data, .data, .data, .data], laidTests := true, laidLooks := .later }
def ProofIncludedCardSaid : Prop := Claim7.holds Tryd.pinned (.plain (OpenSpec.ofChange proofIncludedSpec)) proofIncludedCard

/-- THE TIED CARD OF 'juratlaw08.ProofConsistent'. -/
def proofConsistentCard : Claim7 := { stood := { row := proofConsistentRow, standIns := [], harness := (true, "c92a12add0dfd28e4bd25d7f01d48e3e9090b4f7da87768a99996404527764f5"), looks := false }, kinds := [], alts := [], laidByText := true, laidKinds := [.data, .data, .data, .data], laidTests := true, laidLooks := .later }
def ProofConsistentCardSaid : Prop := Claim7.holds Tryd.pinned (.plain (OpenSpec.ofChange proofConsistentSpec)) proofConsistentCard

/-- THE TIED CARD OF 'juratlaw09.LedgerIncludes'. -/
def ledgerIncludesCard : Claim7 := { stood := { row := ledgerIncludesRow, standIns := [], harness := (true, "c92a12add0dfd28e4bd25d7f01d48e3e9090b4f7da87768a99996404527764f5"), looks := false }, kinds := [], alts := [], laidByText := true, laidKinds := [.data, .data], laidTests := true, laidLooks := .later }
def LedgerIncludesCardSaid : Prop := Claim7.holds Tryd.pinned (.plain (OpenSpec.ofChange ledgerIncludesSpec)) ledgerIncludesCard

/-- THE TIED CARD OF 'juratlaw09.LedgerOwn'. -/
def ledgerOwnCard : Claim7 := { stood := { row := ledgerOwnRow, standIns := [], harness := (true, "c92a12add0dfd28e4bd25d7f01d48e3e9090b4f7da87768a99996404527764f5"), looks := false }, kinds := [], alts := [], laidByText := true, laidKinds := [.data, .data], laidTests := true, laidLooks := .later }
def LedgerOwnCardSaid : Prop := Claim7.holds Tryd.pinned (.plain (OpenSpec.ofChange ledgerOwnSpec)) ledgerOwnCard

/-- THE TIED CARD OF 'juratlaw08.ProofBack'. -/
def proofBackCard : Claim7 := { stood := { row := proofBackRow, standIns := [], harness := (true, "c92a12add0dfd28e4bd25d7f01d48e3e9090b4f7da87768a99996404527764f5"), looks := false }, kinds := [], alts := [], laidByText := true, laidKinds := [.data, .data], laidTests := true, laidLooks := .later }
def ProofBackCardSaid : Prop := Claim7.holds Tryd.pinned (.plain (OpenSpec.ofChange proofBackSpec)) proofBackCard

/-- THE TIED CARD OF 'juratlaw09.LedgerPlays'. -/
def ledgerPlaysCard : Claim7 := { stood := { row := ledgerPlaysRow, standIns := [], harness := (true, "c92a12add0dfd28e4bd25d7f01d48e3e9090b4f7da87768a99996404527764f5"), looks := false }, kinds := [], alts := [], laidByText := true, laidKinds := [.data, .data, .data, .data], laidTests := true, laidLooks := .later }
def LedgerPlaysCardSaid : Prop := Claim7.holds Tryd.pinned (.plain (OpenSpec.ofChange ledgerPlaysSpec)) ledgerPlaysCard

/-- THE TIED CARD OF 'juratlaw09.LedgerStays'. -/
def ledgerStaysCard : Claim7 := { stood := { row := ledgerStaysRow, standIns := [], harness := (true, "c92a12add0dfd28e4bd25d7f01d48e3e9090b4f7da87768a99996404527764f5"), looks := false }, kinds := [], alts := [], laidByText := true, laidKinds := [.data, .data], laidTests := true, laidLooks := .later }
def LedgerStaysCardSaid : Prop := Claim7.holds Tryd.pinned (.plain (OpenSpec.ofChange ledgerStaysSpec)) ledgerStaysCard

/-- THE TIED CARD OF 'juratlaw09.LedgerNil'. -/
def ledgerNilCard : Claim7 := { stood := { row := ledgerNilRow, standIns := [], harness := (true, "c92a12add0dfd28e4bd25d7f01d48e3e9090b4f7da87768a99996404527764f5"), looks := false }, kinds := [], alts := [], laidByText := true, laidKinds := [.data, .data], laidTests := true, laidLooks := .later }
def LedgerNilCardSaid : Prop := Claim7.holds Tryd.pinned (.plain (OpenSpec.ofChange ledgerNilSpec)) ledgerNilCard

/-- THE TIED CARD OF 'juratlaw09.LedgerConsists'. -/
def ledgerConsistsCard : Claim7 := { stood := { row := ledgerConsistsRow, standIns := [], harness := (true, "c92a12add0dfd28e4bd25d7f01d48e3e9090b4f7da87768a99996404527764f5"), looks := false }, kinds := [], alts := [], laidByText := true, laidKinds := [.data, .data], laidTests := true, laidLooks := .later }
def LedgerConsistsCardSaid : Prop := Claim7.holds Tryd.pinned (.plain (OpenSpec.ofChange ledgerConsistsSpec)) ledgerConsistsCard

/-- THE SECOND FORM's CARD OF 'juratlaw09.LedgerFull'. -/
def ledgerFullUptoCard : Claim7 := { stood := { row := ledgerFullUptoRow, standIns := [], harness := (true, "c92a12add0dfd28e4bd25d7f01d48e3e9090b4f7da87768a99996404527764f5"), looks := false }, kinds := [], alts := [], laidByText := true, laidKinds := [.data, .data], laidTests := true, laidLooks := .later }
def LedgerFullUptoCardSaid : Prop := Claim7.holds Tryd.pinned (.plain (OpenSpec.upto ledgerFullSpec)) ledgerFullUptoCard

/-- THE SECOND FORM's CARD OF 'juratlaw08.ProofRoots'. -/
def proofRootsUptoCard : Claim7 := { stood := { row := proofRootsUptoRow, standIns := [], harness := (true, "c92a12add0dfd28e4bd25d7f01d48e3e9090b4f7da87768a99996404527764f5"), looks := false }, kinds := [], alts := [], laidByText := true, laidKinds := [.data, .data, .data, .data], laidTests := true, laidLooks := .later }
def ProofRootsUptoCardSaid : Prop := Claim7.holds Tryd.pinned (.plain (OpenSpec.upto proofRootsSpec)) proofRootsUptoCard

/-- THE SECOND FORM's CARD OF 'juratlaw08.ProofGrows'. -/
def proofGrowsUptoCard : Claim7 := { stood := { row := proofGrowsUptoRow, standIns := [], harness := (true, "c92a12add0dfd28e4bd25d7f01d48e3e9090b4f7da87768a99996404527764f5"), looks := false }, kinds := [], alts := [], laidByText := true, laidKinds := [.data, .data], laidTests := true, laidLooks := .later }
def ProofGrowsUptoCardSaid : Prop := Claim7.holds Tryd.pinned (.plain (OpenSpec.upto proofGrowsSpec)) proofGrowsUptoCard

/-- THE SECOND FORM's CARD OF 'juratlaw08.ProofMakes'. -/
def proofMakesUptoCard : Claim7 := { stood := { row := proofMakesUptoRow, standIns := [], harness := (true, "c92a12add0dfd28e4bd25d7f01d48e3e9090b4f7da87768a99996404527764f5"), looks := false }, kinds := [], alts := [], laidByText := true, laidKinds := [.data, .data, .data, .data], laidTests := true, laidLooks := .later }
def ProofMakesUptoCardSaid : Prop := Claim7.holds Tryd.pinned (.plain (OpenSpec.upto proofMakesSpec)) proofMakesUptoCard

/-- THE SECOND FORM's CARD OF 'juratlaw08.ProofShort'. -/
def proofShortUptoCard : Claim7 := { stood := { row := proofShortUptoRow, standIns := [], harness := (true, "c92a12add0dfd28e4bd25d7f01d48e3e9090b4f7da87768a99996404527764f5"), looks := false }, kinds := [], alts := [], laidByText := true, laidKinds := [.data, .data], laidTests := true, laidLooks := .later }
def ProofShortUptoCardSaid : Prop := Claim7.holds Tryd.pinned (.plain (OpenSpec.upto proofShortSpec)) proofShortUptoCard

/-- THE SECOND FORM's CARD OF 'juratlaw08.ProofIncluded'. -/
def proofIncludedUptoCard : Claim7 := { stood := { row := proofIncludedUptoRow, standIns := [], harness := (true, "c92a12add0dfd28e4bd25d7f01d48e3e9090b4f7da87768a99996404527764f5"), looks := false }, kinds := [], alts := [], laidByText := true, laidKinds := [.data, .data, .data, .data], laidTests := true, laidLooks := .later }
def ProofIncludedUptoCardSaid : Prop := Claim7.holds Tryd.pinned (.plain (OpenSpec.upto proofIncludedSpec)) proofIncludedUptoCard

/-- THE SECOND FORM's CARD OF 'juratlaw08.ProofConsistent'. -/
def proofConsistentUptoCard : Claim7 := { stood := { row := proofConsistentUptoRow, standIns := [], harness := (true, "c92a12add0dfd28e4bd25d7f01d48e3e9090b4f7da87768a99996404527764f5"), looks := false }, kinds := [], alts := [], laidByText := true, laidKinds := [.data, .data, .data, .data], laidTests := true, laidLooks := .later }
def ProofConsistentUptoCardSaid : Prop := Claim7.holds Tryd.pinned (.plain (OpenSpec.upto proofConsistentSpec)) proofConsistentUptoCard

/-- THE SECOND FORM's CARD OF 'juratlaw09.LedgerIncludes'. -/
def ledgerIncludesUptoCard : Claim7 := { stood := { row := ledgerIncludesUptoRow, standIns := [], harness := (true, "c92a12add0dfd28e4bd25d7f01d48e3e9090b4f7da87768a99996404527764f5"), looks := false }, kinds := [], alts := [], laidByText := true, laidKinds := [.data, .data], laidTests := true, laidLooks := .later }
def LedgerIncludesUptoCardSaid : Prop := Claim7.holds Tryd.pinned (.plain (OpenSpec.upto ledgerIncludesSpec)) ledgerIncludesUptoCard

/-- THE SECOND FORM's CARD OF 'juratlaw09.LedgerOwn'. -/
def ledgerOwnUptoCard : Claim7 := { stood := { row := ledgerOwnUptoRow, standIns := [], harness := (true, "c92a12add0dfd28e4bd25d7f01d48e3e9090b4f7da87768a99996404527764f5"), looks := false }, kinds := [], alts := [], laidByText := true, laidKinds := [.data, .data], laidTests := true, laidLooks := .later }
def LedgerOwnUptoCardSaid : Prop := Claim7.holds Tryd.pinned (.plain (OpenSpec.upto ledgerOwnSpec)) ledgerOwnUptoCard

/-- THE SECOND FORM's CARD OF 'juratlaw08.ProofBack'. -/
def proofBackUptoCard : Claim7 := { stood := { row := proofBackUptoRow, standIns := [], harness := (true, "c92a12add0dfd28e4bd25d7f01d48e3e9090b4f7da87768a99996404527764f5"), looks := false }, kinds := [], alts := [], laidByText := true, laidKinds := [.data, .data], laidTests := true, laidLooks := .later }
def ProofBackUptoCardSaid : Prop := Claim7.holds Tryd.pinned (.plain (OpenSpec.upto proofBackSpec)) proofBackUptoCard

/-- THE SECOND FORM's CARD OF 'juratlaw09.LedgerPlays'. -/
def ledgerPlaysUptoCard : Claim7 := { stood := { row := ledgerPlaysUptoRow, standIns := [], harness := (true, "c92a12add0dfd28e4bd25d7f01d48e3e9090b4f7da87768a99996404527764f5"), looks := false }, kinds := [], alts := [], laidByText := true, laidKinds := [.data, .data, .data, .data], laidTests := true, laidLooks := .later }
def LedgerPlaysUptoCardSaid : Prop := Claim7.holds Tryd.pinned (.plain (OpenSpec.upto ledgerPlaysSpec)) ledgerPlaysUptoCard

/-- THE SECOND FORM's CARD OF 'juratlaw09.LedgerStays'. -/
def ledgerStaysUptoCard : Claim7 := { stood := { row := ledgerStaysUptoRow, standIns := [], harness := (true, "c92a12add0dfd28e4bd25d7f01d48e3e9090b4f7da87768a99996404527764f5"), looks := false }, kinds := [], alts := [], laidByText := true, laidKinds := [.data, .data], laidTests := true, laidLooks := .later }
def LedgerStaysUptoCardSaid : Prop := Claim7.holds Tryd.pinned (.plain (OpenSpec.upto ledgerStaysSpec)) ledgerStaysUptoCard

/-- THE SECOND FORM's CARD OF 'juratlaw09.LedgerNil'. -/
def ledgerNilUptoCard : Claim7 := { stood := { row := ledgerNilUptoRow, standIns := [], harness := (true, "c92a12add0dfd28e4bd25d7f01d48e3e9090b4f7da87768a99996404527764f5"), looks := false }, kinds := [], alts := [], laidByText := true, laidKinds := [.data, .data], laidTests := true, laidLooks := .later }
def LedgerNilUptoCardSaid : Prop := Claim7.holds Tryd.pinned (.plain (OpenSpec.upto ledgerNilSpec)) ledgerNilUptoCard

/-- THE SECOND FORM's CARD OF 'juratlaw09.LedgerConsists'. -/
def ledgerConsistsUptoCard : Claim7 := { stood := { row := ledgerConsistsUptoRow, standIns := [], harness := (true, "c92a12add0dfd28e4bd25d7f01d48e3e9090b4f7da87768a99996404527764f5"), looks := false }, kinds := [], alts := [], laidByText := true, laidKinds := [.data, .data], laidTests := true, laidLooks := .later }
def LedgerConsistsUptoCardSaid : Prop := Claim7.holds Tryd.pinned (.plain (OpenSpec.upto ledgerConsistsSpec)) ledgerConsistsUptoCard
end Rows
end Go.Proofs.YthdlfclkcdnenaaDoor
