/-
  DERIVED. GIVEN WITH THE SEED: THE CARDS: each row of YthhgfhdmfhnklaaGreatDoorRows.lean that lists a variable, with what it lists TIED to the program's text (the seventh form; the later family's looks); each row that meets fmt, with fmt's text TOLD by the authors' own Lean function (tested against real Go, not proved from fmt's source: count such statements apart). THE CARD IS WHAT COUNTS. Prove the row's statement (the work); the ties are given (YthhgfhdmfhnklaaGreatDoorTie.lean); close each card by the builder's one call (the guide's Derived/Test/ToyasCard.lean, 'card_holds'). Laid BY PROGRAM, IN A SANDBOX (cutbox-door.mjs). By AI agents, Wed Nov 11 2026. No macro, syntax, notation, axiom, sorry.
-/
import Derived.Test.YthhgfhdmfhnklaaGreatDoorRows
import GoSem.ClaimSeven
namespace Go.Proofs.YthhgfhdmfhnklaaGreatDoor
namespace Rows

/-- THE TIED CARD OF 'faultlinelaw41.ProofVerifies'. -/
def proofVerifiesCard : Claim7 := { stood := { row := proofVerifiesRow, standIns := [], harness := (true, "72849750d9c3a3f0cf628f03777178c41409f81fbad5989d15d173582ebc79af"), looks := true }, kinds := [], alts := [], laidByText := true, laidKinds := [.data, .data, .data, .data, .pinned], laidTests := true, laidLooks := .later }
def ProofVerifiesCardSaid : Prop := Claim7.holds Tryz.pinned (.plain (OpenSpec.ofChange proofVerifiesSpec)) proofVerifiesCard

/-- THE TIED CARD OF 'faultlinelaw41.ProofMakes'. -/
def proofMakesCard : Claim7 := { stood := { row := proofMakesRow, standIns := [], harness := (true, "72849750d9c3a3f0cf628f03777178c41409f81fbad5989d15d173582ebc79af"), looks := true }, kinds := [], alts := [], laidByText := true, laidKinds := [.data, .data, .data, .data, .pinned], laidTests := true, laidLooks := .later }
def ProofMakesCardSaid : Prop := Claim7.holds Tryz.pinned (.plain (OpenSpec.ofChange proofMakesSpec)) proofMakesCard

/-- THE TIED CARD OF 'faultlinelaw41.ProofDeeper'. -/
def proofDeeperCard : Claim7 := { stood := { row := proofDeeperRow, standIns := [], harness := (true, "72849750d9c3a3f0cf628f03777178c41409f81fbad5989d15d173582ebc79af"), looks := true }, kinds := [], alts := [], laidByText := true, laidKinds := [.data, .data, .data, .data, .pinned], laidTests := true, laidLooks := .later }
def ProofDeeperCardSaid : Prop := Claim7.holds Tryz.pinned (.plain (OpenSpec.ofChange proofDeeperSpec)) proofDeeperCard

/-- THE TIED CARD OF 'faultlinelaw41.ProofComputes'. -/
def proofComputesCard : Claim7 := { stood := { row := proofComputesRow, standIns := [], harness := (true, "72849750d9c3a3f0cf628f03777178c41409f81fbad5989d15d173582ebc79af"), looks := true }, kinds := [], alts := [], laidByText := true, laidKinds := [.data, .data, .data, .data, .pinned], laidTests := true, laidLooks := .later }
def ProofComputesCardSaid : Prop := Claim7.holds Tryz.pinned (.plain (OpenSpec.ofChange proofComputesSpec)) proofComputesCard

/-- THE TIED CARD OF 'faultlinelaw41.ProofRight'. -/
def proofRightCard : Claim7 := { stood := { row := proofRightRow, standIns := [], harness := (true, "72849750d9c3a3f0cf628f03777178c41409f81fbad5989d15d173582ebc79af"), looks := true }, kinds := [], alts := [], laidByText := true, laidKinds := [.data, .data, .data, .data, .pinned], laidTests := true, laidLooks := .later }
def ProofRightCardSaid : Prop := Claim7.holds Tryz.pinned (.plain (OpenSpec.ofChange proofRightSpec)) proofRightCard

/-- THE TIED CARD OF 'faultlinelaw41.ProofNarrows'. -/
def proofNarrowsCard : Claim7 := { stood := { row := proofNarrowsRow, standIns := [], harness := (true, "72849750d9c3a3f0cf628f03777178c41409f81fbad5989d15d173582ebc79af"), looks := true }, kinds := [], alts := [], laidByText := true, laidKinds := [.data, .data, .data, .data, .pinned], laidTests := true, laidLooks := .later }
def ProofNarrowsCardSaid : Prop := Claim7.holds Tryz.pinned (.plain (OpenSpec.ofChange proofNarrowsSpec)) proofNarrowsCard

/-- THE SECOND FORM's CARD OF 'faultlinelaw41.ProofVerifies'. -/
def proofVerifiesUptoCard : Claim7 := { stood := { row := proofVerifiesUptoRow, standIns := [], harness := (true, "72849750d9c3a3f0cf628f03777178c41409f81fbad5989d15d173582ebc79af"), looks := true }, kinds := [], alts := [], laidByText := true, laidKinds := [.data, .data, .data, .data, .pinned], laidTests := true, laidLooks := .later }
def ProofVerifiesUptoCardSaid : Prop := Claim7.holds Tryz.pinned (.plain (OpenSpec.upto proofVerifiesSpec)) proofVerifiesUptoCard

/-- THE SECOND FORM's CARD OF 'faultlinelaw41.ProofMakes'. -/
def proofMakesUptoCard : Claim7 := { stood := { row := proofMakesUptoRow, standIns := [], harness := (true, "72849750d9c3a3f0cf628f03777178c41409f81fbad5989d15d173582ebc79af"), looks := true }, kinds := [], alts := [], laidByText := true, laidKinds := [.data, .data, .data, .data, .pinned], laidTests := true, laidLooks := .later }
def ProofMakesUptoCardSaid : Prop := Claim7.holds Tryz.pinned (.plain (OpenSpec.upto proofMakesSpec)) proofMakesUptoCard

/-- THE SECOND FORM's CARD OF 'faultlinelaw41.ProofDeeper'. -/
def proofDeeperUptoCard : Claim7 := { stood := { row := proofDeeperUptoRow, standIns := [], harness := (true, "72849750d9c3a3f0cf628f03777178c41409f81fbad5989d15d173582ebc79af"), looks := true }, kinds := [], alts := [], laidByText := true, laidKinds := [.data, .data, .data, .data, .pinned], laidTests := true, laidLooks := .later }
def ProofDeeperUptoCardSaid : Prop := Claim7.holds Tryz.pinned (.plain (OpenSpec.upto proofDeeperSpec)) proofDeeperUptoCard

/-- THE SECOND FORM's CARD OF 'faultlinelaw41.ProofComputes'. -/
def proofComputesUptoCard : Claim7 := { stood := { row := proofComputesUptoRow, standIns := [], harness := (true, "72849750d9c3a3f0cf628f03777178c41409f81fbad5989d15d173582ebc79af"), looks := true }, kinds := [], alts := [], laidByText := true, laidKinds := [.data, .data, .data, .data, .pinned], laidTests := true, laidLooks := .later }
def ProofComputesUptoCardSaid : Prop := Claim7.holds Tryz.pinned (.plain (OpenSpec.upto proofComputesSpec)) proofComputesUptoCard

/-- THE SECOND FORM's CARD OF 'faultlinelaw41.ProofRight'. -/
def proofRightUptoCard : Claim7 := { stood := { row := proofRightUptoRow, standIns := [], harness := (true, "72849750d9c3a3f0cf628f03777178c41409f81fbad5989d15d173582ebc79af"), looks := true }, kinds := [], alts := [], laidByText := true, laidKinds := [.data, .data, .data, .data, .pinned], laidTests := true, laidLooks := .later }
def ProofRightUptoCardSaid : Prop := Claim7.holds Tryz.pinned (.plain (OpenSpec.upto proofRightSpec)) proofRightUptoCard

/-- THE SECOND FORM's CARD OF 'faultlinelaw41.ProofNarrows'. -/
def proofNarrowsUptoCard : Claim7 := { stood := { row := proofNarrowsUptoRow, standIns := [], harness := (true, "72849750d9c3a3f0cf628f03777178c41409f81fbad5989d15d173582ebc79af"), looks := true }, kinds := [], alts := [], laidByText := true, laidKinds := [.data, .data, .data, .data, .pinned], laidTests := true, laidLooks := .later }
def ProofNarrowsUptoCardSaid : Prop := Claim7.holds Tryz.pinned (.plain (OpenSpec.upto proofNarrowsSpec)) proofNarrowsUptoCard
end Rows
end Go.Proofs.YthhgfhdmfhnklaaGreatDoor
