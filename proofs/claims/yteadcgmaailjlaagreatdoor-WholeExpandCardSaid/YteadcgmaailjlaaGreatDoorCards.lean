/-
  DERIVED. GIVEN WITH THE SEED: THE CARDS: each row of YteadcgmaailjlaaGreatDoorRows.lean that lists a variable, with what it lists TIED to the program's text (the seventh form; the later family's looks); each row that meets fmt, with fmt's text TOLD by the authors' own Lean function (tested against real Go, not proved from fmt's source: count such statements apart). THE CARD IS WHAT COUNTS. Prove the row's statement (the work); the ties are given (YteadcgmaailjlaaGreatDoorTie.lean); close each card by the builder's one call (the guide's Derived/Test/ToyasCard.lean, 'card_holds'). Laid BY PROGRAM, IN A SANDBOX (cutbox-door.mjs). By AI agents, Wed Nov 11 2026. No macro, syntax, notation, axiom, sorry.
-/
import Derived.Test.YteadcgmaailjlaaGreatDoorRows
import GoSem.ClaimSeven
namespace Go.Proofs.YteadcgmaailjlaaGreatDoor
namespace Rows

/-- THE TIED CARD OF 'faultlinetop.WholeExpand'. -/
def wholeExpandCard : Claim7 := { stood := { row := wholeExpandRow, standIns := [], harness := (true, "d9e587c8b560c9a6b1ff4449c1aceed33935d06f5eef15bf28447c006932e720"), looks := true }, kinds := [], alts := [], laidByText := true, laidKinds := [.data, .data, .data, .data, .pinned], laidTests := true, laidLooks := .later }
def WholeExpandCardSaid : Prop := Claim7.holds Tryz.pinned (.plain (OpenSpec.ofChange wholeExpandSpec)) wholeExpandCard

/-- THE SECOND FORM's CARD OF 'faultlinetop.WholeExpand'. -/
def wholeExpandUptoCard : Claim7 := { stood := { row := wholeExpandUptoRow, standIns := [], harness := (true, "d9e587c8b560c9a6b1ff4449c1aceed33935d06f5eef15bf28447c006932e720"), looks := true }, kinds := [], alts := [], laidByText := true, laidKinds := [.data, .data, .data, .data, .pinned], laidTests := true, laidLooks := .later }
def WholeExpandUptoCardSaid : Prop := Claim7.holds Tryz.pinned (.plain (OpenSpec.upto wholeExpandSpec)) wholeExpandUptoCard
end Rows
end Go.Proofs.YteadcgmaailjlaaGreatDoor
