/-
  DERIVED. GIVEN WITH THE SEED: THE CARDS: each row of YtblekfkmianmeaaGreatDoorRows.lean that lists a variable, with what it lists TIED to the program's text (the seventh form; the later family's looks); each row that meets fmt, with fmt's text TOLD by the authors' own Lean function (tested against real Go, not proved from fmt's source: count such statements apart). THE CARD IS WHAT COUNTS. Prove the row's statement (the work); the ties are given (YtblekfkmianmeaaGreatDoorTie.lean); close each card by the builder's one call (the guide's Derived/Test/ToyasCard.lean, 'card_holds'). Laid BY PROGRAM, IN A SANDBOX (cutbox-door.mjs). By AI agents, Wed Nov 11 2026. No macro, syntax, notation, axiom, sorry.
-/
import Derived.Test.YtblekfkmianmeaaGreatDoorRows
import GoSem.ClaimSeven
namespace Go.Proofs.YtblekfkmianmeaaGreatDoor
namespace Rows

/-- THE TIED CARD OF 'faultlinetop.WholeAbsorb'. -/
def wholeAbsorbCard : Claim7 := { stood := { row := wholeAbsorbRow, standIns := [], harness := (true, "8629d9feb41af6d6d247698a98868971dc6da9d86d1ddbe5dbfa1951db7493e7"), looks := true }, kinds := [], alts := [], laidByText := true, laidKinds := [.data, .pinned], laidTests := true, laidLooks := .later }
def WholeAbsorbCardSaid : Prop := Claim7.holds Tryz.pinned (.plain (OpenSpec.ofChange wholeAbsorbSpec)) wholeAbsorbCard

/-- THE SECOND FORM's CARD OF 'faultlinetop.WholeAbsorb'. -/
def wholeAbsorbUptoCard : Claim7 := { stood := { row := wholeAbsorbUptoRow, standIns := [], harness := (true, "8629d9feb41af6d6d247698a98868971dc6da9d86d1ddbe5dbfa1951db7493e7"), looks := true }, kinds := [], alts := [], laidByText := true, laidKinds := [.data, .pinned], laidTests := true, laidLooks := .later }
def WholeAbsorbUptoCardSaid : Prop := Claim7.holds Tryz.pinned (.plain (OpenSpec.upto wholeAbsorbSpec)) wholeAbsorbUptoCard
end Rows
end Go.Proofs.YtblekfkmianmeaaGreatDoor
