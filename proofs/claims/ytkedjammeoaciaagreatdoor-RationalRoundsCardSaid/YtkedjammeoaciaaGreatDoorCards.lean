/-
  DERIVED. GIVEN WITH THE SEED: THE CARDS: each row of YtkedjammeoaciaaGreatDoorRows.lean that lists a variable, with what it lists TIED to the program's text (the seventh form; the later family's looks); each row that meets fmt, with fmt's text TOLD by the authors' own Lean function (tested against real Go, not proved from fmt's source: count such statements apart). THE CARD IS WHAT COUNTS. Prove the row's statement (the work); the ties are given (YtkedjammeoaciaaGreatDoorTie.lean); close each card by the builder's one call (the guide's Derived/Test/ToyasCard.lean, 'card_holds'). Laid BY PROGRAM, IN A SANDBOX (cutbox-door.mjs). By AI agents, Wed Nov 11 2026. No macro, syntax, notation, axiom, sorry.
-/
import Derived.Test.YtkedjammeoaciaaGreatDoorRows
import GoSem.ClaimSeven
namespace Go.Proofs.YtkedjammeoaciaaGreatDoor
namespace Rows

/-- THE TIED CARD OF 'faultlinelaw02.RationalRounds'. -/
def rationalRoundsCard : Claim7 := { stood := { row := rationalRoundsRow, standIns := [], harness := (true, "d5b00863a6d748eef201b35f6a30180e32b098a967c59cd57f2d45041ef83745"), looks := true }, kinds := [], alts := [], laidByText := true, laidKinds := [.data, .pinned], laidTests := true, laidLooks := .later }
def RationalRoundsCardSaid : Prop := Claim7.holds Tryz.pinned (.plain (OpenSpec.ofChange rationalRoundsSpec)) rationalRoundsCard

/-- THE TIED CARD OF 'faultlinelaw02.RationalCompares'. -/
def rationalComparesCard : Claim7 := { stood := { row := rationalComparesRow, standIns := [], harness := (true, "d5b00863a6d748eef201b35f6a30180e32b098a967c59cd57f2d45041ef83745"), looks := true }, kinds := [], alts := [], laidByText := true, laidKinds := [.data, .pinned], laidTests := true, laidLooks := .later }
def RationalComparesCardSaid : Prop := Claim7.holds Tryz.pinned (.plain (OpenSpec.ofChange rationalComparesSpec)) rationalComparesCard

/-- THE TIED CARD OF 'faultlinelaw03.SpanProducts'. -/
def spanProductsCard : Claim7 := { stood := { row := spanProductsRow, standIns := [], harness := (true, "d5b00863a6d748eef201b35f6a30180e32b098a967c59cd57f2d45041ef83745"), looks := true }, kinds := [], alts := [], laidByText := true, laidKinds := [.data, .pinned], laidTests := true, laidLooks := .later }
def SpanProductsCardSaid : Prop := Claim7.holds Tryz.pinned (.plain (OpenSpec.ofChange spanProductsSpec)) spanProductsCard

/-- THE TIED CARD OF 'faultlinelaw03.SpanMakes'. -/
def spanMakesCard : Claim7 := { stood := { row := spanMakesRow, standIns := [], harness := (true, "d5b00863a6d748eef201b35f6a30180e32b098a967c59cd57f2d45041ef83745"), looks := true }, kinds := [], alts := [], laidByText := true, laidKinds := [.data, .pinned], laidTests := true, laidLooks := .later }
def SpanMakesCardSaid : Prop := Claim7.holds Tryz.pinned (.plain (OpenSpec.ofChange spanMakesSpec)) spanMakesCard

/-- THE TIED CARD OF 'faultlinelaw03.SpanSums'. -/
def spanSumsCard : Claim7 := { stood := { row := spanSumsRow, standIns := [], harness := (true, "d5b00863a6d748eef201b35f6a30180e32b098a967c59cd57f2d45041ef83745"), looks := true }, kinds := [], alts := [], laidByText := true, laidKinds := [.data, .pinned], laidTests := true, laidLooks := .later }
def SpanSumsCardSaid : Prop := Claim7.holds Tryz.pinned (.plain (OpenSpec.ofChange spanSumsSpec)) spanSumsCard

/-- THE TIED CARD OF 'faultlinelaw03.SpanSets'. -/
def spanSetsCard : Claim7 := { stood := { row := spanSetsRow, standIns := [], harness := (true, "d5b00863a6d748eef201b35f6a30180e32b098a967c59cd57f2d45041ef83745"), looks := true }, kinds := [], alts := [], laidByText := true, laidKinds := [.data, .pinned], laidTests := true, laidLooks := .later }
def SpanSetsCardSaid : Prop := Claim7.holds Tryz.pinned (.plain (OpenSpec.ofChange spanSetsSpec)) spanSetsCard

/-- THE SECOND FORM's CARD OF 'faultlinelaw02.RationalRounds'. -/
def rationalRoundsUptoCard : Claim7 := { stood := { row := rationalRoundsUptoRow, standIns := [], harness := (true, "d5b00863a6d748eef201b35f6a30180e32b098a967c59cd57f2d45041ef83745"), looks := true }, kinds := [], alts := [], laidByText := true, laidKinds := [.data, .pinned], laidTests := true, laidLooks := .later }
def RationalRoundsUptoCardSaid : Prop := Claim7.holds Tryz.pinned (.plain (OpenSpec.upto rationalRoundsSpec)) rationalRoundsUptoCard

/-- THE SECOND FORM's CARD OF 'faultlinelaw02.RationalCompares'. -/
def rationalComparesUptoCard : Claim7 := { stood := { row := rationalComparesUptoRow, standIns := [], harness := (true, "d5b00863a6d748eef201b35f6a30180e32b098a967c59cd57f2d45041ef83745"), looks := true }, kinds := [], alts := [], laidByText := true, laidKinds := [.data, .pinned], laidTests := true, laidLooks := .later }
def RationalComparesUptoCardSaid : Prop := Claim7.holds Tryz.pinned (.plain (OpenSpec.upto rationalComparesSpec)) rationalComparesUptoCard

/-- THE SECOND FORM's CARD OF 'faultlinelaw03.SpanProducts'. -/
def spanProductsUptoCard : Claim7 := { stood := { row := spanProductsUptoRow, standIns := [], harness := (true, "d5b00863a6d748eef201b35f6a30180e32b098a967c59cd57f2d45041ef83745"), looks := true }, kinds := [], alts := [], laidByText := true, laidKinds := [.data, .pinned], laidTests := true, laidLooks := .later }
def SpanProductsUptoCardSaid : Prop := Claim7.holds Tryz.pinned (.plain (OpenSpec.upto spanProductsSpec)) spanProductsUptoCard

/-- THE SECOND FORM's CARD OF 'faultlinelaw03.SpanMakes'. -/
def spanMakesUptoCard : Claim7 := { stood := { row := spanMakesUptoRow, standIns := [], harness := (true, "d5b00863a6d748eef201b35f6a30180e32b098a967c59cd57f2d45041ef83745"), looks := true }, kinds := [], alts := [], laidByText := true, laidKinds := [.data, .pinned], laidTests := true, laidLooks := .later }
def SpanMakesUptoCardSaid : Prop := Claim7.holds Tryz.pinned (.plain (OpenSpec.upto spanMakesSpec)) spanMakesUptoCard

/-- THE SECOND FORM's CARD OF 'faultlinelaw03.SpanSums'. -/
def spanSumsUptoCard : Claim7 := { stood := { row := spanSumsUptoRow, standIns := [], harness := (true, "d5b00863a6d748eef201b35f6a30180e32b098a967c59cd57f2d45041ef83745"), looks := true }, kinds := [], alts := [], laidByText := true, laidKinds := [.data, .pinned], laidTests := true, laidLooks := .later }
def SpanSumsUptoCardSaid : Prop := Claim7.holds Tryz.pinned (.plain (OpenSpec.upto spanSumsSpec)) spanSumsUptoCard

/-- THE SECOND FORM's CARD OF 'faultlinelaw03.SpanSets'. -/
def spanSetsUptoCard : Claim7 := { stood := { row := spanSetsUptoRow, standIns := [], harness := (true, "d5b00863a6d748eef201b35f6a30180e32b098a967c59cd57f2d45041ef83745"), looks := true }, kinds := [], alts := [], laidByText := true, laidKinds := [.data, .pinned], laidTests := true, laidLooks := .later }
def SpanSetsUptoCardSaid : Prop := Claim7.holds Tryz.pinned (.plain (OpenSpec.upto spanSetsSpec)) spanSetsUptoCard
end Rows
end Go.Proofs.YtkedjammeoaciaaGreatDoor
