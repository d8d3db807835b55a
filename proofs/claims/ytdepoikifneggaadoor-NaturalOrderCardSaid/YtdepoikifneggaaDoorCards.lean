/-
  DERIVED. GIVEN WITH THE SEED: THE CARDS: each row of YtdepoikifneggaaDoorRows.lean that lists a variable, with what it lists TIED to the program's text (the seventh form; the later family's looks); each row that meets fmt, with fmt's text TOLD by the authors' own Lean function (tested against real Go, not proved from fmt's source: count such statements apart). THE CARD IS WHAT COUNTS. Prove the row's statement (the work); the ties are given (YtdepoikifneggaaDoorTie.lean); close each card by the builder's one call (the guide's Derived/Test/ToyasCard.lean, 'card_holds'). Laid BY PROGRAM, IN A SANDBOX (cutbox-door.mjs). By AI agents, Wed Nov 11 2026. No macro, syntax, notation, axiom, sorry.
-/
import Derived.Test.YtdepoikifneggaaDoorRows
import GoSem.ClaimSeven
namespace Go.Proofs.YtdepoikifneggaaDoor
namespace Rows

/-- THE TIED CARD OF 'faultlinelaw01.NaturalQuotients'. -/
def naturalQuotientsCard : Claim7 := { stood := { row := naturalQuotientsRow, standIns := [], harness := (true, "a6b006d35c6753cee83450ad8dea79f137577b443eedfbf026948423e53f53e5"), looks := true }, kinds := [], alts := [], laidByText := true, laidKinds := [.data, .pinned], laidTests := true, laidLooks := .later }
def NaturalQuotientsCardSaid : Prop := Claim7.holds Tryd.pinned (.plain (OpenSpec.ofChange naturalQuotientsSpec)) naturalQuotientsCard

/-- THE TIED CARD OF 'faultlinelaw01.NaturalOrder'. -/
def naturalOrderCard : Claim7 := { stood := { row := naturalOrderRow, standIns := [], harness := (true, "a6b006d35c6753cee83450ad8dea79f137577b443eedfbf026948423e53f53e5"), looks := true }, kinds := [], alts := [], laidByText := true, laidKinds := [.data, .pinned], laidTests := true, laidLooks := .later }
def NaturalOrderCardSaid : Prop := Claim7.holds Tryd.pinned (.plain (OpenSpec.ofChange naturalOrderSpec)) naturalOrderCard

/-- THE TIED CARD OF 'faultlinelaw01.NaturalSums'. -/
def naturalSumsCard : Claim7 := { stood := { row := naturalSumsRow, standIns := [], harness := (true, "a6b006d35c6753cee83450ad8dea79f137577b443eedfbf026948423e53f53e5"), looks := true }, kinds := [], alts := [], laidByText := true, laidKinds := [.data, .pinned], laidTests := true, laidLooks := .later }
def NaturalSumsCardSaid : Prop := Claim7.holds Tryd.pinned (.plain (OpenSpec.ofChange naturalSumsSpec)) naturalSumsCard

/-- THE TIED CARD OF 'faultlinelaw01.NaturalMoves'. -/
def naturalMovesCard : Claim7 := { stood := { row := naturalMovesRow, standIns := [], harness := (true, "a6b006d35c6753cee83450ad8dea79f137577b443eedfbf026948423e53f53e5"), looks := true }, kinds := [], alts := [], laidByText := true, laidKinds := [.data, .pinned], laidTests := true, laidLooks := .later }
def NaturalMovesCardSaid : Prop := Claim7.holds Tryd.pinned (.plain (OpenSpec.ofChange naturalMovesSpec)) naturalMovesCard

/-- THE TIED CARD OF 'faultlinelaw01.NaturalDivides'. -/
def naturalDividesCard : Claim7 := { stood := { row := naturalDividesRow, standIns := [], harness := (true, "a6b006d35c6753cee83450ad8dea79f137577b443eedfbf026948423e53f53e5"), looks := true }, kinds := [], alts := [], laidByText := true, laidKinds := [.data, .pinned], laidTests := true, laidLooks := .later }
def NaturalDividesCardSaid : Prop := Claim7.holds Tryd.pinned (.plain (OpenSpec.ofChange naturalDividesSpec)) naturalDividesCard

/-- THE TIED CARD OF 'faultlinelaw01.NaturalCommon'. -/
def naturalCommonCard : Claim7 := { stood := { row := naturalCommonRow, standIns := [], harness := (true, "a6b006d35c6753cee83450ad8dea79f137577b443eedfbf026948423e53f53e5"), looks := true }, kinds := [], alts := [], laidByText := true, laidKinds := [.data, .pinned], laidTests := true, laidLooks := .later }
def NaturalCommonCardSaid : Prop := Claim7.holds Tryd.pinned (.plain (OpenSpec.ofChange naturalCommonSpec)) naturalCommonCard

/-- THE TIED CARD OF 'faultlinelaw01.NaturalRing'. -/
def naturalRingCard : Claim7 := { stood := { row := naturalRingRow, standIns := [], harness := (true, "a6b006d35c6753cee83450ad8dea79f137577b443eedfbf026948423e53f53e5"), looks := true }, kinds := [], alts := [], laidByText := true, laidKinds := [.data, .pinned], laidTests := true, laidLooks := .later }
def NaturalRingCardSaid : Prop := Claim7.holds Tryd.pinned (.plain (OpenSpec.ofChange naturalRingSpec)) naturalRingCard

/-- THE TIED CARD OF 'faultlinelaw01.NaturalProducts'. -/
def naturalProductsCard : Claim7 := { stood := { row := naturalProductsRow, standIns := [], harness := (true, "a6b006d35c6753cee83450ad8dea79f137577b443eedfbf026948423e53f53e5"), looks := true }, kinds := [], alts := [], laidByText := true, laidKinds := [.data, .pinned], laidTests := true, laidLooks := .later }
def NaturalProductsCardSaid : Prop := Claim7.holds Tryd.pinned (.plain (OpenSpec.ofChange naturalProductsSpec)) naturalProductsCard

/-- THE TIED CARD OF 'faultlinelaw01.NaturalTexts'. -/
def naturalTextsCard : Claim7 := { stood := { row := naturalTextsRow, standIns := [], harness := (true, "a6b006d35c6753cee83450ad8dea79f137577b443eedfbf026948423e53f53e5"), looks := true }, kinds := [], alts := [], laidByText := true, laidKinds := [.data, .pinned], laidTests := true, laidLooks := .later }
def NaturalTextsCardSaid : Prop := Claim7.holds Tryd.pinned (.plain (OpenSpec.ofChange naturalTextsSpec)) naturalTextsCard

/-- THE TIED CARD OF 'faultlinelaw01.NaturalBack'. -/
def naturalBackCard : Claim7 := { stood := { row := naturalBackRow, standIns := [], harness := (true, "a6b006d35c6753cee83450ad8dea79f137577b443eedfbf026948423e53f53e5"), looks := true }, kinds := [], alts := [], laidByText := true, laidKinds := [.data, .pinned], laidTests := true, laidLooks := .later }
def NaturalBackCardSaid : Prop := Claim7.holds Tryd.pinned (.plain (OpenSpec.ofChange naturalBackSpec)) naturalBackCard

/-- THE TIED CARD OF 'faultlinelaw01.NaturalSquares'. -/
def naturalSquaresCard : Claim7 := { stood := { row := naturalSquaresRow, standIns := [], harness := (true, "a6b006d35c6753cee83450ad8dea79f137577b443eedfbf026948423e53f53e5"), looks := true }, kinds := [], alts := [], laidByText := true, laidKinds := [.data, .pinned], laidTests := true, laidLooks := .later }
def NaturalSquaresCardSaid : Prop := Claim7.holds Tryd.pinned (.plain (OpenSpec.ofChange naturalSquaresSpec)) naturalSquaresCard

/-- THE SECOND FORM's CARD OF 'faultlinelaw01.NaturalQuotients'. -/
def naturalQuotientsUptoCard : Claim7 := { stood := { row := naturalQuotientsUptoRow, standIns := [], harness := (true, "a6b006d35c6753cee83450ad8dea79f137577b443eedfbf026948423e53f53e5"), looks := true }, kinds := [], alts := [], laidByText := true, laidKinds := [.data, .pinned], laidTests := true, laidLooks := .later }
def NaturalQuotientsUptoCardSaid : Prop := Claim7.holds Tryd.pinned (.plain (OpenSpec.upto naturalQuotientsSpec)) naturalQuotientsUptoCard

/-- THE SECOND FORM's CARD OF 'faultlinelaw01.NaturalOrder'. -/
def naturalOrderUptoCard : Claim7 := { stood := { row := naturalOrderUptoRow, standIns := [], harness := (true, "a6b006d35c6753cee83450ad8dea79f137577b443eedfbf026948423e53f53e5"), looks := true }, kinds := [], alts := [], laidByText := true, laidKinds := [.data, .pinned], laidTests := true, laidLooks := .later }
def NaturalOrderUptoCardSaid : Prop := Claim7.holds Tryd.pinned (.plain (OpenSpec.upto naturalOrderSpec)) naturalOrderUptoCard

/-- THE SECOND FORM's CARD OF 'faultlinelaw01.NaturalSums'. -/
def naturalSumsUptoCard : Claim7 := { stood := { row := naturalSumsUptoRow, standIns := [], harness := (true, "a6b006d35c6753cee83450ad8dea79f137577b443eedfbf026948423e53f53e5"), looks := true }, kinds := [], alts := [], laidByText := true, laidKinds := [.data, .pinned], laidTests := true, laidLooks := .later }
def NaturalSumsUptoCardSaid : Prop := Claim7.holds Tryd.pinned (.plain (OpenSpec.upto naturalSumsSpec)) naturalSumsUptoCard

/-- THE SECOND FORM's CARD OF 'faultlinelaw01.NaturalMoves'. -/
def naturalMovesUptoCard : Claim7 := { stood := { row := naturalMovesUptoRow, standIns := [], harness := (true, "a6b006d35c6753cee83450ad8dea79f137577b443eedfbf026948423e53f53e5"), looks := true }, kinds := [], alts := [], laidByText := true, laidKinds := [.data, .pinned], laidTests := true, laidLooks := .later }
def NaturalMovesUptoCardSaid : Prop := Claim7.holds Tryd.pinned (.plain (OpenSpec.upto naturalMovesSpec)) naturalMovesUptoCard

/-- THE SECOND FORM's CARD OF 'faultlinelaw01.NaturalDivides'. -/
def naturalDividesUptoCard : Claim7 := { stood := { row := naturalDividesUptoRow, standIns := [], harness := (true, "a6b006d35c6753cee83450ad8dea79f137577b443eedfbf026948423e53f53e5"), looks := true }, kinds := [], alts := [], laidByText := true, laidKinds := [.data, .pinned], laidTests := true, laidLooks := .later }
def NaturalDividesUptoCardSaid : Prop := Claim7.holds Tryd.pinned (.plain (OpenSpec.upto naturalDividesSpec)) naturalDividesUptoCard

/-- THE SECOND FORM's CARD OF 'faultlinelaw01.NaturalCommon'. -/
def naturalCommonUptoCard : Claim7 := { stood := { row := naturalCommonUptoRow, standIns := [], harness := (true, "a6b006d35c6753cee83450ad8dea79f137577b443eedfbf026948423e53f53e5"), looks := true }, kinds := [], alts := [], laidByText := true, laidKinds := [.data, .pinned], laidTests := true, laidLooks := .later }
def NaturalCommonUptoCardSaid : Prop := Claim7.holds Tryd.pinned (.plain (OpenSpec.upto naturalCommonSpec)) naturalCommonUptoCard

/-- THE SECOND FORM's CARD OF 'faultlinelaw01.NaturalRing'. -/
def naturalRingUptoCard : Claim7 := { stood := { row := naturalRingUptoRow, standIns := [], harness := (true, "a6b006d35c6753cee83450ad8dea79f137577b443eedfbf026948423e53f53e5"), looks := true }, kinds := [], alts := [], laidByText := true, laidKinds := [.data, .pinned], laidTests := true, laidLooks := .later }
def NaturalRingUptoCardSaid : Prop := Claim7.holds Tryd.pinned (.plain (OpenSpec.upto naturalRingSpec)) naturalRingUptoCard

/-- THE SECOND FORM's CARD OF 'faultlinelaw01.NaturalProducts'. -/
def naturalProductsUptoCard : Claim7 := { stood := { row := naturalProductsUptoRow, standIns := [], harness := (true, "a6b006d35c6753cee83450ad8dea79f137577b443eedfbf026948423e53f53e5"), looks := true }, kinds := [], alts := [], laidByText := true, laidKinds := [.data, .pinned], laidTests := true, laidLooks := .later }
def NaturalProductsUptoCardSaid : Prop := Claim7.holds Tryd.pinned (.plain (OpenSpec.upto naturalProductsSpec)) naturalProductsUptoCard

/-- THE SECOND FORM's CARD OF 'faultlinelaw01.NaturalTexts'. -/
def naturalTextsUptoCard : Claim7 := { stood := { row := naturalTextsUptoRow, standIns := [], harness := (true, "a6b006d35c6753cee83450ad8dea79f137577b443eedfbf026948423e53f53e5"), looks := true }, kinds := [], alts := [], laidByText := true, laidKinds := [.data, .pinned], laidTests := true, laidLooks := .later }
def NaturalTextsUptoCardSaid : Prop := Claim7.holds Tryd.pinned (.plain (OpenSpec.upto naturalTextsSpec)) naturalTextsUptoCard

/-- THE SECOND FORM's CARD OF 'faultlinelaw01.NaturalBack'. -/
def naturalBackUptoCard : Claim7 := { stood := { row := naturalBackUptoRow, standIns := [], harness := (true, "a6b006d35c6753cee83450ad8dea79f137577b443eedfbf026948423e53f53e5"), looks := true }, kinds := [], alts := [], laidByText := true, laidKinds := [.data, .pinned], laidTests := true, laidLooks := .later }
def NaturalBackUptoCardSaid : Prop := Claim7.holds Tryd.pinned (.plain (OpenSpec.upto naturalBackSpec)) naturalBackUptoCard

/-- THE SECOND FORM's CARD OF 'faultlinelaw01.NaturalSquares'. -/
def naturalSquaresUptoCard : Claim7 := { stood := { row := naturalSquaresUptoRow, standIns := [], harness := (true, "a6b006d35c6753cee83450ad8dea79f137577b443eedfbf026948423e53f53e5"), looks := true }, kinds := [], alts := [], laidByText := true, laidKinds := [.data, .pinned], laidTests := true, laidLooks := .later }
def NaturalSquaresUptoCardSaid : Prop := Claim7.holds Tryd.pinned (.plain (OpenSpec.upto naturalSquaresSpec)) naturalSquaresUptoCard
end Rows
end Go.Proofs.YtdepoikifneggaaDoor
