/-
  DERIVED. GIVEN WITH THE SEED: THE CARDS: each row of YtabdndlaelfdeaaDoorRows.lean that lists a variable, with what it lists TIED to the program's text (the seventh form; the later family's looks); each row that meets fmt, with fmt's text TOLD by the authors' own Lean function (tested against real Go, not proved from fmt's source: count such statements apart). THE CARD IS WHAT COUNTS. Prove the row's statement (the work); the ties are given (YtabdndlaelfdeaaDoorTie.lean); close each card by the builder's one call (the guide's Derived/Test/ToyasCard.lean, 'card_holds'). Laid BY PROGRAM, IN A SANDBOX (cutbox-door.mjs). By AI agents, Wed Nov 11 2026. No macro, syntax, notation, axiom, sorry.
-/
import Derived.Test.YtabdndlaelfdeaaDoorRows
import GoSem.ClaimSeven
namespace Go.Proofs.YtabdndlaelfdeaaDoor
namespace Rows

/-- THE TIED CARD OF 'faultlinelaw02.RationalTexts'. -/
def rationalTextsCard : Claim7 := { stood := { row := rationalTextsRow, standIns := [], harness := (true, "611f938ccd8cbfa7f155c3ecaccdf62c0189bad8465d801ecc2b3086125318c5"), looks := true }, kinds := [], alts := [], laidByText := true, laidKinds := [.data, .pinned], laidTests := true, laidLooks := .later }
def RationalTextsCardSaid : Prop := Claim7.holds Tryd.pinned (.plain (OpenSpec.ofChange rationalTextsSpec)) rationalTextsCard

/-- THE TIED CARD OF 'faultlinelaw02.RationalMakes'. -/
def rationalMakesCard : Claim7 := { stood := { row := rationalMakesRow, standIns := [], harness := (true, "611f938ccd8cbfa7f155c3ecaccdf62c0189bad8465d801ecc2b3086125318c5"), looks := true }, kinds := [], alts := [], laidByText := true, laidKinds := [.data, .pinned], laidTests := true, laidLooks := .later }
def RationalMakesCardSaid : Prop := Claim7.holds Tryd.pinned (.plain (OpenSpec.ofChange rationalMakesSpec)) rationalMakesCard

/-- THE TIED CARD OF 'faultlinelaw02.RationalProducts'. -/
def rationalProductsCard : Claim7 := { stood := { row := rationalProductsRow, standIns := [], harness := (true, "611f938ccd8cbfa7f155c3ecaccdf62c0189bad8465d801ecc2b3086125318c5"), looks := true }, kinds := [], alts := [], laidByText := true, laidKinds := [.data, .pinned], laidTests := true, laidLooks := .later }
def RationalProductsCardSaid : Prop := Claim7.holds Tryd.pinned (.plain (OpenSpec.ofChange rationalProductsSpec)) rationalProductsCard

/-- THE TIED CARD OF 'faultlinelaw02.RationalSums'. -/
def rationalSumsCard : Claim7 := { stood := { row := rationalSumsRow, standIns := [], harness := (true, "611f938ccd8cbfa7f155c3ecaccdf62c0189bad8465d801ecc2b3086125318c5"), looks := true }, kinds := [], alts := [], laidByText := true, laidKinds := [.data, .pinned], laidTests := true, laidLooks := .later }
def RationalSumsCardSaid : Prop := Claim7.holds Tryd.pinned (.plain (OpenSpec.ofChange rationalSumsSpec)) rationalSumsCard

/-- THE TIED CARD OF 'faultlinelaw02.RationalBack'. -/
def rationalBackCard : Claim7 := { stood := { row := rationalBackRow, standIns := [], harness := (true, "611f938ccd8cbfa7f155c3ecaccdf62c0189bad8465d801ecc2b3086125318c5"), looks := true }, kinds := [], alts := [], laidByText := true, laidKinds := [.data, .pinned], laidTests := true, laidLooks := .later }
def RationalBackCardSaid : Prop := Claim7.holds Tryd.pinned (.plain (OpenSpec.ofChange rationalBackSpec)) rationalBackCard

/-- THE TIED CARD OF 'faultlinelaw02.RationalEqual'. -/
def rationalEqualCard : Claim7 := { stood := { row := rationalEqualRow, standIns := [], harness := (true, "611f938ccd8cbfa7f155c3ecaccdf62c0189bad8465d801ecc2b3086125318c5"), looks := true }, kinds := [], alts := [], laidByText := true, laidKinds := [.data, .pinned], laidTests := true, laidLooks := .later }
def RationalEqualCardSaid : Prop := Claim7.holds Tryd.pinned (.plain (OpenSpec.ofChange rationalEqualSpec)) rationalEqualCard

/-- THE TIED CARD OF 'faultlinelaw02.RationalField'. -/
def rationalFieldCard : Claim7 := { stood := { row := rationalFieldRow, standIns := [], harness := (true, "611f938ccd8cbfa7f155c3ecaccdf62c0189bad8465d801ecc2b3086125318c5"), looks := true }, kinds := [], alts := [], laidByText := true, laidKinds := [.data, .pinned], laidTests := true, laidLooks := .later }
def RationalFieldCardSaid : Prop := Claim7.holds Tryd.pinned (.plain (OpenSpec.ofChange rationalFieldSpec)) rationalFieldCard

/-- THE TIED CARD OF 'faultlinelaw02.RationalFloors'. -/
def rationalFloorsCard : Claim7 := { stood := { row := rationalFloorsRow, standIns := [], harness := (true, "611f938ccd8cbfa7f155c3ecaccdf62c0189bad8465d801ecc2b3086125318c5"), looks := true }, kinds := [], alts := [], laidByText := true, laidKinds := [.data, .pinned], laidTests := true, laidLooks := .later }
def RationalFloorsCardSaid : Prop := Claim7.holds Tryd.pinned (.plain (OpenSpec.ofChange rationalFloorsSpec)) rationalFloorsCard

/-- THE SECOND FORM's CARD OF 'faultlinelaw02.RationalTexts'. -/
def rationalTextsUptoCard : Claim7 := { stood := { row := rationalTextsUptoRow, standIns := [], harness := (true, "611f938ccd8cbfa7f155c3ecaccdf62c0189bad8465d801ecc2b3086125318c5"), looks := true }, kinds := [], alts := [], laidByText := true, laidKinds := [.data, .pinned], laidTests := true, laidLooks := .later }
def RationalTextsUptoCardSaid : Prop := Claim7.holds Tryd.pinned (.plain (OpenSpec.upto rationalTextsSpec)) rationalTextsUptoCard

/-- THE SECOND FORM's CARD OF 'faultlinelaw02.RationalMakes'. -/
def rationalMakesUptoCard : Claim7 := { stood := { row := rationalMakesUptoRow, standIns := [], harness := (true, "611f938ccd8cbfa7f155c3ecaccdf62c0189bad8465d801ecc2b3086125318c5"), looks := true }, kinds := [], alts := [], laidByText := true, laidKinds := [.data, .pinned], laidTests := true, laidLooks := .later }
def RationalMakesUptoCardSaid : Prop := Claim7.holds Tryd.pinned (.plain (OpenSpec.upto rationalMakesSpec)) rationalMakesUptoCard

/-- THE SECOND FORM's CARD OF 'faultlinelaw02.RationalProducts'. -/
def rationalProductsUptoCard : Claim7 := { stood := { row := rationalProductsUptoRow, standIns := [], harness := (true, "611f938ccd8cbfa7f155c3ecaccdf62c0189bad8465d801ecc2b3086125318c5"), looks := true }, kinds := [], alts := [], laidByText := true, laidKinds := [.data, .pinned], laidTests := true, laidLooks := .later }
def RationalProductsUptoCardSaid : Prop := Claim7.holds Tryd.pinned (.plain (OpenSpec.upto rationalProductsSpec)) rationalProductsUptoCard

/-- THE SECOND FORM's CARD OF 'faultlinelaw02.RationalSums'. -/
def rationalSumsUptoCard : Claim7 := { stood := { row := rationalSumsUptoRow, standIns := [], harness := (true, "611f938ccd8cbfa7f155c3ecaccdf62c0189bad8465d801ecc2b3086125318c5"), looks := true }, kinds := [], alts := [], laidByText := true, laidKinds := [.data, .pinned], laidTests := true, laidLooks := .later }
def RationalSumsUptoCardSaid : Prop := Claim7.holds Tryd.pinned (.plain (OpenSpec.upto rationalSumsSpec)) rationalSumsUptoCard

/-- THE SECOND FORM's CARD OF 'faultlinelaw02.RationalBack'. -/
def rationalBackUptoCard : Claim7 := { stood := { row := rationalBackUptoRow, standIns := [], harness := (true, "611f938ccd8cbfa7f155c3ecaccdf62c0189bad8465d801ecc2b3086125318c5"), looks := true }, kinds := [], alts := [], laidByText := true, laidKinds := [.data, .pinned], laidTests := true, laidLooks := .later }
def RationalBackUptoCardSaid : Prop := Claim7.holds Tryd.pinned (.plain (OpenSpec.upto rationalBackSpec)) rationalBackUptoCard

/-- THE SECOND FORM's CARD OF 'faultlinelaw02.RationalEqual'. -/
def rationalEqualUptoCard : Claim7 := { stood := { row := rationalEqualUptoRow, standIns := [], harness := (true, "611f938ccd8cbfa7f155c3ecaccdf62c0189bad8465d801ecc2b3086125318c5"), looks := true }, kinds := [], alts := [], laidByText := true, laidKinds := [.data, .pinned], laidTests := true, laidLooks := .later }
def RationalEqualUptoCardSaid : Prop := Claim7.holds Tryd.pinned (.plain (OpenSpec.upto rationalEqualSpec)) rationalEqualUptoCard

/-- THE SECOND FORM's CARD OF 'faultlinelaw02.RationalField'. -/
def rationalFieldUptoCard : Claim7 := { stood := { row := rationalFieldUptoRow, standIns := [], harness := (true, "611f938ccd8cbfa7f155c3ecaccdf62c0189bad8465d801ecc2b3086125318c5"), looks := true }, kinds := [], alts := [], laidByText := true, laidKinds := [.data, .pinned], laidTests := true, laidLooks := .later }
def RationalFieldUptoCardSaid : Prop := Claim7.holds Tryd.pinned (.plain (OpenSpec.upto rationalFieldSpec)) rationalFieldUptoCard

/-- THE SECOND FORM's CARD OF 'faultlinelaw02.RationalFloors'. -/
def rationalFloorsUptoCard : Claim7 := { stood := { row := rationalFloorsUptoRow, standIns := [], harness := (true, "611f938ccd8cbfa7f155c3ecaccdf62c0189bad8465d801ecc2b3086125318c5"), looks := true }, kinds := [], alts := [], laidByText := true, laidKinds := [.data, .pinned], laidTests := true, laidLooks := .later }
def RationalFloorsUptoCardSaid : Prop := Claim7.holds Tryd.pinned (.plain (OpenSpec.upto rationalFloorsSpec)) rationalFloorsUptoCard
end Rows
end Go.Proofs.YtabdndlaelfdeaaDoor
