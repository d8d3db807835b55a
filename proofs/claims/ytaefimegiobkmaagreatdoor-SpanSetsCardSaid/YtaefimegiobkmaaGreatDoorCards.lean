/-
  DERIVED. GIVEN WITH THE SEED: THE CARDS: each row of YtaefimegiobkmaaGreatDoorRows.lean that lists a variable, with what it lists TIED to the program's text (the seventh form; the later family's looks); each row that meets fmt, with fmt's text TOLD by the authors' own Lean function (tested against real Go, not proved from fmt's source: count such statements apart). THE CARD IS WHAT COUNTS. Prove the row's statement (the work); the ties are given (YtaefimegiobkmaaGreatDoorTie.lean); close each card by the builder's one call (the guide's Derived/Test/ToyasCard.lean, 'card_holds'). Laid BY PROGRAM, IN A SANDBOX (cutbox-door.mjs). By AI agents, Wed Nov 11 2026. No macro, syntax, notation, axiom, sorry.
-/
import Derived.Test.YtaefimegiobkmaaGreatDoorRows
import GoSem.ClaimSeven
namespace Go.Proofs.YtaefimegiobkmaaGreatDoor
namespace Rows

/-- THE TIED CARD OF 'faultlinelaw03.SpanProducts'. -/
def spanProductsCard : Claim7 := { stood := { row := spanProductsRow, standIns := [], harness := (true, "628f6ef441047e004bf536e2c8cdecdef2a61f6c13ffa960aefc0211a6f6e48e"), looks := true }, kinds := [], alts := [], laidByText := true, laidKinds := [.data, .pinned], laidTests := true, laidLooks := .later }
def SpanProductsCardSaid : Prop := Claim7.holds Tryz.pinned (.plain (OpenSpec.ofChange spanProductsSpec)) spanProductsCard

/-- THE TIED CARD OF 'faultlinelaw03.SpanMakes'. -/
def spanMakesCard : Claim7 := { stood := { row := spanMakesRow, standIns := [], harness := (true, "628f6ef441047e004bf536e2c8cdecdef2a61f6c13ffa960aefc0211a6f6e48e"), looks := true }, kinds := [], alts := [], laidByText := true, laidKinds := [.data, .pinned], laidTests := true, laidLooks := .later }
def SpanMakesCardSaid : Prop := Claim7.holds Tryz.pinned (.plain (OpenSpec.ofChange spanMakesSpec)) spanMakesCard

/-- THE TIED CARD OF 'faultlinelaw03.SpanSums'. -/
def spanSumsCard : Claim7 := { stood := { row := spanSumsRow, standIns := [], harness := (true, "628f6ef441047e004bf536e2c8cdecdef2a61f6c13ffa960aefc0211a6f6e48e"), looks := true }, kinds := [], alts := [], laidByText := true, laidKinds := [.data, .pinned], laidTests := true, laidLooks := .later }
def SpanSumsCardSaid : Prop := Claim7.holds Tryz.pinned (.plain (OpenSpec.ofChange spanSumsSpec)) spanSumsCard

/-- THE TIED CARD OF 'faultlinelaw03.SpanSets'. -/
def spanSetsCard : Claim7 := { stood := { row := spanSetsRow, standIns := [], harness := (true, "628f6ef441047e004bf536e2c8cdecdef2a61f6c13ffa960aefc0211a6f6e48e"), looks := true }, kinds := [], alts := [], laidByText := true, laidKinds := [.data, .pinned], laidTests := true, laidLooks := .later }
def SpanSetsCardSaid : Prop := Claim7.holds Tryz.pinned (.plain (OpenSpec.ofChange spanSetsSpec)) spanSetsCard

/-- THE SECOND FORM's CARD OF 'faultlinelaw03.SpanProducts'. -/
def spanProductsUptoCard : Claim7 := { stood := { row := spanProductsUptoRow, standIns := [], harness := (true, "628f6ef441047e004bf536e2c8cdecdef2a61f6c13ffa960aefc0211a6f6e48e"), looks := true }, kinds := [], alts := [], laidByText := true, laidKinds := [.data, .pinned], laidTests := true, laidLooks := .later }
def SpanProductsUptoCardSaid : Prop := Claim7.holds Tryz.pinned (.plain (OpenSpec.upto spanProductsSpec)) spanProductsUptoCard

/-- THE SECOND FORM's CARD OF 'faultlinelaw03.SpanMakes'. -/
def spanMakesUptoCard : Claim7 := { stood := { row := spanMakesUptoRow, standIns := [], harness := (true, "628f6ef441047e004bf536e2c8cdecdef2a61f6c13ffa960aefc0211a6f6e48e"), looks := true }, kinds := [], alts := [], laidByText := true, laidKinds := [.data, .pinned], laidTests := true, laidLooks := .later }
def SpanMakesUptoCardSaid : Prop := Claim7.holds Tryz.pinned (.plain (OpenSpec.upto spanMakesSpec)) spanMakesUptoCard

/-- THE SECOND FORM's CARD OF 'faultlinelaw03.SpanSums'. -/
def spanSumsUptoCard : Claim7 := { stood := { row := spanSumsUptoRow, standIns := [], harness := (true, "628f6ef441047e004bf536e2c8cdecdef2a61f6c13ffa960aefc0211a6f6e48e"), looks := true }, kinds := [], alts := [], laidByText := true, laidKinds := [.data, .pinned], laidTests := true, laidLooks := .later }
def SpanSumsUptoCardSaid : Prop := Claim7.holds Tryz.pinned (.plain (OpenSpec.upto spanSumsSpec)) spanSumsUptoCard

/-- THE SECOND FORM's CARD OF 'faultlinelaw03.SpanSets'. -/
def spanSetsUptoCard : Claim7 := { stood := { row := spanSetsUptoRow, standIns := [], harness := (true, "628f6ef441047e004bf536e2c8cdecdef2a61f6c13ffa960aefc0211a6f6e48e"), looks := true }, kinds := [], alts := [], laidByText := true, laidKinds := [.data, .pinned], laidTests := true, laidLooks := .later }
def SpanSetsUptoCardSaid : Prop := Claim7.holds Tryz.pinned (.plain (OpenSpec.upto spanSetsSpec)) spanSetsUptoCard
end Rows
end Go.Proofs.YtaefimegiobkmaaGreatDoor
