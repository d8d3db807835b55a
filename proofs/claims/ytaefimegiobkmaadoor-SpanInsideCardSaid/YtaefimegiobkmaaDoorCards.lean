/-
  DERIVED. GIVEN WITH THE SEED: THE CARDS: each row of YtaefimegiobkmaaDoorRows.lean that lists a variable, with what it lists TIED to the program's text (the seventh form; the later family's looks); each row that meets fmt, with fmt's text TOLD by the authors' own Lean function (tested against real Go, not proved from fmt's source: count such statements apart). THE CARD IS WHAT COUNTS. Prove the row's statement (the work); the ties are given (YtaefimegiobkmaaDoorTie.lean); close each card by the builder's one call (the guide's Derived/Test/ToyasCard.lean, 'card_holds'). Laid BY PROGRAM, IN A SANDBOX (cutbox-door.mjs). By AI agents, Wed Nov 11 2026. No macro, syntax, notation, axiom, sorry.
-/
import Derived.Test.YtaefimegiobkmaaDoorRows
import GoSem.ClaimSeven
namespace Go.Proofs.YtaefimegiobkmaaDoor
namespace Rows

/-- THE TIED CARD OF 'faultlinelaw03.SpanTurns'. -/
def spanTurnsCard : Claim7 := { stood := { row := spanTurnsRow, standIns := [], harness := (true, "fa894b314056dd60ac2c8ceae3e83368fbc8b98c628159cfc2e355d137f400f0"), looks := true }, kinds := [], alts := [], laidByText := true, laidKinds := [.data, .pinned], laidTests := true, laidLooks := .later }
def SpanTurnsCardSaid : Prop := Claim7.holds Tryd.pinned (.plain (OpenSpec.ofChange spanTurnsSpec)) spanTurnsCard

/-- THE TIED CARD OF 'faultlinelaw03.SpanLattice'. -/
def spanLatticeCard : Claim7 := { stood := { row := spanLatticeRow, standIns := [], harness := (true, "fa894b314056dd60ac2c8ceae3e83368fbc8b98c628159cfc2e355d137f400f0"), looks := true }, kinds := [], alts := [], laidByText := true, laidKinds := [.data, .pinned], laidTests := true, laidLooks := .later }
def SpanLatticeCardSaid : Prop := Claim7.holds Tryd.pinned (.plain (OpenSpec.ofChange spanLatticeSpec)) spanLatticeCard

/-- THE TIED CARD OF 'faultlinelaw03.SpanContains'. -/
def spanContainsCard : Claim7 := { stood := { row := spanContainsRow, standIns := [], harness := (true, "fa894b314056dd60ac2c8ceae3e83368fbc8b98c628159cfc2e355d137f400f0"), looks := true }, kinds := [], alts := [], laidByText := true, laidKinds := [.data, .pinned], laidTests := true, laidLooks := .later }
def SpanContainsCardSaid : Prop := Claim7.holds Tryd.pinned (.plain (OpenSpec.ofChange spanContainsSpec)) spanContainsCard

/-- THE TIED CARD OF 'faultlinelaw03.SpanInside'. -/
def spanInsideCard : Claim7 := { stood := { row := spanInsideRow, standIns := [], harness := (true, "fa894b314056dd60ac2c8ceae3e83368fbc8b98c628159cfc2e355d137f400f0"), looks := true }, kinds := [], alts := [], laidByText := true, laidKinds := [.data, .pinned], laidTests := true, laidLooks := .later }
def SpanInsideCardSaid : Prop := Claim7.holds Tryd.pinned (.plain (OpenSpec.ofChange spanInsideSpec)) spanInsideCard

/-- THE SECOND FORM's CARD OF 'faultlinelaw03.SpanTurns'. -/
def spanTurnsUptoCard : Claim7 := { stood := { row := spanTurnsUptoRow, standIns := [], harness := (true, "fa894b314056dd60ac2c8ceae3e83368fbc8b98c628159cfc2e355d137f400f0"), looks := true }, kinds := [], alts := [], laidByText := true, laidKinds := [.data, .pinned], laidTests := true, laidLooks := .later }
def SpanTurnsUptoCardSaid : Prop := Claim7.holds Tryd.pinned (.plain (OpenSpec.upto spanTurnsSpec)) spanTurnsUptoCard

/-- THE SECOND FORM's CARD OF 'faultlinelaw03.SpanLattice'. -/
def spanLatticeUptoCard : Claim7 := { stood := { row := spanLatticeUptoRow, standIns := [], harness := (true, "fa894b314056dd60ac2c8ceae3e83368fbc8b98c628159cfc2e355d137f400f0"), looks := true }, kinds := [], alts := [], laidByText := true, laidKinds := [.data, .pinned], laidTests := true, laidLooks := .later }
def SpanLatticeUptoCardSaid : Prop := Claim7.holds Tryd.pinned (.plain (OpenSpec.upto spanLatticeSpec)) spanLatticeUptoCard

/-- THE SECOND FORM's CARD OF 'faultlinelaw03.SpanContains'. -/
def spanContainsUptoCard : Claim7 := { stood := { row := spanContainsUptoRow, standIns := [], harness := (true, "fa894b314056dd60ac2c8ceae3e83368fbc8b98c628159cfc2e355d137f400f0"), looks := true }, kinds := [], alts := [], laidByText := true, laidKinds := [.data, .pinned], laidTests := true, laidLooks := .later }
def SpanContainsUptoCardSaid : Prop := Claim7.holds Tryd.pinned (.plain (OpenSpec.upto spanContainsSpec)) spanContainsUptoCard

/-- THE SECOND FORM's CARD OF 'faultlinelaw03.SpanInside'. -/
def spanInsideUptoCard : Claim7 := { stood := { row := spanInsideUptoRow, standIns := [], harness := (true, "fa894b314056dd60ac2c8ceae3e83368fbc8b98c628159cfc2e355d137f400f0"), looks := true }, kinds := [], alts := [], laidByText := true, laidKinds := [.data, .pinned], laidTests := true, laidLooks := .later }
def SpanInsideUptoCardSaid : Prop := Claim7.holds Tryd.pinned (.plain (OpenSpec.upto spanInsideSpec)) spanInsideUptoCard
end Rows
end Go.Proofs.YtaefimegiobkmaaDoor
