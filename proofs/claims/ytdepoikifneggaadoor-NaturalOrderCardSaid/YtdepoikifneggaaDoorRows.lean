/-
  NARROWER THAN 'FOR EVERY INPUT', by the rows' own cells (each row's printed sentence says how): NaturalQuotients: laid · NaturalOrder: laid · NaturalSums: laid · NaturalMoves: laid · NaturalDivides: laid · NaturalCommon: laid · NaturalRing: laid · NaturalProducts: laid · NaturalTexts: laid · NaturalBack: laid · NaturalSquares: laid.
  DERIVED. THE GIVEN ROWS OF THIS SEAT. 11 by the template 'for every input the law returns true; each argument reads behind the call as it read before'; 0 by the template 'total and deterministic' (their statements: YtdepoikifneggaaDoorTotals.lean).
  GIVEN WITH THE SEED: the statements are not yours to turn. If you find one false, say at which input.
  Laid BY PROGRAM, IN A SANDBOX (cutbox-rows.mjs): the forced cells as the released guide's own fill.sh prints them over the translation e7840cf0b25511db… (all of the seat's roots in one cut). By AI agents, Wed Nov 11 2026. No macro, syntax, notation, axiom, sorry.
-/
import Derived.Test.YtdepoikifneggaaDoorChecked
import GoSem.PinnedTables
import GoSem.Claim
import GoSem.ClaimJoined
import GoSem.ClaimMapViews
import Derived.JoinedTies
import Derived.KernelRfl
namespace Go.Proofs.YtdepoikifneggaaDoor
/- THE CELL 'sum', in the pinned program and in every row, IS THE sha256 OF THE DUMP (.gsa) THAT YtdepoikifneggaaDoorProg.lean LOADS. Nothing in Lean hashes anything: it is a label: what it is worth is what the hold of that sum in a sandbox is worth. -/
noncomputable def Tryd.pinned : Pinned := { name := "ytdepoikifneggaadoor", sum := "e7840cf0b25511db9a3ae640a01e058f366519d2fd4df47b1cb24f31845848b6", checked := Tryd.checked }
namespace Rows
def none {H : Type} : Left H := { results := [], args := [] }

/- WHAT THE LISTED PACKAGE-LEVEL VARIABLES READ AS WHEN THE CALL BEGINS. Each datum BY PROGRAM (the guide's laid-datum.mjs) off the statement by which the dump's own 'gosem.cut.vars' lays the variable. In a bare row this is a premise. The card (YtdepoikifneggaaDoorCards.lean) ties it to the program's text. -/
def laid_unicode_utf8_acceptRanges {H : Type} : DataW H := .agg [.agg [.lit (.int .u8 128), .lit (.int .u8 191)], .agg [.lit (.int .u8 160), .lit (.int .u8 191)], .agg [.lit (.int .u8 128), .lit (.int .u8 159)], .agg [.lit (.int .u8 144), .lit (.int .u8 191)], .agg [.lit (.int .u8 128), .lit (.int .u8 143)], .agg [.lit (.int .u8 0), .lit (.int .u8 0)], .agg [.lit (.int .u8 0), .lit (.int .u8 0)], .agg [.lit (.int .u8 0), .lit (.int .u8 0)], .agg [.lit (.int .u8 0), .lit (.int .u8 0)], .agg [.lit (.int .u8 0), .lit (.int .u8 0)], .agg [.lit (.int .u8 0), .lit (.int .u8 0)], .agg [.lit (.int .u8 0), .lit (.int .u8 0)], .agg [.lit (.int .u8 0), .lit (.int .u8 0)], .agg [.lit (.int .u8 0), .lit (.int .u8 0)], .agg [.lit (.int .u8 0), .lit (.int .u8 0)], .agg [.lit (.int .u8 0), .lit (.int .u8 0)]]
/-- One of Go's own tables, pinned by name: the form's constant. -/
def laid_unicode_utf8_first : DataW Unit := Go.Pinned.utf8First

/-- 'faultlinelaw01.NaturalQuotients': WHATEVER THE INPUT: true; the input reads as it did. -/
def naturalQuotientsSpec : ChangeSpec := { name := "naturalQuotients", fn := fun _ => fun
  | [d1, d2] => { results := [.lit (.bool true)], args := [d1, d2] }
  | _ => none }
def naturalQuotientsRow : OpenClaim := { program := "ytdepoikifneggaadoor", sum := "e7840cf0b25511db9a3ae640a01e058f366519d2fd4df47b1cb24f31845848b6", func := "faultline/faultlinelaw01.NaturalQuotients", spec := "naturalQuotients", inPlace := ["internal/abi.NoEscape", "internal/bytealg.IndexByteString", "internal/bytealg.IndexString"], named := ["unicode/utf8.first", "unicode/utf8.acceptRanges", "internal/bytealg.MaxLen"], apart := false, laid := [("unicode/utf8.acceptRanges", laid_unicode_utf8_acceptRanges), ("unicode/utf8.first", laid_unicode_utf8_first)] }
def NaturalQuotientsSaid : Prop := naturalQuotientsRow.holds Tryd.pinned (OpenSpec.ofChange naturalQuotientsSpec)

/-- ITS FALSE NEIGHBOUR: 'it returns false'. Refute it at one input. -/
def naturalQuotientsWrong : ChangeSpec := { name := "naturalQuotients", fn := fun _ => fun
  | [d1, d2] => { results := [.lit (.bool false)], args := [d1, d2] }
  | _ => none }
def NaturalQuotientsWrongFalsely : Prop := naturalQuotientsRow.holds Tryd.pinned (OpenSpec.ofChange naturalQuotientsWrong)

/-- 'faultlinelaw01.NaturalOrder': WHATEVER THE INPUT: true; the input reads as it did. -/
def naturalOrderSpec : ChangeSpec := { name := "naturalOrder", fn := fun _ => fun
  | [d1, d2, d3] => { results := [.lit (.bool true)], args := [d1, d2, d3] }
  | _ => none }
def naturalOrderRow : OpenClaim := { program := "ytdepoikifneggaadoor", sum := "e7840cf0b25511db9a3ae640a01e058f366519d2fd4df47b1cb24f31845848b6", func := "faultline/faultlinelaw01.NaturalOrder", spec := "naturalOrder", inPlace := ["internal/abi.NoEscape", "internal/bytealg.IndexByteString", "internal/bytealg.IndexString"], named := ["unicode/utf8.first", "unicode/utf8.acceptRanges", "internal/bytealg.MaxLen"], apart := false, laid := [("unicode/utf8.acceptRanges", laid_unicode_utf8_acceptRanges), ("unicode/utf8.first", laid_unicode_utf8_first)] }
def NaturalOrderSaid : Prop := naturalOrderRow.holds Tryd.pinned (OpenSpec.ofChange naturalOrderSpec)

/-- ITS FALSE NEIGHBOUR: 'it returns false'. Refute it at one input. -/
def naturalOrderWrong : ChangeSpec := { name := "naturalOrder", fn := fun _ => fun
  | [d1, d2, d3] => { results := [.lit (.bool false)], args := [d1, d2, d3] }
  | _ => none }
def NaturalOrderWrongFalsely : Prop := naturalOrderRow.holds Tryd.pinned (OpenSpec.ofChange naturalOrderWrong)

/-- 'faultlinelaw01.NaturalSums': WHATEVER THE INPUT: true; the input reads as it did. -/
def naturalSumsSpec : ChangeSpec := { name := "naturalSums", fn := fun _ => fun
  | [d1, d2] => { results := [.lit (.bool true)], args := [d1, d2] }
  | _ => none }
def naturalSumsRow : OpenClaim := { program := "ytdepoikifneggaadoor", sum := "e7840cf0b25511db9a3ae640a01e058f366519d2fd4df47b1cb24f31845848b6", func := "faultline/faultlinelaw01.NaturalSums", spec := "naturalSums", inPlace := ["internal/abi.NoEscape", "internal/bytealg.IndexByteString", "internal/bytealg.IndexString"], named := ["unicode/utf8.first", "unicode/utf8.acceptRanges", "internal/bytealg.MaxLen"], apart := false, laid := [("unicode/utf8.acceptRanges", laid_unicode_utf8_acceptRanges), ("unicode/utf8.first", laid_unicode_utf8_first)] }
def NaturalSumsSaid : Prop := naturalSumsRow.holds Tryd.pinned (OpenSpec.ofChange naturalSumsSpec)

/-- ITS FALSE NEIGHBOUR: 'it returns false'. Refute it at one input. -/
def naturalSumsWrong : ChangeSpec := { name := "naturalSums", fn := fun _ => fun
  | [d1, d2] => { results := [.lit (.bool false)], args := [d1, d2] }
  | _ => none }
def NaturalSumsWrongFalsely : Prop := naturalSumsRow.holds Tryd.pinned (OpenSpec.ofChange naturalSumsWrong)

/-- 'faultlinelaw01.NaturalMoves': WHATEVER THE INPUT: true; the input reads as it did. -/
def naturalMovesSpec : ChangeSpec := { name := "naturalMoves", fn := fun _ => fun
  | [d1, d2] => { results := [.lit (.bool true)], args := [d1, d2] }
  | _ => none }
def naturalMovesRow : OpenClaim := { program := "ytdepoikifneggaadoor", sum := "e7840cf0b25511db9a3ae640a01e058f366519d2fd4df47b1cb24f31845848b6", func := "faultline/faultlinelaw01.NaturalMoves", spec := "naturalMoves", inPlace := ["internal/abi.NoEscape", "internal/bytealg.IndexByteString", "internal/bytealg.IndexString"], named := ["unicode/utf8.first", "unicode/utf8.acceptRanges", "internal/bytealg.MaxLen"], apart := false, laid := [("unicode/utf8.acceptRanges", laid_unicode_utf8_acceptRanges), ("unicode/utf8.first", laid_unicode_utf8_first)] }
def NaturalMovesSaid : Prop := naturalMovesRow.holds Tryd.pinned (OpenSpec.ofChange naturalMovesSpec)

/-- ITS FALSE NEIGHBOUR: 'it returns false'. Refute it at one input. -/
def naturalMovesWrong : ChangeSpec := { name := "naturalMoves", fn := fun _ => fun
  | [d1, d2] => { results := [.lit (.bool false)], args := [d1, d2] }
  | _ => none }
def NaturalMovesWrongFalsely : Prop := naturalMovesRow.holds Tryd.pinned (OpenSpec.ofChange naturalMovesWrong)

/-- 'faultlinelaw01.NaturalDivides': WHATEVER THE INPUT: true; the input reads as it did. -/
def naturalDividesSpec : ChangeSpec := { name := "naturalDivides", fn := fun _ => fun
  | [d1, d2] => { results := [.lit (.bool true)], args := [d1, d2] }
  | _ => none }
def naturalDividesRow : OpenClaim := { program := "ytdepoikifneggaadoor", sum := "e7840cf0b25511db9a3ae640a01e058f366519d2fd4df47b1cb24f31845848b6", func := "faultline/faultlinelaw01.NaturalDivides", spec := "naturalDivides", inPlace := ["internal/abi.NoEscape", "internal/bytealg.IndexByteString", "internal/bytealg.IndexString"], named := ["unicode/utf8.first", "unicode/utf8.acceptRanges", "internal/bytealg.MaxLen"], apart := false, laid := [("unicode/utf8.acceptRanges", laid_unicode_utf8_acceptRanges), ("unicode/utf8.first", laid_unicode_utf8_first)] }
def NaturalDividesSaid : Prop := naturalDividesRow.holds Tryd.pinned (OpenSpec.ofChange naturalDividesSpec)

/-- ITS FALSE NEIGHBOUR: 'it returns false'. Refute it at one input. -/
def naturalDividesWrong : ChangeSpec := { name := "naturalDivides", fn := fun _ => fun
  | [d1, d2] => { results := [.lit (.bool false)], args := [d1, d2] }
  | _ => none }
def NaturalDividesWrongFalsely : Prop := naturalDividesRow.holds Tryd.pinned (OpenSpec.ofChange naturalDividesWrong)

/-- 'faultlinelaw01.NaturalCommon': WHATEVER THE INPUT: true; the input reads as it did. -/
def naturalCommonSpec : ChangeSpec := { name := "naturalCommon", fn := fun _ => fun
  | [d1, d2, d3] => { results := [.lit (.bool true)], args := [d1, d2, d3] }
  | _ => none }
def naturalCommonRow : OpenClaim := { program := "ytdepoikifneggaadoor", sum := "e7840cf0b25511db9a3ae640a01e058f366519d2fd4df47b1cb24f31845848b6", func := "faultline/faultlinelaw01.NaturalCommon", spec := "naturalCommon", inPlace := ["internal/abi.NoEscape", "internal/bytealg.IndexByteString", "internal/bytealg.IndexString"], named := ["unicode/utf8.first", "unicode/utf8.acceptRanges", "internal/bytealg.MaxLen"], apart := false, laid := [("unicode/utf8.acceptRanges", laid_unicode_utf8_acceptRanges), ("unicode/utf8.first", laid_unicode_utf8_first)] }
def NaturalCommonSaid : Prop := naturalCommonRow.holds Tryd.pinned (OpenSpec.ofChange naturalCommonSpec)

/-- ITS FALSE NEIGHBOUR: 'it returns false'. Refute it at one input. -/
def naturalCommonWrong : ChangeSpec := { name := "naturalCommon", fn := fun _ => fun
  | [d1, d2, d3] => { results := [.lit (.bool false)], args := [d1, d2, d3] }
  | _ => none }
def NaturalCommonWrongFalsely : Prop := naturalCommonRow.holds Tryd.pinned (OpenSpec.ofChange naturalCommonWrong)

/-- 'faultlinelaw01.NaturalRing': WHATEVER THE INPUT: true; the input reads as it did. -/
def naturalRingSpec : ChangeSpec := { name := "naturalRing", fn := fun _ => fun
  | [d1, d2, d3] => { results := [.lit (.bool true)], args := [d1, d2, d3] }
  | _ => none }
def naturalRingRow : OpenClaim := { program := "ytdepoikifneggaadoor", sum := "e7840cf0b25511db9a3ae640a01e058f366519d2fd4df47b1cb24f31845848b6", func := "faultline/faultlinelaw01.NaturalRing", spec := "naturalRing", inPlace := ["internal/abi.NoEscape", "internal/bytealg.IndexByteString", "internal/bytealg.IndexString"], named := ["unicode/utf8.first", "unicode/utf8.acceptRanges", "internal/bytealg.MaxLen"], apart := false, laid := [("unicode/utf8.acceptRanges", laid_unicode_utf8_acceptRanges), ("unicode/utf8.first", laid_unicode_utf8_first)] }
def NaturalRingSaid : Prop := naturalRingRow.holds Tryd.pinned (OpenSpec.ofChange naturalRingSpec)

/-- ITS FALSE NEIGHBOUR: 'it returns false'. Refute it at one input. -/
def naturalRingWrong : ChangeSpec := { name := "naturalRing", fn := fun _ => fun
  | [d1, d2, d3] => { results := [.lit (.bool false)], args := [d1, d2, d3] }
  | _ => none }
def NaturalRingWrongFalsely : Prop := naturalRingRow.holds Tryd.pinned (OpenSpec.ofChange naturalRingWrong)

/-- 'faultlinelaw01.NaturalProducts': WHATEVER THE INPUT: true; the input reads as it did. -/
def naturalProductsSpec : ChangeSpec := { name := "naturalProducts", fn := fun _ => fun
  | [d1, d2, d3] => { results := [.lit (.bool true)], args := [d1, d2, d3] }
  | _ => none }
def naturalProductsRow : OpenClaim := { program := "ytdepoikifneggaadoor", sum := "e7840cf0b25511db9a3ae640a01e058f366519d2fd4df47b1cb24f31845848b6", func := "faultline/faultlinelaw01.NaturalProducts", spec := "naturalProducts", inPlace := ["internal/abi.NoEscape", "internal/bytealg.IndexByteString", "internal/bytealg.IndexString"], named := ["unicode/utf8.first", "unicode/utf8.acceptRanges", "internal/bytealg.MaxLen"], apart := false, laid := [("unicode/utf8.acceptRanges", laid_unicode_utf8_acceptRanges), ("unicode/utf8.first", laid_unicode_utf8_first)] }
def NaturalProductsSaid : Prop := naturalProductsRow.holds Tryd.pinned (OpenSpec.ofChange naturalProductsSpec)

/-- ITS FALSE NEIGHBOUR: 'it returns false'. Refute it at one input. -/
def naturalProductsWrong : ChangeSpec := { name := "naturalProducts", fn := fun _ => fun
  | [d1, d2, d3] => { results := [.lit (.bool false)], args := [d1, d2, d3] }
  | _ => none }
def NaturalProductsWrongFalsely : Prop := naturalProductsRow.holds Tryd.pinned (OpenSpec.ofChange naturalProductsWrong)

/-- 'faultlinelaw01.NaturalTexts': WHATEVER THE INPUT: true; the input reads as it did. -/
def naturalTextsSpec : ChangeSpec := { name := "naturalTexts", fn := fun _ => fun
  | [d1, d2] => { results := [.lit (.bool true)], args := [d1, d2] }
  | _ => none }
def naturalTextsRow : OpenClaim := { program := "ytdepoikifneggaadoor", sum := "e7840cf0b25511db9a3ae640a01e058f366519d2fd4df47b1cb24f31845848b6", func := "faultline/faultlinelaw01.NaturalTexts", spec := "naturalTexts", inPlace := ["internal/abi.NoEscape", "internal/bytealg.IndexByteString", "internal/bytealg.IndexString"], named := ["unicode/utf8.first", "unicode/utf8.acceptRanges", "internal/bytealg.MaxLen"], apart := false, laid := [("unicode/utf8.acceptRanges", laid_unicode_utf8_acceptRanges), ("unicode/utf8.first", laid_unicode_utf8_first)] }
def NaturalTextsSaid : Prop := naturalTextsRow.holds Tryd.pinned (OpenSpec.ofChange naturalTextsSpec)

/-- ITS FALSE NEIGHBOUR: 'it returns false'. Refute it at one input. -/
def naturalTextsWrong : ChangeSpec := { name := "naturalTexts", fn := fun _ => fun
  | [d1, d2] => { results := [.lit (.bool false)], args := [d1, d2] }
  | _ => none }
def NaturalTextsWrongFalsely : Prop := naturalTextsRow.holds Tryd.pinned (OpenSpec.ofChange naturalTextsWrong)

/-- 'faultlinelaw01.NaturalBack': WHATEVER THE INPUT: true; the input reads as it did. -/
def naturalBackSpec : ChangeSpec := { name := "naturalBack", fn := fun _ => fun
  | [d1, d2] => { results := [.lit (.bool true)], args := [d1, d2] }
  | _ => none }
def naturalBackRow : OpenClaim := { program := "ytdepoikifneggaadoor", sum := "e7840cf0b25511db9a3ae640a01e058f366519d2fd4df47b1cb24f31845848b6", func := "faultline/faultlinelaw01.NaturalBack", spec := "naturalBack", inPlace := ["internal/abi.NoEscape", "internal/bytealg.IndexByteString", "internal/bytealg.IndexString"], named := ["unicode/utf8.first", "unicode/utf8.acceptRanges", "internal/bytealg.MaxLen"], apart := false, laid := [("unicode/utf8.acceptRanges", laid_unicode_utf8_acceptRanges), ("unicode/utf8.first", laid_unicode_utf8_first)] }
def NaturalBackSaid : Prop := naturalBackRow.holds Tryd.pinned (OpenSpec.ofChange naturalBackSpec)

/-- ITS FALSE NEIGHBOUR: 'it returns false'. Refute it at one input. -/
def naturalBackWrong : ChangeSpec := { name := "naturalBack", fn := fun _ => fun
  | [d1, d2] => { results := [.lit (.bool false)], args := [d1, d2] }
  | _ => none }
def NaturalBackWrongFalsely : Prop := naturalBackRow.holds Tryd.pinned (OpenSpec.ofChange naturalBackWrong)

/-- 'faultlinelaw01.NaturalSquares': WHATEVER THE INPUT: true; the input reads as it did. -/
def naturalSquaresSpec : ChangeSpec := { name := "naturalSquares", fn := fun _ => fun
  | [d1, d2] => { results := [.lit (.bool true)], args := [d1, d2] }
  | _ => none }
def naturalSquaresRow : OpenClaim := { program := "ytdepoikifneggaadoor", sum := "e7840cf0b25511db9a3ae640a01e058f366519d2fd4df47b1cb24f31845848b6", func := "faultline/faultlinelaw01.NaturalSquares", spec := "naturalSquares", inPlace := ["internal/abi.NoEscape", "internal/bytealg.IndexByteString", "internal/bytealg.IndexString"], named := ["unicode/utf8.first", "unicode/utf8.acceptRanges", "internal/bytealg.MaxLen"], apart := false, laid := [("unicode/utf8.acceptRanges", laid_unicode_utf8_acceptRanges), ("unicode/utf8.first", laid_unicode_utf8_first)] }
def NaturalSquaresSaid : Prop := naturalSquaresRow.holds Tryd.pinned (OpenSpec.ofChange naturalSquaresSpec)

/-- ITS FALSE NEIGHBOUR: 'it returns false'. Refute it at one input. -/
def naturalSquaresWrong : ChangeSpec := { name := "naturalSquares", fn := fun _ => fun
  | [d1, d2] => { results := [.lit (.bool false)], args := [d1, d2] }
  | _ => none }
def NaturalSquaresWrongFalsely : Prop := naturalSquaresRow.holds Tryd.pinned (OpenSpec.ofChange naturalSquaresWrong)

/- THE SECOND FORM. 'bulk': how many values and letters a reading holds, each counted each time it is reached (what is shared counts as often as it is met; a slice's spare places count too). A statement '..UptoSaid' is the law's where the arguments, and the package variables that the reading takes, are together of bulk at most 1048576: NARROWER than '..Said'. Prove '..Said' where nothing that the law and all that it calls make is longer than what came in: it says more and counts as full. Else prove '..UptoSaid'. A law counts once. -/
mutual
def uptoBulk {H : Type} : DataW H → Nat
  | .lit (.string bytes) => bytes.length + 1
  | .lit _ => 1
  | .nil => 1
  | .ptr d => uptoBulk d + 1
  | .slice elems spare => uptoBulkAll elems + uptoBulkAll spare + 1
  | .agg parts => uptoBulkAll parts + 1
  | .iface _ d => uptoBulk d + 1
  | .map entries => uptoBulkEntries entries + 1
  | .held _ => 1
def uptoBulkAll {H : Type} : List (DataW H) → Nat
  | [] => 0
  | d :: r => uptoBulk d + uptoBulkAll r
def uptoBulkEntries {H : Type} : List (Lit × DataW H) → Nat
  | [] => 0
  | x :: r => uptoBulkEntry x + uptoBulkEntries r
def uptoBulkEntry {H : Type} : Lit × DataW H → Nat
  | (.string bytes, d) => bytes.length + uptoBulk d + 1
  | (_, d) => uptoBulk d + 1
 end
def uptoSmall : (H : Type) → List (DataW H) → Bool := fun _ ds => decide (uptoBulkAll ds ≤ 1048576)
def OpenSpec.upto (s : _root_.Go.ChangeSpec) : _root_.Go.OpenSpec := { _root_.Go.OpenSpec.ofChange s with cond := some uptoSmall }

/-- 'faultlinelaw01.NaturalQuotients', WHERE WHAT IT READS IS OF BULK AT MOST 1048576: true; the input reads as it did. -/
def naturalQuotientsUptoRow : OpenClaim := { program := "ytdepoikifneggaadoor", sum := "e7840cf0b25511db9a3ae640a01e058f366519d2fd4df47b1cb24f31845848b6", func := "faultline/faultlinelaw01.NaturalQuotients", spec := "naturalQuotients", inPlace := ["internal/abi.NoEscape", "internal/bytealg.IndexByteString", "internal/bytealg.IndexString"], named := ["unicode/utf8.first", "unicode/utf8.acceptRanges", "internal/bytealg.MaxLen"], apart := false, laid := [("unicode/utf8.acceptRanges", laid_unicode_utf8_acceptRanges), ("unicode/utf8.first", laid_unicode_utf8_first)], narrowed := true }
def NaturalQuotientsUptoSaid : Prop := naturalQuotientsUptoRow.holds Tryd.pinned (OpenSpec.upto naturalQuotientsSpec)

/-- 'faultlinelaw01.NaturalOrder', WHERE WHAT IT READS IS OF BULK AT MOST 1048576: true; the input reads as it did. -/
def naturalOrderUptoRow : OpenClaim := { program := "ytdepoikifneggaadoor", sum := "e7840cf0b25511db9a3ae640a01e058f366519d2fd4df47b1cb24f31845848b6", func := "faultline/faultlinelaw01.NaturalOrder", spec := "naturalOrder", inPlace := ["internal/abi.NoEscape", "internal/bytealg.IndexByteString", "internal/bytealg.IndexString"], named := ["unicode/utf8.first", "unicode/utf8.acceptRanges", "internal/bytealg.MaxLen"], apart := false, laid := [("unicode/utf8.acceptRanges", laid_unicode_utf8_acceptRanges), ("unicode/utf8.first", laid_unicode_utf8_first)], narrowed := true }
def NaturalOrderUptoSaid : Prop := naturalOrderUptoRow.holds Tryd.pinned (OpenSpec.upto naturalOrderSpec)

/-- 'faultlinelaw01.NaturalSums', WHERE WHAT IT READS IS OF BULK AT MOST 1048576: true; the input reads as it did. -/
def naturalSumsUptoRow : OpenClaim := { program := "ytdepoikifneggaadoor", sum := "e7840cf0b25511db9a3ae640a01e058f366519d2fd4df47b1cb24f31845848b6", func := "faultline/faultlinelaw01.NaturalSums", spec := "naturalSums", inPlace := ["internal/abi.NoEscape", "internal/bytealg.IndexByteString", "internal/bytealg.IndexString"], named := ["unicode/utf8.first", "unicode/utf8.acceptRanges", "internal/bytealg.MaxLen"], apart := false, laid := [("unicode/utf8.acceptRanges", laid_unicode_utf8_acceptRanges), ("unicode/utf8.first", laid_unicode_utf8_first)], narrowed := true }
def NaturalSumsUptoSaid : Prop := naturalSumsUptoRow.holds Tryd.pinned (OpenSpec.upto naturalSumsSpec)

/-- 'faultlinelaw01.NaturalMoves', WHERE WHAT IT READS IS OF BULK AT MOST 1048576: true; the input reads as it did. -/
def naturalMovesUptoRow : OpenClaim := { program := "ytdepoikifneggaadoor", sum := "e7840cf0b25511db9a3ae640a01e058f366519d2fd4df47b1cb24f31845848b6", func := "faultline/faultlinelaw01.NaturalMoves", spec := "naturalMoves", inPlace := ["internal/abi.NoEscape", "internal/bytealg.IndexByteString", "internal/bytealg.IndexString"], named := ["unicode/utf8.first", "unicode/utf8.acceptRanges", "internal/bytealg.MaxLen"], apart := false, laid := [("unicode/utf8.acceptRanges", laid_unicode_utf8_acceptRanges), ("unicode/utf8.first", laid_unicode_utf8_first)], narrowed := true }
def NaturalMovesUptoSaid : Prop := naturalMovesUptoRow.holds Tryd.pinned (OpenSpec.upto naturalMovesSpec)

/-- 'faultlinelaw01.NaturalDivides', WHERE WHAT IT READS IS OF BULK AT MOST 1048576: true; the input reads as it did. -/
def naturalDividesUptoRow : OpenClaim := { program := "ytdepoikifneggaadoor", sum := "e7840cf0b25511db9a3ae640a01e058f366519d2fd4df47b1cb24f31845848b6", func := "faultline/faultlinelaw01.NaturalDivides", spec := "naturalDivides", inPlace := ["internal/abi.NoEscape", "internal/bytealg.IndexByteString", "internal/bytealg.IndexString"], named := ["unicode/utf8.first", "unicode/utf8.acceptRanges", "internal/bytealg.MaxLen"], apart := false, laid := [("unicode/utf8.acceptRanges", laid_unicode_utf8_acceptRanges), ("unicode/utf8.first", laid_unicode_utf8_first)], narrowed := true }
def NaturalDividesUptoSaid : Prop := naturalDividesUptoRow.holds Tryd.pinned (OpenSpec.upto naturalDividesSpec)

/-- 'faultlinelaw01.NaturalCommon', WHERE WHAT IT READS IS OF BULK AT MOST 1048576: true; the input reads as it did. -/
def naturalCommonUptoRow : OpenClaim := { program := "ytdepoikifneggaadoor", sum := "e7840cf0b25511db9a3ae640a01e058f366519d2fd4df47b1cb24f31845848b6", func := "faultline/faultlinelaw01.NaturalCommon", spec := "naturalCommon", inPlace := ["internal/abi.NoEscape", "internal/bytealg.IndexByteString", "internal/bytealg.IndexString"], named := ["unicode/utf8.first", "unicode/utf8.acceptRanges", "internal/bytealg.MaxLen"], apart := false, laid := [("unicode/utf8.acceptRanges", laid_unicode_utf8_acceptRanges), ("unicode/utf8.first", laid_unicode_utf8_first)], narrowed := true }
def NaturalCommonUptoSaid : Prop := naturalCommonUptoRow.holds Tryd.pinned (OpenSpec.upto naturalCommonSpec)

/-- 'faultlinelaw01.NaturalRing', WHERE WHAT IT READS IS OF BULK AT MOST 1048576: true; the input reads as it did. -/
def naturalRingUptoRow : OpenClaim := { program := "ytdepoikifneggaadoor", sum := "e7840cf0b25511db9a3ae640a01e058f366519d2fd4df47b1cb24f31845848b6", func := "faultline/faultlinelaw01.NaturalRing", spec := "naturalRing", inPlace := ["internal/abi.NoEscape", "internal/bytealg.IndexByteString", "internal/bytealg.IndexString"], named := ["unicode/utf8.first", "unicode/utf8.acceptRanges", "internal/bytealg.MaxLen"], apart := false, laid := [("unicode/utf8.acceptRanges", laid_unicode_utf8_acceptRanges), ("unicode/utf8.first", laid_unicode_utf8_first)], narrowed := true }
def NaturalRingUptoSaid : Prop := naturalRingUptoRow.holds Tryd.pinned (OpenSpec.upto naturalRingSpec)

/-- 'faultlinelaw01.NaturalProducts', WHERE WHAT IT READS IS OF BULK AT MOST 1048576: true; the input reads as it did. -/
def naturalProductsUptoRow : OpenClaim := { program := "ytdepoikifneggaadoor", sum := "e7840cf0b25511db9a3ae640a01e058f366519d2fd4df47b1cb24f31845848b6", func := "faultline/faultlinelaw01.NaturalProducts", spec := "naturalProducts", inPlace := ["internal/abi.NoEscape", "internal/bytealg.IndexByteString", "internal/bytealg.IndexString"], named := ["unicode/utf8.first", "unicode/utf8.acceptRanges", "internal/bytealg.MaxLen"], apart := false, laid := [("unicode/utf8.acceptRanges", laid_unicode_utf8_acceptRanges), ("unicode/utf8.first", laid_unicode_utf8_first)], narrowed := true }
def NaturalProductsUptoSaid : Prop := naturalProductsUptoRow.holds Tryd.pinned (OpenSpec.upto naturalProductsSpec)

/-- 'faultlinelaw01.NaturalTexts', WHERE WHAT IT READS IS OF BULK AT MOST 1048576: true; the input reads as it did. -/
def naturalTextsUptoRow : OpenClaim := { program := "ytdepoikifneggaadoor", sum := "e7840cf0b25511db9a3ae640a01e058f366519d2fd4df47b1cb24f31845848b6", func := "faultline/faultlinelaw01.NaturalTexts", spec := "naturalTexts", inPlace := ["internal/abi.NoEscape", "internal/bytealg.IndexByteString", "internal/bytealg.IndexString"], named := ["unicode/utf8.first", "unicode/utf8.acceptRanges", "internal/bytealg.MaxLen"], apart := false, laid := [("unicode/utf8.acceptRanges", laid_unicode_utf8_acceptRanges), ("unicode/utf8.first", laid_unicode_utf8_first)], narrowed := true }
def NaturalTextsUptoSaid : Prop := naturalTextsUptoRow.holds Tryd.pinned (OpenSpec.upto naturalTextsSpec)

/-- 'faultlinelaw01.NaturalBack', WHERE WHAT IT READS IS OF BULK AT MOST 1048576: true; the input reads as it did. -/
def naturalBackUptoRow : OpenClaim := { program := "ytdepoikifneggaadoor", sum := "e7840cf0b25511db9a3ae640a01e058f366519d2fd4df47b1cb24f31845848b6", func := "faultline/faultlinelaw01.NaturalBack", spec := "naturalBack", inPlace := ["internal/abi.NoEscape", "internal/bytealg.IndexByteString", "internal/bytealg.IndexString"], named := ["unicode/utf8.first", "unicode/utf8.acceptRanges", "internal/bytealg.MaxLen"], apart := false, laid := [("unicode/utf8.acceptRanges", laid_unicode_utf8_acceptRanges), ("unicode/utf8.first", laid_unicode_utf8_first)], narrowed := true }
def NaturalBackUptoSaid : Prop := naturalBackUptoRow.holds Tryd.pinned (OpenSpec.upto naturalBackSpec)

/-- 'faultlinelaw01.NaturalSquares', WHERE WHAT IT READS IS OF BULK AT MOST 1048576: true; the input reads as it did. -/
def naturalSquaresUptoRow : OpenClaim := { program := "ytdepoikifneggaadoor", sum := "e7840cf0b25511db9a3ae640a01e058f366519d2fd4df47b1cb24f31845848b6", func := "faultline/faultlinelaw01.NaturalSquares", spec := "naturalSquares", inPlace := ["internal/abi.NoEscape", "internal/bytealg.IndexByteString", "internal/bytealg.IndexString"], named := ["unicode/utf8.first", "unicode/utf8.acceptRanges", "internal/bytealg.MaxLen"], apart := false, laid := [("unicode/utf8.acceptRanges", laid_unicode_utf8_acceptRanges), ("unicode/utf8.first", laid_unicode_utf8_first)], narrowed := true }
def NaturalSquaresUptoSaid : Prop := naturalSquaresUptoRow.holds Tryd.pinned (OpenSpec.upto naturalSquaresSpec)

end Rows
end Go.Proofs.YtdepoikifneggaaDoor
