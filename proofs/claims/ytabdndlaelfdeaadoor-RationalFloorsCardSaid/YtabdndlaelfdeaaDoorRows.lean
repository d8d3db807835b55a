/-
  NARROWER THAN 'FOR EVERY INPUT', by the rows' own cells (each row's printed sentence says how): RationalTexts: laid · RationalMakes: laid · RationalProducts: laid · RationalSums: laid · RationalBack: laid · RationalEqual: laid · RationalField: laid · RationalFloors: laid.
  DERIVED. THE GIVEN ROWS OF THIS SEAT. 8 by the template 'for every input the law returns true; each argument reads behind the call as it read before'; 0 by the template 'total and deterministic' (their statements: YtabdndlaelfdeaaDoorTotals.lean).
  GIVEN WITH THE SEED: the statements are not yours to turn. If you find one false, say at which input.
  Laid BY PROGRAM, IN A SANDBOX (cutbox-rows.mjs): the forced cells as the released guide's own fill.sh prints them over the translation cda630fe9b85d9e1… (all of the seat's roots in one cut). By AI agents, Wed Nov 11 2026. No macro, syntax, notation, axiom, sorry.
-/
import Derived.Test.YtabdndlaelfdeaaDoorChecked
import GoSem.PinnedTables
import GoSem.Claim
import GoSem.ClaimJoined
import GoSem.ClaimMapViews
import Derived.JoinedTies
import Derived.KernelRfl
namespace Go.Proofs.YtabdndlaelfdeaaDoor
/- THE CELL 'sum', in the pinned program and in every row, IS THE sha256 OF THE DUMP (.gsa) THAT YtabdndlaelfdeaaDoorProg.lean LOADS. Nothing in Lean hashes anything: it is a label: what it is worth is what the hold of that sum in a sandbox is worth. -/
noncomputable def Tryd.pinned : Pinned := { name := "ytabdndlaelfdeaadoor", sum := "cda630fe9b85d9e10f60aa82415db422e14ac0de5208ed7f0e4b2f82276dc584", checked := Tryd.checked }
namespace Rows
def none {H : Type} : Left H := { results := [], args := [] }

/- WHAT THE LISTED PACKAGE-LEVEL VARIABLES READ AS WHEN THE CALL BEGINS. Each datum BY PROGRAM (the guide's laid-datum.mjs) off the statement by which the dump's own 'gosem.cut.vars' lays the variable. In a bare row this is a premise. The card (YtabdndlaelfdeaaDoorCards.lean) ties it to the program's text. -/
def laid_unicode_utf8_acceptRanges {H : Type} : DataW H := .agg [.agg [.lit (.int .u8 128), .lit (.int .u8 191)], .agg [.lit (.int .u8 160), .lit (.int .u8 191)], .agg [.lit (.int .u8 128), .lit (.int .u8 159)], .agg [.lit (.int .u8 144), .lit (.int .u8 191)], .agg [.lit (.int .u8 128), .lit (.int .u8 143)], .agg [.lit (.int .u8 0), .lit (.int .u8 0)], .agg [.lit (.int .u8 0), .lit (.int .u8 0)], .agg [.lit (.int .u8 0), .lit (.int .u8 0)], .agg [.lit (.int .u8 0), .lit (.int .u8 0)], .agg [.lit (.int .u8 0), .lit (.int .u8 0)], .agg [.lit (.int .u8 0), .lit (.int .u8 0)], .agg [.lit (.int .u8 0), .lit (.int .u8 0)], .agg [.lit (.int .u8 0), .lit (.int .u8 0)], .agg [.lit (.int .u8 0), .lit (.int .u8 0)], .agg [.lit (.int .u8 0), .lit (.int .u8 0)], .agg [.lit (.int .u8 0), .lit (.int .u8 0)]]
/-- One of Go's own tables, pinned by name: the form's constant. -/
def laid_unicode_utf8_first : DataW Unit := Go.Pinned.utf8First

/-- 'faultlinelaw02.RationalTexts': WHATEVER THE INPUT: true; the input reads as it did. -/
def rationalTextsSpec : ChangeSpec := { name := "rationalTexts", fn := fun _ => fun
  | [d1, d2] => { results := [.lit (.bool true)], args := [d1, d2] }
  | _ => none }
def rationalTextsRow : OpenClaim := { program := "ytabdndlaelfdeaadoor", sum := "cda630fe9b85d9e10f60aa82415db422e14ac0de5208ed7f0e4b2f82276dc584", func := "faultline/faultlinelaw02.RationalTexts", spec := "rationalTexts", inPlace := ["internal/bytealg.IndexByteString", "internal/bytealg.IndexString", "internal/abi.NoEscape"], named := ["internal/bytealg.MaxLen", "unicode/utf8.first", "unicode/utf8.acceptRanges"], apart := false, laid := [("unicode/utf8.acceptRanges", laid_unicode_utf8_acceptRanges), ("unicode/utf8.first", laid_unicode_utf8_first)] }
def RationalTextsSaid : Prop := rationalTextsRow.holds Tryd.pinned (OpenSpec.ofChange rationalTextsSpec)

/-- ITS FALSE NEIGHBOUR: 'it returns false'. Refute it at one input. -/
def rationalTextsWrong : ChangeSpec := { name := "rationalTexts", fn := fun _ => fun
  | [d1, d2] => { results := [.lit (.bool false)], args := [d1, d2] }
  | _ => none }
def RationalTextsWrongFalsely : Prop := rationalTextsRow.holds Tryd.pinned (OpenSpec.ofChange rationalTextsWrong)

/-- 'faultlinelaw02.RationalMakes': WHATEVER THE INPUT: true; the input reads as it did. -/
def rationalMakesSpec : ChangeSpec := { name := "rationalMakes", fn := fun _ => fun
  | [d1, d2, d3] => { results := [.lit (.bool true)], args := [d1, d2, d3] }
  | _ => none }
def rationalMakesRow : OpenClaim := { program := "ytabdndlaelfdeaadoor", sum := "cda630fe9b85d9e10f60aa82415db422e14ac0de5208ed7f0e4b2f82276dc584", func := "faultline/faultlinelaw02.RationalMakes", spec := "rationalMakes", inPlace := ["internal/bytealg.IndexByteString", "internal/bytealg.IndexString", "internal/abi.NoEscape"], named := ["internal/bytealg.MaxLen", "unicode/utf8.first", "unicode/utf8.acceptRanges"], apart := false, laid := [("unicode/utf8.acceptRanges", laid_unicode_utf8_acceptRanges), ("unicode/utf8.first", laid_unicode_utf8_first)] }
def RationalMakesSaid : Prop := rationalMakesRow.holds Tryd.pinned (OpenSpec.ofChange rationalMakesSpec)

/-- ITS FALSE NEIGHBOUR: 'it returns false'. Refute it at one input. -/
def rationalMakesWrong : ChangeSpec := { name := "rationalMakes", fn := fun _ => fun
  | [d1, d2, d3] => { results := [.lit (.bool false)], args := [d1, d2, d3] }
  | _ => none }
def RationalMakesWrongFalsely : Prop := rationalMakesRow.holds Tryd.pinned (OpenSpec.ofChange rationalMakesWrong)

/-- 'faultlinelaw02.RationalProducts': WHATEVER THE INPUT: true; the input reads as it did. -/
def rationalProductsSpec : ChangeSpec := { name := "rationalProducts", fn := fun _ => fun
  | [d1, d2, d3] => { results := [.lit (.bool true)], args := [d1, d2, d3] }
  | _ => none }
def rationalProductsRow : OpenClaim := { program := "ytabdndlaelfdeaadoor", sum := "cda630fe9b85d9e10f60aa82415db422e14ac0de5208ed7f0e4b2f82276dc584", func := "faultline/faultlinelaw02.RationalProducts", spec := "rationalProducts", inPlace := ["internal/bytealg.IndexByteString", "internal/bytealg.IndexString", "internal/abi.NoEscape"], recurses := true, named := ["internal/bytealg.MaxLen", "unicode/utf8.first", "unicode/utf8.acceptRanges"], apart := false, laid := [("unicode/utf8.acceptRanges", laid_unicode_utf8_acceptRanges), ("unicode/utf8.first", laid_unicode_utf8_first)] }
def RationalProductsSaid : Prop := rationalProductsRow.holds Tryd.pinned (OpenSpec.ofChange rationalProductsSpec)

/-- ITS FALSE NEIGHBOUR: 'it returns false'. Refute it at one input. -/
def rationalProductsWrong : ChangeSpec := { name := "rationalProducts", fn := fun _ => fun
  | [d1, d2, d3] => { results := [.lit (.bool false)], args := [d1, d2, d3] }
  | _ => none }
def RationalProductsWrongFalsely : Prop := rationalProductsRow.holds Tryd.pinned (OpenSpec.ofChange rationalProductsWrong)

/-- 'faultlinelaw02.RationalSums': WHATEVER THE INPUT: true; the input reads as it did. -/
def rationalSumsSpec : ChangeSpec := { name := "rationalSums", fn := fun _ => fun
  | [d1, d2] => { results := [.lit (.bool true)], args := [d1, d2] }
  | _ => none }
def rationalSumsRow : OpenClaim := { program := "ytabdndlaelfdeaadoor", sum := "cda630fe9b85d9e10f60aa82415db422e14ac0de5208ed7f0e4b2f82276dc584", func := "faultline/faultlinelaw02.RationalSums", spec := "rationalSums", inPlace := ["internal/bytealg.IndexByteString", "internal/bytealg.IndexString", "internal/abi.NoEscape"], named := ["internal/bytealg.MaxLen", "unicode/utf8.first", "unicode/utf8.acceptRanges"], apart := false, laid := [("unicode/utf8.acceptRanges", laid_unicode_utf8_acceptRanges), ("unicode/utf8.first", laid_unicode_utf8_first)] }
def RationalSumsSaid : Prop := rationalSumsRow.holds Tryd.pinned (OpenSpec.ofChange rationalSumsSpec)

/-- ITS FALSE NEIGHBOUR: 'it returns false'. Refute it at one input. -/
def rationalSumsWrong : ChangeSpec := { name := "rationalSums", fn := fun _ => fun
  | [d1, d2] => { results := [.lit (.bool false)], args := [d1, d2] }
  | _ => none }
def RationalSumsWrongFalsely : Prop := rationalSumsRow.holds Tryd.pinned (OpenSpec.ofChange rationalSumsWrong)

/-- 'faultlinelaw02.RationalBack': WHATEVER THE INPUT: true; the input reads as it did. -/
def rationalBackSpec : ChangeSpec := { name := "rationalBack", fn := fun _ => fun
  | [d1, d2] => { results := [.lit (.bool true)], args := [d1, d2] }
  | _ => none }
def rationalBackRow : OpenClaim := { program := "ytabdndlaelfdeaadoor", sum := "cda630fe9b85d9e10f60aa82415db422e14ac0de5208ed7f0e4b2f82276dc584", func := "faultline/faultlinelaw02.RationalBack", spec := "rationalBack", inPlace := ["internal/bytealg.IndexByteString", "internal/bytealg.IndexString", "internal/abi.NoEscape"], named := ["internal/bytealg.MaxLen", "unicode/utf8.first", "unicode/utf8.acceptRanges"], apart := false, laid := [("unicode/utf8.acceptRanges", laid_unicode_utf8_acceptRanges), ("unicode/utf8.first", laid_unicode_utf8_first)] }
def RationalBackSaid : Prop := rationalBackRow.holds Tryd.pinned (OpenSpec.ofChange rationalBackSpec)

/-- ITS FALSE NEIGHBOUR: 'it returns false'. Refute it at one input. -/
def rationalBackWrong : ChangeSpec := { name := "rationalBack", fn := fun _ => fun
  | [d1, d2] => { results := [.lit (.bool false)], args := [d1, d2] }
  | _ => none }
def RationalBackWrongFalsely : Prop := rationalBackRow.holds Tryd.pinned (OpenSpec.ofChange rationalBackWrong)

/-- 'faultlinelaw02.RationalEqual': WHATEVER THE INPUT: true; the input reads as it did. -/
def rationalEqualSpec : ChangeSpec := { name := "rationalEqual", fn := fun _ => fun
  | [d1, d2, d3] => { results := [.lit (.bool true)], args := [d1, d2, d3] }
  | _ => none }
def rationalEqualRow : OpenClaim := { program := "ytabdndlaelfdeaadoor", sum := "cda630fe9b85d9e10f60aa82415db422e14ac0de5208ed7f0e4b2f82276dc584", func := "faultline/faultlinelaw02.RationalEqual", spec := "rationalEqual", inPlace := ["internal/bytealg.IndexByteString", "internal/bytealg.IndexString", "internal/abi.NoEscape"], named := ["internal/bytealg.MaxLen", "unicode/utf8.first", "unicode/utf8.acceptRanges"], apart := false, laid := [("unicode/utf8.acceptRanges", laid_unicode_utf8_acceptRanges), ("unicode/utf8.first", laid_unicode_utf8_first)] }
def RationalEqualSaid : Prop := rationalEqualRow.holds Tryd.pinned (OpenSpec.ofChange rationalEqualSpec)

/-- ITS FALSE NEIGHBOUR: 'it returns false'. Refute it at one input. -/
def rationalEqualWrong : ChangeSpec := { name := "rationalEqual", fn := fun _ => fun
  | [d1, d2, d3] => { results := [.lit (.bool false)], args := [d1, d2, d3] }
  | _ => none }
def RationalEqualWrongFalsely : Prop := rationalEqualRow.holds Tryd.pinned (OpenSpec.ofChange rationalEqualWrong)

/-- 'faultlinelaw02.RationalField': WHATEVER THE INPUT: true; the input reads as it did. -/
def rationalFieldSpec : ChangeSpec := { name := "rationalField", fn := fun _ => fun
  | [d1, d2, d3] => { results := [.lit (.bool true)], args := [d1, d2, d3] }
  | _ => none }
def rationalFieldRow : OpenClaim := { program := "ytabdndlaelfdeaadoor", sum := "cda630fe9b85d9e10f60aa82415db422e14ac0de5208ed7f0e4b2f82276dc584", func := "faultline/faultlinelaw02.RationalField", spec := "rationalField", inPlace := ["internal/bytealg.IndexByteString", "internal/bytealg.IndexString", "internal/abi.NoEscape"], named := ["internal/bytealg.MaxLen", "unicode/utf8.first", "unicode/utf8.acceptRanges"], apart := false, laid := [("unicode/utf8.acceptRanges", laid_unicode_utf8_acceptRanges), ("unicode/utf8.first", laid_unicode_utf8_first)] }
def RationalFieldSaid : Prop := rationalFieldRow.holds Tryd.pinned (OpenSpec.ofChange rationalFieldSpec)

/-- ITS FALSE NEIGHBOUR: 'it returns false'. Refute it at one input. -/
def rationalFieldWrong : ChangeSpec := { name := "rationalField", fn := fun _ => fun
  | [d1, d2, d3] => { results := [.lit (.bool false)], args := [d1, d2, d3] }
  | _ => none }
def RationalFieldWrongFalsely : Prop := rationalFieldRow.holds Tryd.pinned (OpenSpec.ofChange rationalFieldWrong)

/-- 'faultlinelaw02.RationalFloors': WHATEVER THE INPUT: true; the input reads as it did. -/
def rationalFloorsSpec : ChangeSpec := { name := "rationalFloors", fn := fun _ => fun
  | [d1, d2] => { results := [.lit (.bool true)], args := [d1, d2] }
  | _ => none }
def rationalFloorsRow : OpenClaim := { program := "ytabdndlaelfdeaadoor", sum := "cda630fe9b85d9e10f60aa82415db422e14ac0de5208ed7f0e4b2f82276dc584", func := "faultline/faultlinelaw02.RationalFloors", spec := "rationalFloors", inPlace := ["internal/bytealg.IndexByteString", "internal/bytealg.IndexString", "internal/abi.NoEscape"], named := ["internal/bytealg.MaxLen", "unicode/utf8.first", "unicode/utf8.acceptRanges"], apart := false, laid := [("unicode/utf8.acceptRanges", laid_unicode_utf8_acceptRanges), ("unicode/utf8.first", laid_unicode_utf8_first)] }
def RationalFloorsSaid : Prop := rationalFloorsRow.holds Tryd.pinned (OpenSpec.ofChange rationalFloorsSpec)

/-- ITS FALSE NEIGHBOUR: 'it returns false'. Refute it at one input. -/
def rationalFloorsWrong : ChangeSpec := { name := "rationalFloors", fn := fun _ => fun
  | [d1, d2] => { results := [.lit (.bool false)], args := [d1, d2] }
  | _ => none }
def RationalFloorsWrongFalsely : Prop := rationalFloorsRow.holds Tryd.pinned (OpenSpec.ofChange rationalFloorsWrong)

/- THE SECOND FORM. 'bulk': how many values and letters a reading holds, each counted each time it is reached (what is shared counts as often as it is met; a slice's spare places count too). A statement '..UptoSaid' is the law's where the arguments, and the package variables that the reading takes, are together of bulk at most 1048576: NARROWER than '..Said'. Prove '..Said' where nothing that the law and all that it calls make is longer than what came in: it says more and counts as full. Else prove '..UptoSaid'. A law counts once. -/
mutual
def uptoBulk {H : Type} : DataW H → Nat
  | .lit (.string bytes) => bytes.length + 1
  | .lit _ => 1
  | .nil => 1
  | .ptr d => uptoBulk d + 1
  | .slice elems spare => uptoBulkAll elems + uptoBulkAll spare + 1
  | .agg parts => uptoBulkAll parts + 1
  | .iface _ d => uptoBulk d + 1
  | .map entries => uptoBulkEntries entries + 1
  | .held _ => 1
def uptoBulkAll {H : Type} : List (DataW H) → Nat
  | [] => 0
  | d :: r => uptoBulk d + uptoBulkAll r
def uptoBulkEntries {H : Type} : List (Lit × DataW H) → Nat
  | [] => 0
  | x :: r => uptoBulkEntry x + uptoBulkEntries r
def uptoBulkEntry {H : Type} : Lit × DataW H → Nat
  | (.string bytes, d) => bytes.length + uptoBulk d + 1
  | (_, d) => uptoBulk d + 1
 end
def uptoSmall : (H : Type) → List (DataW H) → Bool := fun _ ds => decide (uptoBulkAll ds ≤ 1048576)
def OpenSpec.upto (s : _root_.Go.ChangeSpec) : _root_.Go.OpenSpec := { _root_.Go.OpenSpec.ofChange s with cond := some uptoSmall }

/-- 'faultlinelaw02.RationalTexts', WHERE WHAT IT READS IS OF BULK AT MOST 1048576: true; the input reads as it did. -/
def rationalTextsUptoRow : OpenClaim := { program := "ytabdndlaelfdeaadoor", sum := "cda630fe9b85d9e10f60aa82415db422e14ac0de5208ed7f0e4b2f82276dc584", func := "faultline/faultlinelaw02.RationalTexts", spec := "rationalTexts", inPlace := ["internal/bytealg.IndexByteString", "internal/bytealg.IndexString", "internal/abi.NoEscape"], named := ["internal/bytealg.MaxLen", "unicode/utf8.first", "unicode/utf8.acceptRanges"], apart := false, laid := [("unicode/utf8.acceptRanges", laid_unicode_utf8_acceptRanges), ("unicode/utf8.first", laid_unicode_utf8_first)], narrowed := true }
def RationalTextsUptoSaid : Prop := rationalTextsUptoRow.holds Tryd.pinned (OpenSpec.upto rationalTextsSpec)

/-- 'faultlinelaw02.RationalMakes', WHERE WHAT IT READS IS OF BULK AT MOST 1048576: true; the input reads as it did. -/
def rationalMakesUptoRow : OpenClaim := { program := "ytabdndlaelfdeaadoor", sum := "cda630fe9b85d9e10f60aa82415db422e14ac0de5208ed7f0e4b2f82276dc584", func := "faultline/faultlinelaw02.RationalMakes", spec := "rationalMakes", inPlace := ["internal/bytealg.IndexByteString", "internal/bytealg.IndexString", "internal/abi.NoEscape"], named := ["internal/bytealg.MaxLen", "unicode/utf8.first", "unicode/utf8.acceptRanges"], apart := false, laid := [("unicode/utf8.acceptRanges", laid_unicode_utf8_acceptRanges), ("unicode/utf8.first", laid_unicode_utf8_first)], narrowed := true }
def RationalMakesUptoSaid : Prop := rationalMakesUptoRow.holds Tryd.pinned (OpenSpec.upto rationalMakesSpec)

/-- 'faultlinelaw02.RationalProducts', WHERE WHAT IT READS IS OF BULK AT MOST 1048576: true; the input reads as it did. -/
def rationalProductsUptoRow : OpenClaim := { program := "ytabdndlaelfdeaadoor", sum := "cda630fe9b85d9e10f60aa82415db422e14ac0de5208ed7f0e4b2f82276dc584", func := "faultline/faultlinelaw02.RationalProducts", spec := "rationalProducts", inPlace := ["internal/bytealg.IndexByteString", "internal/bytealg.IndexString", "internal/abi.NoEscape"], recurses := true, named := ["internal/bytealg.MaxLen", "unicode/utf8.first", "unicode/utf8.acceptRanges"], apart := false, laid := [("unicode/utf8.acceptRanges", laid_unicode_utf8_acceptRanges), ("unicode/utf8.first", laid_unicode_utf8_first)], narrowed := true }
def RationalProductsUptoSaid : Prop := rationalProductsUptoRow.holds Tryd.pinned (OpenSpec.upto rationalProductsSpec)

/-- 'faultlinelaw02.RationalSums', WHERE WHAT IT READS IS OF BULK AT MOST 1048576: true; the input reads as it did. -/
def rationalSumsUptoRow : OpenClaim := { program := "ytabdndlaelfdeaadoor", sum := "cda630fe9b85d9e10f60aa82415db422e14ac0de5208ed7f0e4b2f82276dc584", func := "faultline/faultlinelaw02.RationalSums", spec := "rationalSums", inPlace := ["internal/bytealg.IndexByteString", "internal/bytealg.IndexString", "internal/abi.NoEscape"], named := ["internal/bytealg.MaxLen", "unicode/utf8.first", "unicode/utf8.acceptRanges"], apart := false, laid := [("unicode/utf8.acceptRanges", laid_unicode_utf8_acceptRanges), ("unicode/utf8.first", laid_unicode_utf8_first)], narrowed := true }
def RationalSumsUptoSaid : Prop := rationalSumsUptoRow.holds Tryd.pinned (OpenSpec.upto rationalSumsSpec)

/-- 'faultlinelaw02.RationalBack', WHERE WHAT IT READS IS OF BULK AT MOST 1048576: true; the input reads as it did. -/
def rationalBackUptoRow : OpenClaim := { program := "ytabdndlaelfdeaadoor", sum := "cda630fe9b85d9e10f60aa82415db422e14ac0de5208ed7f0e4b2f82276dc584", func := "faultline/faultlinelaw02.RationalBack", spec := "rationalBack", inPlace := ["internal/bytealg.IndexByteString", "internal/bytealg.IndexString", "internal/abi.NoEscape"], named := ["internal/bytealg.MaxLen", "unicode/utf8.first", "unicode/utf8.acceptRanges"], apart := false, laid := [("unicode/utf8.acceptRanges", laid_unicode_utf8_acceptRanges), ("unicode/utf8.first", laid_unicode_utf8_first)], narrowed := true }
def RationalBackUptoSaid : Prop := rationalBackUptoRow.holds Tryd.pinned (OpenSpec.upto rationalBackSpec)

/-- 'faultlinelaw02.RationalEqual', WHERE WHAT IT READS IS OF BULK AT MOST 1048576: true; the input reads as it did. -/
def rationalEqualUptoRow : OpenClaim := { program := "ytabdndlaelfdeaadoor", sum := "cda630fe9b85d9e10f60aa82415db422e14ac0de5208ed7f0e4b2f82276dc584", func := "faultline/faultlinelaw02.RationalEqual", spec := "rationalEqual", inPlace := ["internal/bytealg.IndexByteString", "internal/bytealg.IndexString", "internal/abi.NoEscape"], named := ["internal/bytealg.MaxLen", "unicode/utf8.first", "unicode/utf8.acceptRanges"], apart := false, laid := [("unicode/utf8.acceptRanges", laid_unicode_utf8_acceptRanges), ("unicode/utf8.first", laid_unicode_utf8_first)], narrowed := true }
def RationalEqualUptoSaid : Prop := rationalEqualUptoRow.holds Tryd.pinned (OpenSpec.upto rationalEqualSpec)

/-- 'faultlinelaw02.RationalField', WHERE WHAT IT READS IS OF BULK AT MOST 1048576: true; the input reads as it did. -/
def rationalFieldUptoRow : OpenClaim := { program := "ytabdndlaelfdeaadoor", sum := "cda630fe9b85d9e10f60aa82415db422e14ac0de5208ed7f0e4b2f82276dc584", func := "faultline/faultlinelaw02.RationalField", spec := "rationalField", inPlace := ["internal/bytealg.IndexByteString", "internal/bytealg.IndexString", "internal/abi.NoEscape"], named := ["internal/bytealg.MaxLen", "unicode/utf8.first", "unicode/utf8.acceptRanges"], apart := false, laid := [("unicode/utf8.acceptRanges", laid_unicode_utf8_acceptRanges), ("unicode/utf8.first", laid_unicode_utf8_first)], narrowed := true }
def RationalFieldUptoSaid : Prop := rationalFieldUptoRow.holds Tryd.pinned (OpenSpec.upto rationalFieldSpec)

/-- 'faultlinelaw02.RationalFloors', WHERE WHAT IT READS IS OF BULK AT MOST 1048576: true; the input reads as it did. -/
def rationalFloorsUptoRow : OpenClaim := { program := "ytabdndlaelfdeaadoor", sum := "cda630fe9b85d9e10f60aa82415db422e14ac0de5208ed7f0e4b2f82276dc584", func := "faultline/faultlinelaw02.RationalFloors", spec := "rationalFloors", inPlace := ["internal/bytealg.IndexByteString", "internal/bytealg.IndexString", "internal/abi.NoEscape"], named := ["internal/bytealg.MaxLen", "unicode/utf8.first", "unicode/utf8.acceptRanges"], apart := false, laid := [("unicode/utf8.acceptRanges", laid_unicode_utf8_acceptRanges), ("unicode/utf8.first", laid_unicode_utf8_first)], narrowed := true }
def RationalFloorsUptoSaid : Prop := rationalFloorsUptoRow.holds Tryd.pinned (OpenSpec.upto rationalFloorsSpec)

end Rows
end Go.Proofs.YtabdndlaelfdeaaDoor
