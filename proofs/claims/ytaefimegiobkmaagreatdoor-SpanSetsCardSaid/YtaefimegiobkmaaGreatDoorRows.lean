/-
  NARROWER THAN 'FOR EVERY INPUT', by the rows' own cells (each row's printed sentence says how): SpanProducts: laid · SpanMakes: laid · SpanSums: laid · SpanSets: laid.
  DERIVED. THE GIVEN ROWS OF THIS SEAT. 4 by the template 'for every input the law returns true; each argument reads behind the call as it read before'; 0 by the template 'total and deterministic' (their statements: YtaefimegiobkmaaGreatDoorTotals.lean).
  GIVEN WITH THE SEED: the statements are not yours to turn. If you find one false, say at which input.
  Laid BY PROGRAM, IN A SANDBOX (cutbox-rows.mjs): the forced cells as the released guide's own fill.sh prints them over the translation 17bedb9d8bd33b05… (all of the seat's roots in one cut). By AI agents, Wed Nov 11 2026. No macro, syntax, notation, axiom, sorry.
-/
import Derived.Test.YtaefimegiobkmaaGreatDoorChecked
import GoSem.PinnedTables
import GoSem.Claim
import GoSem.ClaimJoined
import GoSem.ClaimMapViews
import Derived.JoinedTies
import Derived.KernelRfl
namespace Go.Proofs.YtaefimegiobkmaaGreatDoor
/- THE CELL 'sum', in the pinned program and in every row, IS THE sha256 OF THE DUMP (.gsa) THAT YtaefimegiobkmaaGreatDoorProg.lean LOADS. Nothing in Lean hashes anything: it is a label: what it is worth is what the hold of that sum in a sandbox is worth. -/
noncomputable def Tryz.pinned : Pinned := { name := "ytaefimegiobkmaagreatdoor", sum := "17bedb9d8bd33b05d8c7fcf77fe32074ef949d791037f25741703b0d6621c134", checked := Tryz.checked }
namespace Rows
def none {H : Type} : Left H := { results := [], args := [] }

/- WHAT THE LISTED PACKAGE-LEVEL VARIABLES READ AS WHEN THE CALL BEGINS. Each datum BY PROGRAM (the guide's laid-datum.mjs) off the statement by which the dump's own 'gosem.cut.vars' lays the variable. In a bare row this is a premise. The card (YtaefimegiobkmaaGreatDoorCards.lean) ties it to the program's text. -/
def laid_unicode_utf8_acceptRanges {H : Type} : DataW H := .agg [.agg [.lit (.int .u8 128), .lit (.int .u8 191)], .agg [.lit (.int .u8 160), .lit (.int .u8 191)], .agg [.lit (.int .u8 128), .lit (.int .u8 159)], .agg [.lit (.int .u8 144), .lit (.int .u8 191)], .agg [.lit (.int .u8 128), .lit (.int .u8 143)], .agg [.lit (.int .u8 0), .lit (.int .u8 0)], .agg [.lit (.int .u8 0), .lit (.int .u8 0)], .agg [.lit (.int .u8 0), .lit (.int .u8 0)], .agg [.lit (.int .u8 0), .lit (.int .u8 0)], .agg [.lit (.int .u8 0), .lit (.int .u8 0)], .agg [.lit (.int .u8 0), .lit (.int .u8 0)], .agg [.lit (.int .u8 0), .lit (.int .u8 0)], .agg [.lit (.int .u8 0), .lit (.int .u8 0)], .agg [.lit (.int .u8 0), .lit (.int .u8 0)], .agg [.lit (.int .u8 0), .lit (.int .u8 0)], .agg [.lit (.int .u8 0), .lit (.int .u8 0)]]
/-- One of Go's own tables, pinned by name: the form's constant. -/
def laid_unicode_utf8_first : DataW Unit := Go.Pinned.utf8First

/-- 'faultlinelaw03.SpanProducts': WHATEVER THE INPUT: true; the input reads as it did. -/
def spanProductsSpec : ChangeSpec := { name := "spanProducts", fn := fun _ => fun
  | [d1, d2] => { results := [.lit (.bool true)], args := [d1, d2] }
  | _ => none }
def spanProductsRow : OpenClaim := { program := "ytaefimegiobkmaagreatdoor", sum := "17bedb9d8bd33b05d8c7fcf77fe32074ef949d791037f25741703b0d6621c134", func := "faultline/faultlinelaw03.SpanProducts", spec := "spanProducts", inPlace := ["internal/abi.NoEscape", "internal/bytealg.IndexByteString", "internal/bytealg.IndexString"], named := ["unicode/utf8.first", "unicode/utf8.acceptRanges", "internal/bytealg.MaxLen"], apart := false, laid := [("unicode/utf8.acceptRanges", laid_unicode_utf8_acceptRanges), ("unicode/utf8.first", laid_unicode_utf8_first)] }
def SpanProductsSaid : Prop := spanProductsRow.holds Tryz.pinned (OpenSpec.ofChange spanProductsSpec)

/-- ITS FALSE NEIGHBOUR: 'it returns false'. Refute it at one input. -/
def spanProductsWrong : ChangeSpec := { name := "spanProducts", fn := fun _ => fun
  | [d1, d2] => { results := [.lit (.bool false)], args := [d1, d2] }
  | _ => none }
def SpanProductsWrongFalsely : Prop := spanProductsRow.holds Tryz.pinned (OpenSpec.ofChange spanProductsWrong)

/-- 'faultlinelaw03.SpanMakes': WHATEVER THE INPUT: true; the input reads as it did. -/
def spanMakesSpec : ChangeSpec := { name := "spanMakes", fn := fun _ => fun
  | [d] => { results := [.lit (.bool true)], args := [d] }
  | _ => none }
def spanMakesRow : OpenClaim := { program := "ytaefimegiobkmaagreatdoor", sum := "17bedb9d8bd33b05d8c7fcf77fe32074ef949d791037f25741703b0d6621c134", func := "faultline/faultlinelaw03.SpanMakes", spec := "spanMakes", inPlace := ["internal/abi.NoEscape", "internal/bytealg.IndexByteString", "internal/bytealg.IndexString"], named := ["unicode/utf8.first", "unicode/utf8.acceptRanges", "internal/bytealg.MaxLen"], apart := false, laid := [("unicode/utf8.acceptRanges", laid_unicode_utf8_acceptRanges), ("unicode/utf8.first", laid_unicode_utf8_first)] }
def SpanMakesSaid : Prop := spanMakesRow.holds Tryz.pinned (OpenSpec.ofChange spanMakesSpec)

/-- ITS FALSE NEIGHBOUR: 'it returns false'. Refute it at one input. -/
def spanMakesWrong : ChangeSpec := { name := "spanMakes", fn := fun _ => fun
  | [d] => { results := [.lit (.bool false)], args := [d] }
  | _ => none }
def SpanMakesWrongFalsely : Prop := spanMakesRow.holds Tryz.pinned (OpenSpec.ofChange spanMakesWrong)

/-- 'faultlinelaw03.SpanSums': WHATEVER THE INPUT: true; the input reads as it did. -/
def spanSumsSpec : ChangeSpec := { name := "spanSums", fn := fun _ => fun
  | [d1, d2] => { results := [.lit (.bool true)], args := [d1, d2] }
  | _ => none }
def spanSumsRow : OpenClaim := { program := "ytaefimegiobkmaagreatdoor", sum := "17bedb9d8bd33b05d8c7fcf77fe32074ef949d791037f25741703b0d6621c134", func := "faultline/faultlinelaw03.SpanSums", spec := "spanSums", inPlace := ["internal/abi.NoEscape", "internal/bytealg.IndexByteString", "internal/bytealg.IndexString"], unfollowed := true, recurses := true, named := ["unicode/utf8.first", "unicode/utf8.acceptRanges", "internal/bytealg.MaxLen"], apart := false, laid := [("unicode/utf8.acceptRanges", laid_unicode_utf8_acceptRanges), ("unicode/utf8.first", laid_unicode_utf8_first)] }
def SpanSumsSaid : Prop := spanSumsRow.holds Tryz.pinned (OpenSpec.ofChange spanSumsSpec)

/-- ITS FALSE NEIGHBOUR: 'it returns false'. Refute it at one input. -/
def spanSumsWrong : ChangeSpec := { name := "spanSums", fn := fun _ => fun
  | [d1, d2] => { results := [.lit (.bool false)], args := [d1, d2] }
  | _ => none }
def SpanSumsWrongFalsely : Prop := spanSumsRow.holds Tryz.pinned (OpenSpec.ofChange spanSumsWrong)

/-- 'faultlinelaw03.SpanSets': WHATEVER THE INPUT: true; the input reads as it did. -/
def spanSetsSpec : ChangeSpec := { name := "spanSets", fn := fun _ => fun
  | [d1, d2, d3] => { results := [.lit (.bool true)], args := [d1, d2, d3] }
  | _ => none }
def spanSetsRow : OpenClaim := { program := "ytaefimegiobkmaagreatdoor", sum := "17bedb9d8bd33b05d8c7fcf77fe32074ef949d791037f25741703b0d6621c134", func := "faultline/faultlinelaw03.SpanSets", spec := "spanSets", inPlace := ["internal/abi.NoEscape", "internal/bytealg.IndexByteString", "internal/bytealg.IndexString"], named := ["unicode/utf8.first", "unicode/utf8.acceptRanges", "internal/bytealg.MaxLen"], apart := false, laid := [("unicode/utf8.acceptRanges", laid_unicode_utf8_acceptRanges), ("unicode/utf8.first", laid_unicode_utf8_first)] }
def SpanSetsSaid : Prop := spanSetsRow.holds Tryz.pinned (OpenSpec.ofChange spanSetsSpec)

/-- ITS FALSE NEIGHBOUR: 'it returns false'. Refute it at one input. -/
def spanSetsWrong : ChangeSpec := { name := "spanSets", fn := fun _ => fun
  | [d1, d2, d3] => { results := [.lit (.bool false)], args := [d1, d2, d3] }
  | _ => none }
def SpanSetsWrongFalsely : Prop := spanSetsRow.holds Tryz.pinned (OpenSpec.ofChange spanSetsWrong)

/- THE SECOND FORM. 'bulk': how many values and letters a reading holds, each counted each time it is reached (what is shared counts as often as it is met; a slice's spare places count too). A statement '..UptoSaid' is the law's where the arguments, and the package variables that the reading takes, are together of bulk at most 1048576: NARROWER than '..Said'. Prove '..Said' where nothing that the law and all that it calls make is longer than what came in: it says more and counts as full. Else prove '..UptoSaid'. A law counts once. -/
mutual
def uptoBulk {H : Type} : DataW H → Nat
  | .lit (.string bytes) => bytes.length + 1
  | .lit _ => 1
  | .nil => 1
  | .ptr d => uptoBulk d + 1
  | .slice elems spare => uptoBulkAll elems + uptoBulkAll spare + 1
  | .agg parts => uptoBulkAll parts + 1
  | .iface _ d => uptoBulk d + 1
  | .map entries => uptoBulkEntries entries + 1
  | .held _ => 1
def uptoBulkAll {H : Type} : List (DataW H) → Nat
  | [] => 0
  | d :: r => uptoBulk d + uptoBulkAll r
def uptoBulkEntries {H : Type} : List (Lit × DataW H) → Nat
  | [] => 0
  | x :: r => uptoBulkEntry x + uptoBulkEntries r
def uptoBulkEntry {H : Type} : Lit × DataW H → Nat
  | (.string bytes, d) => bytes.length + uptoBulk d + 1
  | (_, d) => uptoBulk d + 1
 end
def uptoSmall : (H : Type) → List (DataW H) → Bool := fun _ ds => decide (uptoBulkAll ds ≤ 1048576)
def OpenSpec.upto (s : _root_.Go.ChangeSpec) : _root_.Go.OpenSpec := { _root_.Go.OpenSpec.ofChange s with cond := some uptoSmall }

/-- 'faultlinelaw03.SpanProducts', WHERE WHAT IT READS IS OF BULK AT MOST 1048576: true; the input reads as it did. -/
def spanProductsUptoRow : OpenClaim := { program := "ytaefimegiobkmaagreatdoor", sum := "17bedb9d8bd33b05d8c7fcf77fe32074ef949d791037f25741703b0d6621c134", func := "faultline/faultlinelaw03.SpanProducts", spec := "spanProducts", inPlace := ["internal/abi.NoEscape", "internal/bytealg.IndexByteString", "internal/bytealg.IndexString"], named := ["unicode/utf8.first", "unicode/utf8.acceptRanges", "internal/bytealg.MaxLen"], apart := false, laid := [("unicode/utf8.acceptRanges", laid_unicode_utf8_acceptRanges), ("unicode/utf8.first", laid_unicode_utf8_first)], narrowed := true }
def SpanProductsUptoSaid : Prop := spanProductsUptoRow.holds Tryz.pinned (OpenSpec.upto spanProductsSpec)

/-- 'faultlinelaw03.SpanMakes', WHERE WHAT IT READS IS OF BULK AT MOST 1048576: true; the input reads as it did. -/
def spanMakesUptoRow : OpenClaim := { program := "ytaefimegiobkmaagreatdoor", sum := "17bedb9d8bd33b05d8c7fcf77fe32074ef949d791037f25741703b0d6621c134", func := "faultline/faultlinelaw03.SpanMakes", spec := "spanMakes", inPlace := ["internal/abi.NoEscape", "internal/bytealg.IndexByteString", "internal/bytealg.IndexString"], named := ["unicode/utf8.first", "unicode/utf8.acceptRanges", "internal/bytealg.MaxLen"], apart := false, laid := [("unicode/utf8.acceptRanges", laid_unicode_utf8_acceptRanges), ("unicode/utf8.first", laid_unicode_utf8_first)], narrowed := true }
def SpanMakesUptoSaid : Prop := spanMakesUptoRow.holds Tryz.pinned (OpenSpec.upto spanMakesSpec)

/-- 'faultlinelaw03.SpanSums', WHERE WHAT IT READS IS OF BULK AT MOST 1048576: true; the input reads as it did. -/
def spanSumsUptoRow : OpenClaim := { program := "ytaefimegiobkmaagreatdoor", sum := "17bedb9d8bd33b05d8c7fcf77fe32074ef949d791037f25741703b0d6621c134", func := "faultline/faultlinelaw03.SpanSums", spec := "spanSums", inPlace := ["internal/abi.NoEscape", "internal/bytealg.IndexByteString", "internal/bytealg.IndexString"], unfollowed := true, recurses := true, named := ["unicode/utf8.first", "unicode/utf8.acceptRanges", "internal/bytealg.MaxLen"], apart := false, laid := [("unicode/utf8.acceptRanges", laid_unicode_utf8_acceptRanges), ("unicode/utf8.first", laid_unicode_utf8_first)], narrowed := true }
def SpanSumsUptoSaid : Prop := spanSumsUptoRow.holds Tryz.pinned (OpenSpec.upto spanSumsSpec)

/-- 'faultlinelaw03.SpanSets', WHERE WHAT IT READS IS OF BULK AT MOST 1048576: true; the input reads as it did. -/
def spanSetsUptoRow : OpenClaim := { program := "ytaefimegiobkmaagreatdoor", sum := "17bedb9d8bd33b05d8c7fcf77fe32074ef949d791037f25741703b0d6621c134", func := "faultline/faultlinelaw03.SpanSets", spec := "spanSets", inPlace := ["internal/abi.NoEscape", "internal/bytealg.IndexByteString", "internal/bytealg.IndexString"], named := ["unicode/utf8.first", "unicode/utf8.acceptRanges", "internal/bytealg.MaxLen"], apart := false, laid := [("unicode/utf8.acceptRanges", laid_unicode_utf8_acceptRanges), ("unicode/utf8.first", laid_unicode_utf8_first)], narrowed := true }
def SpanSetsUptoSaid : Prop := spanSetsUptoRow.holds Tryz.pinned (OpenSpec.upto spanSetsSpec)

end Rows
end Go.Proofs.YtaefimegiobkmaaGreatDoor
