/-
  NARROWER THAN 'FOR EVERY INPUT', by the rows' own cells (each row's printed sentence says how): ParserLarge: laid · ParserItems: laid · ParserRecovers: laid · ParserGroups: laid · ParserTokens: laid · ParserUnits: laid.
  DERIVED. THE GIVEN ROWS OF THIS SEAT. 6 by the template 'for every input the law returns true; each argument reads behind the call as it read before'; 0 by the template 'total and deterministic' (their statements: YtdcpcffpapiadaaGreatDoorTotals.lean).
  GIVEN WITH THE SEED: the statements are not yours to turn. If you find one false, say at which input.
  Laid BY PROGRAM, IN A SANDBOX (cutbox-rows.mjs): the forced cells as the released guide's own fill.sh prints them over the translation c544a896fbbe5e70… (all of the seat's roots in one cut). By AI agents, Wed Nov 11 2026. No macro, syntax, notation, axiom, sorry.
-/
import Derived.Test.YtdcpcffpapiadaaGreatDoorChecked
import GoSem.PinnedTables
import GoSem.Claim
import GoSem.ClaimJoined
import GoSem.ClaimMapViews
import Derived.JoinedTies
import Derived.KernelRfl
namespace Go.Proofs.YtdcpcffpapiadaaGreatDoor
/- THE CELL 'sum', in the pinned program and in every row, IS THE sha256 OF THE DUMP (.gsa) THAT YtdcpcffpapiadaaGreatDoorProg.lean LOADS. Nothing in Lean hashes anything: it is a label: what it is worth is what the hold of that sum in a sandbox is worth. -/
noncomputable def Tryz.pinned : Pinned := { name := "ytdcpcffpapiadaagreatdoor", sum := "c544a896fbbe5e70d3abcfb9236cd7e732b8b0a1aa27a6f16fa65a4338303bb7", checked := Tryz.checked }
namespace Rows
def none {H : Type} : Left H := { results := [], args := [] }

/- WHAT THE LISTED PACKAGE-LEVEL VARIABLES READ AS WHEN THE CALL BEGINS. Each datum BY PROGRAM (the guide's laid-datum.mjs) off the statement by which the dump's own 'gosem.cut.vars' lays the variable. In a bare row this is a premise. The card (YtdcpcffpapiadaaGreatDoorCards.lean) ties it to the program's text. -/
def laid_math_bits_deBruijn32tab {H : Type} : DataW H := .agg [.lit (.int .u8 0), .lit (.int .u8 1), .lit (.int .u8 28), .lit (.int .u8 2), .lit (.int .u8 29), .lit (.int .u8 14), .lit (.int .u8 24), .lit (.int .u8 3), .lit (.int .u8 30), .lit (.int .u8 22), .lit (.int .u8 20), .lit (.int .u8 15), .lit (.int .u8 25), .lit (.int .u8 17), .lit (.int .u8 4), .lit (.int .u8 8), .lit (.int .u8 31), .lit (.int .u8 27), .lit (.int .u8 13), .lit (.int .u8 23), .lit (.int .u8 21), .lit (.int .u8 19), .lit (.int .u8 16), .lit (.int .u8 7), .lit (.int .u8 26), .lit (.int .u8 12), .lit (.int .u8 18), .lit (.int .u8 6), .lit (.int .u8 11), .lit (.int .u8 5), .lit (.int .u8 10), .lit (.int .u8 9)]
def laid_math_bits_deBruijn64tab {H : Type} : DataW H := .agg [.lit (.int .u8 0), .lit (.int .u8 1), .lit (.int .u8 56), .lit (.int .u8 2), .lit (.int .u8 57), .lit (.int .u8 49), .lit (.int .u8 28), .lit (.int .u8 3), .lit (.int .u8 61), .lit (.int .u8 58), .lit (.int .u8 42), .lit (.int .u8 50), .lit (.int .u8 38), .lit (.int .u8 29), .lit (.int .u8 17), .lit (.int .u8 4), .lit (.int .u8 62), .lit (.int .u8 47), .lit (.int .u8 59), .lit (.int .u8 36), .lit (.int .u8 45), .lit (.int .u8 43), .lit (.int .u8 51), .lit (.int .u8 22), .lit (.int .u8 53), .lit (.int .u8 39), .lit (.int .u8 33), .lit (.int .u8 30), .lit (.int .u8 24), .lit (.int .u8 18), .lit (.int .u8 12), .lit (.int .u8 5), .lit (.int .u8 63), .lit (.int .u8 55), .lit (.int .u8 48), .lit (.int .u8 27), .lit (.int .u8 60), .lit (.int .u8 41), .lit (.int .u8 37), .lit (.int .u8 16), .lit (.int .u8 46), .lit (.int .u8 35), .lit (.int .u8 44), .lit (.int .u8 21), .lit (.int .u8 52), .lit (.int .u8 32), .lit (.int .u8 23), .lit (.int .u8 11), .lit (.int .u8 54), .lit (.int .u8 26), .lit (.int .u8 40), .lit (.int .u8 15), .lit (.int .u8 34), .lit (.int .u8 20), .lit (.int .u8 31), .lit (.int .u8 10), .lit (.int .u8 25), .lit (.int .u8 14), .lit (.int .u8 19), .lit (.int .u8 9), .lit (.int .u8 13), .lit (.int .u8 8), .lit (.int .u8 7), .lit (.int .u8 6)]
def laid_internal_strconv_uint64pow10 {H : Type} : DataW H := .agg [.lit (.int .u64 1), .lit (.int .u64 10), .lit (.int .u64 100), .lit (.int .u64 1000), .lit (.int .u64 10000), .lit (.int .u64 100000), .lit (.int .u64 1000000), .lit (.int .u64 10000000), .lit (.int .u64 100000000), .lit (.int .u64 1000000000), .lit (.int .u64 10000000000), .lit (.int .u64 100000000000), .lit (.int .u64 1000000000000), .lit (.int .u64 10000000000000), .lit (.int .u64 100000000000000), .lit (.int .u64 1000000000000000), .lit (.int .u64 10000000000000000), .lit (.int .u64 100000000000000000), .lit (.int .u64 1000000000000000000), .lit (.int .u64 10000000000000000000)]
def laid_unicode_utf8_acceptRanges {H : Type} : DataW H := .agg [.agg [.lit (.int .u8 128), .lit (.int .u8 191)], .agg [.lit (.int .u8 160), .lit (.int .u8 191)], .agg [.lit (.int .u8 128), .lit (.int .u8 159)], .agg [.lit (.int .u8 144), .lit (.int .u8 191)], .agg [.lit (.int .u8 128), .lit (.int .u8 143)], .agg [.lit (.int .u8 0), .lit (.int .u8 0)], .agg [.lit (.int .u8 0), .lit (.int .u8 0)], .agg [.lit (.int .u8 0), .lit (.int .u8 0)], .agg [.lit (.int .u8 0), .lit (.int .u8 0)], .agg [.lit (.int .u8 0), .lit (.int .u8 0)], .agg [.lit (.int .u8 0), .lit (.int .u8 0)], .agg [.lit (.int .u8 0), .lit (.int .u8 0)], .agg [.lit (.int .u8 0), .lit (.int .u8 0)], .agg [.lit (.int .u8 0), .lit (.int .u8 0)], .agg [.lit (.int .u8 0), .lit (.int .u8 0)], .agg [.lit (.int .u8 0), .lit (.int .u8 0)]]
def laid_strconv_ErrRange {H : Type} : DataW H := .iface "*errors.errorString" (.ptr (.agg [.lit (.string [118, 97, 108, 117, 101, 32, 111, 117, 116, 32, 111, 102, 32, 114, 97, 110, 103, 101])]))
def laid_strconv_ErrSyntax {H : Type} : DataW H := .iface "*errors.errorString" (.ptr (.agg [.lit (.string [105, 110, 118, 97, 108, 105, 100, 32, 115, 121, 110, 116, 97, 120])]))
def laid_asof_decimal_tens {H : Type} : DataW H := .agg [.lit (.int .i64 1), .lit (.int .i64 10), .lit (.int .i64 100), .lit (.int .i64 1000), .lit (.int .i64 10000), .lit (.int .i64 100000), .lit (.int .i64 1000000)]
/-- One of Go's own tables, pinned by name: the form's constant. -/
def laid_unicode_utf8_first : DataW Unit := Go.Pinned.utf8First

/-- 'asoflaw09.ParserLarge': WHATEVER THE INPUT: true; the input reads as it did. -/
def parserLargeSpec : ChangeSpec := { name := "parserLarge", fn := fun _ => fun
  | [d] => { results := [.lit (.bool true)], args := [d] }
  | _ => none }
def parserLargeRow : OpenClaim := { program := "ytdcpcffpapiadaagreatdoor", sum := "c544a896fbbe5e70d3abcfb9236cd7e732b8b0a1aa27a6f16fa65a4338303bb7", func := "asof/asoflaw09.ParserLarge", spec := "parserLarge", inPlace := ["internal/bytealg.IndexByte", "internal/bytealg.IndexByteString", "internal/bytealg.Index", "internal/bytealg.IndexString", "math/bits.Add64", "math/bits.Sub64"], unfollowed := true, recurses := true, named := ["asof/decimal.tens", "strconv.ErrSyntax", "strconv.ErrRange", "internal/strconv.uint64pow10", "math/bits.deBruijn32tab", "math/bits.deBruijn64tab", "internal/bytealg.MaxLen", "unicode/utf8.first", "unicode/utf8.acceptRanges", "math/bits.divideError", "math/bits.overflowError"], apart := false, laid := [("math/bits.deBruijn32tab", laid_math_bits_deBruijn32tab), ("math/bits.deBruijn64tab", laid_math_bits_deBruijn64tab), ("internal/strconv.uint64pow10", laid_internal_strconv_uint64pow10), ("unicode/utf8.acceptRanges", laid_unicode_utf8_acceptRanges), ("strconv.ErrRange", laid_strconv_ErrRange), ("strconv.ErrSyntax", laid_strconv_ErrSyntax), ("asof/decimal.tens", laid_asof_decimal_tens), ("unicode/utf8.first", laid_unicode_utf8_first)] }
def ParserLargeSaid : Prop := parserLargeRow.holds Tryz.pinned (OpenSpec.ofChange parserLargeSpec)

/-- ITS FALSE NEIGHBOUR: 'it returns false'. Refute it at one input. -/
def parserLargeWrong : ChangeSpec := { name := "parserLarge", fn := fun _ => fun
  | [d] => { results := [.lit (.bool false)], args := [d] }
  | _ => none }
def ParserLargeWrongFalsely : Prop := parserLargeRow.holds Tryz.pinned (OpenSpec.ofChange parserLargeWrong)

/-- 'asoflaw09.ParserItems': WHATEVER THE INPUT: true; the input reads as it did. -/
def parserItemsSpec : ChangeSpec := { name := "parserItems", fn := fun _ => fun
  | [d1, d2] => { results := [.lit (.bool true)], args := [d1, d2] }
  | _ => none }
def parserItemsRow : OpenClaim := { program := "ytdcpcffpapiadaagreatdoor", sum := "c544a896fbbe5e70d3abcfb9236cd7e732b8b0a1aa27a6f16fa65a4338303bb7", func := "asof/asoflaw09.ParserItems", spec := "parserItems", inPlace := ["internal/bytealg.IndexByte", "internal/bytealg.IndexByteString", "internal/bytealg.Index", "internal/bytealg.IndexString", "math/bits.Add64", "math/bits.Sub64"], unfollowed := true, recurses := true, named := ["asof/decimal.tens", "strconv.ErrSyntax", "strconv.ErrRange", "internal/strconv.uint64pow10", "math/bits.deBruijn32tab", "math/bits.deBruijn64tab", "internal/bytealg.MaxLen", "unicode/utf8.first", "unicode/utf8.acceptRanges", "math/bits.divideError", "math/bits.overflowError"], apart := false, laid := [("math/bits.deBruijn32tab", laid_math_bits_deBruijn32tab), ("math/bits.deBruijn64tab", laid_math_bits_deBruijn64tab), ("internal/strconv.uint64pow10", laid_internal_strconv_uint64pow10), ("unicode/utf8.acceptRanges", laid_unicode_utf8_acceptRanges), ("strconv.ErrRange", laid_strconv_ErrRange), ("strconv.ErrSyntax", laid_strconv_ErrSyntax), ("asof/decimal.tens", laid_asof_decimal_tens), ("unicode/utf8.first", laid_unicode_utf8_first)] }
def ParserItemsSaid : Prop := parserItemsRow.holds Tryz.pinned (OpenSpec.ofChange parserItemsSpec)

/-- ITS FALSE NEIGHBOUR: 'it returns false'. Refute it at one input. -/
def parserItemsWrong : ChangeSpec := { name := "parserItems", fn := fun _ => fun
  | [d1, d2] => { results := [.lit (.bool false)], args := [d1, d2] }
  | _ => none }
def ParserItemsWrongFalsely : Prop := parserItemsRow.holds Tryz.pinned (OpenSpec.ofChange parserItemsWrong)

/-- 'asoflaw09.ParserRecovers': WHATEVER THE INPUT: true; the input reads as it did. -/
def parserRecoversSpec : ChangeSpec := { name := "parserRecovers", fn := fun _ => fun
  | [d1, d2, d3] => { results := [.lit (.bool true)], args := [d1, d2, d3] }
  | _ => none }
def parserRecoversRow : OpenClaim := { program := "ytdcpcffpapiadaagreatdoor", sum := "c544a896fbbe5e70d3abcfb9236cd7e732b8b0a1aa27a6f16fa65a4338303bb7", func := "asof/asoflaw09.ParserRecovers", spec := "parserRecovers", inPlace := ["internal/bytealg.IndexByte", "internal/bytealg.IndexByteString", "internal/bytealg.Index", "internal/bytealg.IndexString", "math/bits.Add64", "math/bits.Sub64"], unfollowed := true, recurses := true, named := ["asof/decimal.tens", "strconv.ErrSyntax", "strconv.ErrRange", "internal/strconv.uint64pow10", "math/bits.deBruijn32tab", "math/bits.deBruijn64tab", "internal/bytealg.MaxLen", "unicode/utf8.first", "unicode/utf8.acceptRanges", "math/bits.divideError", "math/bits.overflowError"], apart := false, laid := [("math/bits.deBruijn32tab", laid_math_bits_deBruijn32tab), ("math/bits.deBruijn64tab", laid_math_bits_deBruijn64tab), ("internal/strconv.uint64pow10", laid_internal_strconv_uint64pow10), ("unicode/utf8.acceptRanges", laid_unicode_utf8_acceptRanges), ("strconv.ErrRange", laid_strconv_ErrRange), ("strconv.ErrSyntax", laid_strconv_ErrSyntax), ("asof/decimal.tens", laid_asof_decimal_tens), ("unicode/utf8.first", laid_unicode_utf8_first)] }
def ParserRecoversSaid : Prop := parserRecoversRow.holds Tryz.pinned (OpenSpec.ofChange parserRecoversSpec)

/-- ITS FALSE NEIGHBOUR: 'it returns false'. Refute it at one input. -/
def parserRecoversWrong : ChangeSpec := { name := "parserRecovers", fn := fun _ => fun
  | [d1, d2, d3] => { results := [.lit (.bool false)], args := [d1, d2, d3] }
  | _ => none }
def ParserRecoversWrongFalsely : Prop := parserRecoversRow.holds Tryz.pinned (OpenSpec.ofChange parserRecoversWrong)

/-- 'asoflaw09.ParserGroups': WHATEVER THE INPUT: true; the input reads as it did. -/
def parserGroupsSpec : ChangeSpec := { name := "parserGroups", fn := fun _ => fun
  | [d1, d2, d3] => { results := [.lit (.bool true)], args := [d1, d2, d3] }
  | _ => none }
def parserGroupsRow : OpenClaim := { program := "ytdcpcffpapiadaagreatdoor", sum := "c544a896fbbe5e70d3abcfb9236cd7e732b8b0a1aa27a6f16fa65a4338303bb7", func := "asof/asoflaw09.ParserGroups", spec := "parserGroups", inPlace := ["internal/bytealg.IndexByteString", "internal/bytealg.IndexString", "math/bits.Add64", "math/bits.Sub64", "internal/bytealg.IndexByte", "internal/bytealg.Index"], unfollowed := true, recurses := true, named := ["strconv.ErrSyntax", "strconv.ErrRange", "internal/strconv.uint64pow10", "math/bits.deBruijn32tab", "math/bits.deBruijn64tab", "internal/bytealg.MaxLen", "math/bits.divideError", "math/bits.overflowError", "asof/decimal.tens", "unicode/utf8.first", "unicode/utf8.acceptRanges"], apart := false, laid := [("math/bits.deBruijn32tab", laid_math_bits_deBruijn32tab), ("math/bits.deBruijn64tab", laid_math_bits_deBruijn64tab), ("internal/strconv.uint64pow10", laid_internal_strconv_uint64pow10), ("unicode/utf8.acceptRanges", laid_unicode_utf8_acceptRanges), ("strconv.ErrRange", laid_strconv_ErrRange), ("strconv.ErrSyntax", laid_strconv_ErrSyntax), ("asof/decimal.tens", laid_asof_decimal_tens), ("unicode/utf8.first", laid_unicode_utf8_first)] }
def ParserGroupsSaid : Prop := parserGroupsRow.holds Tryz.pinned (OpenSpec.ofChange parserGroupsSpec)

/-- ITS FALSE NEIGHBOUR: 'it returns false'. Refute it at one input. -/
def parserGroupsWrong : ChangeSpec := { name := "parserGroups", fn := fun _ => fun
  | [d1, d2, d3] => { results := [.lit (.bool false)], args := [d1, d2, d3] }
  | _ => none }
def ParserGroupsWrongFalsely : Prop := parserGroupsRow.holds Tryz.pinned (OpenSpec.ofChange parserGroupsWrong)

/-- 'asoflaw09.ParserTokens': WHATEVER THE INPUT: true; the input reads as it did. -/
def parserTokensSpec : ChangeSpec := { name := "parserTokens", fn := fun _ => fun
  | [d] => { results := [.lit (.bool true)], args := [d] }
  | _ => none }
def parserTokensRow : OpenClaim := { program := "ytdcpcffpapiadaagreatdoor", sum := "c544a896fbbe5e70d3abcfb9236cd7e732b8b0a1aa27a6f16fa65a4338303bb7", func := "asof/asoflaw09.ParserTokens", spec := "parserTokens", inPlace := ["internal/bytealg.IndexByte", "internal/bytealg.IndexByteString", "internal/bytealg.Index", "internal/bytealg.IndexString", "math/bits.Add64", "math/bits.Sub64"], unfollowed := true, recurses := true, named := ["asof/decimal.tens", "strconv.ErrSyntax", "strconv.ErrRange", "internal/strconv.uint64pow10", "math/bits.deBruijn32tab", "math/bits.deBruijn64tab", "internal/bytealg.MaxLen", "unicode/utf8.first", "unicode/utf8.acceptRanges", "math/bits.divideError", "math/bits.overflowError"], apart := false, laid := [("math/bits.deBruijn32tab", laid_math_bits_deBruijn32tab), ("math/bits.deBruijn64tab", laid_math_bits_deBruijn64tab), ("internal/strconv.uint64pow10", laid_internal_strconv_uint64pow10), ("unicode/utf8.acceptRanges", laid_unicode_utf8_acceptRanges), ("strconv.ErrRange", laid_strconv_ErrRange), ("strconv.ErrSyntax", laid_strconv_ErrSyntax), ("asof/decimal.tens", laid_asof_decimal_tens), ("unicode/utf8.first", laid_unicode_utf8_first)] }
def ParserTokensSaid : Prop := parserTokensRow.holds Tryz.pinned (OpenSpec.ofChange parserTokensSpec)

/-- ITS FALSE NEIGHBOUR: 'it returns false'. Refute it at one input. -/
def parserTokensWrong : ChangeSpec := { name := "parserTokens", fn := fun _ => fun
  | [d] => { results := [.lit (.bool false)], args := [d] }
  | _ => none }
def ParserTokensWrongFalsely : Prop := parserTokensRow.holds Tryz.pinned (OpenSpec.ofChange parserTokensWrong)

/-- 'asoflaw09.ParserUnits': WHATEVER THE INPUT: true; the input reads as it did. -/
def parserUnitsSpec : ChangeSpec := { name := "parserUnits", fn := fun _ => fun
  | [d1, d2] => { results := [.lit (.bool true)], args := [d1, d2] }
  | _ => none }
def parserUnitsRow : OpenClaim := { program := "ytdcpcffpapiadaagreatdoor", sum := "c544a896fbbe5e70d3abcfb9236cd7e732b8b0a1aa27a6f16fa65a4338303bb7", func := "asof/asoflaw09.ParserUnits", spec := "parserUnits", inPlace := ["internal/bytealg.IndexByteString", "internal/bytealg.IndexString", "math/bits.Add64", "math/bits.Sub64", "internal/bytealg.IndexByte", "internal/bytealg.Index", "internal/abi.NoEscape", "internal/bytealg.MakeNoZero", "internal/bytealg.CountString"], unfollowed := true, recurses := true, named := ["strconv.ErrSyntax", "strconv.ErrRange", "internal/strconv.uint64pow10", "math/bits.deBruijn32tab", "math/bits.deBruijn64tab", "internal/bytealg.MaxLen", "math/bits.divideError", "math/bits.overflowError", "asof/decimal.tens", "unicode/utf8.first", "unicode/utf8.acceptRanges"], apart := false, laid := [("math/bits.deBruijn32tab", laid_math_bits_deBruijn32tab), ("math/bits.deBruijn64tab", laid_math_bits_deBruijn64tab), ("internal/strconv.uint64pow10", laid_internal_strconv_uint64pow10), ("unicode/utf8.acceptRanges", laid_unicode_utf8_acceptRanges), ("strconv.ErrRange", laid_strconv_ErrRange), ("strconv.ErrSyntax", laid_strconv_ErrSyntax), ("asof/decimal.tens", laid_asof_decimal_tens), ("unicode/utf8.first", laid_unicode_utf8_first)] }
def ParserUnitsSaid : Prop := parserUnitsRow.holds Tryz.pinned (OpenSpec.ofChange parserUnitsSpec)

/-- ITS FALSE NEIGHBOUR: 'it returns false'. Refute it at one input. -/
def parserUnitsWrong : ChangeSpec := { name := "parserUnits", fn := fun _ => fun
  | [d1, d2] => { results := [.lit (.bool false)], args := [d1, d2] }
  | _ => none }
def ParserUnitsWrongFalsely : Prop := parserUnitsRow.holds Tryz.pinned (OpenSpec.ofChange parserUnitsWrong)

/- THE SECOND FORM. 'bulk': how many values and letters a reading holds, each counted each time it is reached (what is shared counts as often as it is met; a slice's spare places count too). A statement '..UptoSaid' is the law's where the arguments, and the package variables that the reading takes, are together of bulk at most 1048576: NARROWER than '..Said'. Prove '..Said' where nothing that the law and all that it calls make is longer than what came in: it says more and counts as full. Else prove '..UptoSaid'. A law counts once. -/
mutual
def uptoBulk {H : Type} : DataW H → Nat
  | .lit (.string bytes) => bytes.length + 1
  | .lit _ => 1
  | .nil => 1
  | .ptr d => uptoBulk d + 1
  | .slice elems spare => uptoBulkAll elems + uptoBulkAll spare + 1
  | .agg parts => uptoBulkAll parts + 1
  | .iface _ d => uptoBulk d + 1
  | .map entries => uptoBulkEntries entries + 1
  | .held _ => 1
def uptoBulkAll {H : Type} : List (DataW H) → Nat
  | [] => 0
  | d :: r => uptoBulk d + uptoBulkAll r
def uptoBulkEntries {H : Type} : List (Lit × DataW H) → Nat
  | [] => 0
  | x :: r => uptoBulkEntry x + uptoBulkEntries r
def uptoBulkEntry {H : Type} : Lit × DataW H → Nat
  | (.string bytes, d) => bytes.length + uptoBulk d + 1
  | (_, d) => uptoBulk d + 1
 end
def uptoSmall : (H : Type) → List (DataW H) → Bool := fun _ ds => decide (uptoBulkAll ds ≤ 1048576)
def OpenSpec.upto (s : _root_.Go.ChangeSpec) : _root_.Go.OpenSpec := { _root_.Go.OpenSpec.ofChange s with cond := some uptoSmall }

/-- 'asoflaw09.ParserLarge', WHERE WHAT IT READS IS OF BULK AT MOST 1048576: true; the input reads as it did. -/
def parserLargeUptoRow : OpenClaim := { program := "ytdcpcffpapiadaagreatdoor", sum := "c544a896fbbe5e70d3abcfb9236cd7e732b8b0a1aa27a6f16fa65a4338303bb7", func := "asof/asoflaw09.ParserLarge", spec := "parserLarge", inPlace := ["internal/bytealg.IndexByte", "internal/bytealg.IndexByteString", "internal/bytealg.Index", "internal/bytealg.IndexString", "math/bits.Add64", "math/bits.Sub64"], unfollowed := true, recurses := true, named := ["asof/decimal.tens", "strconv.ErrSyntax", "strconv.ErrRange", "internal/strconv.uint64pow10", "math/bits.deBruijn32tab", "math/bits.deBruijn64tab", "internal/bytealg.MaxLen", "unicode/utf8.first", "unicode/utf8.acceptRanges", "math/bits.divideError", "math/bits.overflowError"], apart := false, laid := [("math/bits.deBruijn32tab", laid_math_bits_deBruijn32tab), ("math/bits.deBruijn64tab", laid_math_bits_deBruijn64tab), ("internal/strconv.uint64pow10", laid_internal_strconv_uint64pow10), ("unicode/utf8.acceptRanges", laid_unicode_utf8_acceptRanges), ("strconv.ErrRange", laid_strconv_ErrRange), ("strconv.ErrSyntax", laid_strconv_ErrSyntax), ("asof/decimal.tens", laid_asof_decimal_tens), ("unicode/utf8.first", laid_unicode_utf8_first)], narrowed := true }
def ParserLargeUptoSaid : Prop := parserLargeUptoRow.holds Tryz.pinned (OpenSpec.upto parserLargeSpec)

/-- 'asoflaw09.ParserItems', WHERE WHAT IT READS IS OF BULK AT MOST 1048576: true; the input reads as it did. -/
def parserItemsUptoRow : OpenClaim := { program := "ytdcpcffpapiadaagreatdoor", sum := "c544a896fbbe5e70d3abcfb9236cd7e732b8b0a1aa27a6f16fa65a4338303bb7", func := "asof/asoflaw09.ParserItems", spec := "parserItems", inPlace := ["internal/bytealg.IndexByte", "internal/bytealg.IndexByteString", "internal/bytealg.Index", "internal/bytealg.IndexString", "math/bits.Add64", "math/bits.Sub64"], unfollowed := true, recurses := true, named := ["asof/decimal.tens", "strconv.ErrSyntax", "strconv.ErrRange", "internal/strconv.uint64pow10", "math/bits.deBruijn32tab", "math/bits.deBruijn64tab", "internal/bytealg.MaxLen", "unicode/utf8.first", "unicode/utf8.acceptRanges", "math/bits.divideError", "math/bits.overflowError"], apart := false, laid := [("math/bits.deBruijn32tab", laid_math_bits_deBruijn32tab), ("math/bits.deBruijn64tab", laid_math_bits_deBruijn64tab), ("internal/strconv.uint64pow10", laid_internal_strconv_uint64pow10), ("unicode/utf8.acceptRanges", laid_unicode_utf8_acceptRanges), ("strconv.ErrRange", laid_strconv_ErrRange), ("strconv.ErrSyntax", laid_strconv_ErrSyntax), ("asof/decimal.tens", laid_asof_decimal_tens), ("unicode/utf8.first", laid_unicode_utf8_first)], narrowed := true }
def ParserItemsUptoSaid : Prop := parserItemsUptoRow.holds Tryz.pinned (OpenSpec.upto parserItemsSpec)

/-- 'asoflaw09.ParserRecovers', WHERE WHAT IT READS IS OF BULK AT MOST 1048576: true; the input reads as it did. -/
def parserRecoversUptoRow : OpenClaim := { program := "ytdcpcffpapiadaagreatdoor", sum := "c544a896fbbe5e70d3abcfb9236cd7e732b8b0a1aa27a6f16fa65a4338303bb7", func := "asof/asoflaw09.ParserRecovers", spec := "parserRecovers", inPlace := ["internal/bytealg.IndexByte", "internal/bytealg.IndexByteString", "internal/bytealg.Index", "internal/bytealg.IndexString", "math/bits.Add64", "math/bits.Sub64"], unfollowed := true, recurses := true, named := ["asof/decimal.tens", "strconv.ErrSyntax", "strconv.ErrRange", "internal/strconv.uint64pow10", "math/bits.deBruijn32tab", "math/bits.deBruijn64tab", "internal/bytealg.MaxLen", "unicode/utf8.first", "unicode/utf8.acceptRanges", "math/bits.divideError", "math/bits.overflowError"], apart := false, laid := [("math/bits.deBruijn32tab", laid_math_bits_deBruijn32tab), ("math/bits.deBruijn64tab", laid_math_bits_deBruijn64tab), ("internal/strconv.uint64pow10", laid_internal_strconv_uint64pow10), ("unicode/utf8.acceptRanges", laid_unicode_utf8_acceptRanges), ("strconv.ErrRange", laid_strconv_ErrRange), ("strconv.ErrSyntax", laid_strconv_ErrSyntax), ("asof/decimal.tens", laid_asof_decimal_tens), ("unicode/utf8.first", laid_unicode_utf8_first)], narrowed := true }
def ParserRecoversUptoSaid : Prop := parserRecoversUptoRow.holds Tryz.pinned (OpenSpec.upto parserRecoversSpec)

/-- 'asoflaw09.ParserGroups', WHERE WHAT IT READS IS OF BULK AT MOST 1048576: true; the input reads as it did. -/
def parserGroupsUptoRow : OpenClaim := { program := "ytdcpcffpapiadaagreatdoor", sum := "c544a896fbbe5e70d3abcfb9236cd7e732b8b0a1aa27a6f16fa65a4338303bb7", func := "asof/asoflaw09.ParserGroups", spec := "parserGroups", inPlace := ["internal/bytealg.IndexByteString", "internal/bytealg.IndexString", "math/bits.Add64", "math/bits.Sub64", "internal/bytealg.IndexByte", "internal/bytealg.Index"], unfollowed := true, recurses := true, named := ["strconv.ErrSyntax", "strconv.ErrRange", "internal/strconv.uint64pow10", "math/bits.deBruijn32tab", "math/bits.deBruijn64tab", "internal/bytealg.MaxLen", "math/bits.divideError", "math/bits.overflowError", "asof/decimal.tens", "unicode/utf8.first", "unicode/utf8.acceptRanges"], apart := false, laid := [("math/bits.deBruijn32tab", laid_math_bits_deBruijn32tab), ("math/bits.deBruijn64tab", laid_math_bits_deBruijn64tab), ("internal/strconv.uint64pow10", laid_internal_strconv_uint64pow10), ("unicode/utf8.acceptRanges", laid_unicode_utf8_acceptRanges), ("strconv.ErrRange", laid_strconv_ErrRange), ("strconv.ErrSyntax", laid_strconv_ErrSyntax), ("asof/decimal.tens", laid_asof_decimal_tens), ("unicode/utf8.first", laid_unicode_utf8_first)], narrowed := true }
def ParserGroupsUptoSaid : Prop := parserGroupsUptoRow.holds Tryz.pinned (OpenSpec.upto parserGroupsSpec)

/-- 'asoflaw09.ParserTokens', WHERE WHAT IT READS IS OF BULK AT MOST 1048576: true; the input reads as it did. -/
def parserTokensUptoRow : OpenClaim := { program := "ytdcpcffpapiadaagreatdoor", sum := "c544a896fbbe5e70d3abcfb9236cd7e732b8b0a1aa27a6f16fa65a4338303bb7", func := "asof/asoflaw09.ParserTokens", spec := "parserTokens", inPlace := ["internal/bytealg.IndexByte", "internal/bytealg.IndexByteString", "internal/bytealg.Index", "internal/bytealg.IndexString", "math/bits.Add64", "math/bits.Sub64"], unfollowed := true, recurses := true, named := ["asof/decimal.tens", "strconv.ErrSyntax", "strconv.ErrRange", "internal/strconv.uint64pow10", "math/bits.deBruijn32tab", "math/bits.deBruijn64tab", "internal/bytealg.MaxLen", "unicode/utf8.first", "unicode/utf8.acceptRanges", "math/bits.divideError", "math/bits.overflowError"], apart := false, laid := [("math/bits.deBruijn32tab", laid_math_bits_deBruijn32tab), ("math/bits.deBruijn64tab", laid_math_bits_deBruijn64tab), ("internal/strconv.uint64pow10", laid_internal_strconv_uint64pow10), ("unicode/utf8.acceptRanges", laid_unicode_utf8_acceptRanges), ("strconv.ErrRange", laid_strconv_ErrRange), ("strconv.ErrSyntax", laid_strconv_ErrSyntax), ("asof/decimal.tens", laid_asof_decimal_tens), ("unicode/utf8.first", laid_unicode_utf8_first)], narrowed := true }
def ParserTokensUptoSaid : Prop := parserTokensUptoRow.holds Tryz.pinned (OpenSpec.upto parserTokensSpec)

/-- 'asoflaw09.ParserUnits', WHERE WHAT IT READS IS OF BULK AT MOST 1048576: true; the input reads as it did. -/
def parserUnitsUptoRow : OpenClaim := { program := "ytdcpcffpapiadaagreatdoor", sum := "c544a896fbbe5e70d3abcfb9236cd7e732b8b0a1aa27a6f16fa65a4338303bb7", func := "asof/asoflaw09.ParserUnits", spec := "parserUnits", inPlace := ["internal/bytealg.IndexByteString", "internal/bytealg.IndexString", "math/bits.Add64", "math/bits.Sub64", "internal/bytealg.IndexByte", "internal/bytealg.Index", "internal/abi.NoEscape", "internal/bytealg.MakeNoZero", "internal/bytealg.CountString"], unfollowed := true, recurses := true, named := ["strconv.ErrSyntax", "strconv.ErrRange", "internal/strconv.uint64pow10", "math/bits.deBruijn32tab", "math/bits.deBruijn64tab", "internal/bytealg.MaxLen", "math/bits.divideError", "math/bits.overflowError", "asof/decimal.tens", "unicode/utf8.first", "unicode/utf8.acceptRanges"], apart := false, laid := [("math/bits.deBruijn32tab", laid_math_bits_deBruijn32tab), ("math/bits.deBruijn64tab", laid_math_bits_deBruijn64tab), ("internal/strconv.uint64pow10", laid_internal_strconv_uint64pow10), ("unicode/utf8.acceptRanges", laid_unicode_utf8_acceptRanges), ("strconv.ErrRange", laid_strconv_ErrRange), ("strconv.ErrSyntax", laid_strconv_ErrSyntax), ("asof/decimal.tens", laid_asof_decimal_tens), ("unicode/utf8.first", laid_unicode_utf8_first)], narrowed := true }
def ParserUnitsUptoSaid : Prop := parserUnitsUptoRow.holds Tryz.pinned (OpenSpec.upto parserUnitsSpec)

end Rows
end Go.Proofs.YtdcpcffpapiadaaGreatDoor
