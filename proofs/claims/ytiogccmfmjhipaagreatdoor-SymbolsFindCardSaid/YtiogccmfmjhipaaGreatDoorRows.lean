/-
  NARROWER THAN 'FOR EVERY INPUT', by the rows' own cells (each row's printed sentence says how): ParserResynchronizes: laid · ParserTrivia: laid · ParserLossless: laid · SymbolsModules: laid · SymbolsFind: laid · SymbolsTree: laid · ExportsOrder: laid · ExportsDeclarations: laid · ResolveRange: laid · ResolveExtraModule: laid · ResolveInnermost: laid · ResolveLayout: laid.
  DERIVED. THE GIVEN ROWS OF THIS SEAT. 12 by the template 'for every input the law returns true; each argument reads behind the call as it read before'; 0 by the template 'total and deterministic' (their statements: YtiogccmfmjhipaaGreatDoorTotals.lean).
  GIVEN WITH THE SEED: the statements are not yours to turn. If you find one false, say at which input.
  Laid BY PROGRAM, IN A SANDBOX (cutbox-rows.mjs): the forced cells as the released guide's own fill.sh prints them over the translation 15349bb35bcb9723… (all of the seat's roots in one cut). By AI agents, Wed Nov 11 2026. No macro, syntax, notation, axiom, sorry.
-/
import Derived.Test.YtiogccmfmjhipaaGreatDoorChecked
import GoSem.Claim
import GoSem.ClaimJoined
import GoSem.ClaimMapViews
import Derived.JoinedTies
import Derived.KernelRfl
namespace Go.Proofs.YtiogccmfmjhipaaGreatDoor
/- THE CELL 'sum', in the pinned program and in every row, IS THE sha256 OF THE DUMP (.gsa) THAT YtiogccmfmjhipaaGreatDoorProg.lean LOADS. Nothing in Lean hashes anything: it is a label: what it is worth is what the hold of that sum in a sandbox is worth. -/
noncomputable def Tryz.pinned : Pinned := { name := "ytiogccmfmjhipaagreatdoor", sum := "15349bb35bcb972377f0ea36d490779732d862a25b1718117a66806a7e5827a2", checked := Tryz.checked }
namespace Rows
def none {H : Type} : Left H := { results := [], args := [] }

/- WHAT THE LISTED PACKAGE-LEVEL VARIABLES READ AS WHEN THE CALL BEGINS. Each datum BY PROGRAM (the guide's laid-datum.mjs) off the statement by which the dump's own 'gosem.cut.vars' lays the variable. In a bare row this is a premise. The card (YtiogccmfmjhipaaGreatDoorCards.lean) ties it to the program's text. -/
def laid_math_bits_deBruijn32tab {H : Type} : DataW H := .agg [.lit (.int .u8 0), .lit (.int .u8 1), .lit (.int .u8 28), .lit (.int .u8 2), .lit (.int .u8 29), .lit (.int .u8 14), .lit (.int .u8 24), .lit (.int .u8 3), .lit (.int .u8 30), .lit (.int .u8 22), .lit (.int .u8 20), .lit (.int .u8 15), .lit (.int .u8 25), .lit (.int .u8 17), .lit (.int .u8 4), .lit (.int .u8 8), .lit (.int .u8 31), .lit (.int .u8 27), .lit (.int .u8 13), .lit (.int .u8 23), .lit (.int .u8 21), .lit (.int .u8 19), .lit (.int .u8 16), .lit (.int .u8 7), .lit (.int .u8 26), .lit (.int .u8 12), .lit (.int .u8 18), .lit (.int .u8 6), .lit (.int .u8 11), .lit (.int .u8 5), .lit (.int .u8 10), .lit (.int .u8 9)]
def laid_math_bits_deBruijn64tab {H : Type} : DataW H := .agg [.lit (.int .u8 0), .lit (.int .u8 1), .lit (.int .u8 56), .lit (.int .u8 2), .lit (.int .u8 57), .lit (.int .u8 49), .lit (.int .u8 28), .lit (.int .u8 3), .lit (.int .u8 61), .lit (.int .u8 58), .lit (.int .u8 42), .lit (.int .u8 50), .lit (.int .u8 38), .lit (.int .u8 29), .lit (.int .u8 17), .lit (.int .u8 4), .lit (.int .u8 62), .lit (.int .u8 47), .lit (.int .u8 59), .lit (.int .u8 36), .lit (.int .u8 45), .lit (.int .u8 43), .lit (.int .u8 51), .lit (.int .u8 22), .lit (.int .u8 53), .lit (.int .u8 39), .lit (.int .u8 33), .lit (.int .u8 30), .lit (.int .u8 24), .lit (.int .u8 18), .lit (.int .u8 12), .lit (.int .u8 5), .lit (.int .u8 63), .lit (.int .u8 55), .lit (.int .u8 48), .lit (.int .u8 27), .lit (.int .u8 60), .lit (.int .u8 41), .lit (.int .u8 37), .lit (.int .u8 16), .lit (.int .u8 46), .lit (.int .u8 35), .lit (.int .u8 44), .lit (.int .u8 21), .lit (.int .u8 52), .lit (.int .u8 32), .lit (.int .u8 23), .lit (.int .u8 11), .lit (.int .u8 54), .lit (.int .u8 26), .lit (.int .u8 40), .lit (.int .u8 15), .lit (.int .u8 34), .lit (.int .u8 20), .lit (.int .u8 31), .lit (.int .u8 10), .lit (.int .u8 25), .lit (.int .u8 14), .lit (.int .u8 19), .lit (.int .u8 9), .lit (.int .u8 13), .lit (.int .u8 8), .lit (.int .u8 7), .lit (.int .u8 6)]
def laid_internal_strconv_uint64pow10 {H : Type} : DataW H := .agg [.lit (.int .u64 1), .lit (.int .u64 10), .lit (.int .u64 100), .lit (.int .u64 1000), .lit (.int .u64 10000), .lit (.int .u64 100000), .lit (.int .u64 1000000), .lit (.int .u64 10000000), .lit (.int .u64 100000000), .lit (.int .u64 1000000000), .lit (.int .u64 10000000000), .lit (.int .u64 100000000000), .lit (.int .u64 1000000000000), .lit (.int .u64 10000000000000), .lit (.int .u64 100000000000000), .lit (.int .u64 1000000000000000), .lit (.int .u64 10000000000000000), .lit (.int .u64 100000000000000000), .lit (.int .u64 1000000000000000000), .lit (.int .u64 10000000000000000000)]
def laid_strconv_ErrRange {H : Type} : DataW H := .iface "*errors.errorString" (.ptr (.agg [.lit (.string [118, 97, 108, 117, 101, 32, 111, 117, 116, 32, 111, 102, 32, 114, 97, 110, 103, 101])]))
def laid_strconv_ErrSyntax {H : Type} : DataW H := .iface "*errors.errorString" (.ptr (.agg [.lit (.string [105, 110, 118, 97, 108, 105, 100, 32, 115, 121, 110, 116, 97, 120])]))
def laid_unicode_White_Space {H : Type} : DataW H := .ptr (.agg [.slice [.agg [.lit (.int .u16 9), .lit (.int .u16 13), .lit (.int .u16 1)], .agg [.lit (.int .u16 32), .lit (.int .u16 133), .lit (.int .u16 101)], .agg [.lit (.int .u16 160), .lit (.int .u16 5760), .lit (.int .u16 5600)], .agg [.lit (.int .u16 8192), .lit (.int .u16 8202), .lit (.int .u16 1)], .agg [.lit (.int .u16 8232), .lit (.int .u16 8233), .lit (.int .u16 1)], .agg [.lit (.int .u16 8239), .lit (.int .u16 8287), .lit (.int .u16 48)], .agg [.lit (.int .u16 12288), .lit (.int .u16 12288), .lit (.int .u16 1)]] [], .nil, .lit (.int .i64 2)])
def laid_strings_asciiSpace {H : Type} : DataW H := .agg [.lit (.int .u8 0), .lit (.int .u8 0), .lit (.int .u8 0), .lit (.int .u8 0), .lit (.int .u8 0), .lit (.int .u8 0), .lit (.int .u8 0), .lit (.int .u8 0), .lit (.int .u8 0), .lit (.int .u8 1), .lit (.int .u8 1), .lit (.int .u8 1), .lit (.int .u8 1), .lit (.int .u8 1), .lit (.int .u8 0), .lit (.int .u8 0), .lit (.int .u8 0), .lit (.int .u8 0), .lit (.int .u8 0), .lit (.int .u8 0), .lit (.int .u8 0), .lit (.int .u8 0), .lit (.int .u8 0), .lit (.int .u8 0), .lit (.int .u8 0), .lit (.int .u8 0), .lit (.int .u8 0), .lit (.int .u8 0), .lit (.int .u8 0), .lit (.int .u8 0), .lit (.int .u8 0), .lit (.int .u8 0), .lit (.int .u8 1), .lit (.int .u8 0), .lit (.int .u8 0), .lit (.int .u8 0), .lit (.int .u8 0), .lit (.int .u8 0), .lit (.int .u8 0), .lit (.int .u8 0), .lit (.int .u8 0), .lit (.int .u8 0), .lit (.int .u8 0), .lit (.int .u8 0), .lit (.int .u8 0), .lit (.int .u8 0), .lit (.int .u8 0), .lit (.int .u8 0), .lit (.int .u8 0), .lit (.int .u8 0), .lit (.int .u8 0), .lit (.int .u8 0), .lit (.int .u8 0), .lit (.int .u8 0), .lit (.int .u8 0), .lit (.int .u8 0), .lit (.int .u8 0), .lit (.int .u8 0), .lit (.int .u8 0), .lit (.int .u8 0), .lit (.int .u8 0), .lit (.int .u8 0), .lit (.int .u8 0), .lit (.int .u8 0), .lit (.int .u8 0), .lit (.int .u8 0), .lit (.int .u8 0), .lit (.int .u8 0), .lit (.int .u8 0), .lit (.int .u8 0), .lit (.int .u8 0), .lit (.int .u8 0), .lit (.int .u8 0), .lit (.int .u8 0), .lit (.int .u8 0), .lit (.int .u8 0), .lit (.int .u8 0), .lit (.int .u8 0), .lit (.int .u8 0), .lit (.int .u8 0), .lit (.int .u8 0), .lit (.int .u8 0), .lit (.int .u8 0), .lit (.int .u8 0), .lit (.int .u8 0), .lit (.int .u8 0), .lit (.int .u8 0), .lit (.int .u8 0), .lit (.int .u8 0), .lit (.int .u8 0), .lit (.int .u8 0), .lit (.int .u8 0), .lit (.int .u8 0), .lit (.int .u8 0), .lit (.int .u8 0), .lit (.int .u8 0), .lit (.int .u8 0), .lit (.int .u8 0), .lit (.int .u8 0), .lit (.int .u8 0), .lit (.int .u8 0), .lit (.int .u8 0), .lit (.int .u8 0), .lit (.int .u8 0), .lit (.int .u8 0), .lit (.int .u8 0), .lit (.int .u8 0), .lit (.int .u8 0), .lit (.int .u8 0), .lit (.int .u8 0), .lit (.int .u8 0), .lit (.int .u8 0), .lit (.int .u8 0), .lit (.int .u8 0), .lit (.int .u8 0), .lit (.int .u8 0), .lit (.int .u8 0), .lit (.int .u8 0), .lit (.int .u8 0), .lit (.int .u8 0), .lit (.int .u8 0), .lit (.int .u8 0), .lit (.int .u8 0), .lit (.int .u8 0), .lit (.int .u8 0), .lit (.int .u8 0), .lit (.int .u8 0), .lit (.int .u8 0), .lit (.int .u8 0), .lit (.int .u8 0), .lit (.int .u8 0), .lit (.int .u8 0), .lit (.int .u8 0), .lit (.int .u8 0), .lit (.int .u8 0), .lit (.int .u8 0), .lit (.int .u8 0), .lit (.int .u8 0), .lit (.int .u8 0), .lit (.int .u8 0), .lit (.int .u8 0), .lit (.int .u8 0), .lit (.int .u8 0), .lit (.int .u8 0), .lit (.int .u8 0), .lit (.int .u8 0), .lit (.int .u8 0), .lit (.int .u8 0), .lit (.int .u8 0), .lit (.int .u8 0), .lit (.int .u8 0), .lit (.int .u8 0), .lit (.int .u8 0), .lit (.int .u8 0), .lit (.int .u8 0), .lit (.int .u8 0), .lit (.int .u8 0), .lit (.int .u8 0), .lit (.int .u8 0), .lit (.int .u8 0), .lit (.int .u8 0), .lit (.int .u8 0), .lit (.int .u8 0), .lit (.int .u8 0), .lit (.int .u8 0), .lit (.int .u8 0), .lit (.int .u8 0), .lit (.int .u8 0), .lit (.int .u8 0), .lit (.int .u8 0), .lit (.int .u8 0), .lit (.int .u8 0), .lit (.int .u8 0), .lit (.int .u8 0), .lit (.int .u8 0), .lit (.int .u8 0), .lit (.int .u8 0), .lit (.int .u8 0), .lit (.int .u8 0), .lit (.int .u8 0), .lit (.int .u8 0), .lit (.int .u8 0), .lit (.int .u8 0), .lit (.int .u8 0), .lit (.int .u8 0), .lit (.int .u8 0), .lit (.int .u8 0), .lit (.int .u8 0), .lit (.int .u8 0), .lit (.int .u8 0), .lit (.int .u8 0), .lit (.int .u8 0), .lit (.int .u8 0), .lit (.int .u8 0), .lit (.int .u8 0), .lit (.int .u8 0), .lit (.int .u8 0), .lit (.int .u8 0), .lit (.int .u8 0), .lit (.int .u8 0), .lit (.int .u8 0), .lit (.int .u8 0), .lit (.int .u8 0), .lit (.int .u8 0), .lit (.int .u8 0), .lit (.int .u8 0), .lit (.int .u8 0), .lit (.int .u8 0), .lit (.int .u8 0), .lit (.int .u8 0), .lit (.int .u8 0), .lit (.int .u8 0), .lit (.int .u8 0), .lit (.int .u8 0), .lit (.int .u8 0), .lit (.int .u8 0), .lit (.int .u8 0), .lit (.int .u8 0), .lit (.int .u8 0), .lit (.int .u8 0), .lit (.int .u8 0), .lit (.int .u8 0), .lit (.int .u8 0), .lit (.int .u8 0), .lit (.int .u8 0), .lit (.int .u8 0), .lit (.int .u8 0), .lit (.int .u8 0), .lit (.int .u8 0), .lit (.int .u8 0), .lit (.int .u8 0), .lit (.int .u8 0), .lit (.int .u8 0), .lit (.int .u8 0), .lit (.int .u8 0), .lit (.int .u8 0), .lit (.int .u8 0), .lit (.int .u8 0), .lit (.int .u8 0), .lit (.int .u8 0), .lit (.int .u8 0), .lit (.int .u8 0), .lit (.int .u8 0), .lit (.int .u8 0), .lit (.int .u8 0), .lit (.int .u8 0), .lit (.int .u8 0), .lit (.int .u8 0), .lit (.int .u8 0), .lit (.int .u8 0), .lit (.int .u8 0), .lit (.int .u8 0), .lit (.int .u8 0), .lit (.int .u8 0), .lit (.int .u8 0), .lit (.int .u8 0)]

/-- 'glossatorkeep1.ParserResynchronizes': WHATEVER THE INPUT: true; the input reads as it did. -/
def parserResynchronizesSpec : ChangeSpec := { name := "parserResynchronizes", fn := fun _ => fun
  | [d1, d2] => { results := [.lit (.bool true)], args := [d1, d2] }
  | _ => none }
def parserResynchronizesRow : OpenClaim := { program := "ytiogccmfmjhipaagreatdoor", sum := "15349bb35bcb972377f0ea36d490779732d862a25b1718117a66806a7e5827a2", func := "glossator/glossatorkeep1.ParserResynchronizes", spec := "parserResynchronizes", inPlace := ["internal/bytealg.IndexByteString", "slices.overlaps[glossator/api.SyntaxTree]", "internal/abi.NoEscape"], unfollowed := true, recurses := true, named := ["strings.asciiSpace", "unicode.White_Space", "strconv.ErrSyntax", "strconv.ErrRange", "internal/strconv.uint64pow10", "math/bits.deBruijn32tab", "math/bits.deBruijn64tab"], apart := false, laid := [("math/bits.deBruijn32tab", laid_math_bits_deBruijn32tab), ("math/bits.deBruijn64tab", laid_math_bits_deBruijn64tab), ("internal/strconv.uint64pow10", laid_internal_strconv_uint64pow10), ("strconv.ErrRange", laid_strconv_ErrRange), ("strconv.ErrSyntax", laid_strconv_ErrSyntax), ("unicode.White_Space", laid_unicode_White_Space), ("strings.asciiSpace", laid_strings_asciiSpace)] }
def ParserResynchronizesSaid : Prop := parserResynchronizesRow.holds Tryz.pinned (OpenSpec.ofChange parserResynchronizesSpec)

/-- ITS FALSE NEIGHBOUR: 'it returns false'. Refute it at one input. -/
def parserResynchronizesWrong : ChangeSpec := { name := "parserResynchronizes", fn := fun _ => fun
  | [d1, d2] => { results := [.lit (.bool false)], args := [d1, d2] }
  | _ => none }
def ParserResynchronizesWrongFalsely : Prop := parserResynchronizesRow.holds Tryz.pinned (OpenSpec.ofChange parserResynchronizesWrong)

/-- 'glossatorkeep1.ParserTrivia': WHATEVER THE INPUT: true; the input reads as it did. -/
def parserTriviaSpec : ChangeSpec := { name := "parserTrivia", fn := fun _ => fun
  | [d1, d2, d3] => { results := [.lit (.bool true)], args := [d1, d2, d3] }
  | _ => none }
def parserTriviaRow : OpenClaim := { program := "ytiogccmfmjhipaagreatdoor", sum := "15349bb35bcb972377f0ea36d490779732d862a25b1718117a66806a7e5827a2", func := "glossator/glossatorkeep1.ParserTrivia", spec := "parserTrivia", inPlace := ["internal/bytealg.IndexByteString", "slices.overlaps[glossator/api.SyntaxTree]", "internal/abi.NoEscape"], unfollowed := true, recurses := true, named := ["strings.asciiSpace", "unicode.White_Space", "strconv.ErrSyntax", "strconv.ErrRange", "internal/strconv.uint64pow10", "math/bits.deBruijn32tab", "math/bits.deBruijn64tab"], apart := false, laid := [("math/bits.deBruijn32tab", laid_math_bits_deBruijn32tab), ("math/bits.deBruijn64tab", laid_math_bits_deBruijn64tab), ("internal/strconv.uint64pow10", laid_internal_strconv_uint64pow10), ("strconv.ErrRange", laid_strconv_ErrRange), ("strconv.ErrSyntax", laid_strconv_ErrSyntax), ("unicode.White_Space", laid_unicode_White_Space), ("strings.asciiSpace", laid_strings_asciiSpace)] }
def ParserTriviaSaid : Prop := parserTriviaRow.holds Tryz.pinned (OpenSpec.ofChange parserTriviaSpec)

/-- ITS FALSE NEIGHBOUR: 'it returns false'. Refute it at one input. -/
def parserTriviaWrong : ChangeSpec := { name := "parserTrivia", fn := fun _ => fun
  | [d1, d2, d3] => { results := [.lit (.bool false)], args := [d1, d2, d3] }
  | _ => none }
def ParserTriviaWrongFalsely : Prop := parserTriviaRow.holds Tryz.pinned (OpenSpec.ofChange parserTriviaWrong)

/-- 'glossatorkeep1.ParserLossless': WHATEVER THE INPUT: true; the input reads as it did. -/
def parserLosslessSpec : ChangeSpec := { name := "parserLossless", fn := fun _ => fun
  | [d] => { results := [.lit (.bool true)], args := [d] }
  | _ => none }
def parserLosslessRow : OpenClaim := { program := "ytiogccmfmjhipaagreatdoor", sum := "15349bb35bcb972377f0ea36d490779732d862a25b1718117a66806a7e5827a2", func := "glossator/glossatorkeep1.ParserLossless", spec := "parserLossless", inPlace := ["internal/bytealg.IndexByteString", "slices.overlaps[glossator/api.SyntaxTree]", "internal/abi.NoEscape"], unfollowed := true, recurses := true, named := ["strings.asciiSpace", "unicode.White_Space", "strconv.ErrSyntax", "strconv.ErrRange", "internal/strconv.uint64pow10", "math/bits.deBruijn32tab", "math/bits.deBruijn64tab"], apart := false, laid := [("math/bits.deBruijn32tab", laid_math_bits_deBruijn32tab), ("math/bits.deBruijn64tab", laid_math_bits_deBruijn64tab), ("internal/strconv.uint64pow10", laid_internal_strconv_uint64pow10), ("strconv.ErrRange", laid_strconv_ErrRange), ("strconv.ErrSyntax", laid_strconv_ErrSyntax), ("unicode.White_Space", laid_unicode_White_Space), ("strings.asciiSpace", laid_strings_asciiSpace)] }
def ParserLosslessSaid : Prop := parserLosslessRow.holds Tryz.pinned (OpenSpec.ofChange parserLosslessSpec)

/-- ITS FALSE NEIGHBOUR: 'it returns false'. Refute it at one input. -/
def parserLosslessWrong : ChangeSpec := { name := "parserLossless", fn := fun _ => fun
  | [d] => { results := [.lit (.bool false)], args := [d] }
  | _ => none }
def ParserLosslessWrongFalsely : Prop := parserLosslessRow.holds Tryz.pinned (OpenSpec.ofChange parserLosslessWrong)

/-- 'glossatorkeep1.SymbolsModules': WHATEVER THE INPUT: true; the input reads as it did. -/
def symbolsModulesSpec : ChangeSpec := { name := "symbolsModules", fn := fun _ => fun
  | [d1, d2, d3] => { results := [.lit (.bool true)], args := [d1, d2, d3] }
  | _ => none }
def symbolsModulesRow : OpenClaim := { program := "ytiogccmfmjhipaagreatdoor", sum := "15349bb35bcb972377f0ea36d490779732d862a25b1718117a66806a7e5827a2", func := "glossator/glossatorkeep1.SymbolsModules", spec := "symbolsModules", inPlace := ["internal/bytealg.IndexByteString", "slices.overlaps[glossator/api.SyntaxTree]", "internal/abi.NoEscape"], unfollowed := true, recurses := true, named := ["strings.asciiSpace", "unicode.White_Space", "strconv.ErrSyntax", "strconv.ErrRange", "internal/strconv.uint64pow10", "math/bits.deBruijn32tab", "math/bits.deBruijn64tab"], apart := false, laid := [("math/bits.deBruijn32tab", laid_math_bits_deBruijn32tab), ("math/bits.deBruijn64tab", laid_math_bits_deBruijn64tab), ("internal/strconv.uint64pow10", laid_internal_strconv_uint64pow10), ("strconv.ErrRange", laid_strconv_ErrRange), ("strconv.ErrSyntax", laid_strconv_ErrSyntax), ("unicode.White_Space", laid_unicode_White_Space), ("strings.asciiSpace", laid_strings_asciiSpace)] }
def SymbolsModulesSaid : Prop := symbolsModulesRow.holds Tryz.pinned (OpenSpec.ofChange symbolsModulesSpec)

/-- ITS FALSE NEIGHBOUR: 'it returns false'. Refute it at one input. -/
def symbolsModulesWrong : ChangeSpec := { name := "symbolsModules", fn := fun _ => fun
  | [d1, d2, d3] => { results := [.lit (.bool false)], args := [d1, d2, d3] }
  | _ => none }
def SymbolsModulesWrongFalsely : Prop := symbolsModulesRow.holds Tryz.pinned (OpenSpec.ofChange symbolsModulesWrong)

/-- 'glossatorkeep1.SymbolsFind': WHATEVER THE INPUT: true; the input reads as it did. -/
def symbolsFindSpec : ChangeSpec := { name := "symbolsFind", fn := fun _ => fun
  | [d1, d2] => { results := [.lit (.bool true)], args := [d1, d2] }
  | _ => none }
def symbolsFindRow : OpenClaim := { program := "ytiogccmfmjhipaagreatdoor", sum := "15349bb35bcb972377f0ea36d490779732d862a25b1718117a66806a7e5827a2", func := "glossator/glossatorkeep1.SymbolsFind", spec := "symbolsFind", inPlace := ["internal/bytealg.IndexByteString", "slices.overlaps[glossator/api.SyntaxTree]", "internal/abi.NoEscape"], unfollowed := true, recurses := true, named := ["strings.asciiSpace", "unicode.White_Space", "strconv.ErrSyntax", "strconv.ErrRange", "internal/strconv.uint64pow10", "math/bits.deBruijn32tab", "math/bits.deBruijn64tab"], apart := false, laid := [("math/bits.deBruijn32tab", laid_math_bits_deBruijn32tab), ("math/bits.deBruijn64tab", laid_math_bits_deBruijn64tab), ("internal/strconv.uint64pow10", laid_internal_strconv_uint64pow10), ("strconv.ErrRange", laid_strconv_ErrRange), ("strconv.ErrSyntax", laid_strconv_ErrSyntax), ("unicode.White_Space", laid_unicode_White_Space), ("strings.asciiSpace", laid_strings_asciiSpace)] }
def SymbolsFindSaid : Prop := symbolsFindRow.holds Tryz.pinned (OpenSpec.ofChange symbolsFindSpec)

/-- ITS FALSE NEIGHBOUR: 'it returns false'. Refute it at one input. -/
def symbolsFindWrong : ChangeSpec := { name := "symbolsFind", fn := fun _ => fun
  | [d1, d2] => { results := [.lit (.bool false)], args := [d1, d2] }
  | _ => none }
def SymbolsFindWrongFalsely : Prop := symbolsFindRow.holds Tryz.pinned (OpenSpec.ofChange symbolsFindWrong)

/-- 'glossatorkeep1.SymbolsTree': WHATEVER THE INPUT: true; the input reads as it did. -/
def symbolsTreeSpec : ChangeSpec := { name := "symbolsTree", fn := fun _ => fun
  | [d1, d2] => { results := [.lit (.bool true)], args := [d1, d2] }
  | _ => none }
def symbolsTreeRow : OpenClaim := { program := "ytiogccmfmjhipaagreatdoor", sum := "15349bb35bcb972377f0ea36d490779732d862a25b1718117a66806a7e5827a2", func := "glossator/glossatorkeep1.SymbolsTree", spec := "symbolsTree", inPlace := ["internal/bytealg.IndexByteString", "slices.overlaps[glossator/api.SyntaxTree]", "internal/abi.NoEscape"], unfollowed := true, recurses := true, named := ["strings.asciiSpace", "unicode.White_Space", "strconv.ErrSyntax", "strconv.ErrRange", "internal/strconv.uint64pow10", "math/bits.deBruijn32tab", "math/bits.deBruijn64tab"], apart := false, laid := [("math/bits.deBruijn32tab", laid_math_bits_deBruijn32tab), ("math/bits.deBruijn64tab", laid_math_bits_deBruijn64tab), ("internal/strconv.uint64pow10", laid_internal_strconv_uint64pow10), ("strconv.ErrRange", laid_strconv_ErrRange), ("strconv.ErrSyntax", laid_strconv_ErrSyntax), ("unicode.White_Space", laid_unicode_White_Space), ("strings.asciiSpace", laid_strings_asciiSpace)] }
def SymbolsTreeSaid : Prop := symbolsTreeRow.holds Tryz.pinned (OpenSpec.ofChange symbolsTreeSpec)

/-- ITS FALSE NEIGHBOUR: 'it returns false'. Refute it at one input. -/
def symbolsTreeWrong : ChangeSpec := { name := "symbolsTree", fn := fun _ => fun
  | [d1, d2] => { results := [.lit (.bool false)], args := [d1, d2] }
  | _ => none }
def SymbolsTreeWrongFalsely : Prop := symbolsTreeRow.holds Tryz.pinned (OpenSpec.ofChange symbolsTreeWrong)

/-- 'glossatorkeep1.ExportsOrder': WHATEVER THE INPUT: true; the input reads as it did. -/
def exportsOrderSpec : ChangeSpec := { name := "exportsOrder", fn := fun _ => fun
  | [d] => { results := [.lit (.bool true)], args := [d] }
  | _ => none }
def exportsOrderRow : OpenClaim := { program := "ytiogccmfmjhipaagreatdoor", sum := "15349bb35bcb972377f0ea36d490779732d862a25b1718117a66806a7e5827a2", func := "glossator/glossatorkeep1.ExportsOrder", spec := "exportsOrder", inPlace := ["internal/bytealg.IndexByteString", "slices.overlaps[glossator/api.SyntaxTree]", "internal/abi.NoEscape"], unfollowed := true, recurses := true, named := ["strings.asciiSpace", "unicode.White_Space", "strconv.ErrSyntax", "strconv.ErrRange", "internal/strconv.uint64pow10", "math/bits.deBruijn32tab", "math/bits.deBruijn64tab"], apart := false, laid := [("math/bits.deBruijn32tab", laid_math_bits_deBruijn32tab), ("math/bits.deBruijn64tab", laid_math_bits_deBruijn64tab), ("internal/strconv.uint64pow10", laid_internal_strconv_uint64pow10), ("strconv.ErrRange", laid_strconv_ErrRange), ("strconv.ErrSyntax", laid_strconv_ErrSyntax), ("unicode.White_Space", laid_unicode_White_Space), ("strings.asciiSpace", laid_strings_asciiSpace)] }
def ExportsOrderSaid : Prop := exportsOrderRow.holds Tryz.pinned (OpenSpec.ofChange exportsOrderSpec)

/-- ITS FALSE NEIGHBOUR: 'it returns false'. Refute it at one input. -/
def exportsOrderWrong : ChangeSpec := { name := "exportsOrder", fn := fun _ => fun
  | [d] => { results := [.lit (.bool false)], args := [d] }
  | _ => none }
def ExportsOrderWrongFalsely : Prop := exportsOrderRow.holds Tryz.pinned (OpenSpec.ofChange exportsOrderWrong)

/-- 'glossatorkeep1.ExportsDeclarations': WHATEVER THE INPUT: true; the input reads as it did. -/
def exportsDeclarationsSpec : ChangeSpec := { name := "exportsDeclarations", fn := fun _ => fun
  | [d] => { results := [.lit (.bool true)], args := [d] }
  | _ => none }
def exportsDeclarationsRow : OpenClaim := { program := "ytiogccmfmjhipaagreatdoor", sum := "15349bb35bcb972377f0ea36d490779732d862a25b1718117a66806a7e5827a2", func := "glossator/glossatorkeep1.ExportsDeclarations", spec := "exportsDeclarations", inPlace := ["internal/bytealg.IndexByteString", "slices.overlaps[glossator/api.SyntaxTree]", "internal/abi.NoEscape"], unfollowed := true, recurses := true, named := ["strings.asciiSpace", "unicode.White_Space", "strconv.ErrSyntax", "strconv.ErrRange", "internal/strconv.uint64pow10", "math/bits.deBruijn32tab", "math/bits.deBruijn64tab"], apart := false, laid := [("math/bits.deBruijn32tab", laid_math_bits_deBruijn32tab), ("math/bits.deBruijn64tab", laid_math_bits_deBruijn64tab), ("internal/strconv.uint64pow10", laid_internal_strconv_uint64pow10), ("strconv.ErrRange", laid_strconv_ErrRange), ("strconv.ErrSyntax", laid_strconv_ErrSyntax), ("unicode.White_Space", laid_unicode_White_Space), ("strings.asciiSpace", laid_strings_asciiSpace)] }
def ExportsDeclarationsSaid : Prop := exportsDeclarationsRow.holds Tryz.pinned (OpenSpec.ofChange exportsDeclarationsSpec)

/-- ITS FALSE NEIGHBOUR: 'it returns false'. Refute it at one input. -/
def exportsDeclarationsWrong : ChangeSpec := { name := "exportsDeclarations", fn := fun _ => fun
  | [d] => { results := [.lit (.bool false)], args := [d] }
  | _ => none }
def ExportsDeclarationsWrongFalsely : Prop := exportsDeclarationsRow.holds Tryz.pinned (OpenSpec.ofChange exportsDeclarationsWrong)

/-- 'glossatorkeep1.ResolveRange': WHATEVER THE INPUT: true; the input reads as it did. -/
def resolveRangeSpec : ChangeSpec := { name := "resolveRange", fn := fun _ => fun
  | [d] => { results := [.lit (.bool true)], args := [d] }
  | _ => none }
def resolveRangeRow : OpenClaim := { program := "ytiogccmfmjhipaagreatdoor", sum := "15349bb35bcb972377f0ea36d490779732d862a25b1718117a66806a7e5827a2", func := "glossator/glossatorkeep1.ResolveRange", spec := "resolveRange", inPlace := ["internal/bytealg.IndexByteString", "slices.overlaps[glossator/api.SyntaxTree]", "internal/abi.NoEscape"], unfollowed := true, recurses := true, named := ["strings.asciiSpace", "unicode.White_Space", "strconv.ErrSyntax", "strconv.ErrRange", "internal/strconv.uint64pow10", "math/bits.deBruijn32tab", "math/bits.deBruijn64tab"], apart := false, laid := [("math/bits.deBruijn32tab", laid_math_bits_deBruijn32tab), ("math/bits.deBruijn64tab", laid_math_bits_deBruijn64tab), ("internal/strconv.uint64pow10", laid_internal_strconv_uint64pow10), ("strconv.ErrRange", laid_strconv_ErrRange), ("strconv.ErrSyntax", laid_strconv_ErrSyntax), ("unicode.White_Space", laid_unicode_White_Space), ("strings.asciiSpace", laid_strings_asciiSpace)] }
def ResolveRangeSaid : Prop := resolveRangeRow.holds Tryz.pinned (OpenSpec.ofChange resolveRangeSpec)

/-- ITS FALSE NEIGHBOUR: 'it returns false'. Refute it at one input. -/
def resolveRangeWrong : ChangeSpec := { name := "resolveRange", fn := fun _ => fun
  | [d] => { results := [.lit (.bool false)], args := [d] }
  | _ => none }
def ResolveRangeWrongFalsely : Prop := resolveRangeRow.holds Tryz.pinned (OpenSpec.ofChange resolveRangeWrong)

/-- 'glossatorkeep1.ResolveExtraModule': WHATEVER THE INPUT: true; the input reads as it did. -/
def resolveExtraModuleSpec : ChangeSpec := { name := "resolveExtraModule", fn := fun _ => fun
  | [d1, d2] => { results := [.lit (.bool true)], args := [d1, d2] }
  | _ => none }
def resolveExtraModuleRow : OpenClaim := { program := "ytiogccmfmjhipaagreatdoor", sum := "15349bb35bcb972377f0ea36d490779732d862a25b1718117a66806a7e5827a2", func := "glossator/glossatorkeep1.ResolveExtraModule", spec := "resolveExtraModule", inPlace := ["internal/bytealg.IndexByteString", "slices.overlaps[glossator/api.SyntaxTree]", "internal/abi.NoEscape"], unfollowed := true, recurses := true, named := ["strings.asciiSpace", "unicode.White_Space", "strconv.ErrSyntax", "strconv.ErrRange", "internal/strconv.uint64pow10", "math/bits.deBruijn32tab", "math/bits.deBruijn64tab"], apart := false, laid := [("math/bits.deBruijn32tab", laid_math_bits_deBruijn32tab), ("math/bits.deBruijn64tab", laid_math_bits_deBruijn64tab), ("internal/strconv.uint64pow10", laid_internal_strconv_uint64pow10), ("strconv.ErrRange", laid_strconv_ErrRange), ("strconv.ErrSyntax", laid_strconv_ErrSyntax), ("unicode.White_Space", laid_unicode_White_Space), ("strings.asciiSpace", laid_strings_asciiSpace)] }
def ResolveExtraModuleSaid : Prop := resolveExtraModuleRow.holds Tryz.pinned (OpenSpec.ofChange resolveExtraModuleSpec)

/-- ITS FALSE NEIGHBOUR: 'it returns false'. Refute it at one input. -/
def resolveExtraModuleWrong : ChangeSpec := { name := "resolveExtraModule", fn := fun _ => fun
  | [d1, d2] => { results := [.lit (.bool false)], args := [d1, d2] }
  | _ => none }
def ResolveExtraModuleWrongFalsely : Prop := resolveExtraModuleRow.holds Tryz.pinned (OpenSpec.ofChange resolveExtraModuleWrong)

/-- 'glossatorkeep1.ResolveInnermost': WHATEVER THE INPUT: true; the input reads as it did. -/
def resolveInnermostSpec : ChangeSpec := { name := "resolveInnermost", fn := fun _ => fun
  | [d] => { results := [.lit (.bool true)], args := [d] }
  | _ => none }
def resolveInnermostRow : OpenClaim := { program := "ytiogccmfmjhipaagreatdoor", sum := "15349bb35bcb972377f0ea36d490779732d862a25b1718117a66806a7e5827a2", func := "glossator/glossatorkeep1.ResolveInnermost", spec := "resolveInnermost", inPlace := ["internal/bytealg.IndexByteString", "slices.overlaps[glossator/api.SyntaxTree]", "internal/abi.NoEscape"], unfollowed := true, recurses := true, named := ["strings.asciiSpace", "unicode.White_Space", "strconv.ErrSyntax", "strconv.ErrRange", "internal/strconv.uint64pow10", "math/bits.deBruijn32tab", "math/bits.deBruijn64tab"], apart := false, laid := [("math/bits.deBruijn32tab", laid_math_bits_deBruijn32tab), ("math/bits.deBruijn64tab", laid_math_bits_deBruijn64tab), ("internal/strconv.uint64pow10", laid_internal_strconv_uint64pow10), ("strconv.ErrRange", laid_strconv_ErrRange), ("strconv.ErrSyntax", laid_strconv_ErrSyntax), ("unicode.White_Space", laid_unicode_White_Space), ("strings.asciiSpace", laid_strings_asciiSpace)] }
def ResolveInnermostSaid : Prop := resolveInnermostRow.holds Tryz.pinned (OpenSpec.ofChange resolveInnermostSpec)

/-- ITS FALSE NEIGHBOUR: 'it returns false'. Refute it at one input. -/
def resolveInnermostWrong : ChangeSpec := { name := "resolveInnermost", fn := fun _ => fun
  | [d] => { results := [.lit (.bool false)], args := [d] }
  | _ => none }
def ResolveInnermostWrongFalsely : Prop := resolveInnermostRow.holds Tryz.pinned (OpenSpec.ofChange resolveInnermostWrong)

/-- 'glossatorkeep1.ResolveLayout': WHATEVER THE INPUT: true; the input reads as it did. -/
def resolveLayoutSpec : ChangeSpec := { name := "resolveLayout", fn := fun _ => fun
  | [d1, d2] => { results := [.lit (.bool true)], args := [d1, d2] }
  | _ => none }
def resolveLayoutRow : OpenClaim := { program := "ytiogccmfmjhipaagreatdoor", sum := "15349bb35bcb972377f0ea36d490779732d862a25b1718117a66806a7e5827a2", func := "glossator/glossatorkeep1.ResolveLayout", spec := "resolveLayout", inPlace := ["internal/bytealg.IndexByteString", "slices.overlaps[glossator/api.SyntaxTree]", "internal/abi.NoEscape"], unfollowed := true, recurses := true, named := ["strings.asciiSpace", "unicode.White_Space", "strconv.ErrSyntax", "strconv.ErrRange", "internal/strconv.uint64pow10", "math/bits.deBruijn32tab", "math/bits.deBruijn64tab"], apart := false, laid := [("math/bits.deBruijn32tab", laid_math_bits_deBruijn32tab), ("math/bits.deBruijn64tab", laid_math_bits_deBruijn64tab), ("internal/strconv.uint64pow10", laid_internal_strconv_uint64pow10), ("strconv.ErrRange", laid_strconv_ErrRange), ("strconv.ErrSyntax", laid_strconv_ErrSyntax), ("unicode.White_Space", laid_unicode_White_Space), ("strings.asciiSpace", laid_strings_asciiSpace)] }
def ResolveLayoutSaid : Prop := resolveLayoutRow.holds Tryz.pinned (OpenSpec.ofChange resolveLayoutSpec)

/-- ITS FALSE NEIGHBOUR: 'it returns false'. Refute it at one input. -/
def resolveLayoutWrong : ChangeSpec := { name := "resolveLayout", fn := fun _ => fun
  | [d1, d2] => { results := [.lit (.bool false)], args := [d1, d2] }
  | _ => none }
def ResolveLayoutWrongFalsely : Prop := resolveLayoutRow.holds Tryz.pinned (OpenSpec.ofChange resolveLayoutWrong)

/- THE SECOND FORM. 'bulk': how many values and letters a reading holds, each counted each time it is reached (what is shared counts as often as it is met; a slice's spare places count too). A statement '..UptoSaid' is the law's where the arguments, and the package variables that the reading takes, are together of bulk at most 1048576: NARROWER than '..Said'. Prove '..Said' where nothing that the law and all that it calls make is longer than what came in: it says more and counts as full. Else prove '..UptoSaid'. A law counts once. -/
mutual
def uptoBulk {H : Type} : DataW H → Nat
  | .lit (.string bytes) => bytes.length + 1
  | .lit _ => 1
  | .nil => 1
  | .ptr d => uptoBulk d + 1
  | .slice elems spare => uptoBulkAll elems + uptoBulkAll spare + 1
  | .agg parts => uptoBulkAll parts + 1
  | .iface _ d => uptoBulk d + 1
  | .map entries => uptoBulkEntries entries + 1
  | .held _ => 1
def uptoBulkAll {H : Type} : List (DataW H) → Nat
  | [] => 0
  | d :: r => uptoBulk d + uptoBulkAll r
def uptoBulkEntries {H : Type} : List (Lit × DataW H) → Nat
  | [] => 0
  | x :: r => uptoBulkEntry x + uptoBulkEntries r
def uptoBulkEntry {H : Type} : Lit × DataW H → Nat
  | (.string bytes, d) => bytes.length + uptoBulk d + 1
  | (_, d) => uptoBulk d + 1
 end
def uptoSmall : (H : Type) → List (DataW H) → Bool := fun _ ds => decide (uptoBulkAll ds ≤ 1048576)
def OpenSpec.upto (s : _root_.Go.ChangeSpec) : _root_.Go.OpenSpec := { _root_.Go.OpenSpec.ofChange s with cond := some uptoSmall }

/-- 'glossatorkeep1.ParserResynchronizes', WHERE WHAT IT READS IS OF BULK AT MOST 1048576: true; the input reads as it did. -/
def parserResynchronizesUptoRow : OpenClaim := { program := "ytiogccmfmjhipaagreatdoor", sum := "15349bb35bcb972377f0ea36d490779732d862a25b1718117a66806a7e5827a2", func := "glossator/glossatorkeep1.ParserResynchronizes", spec := "parserResynchronizes", inPlace := ["internal/bytealg.IndexByteString", "slices.overlaps[glossator/api.SyntaxTree]", "internal/abi.NoEscape"], unfollowed := true, recurses := true, named := ["strings.asciiSpace", "unicode.White_Space", "strconv.ErrSyntax", "strconv.ErrRange", "internal/strconv.uint64pow10", "math/bits.deBruijn32tab", "math/bits.deBruijn64tab"], apart := false, laid := [("math/bits.deBruijn32tab", laid_math_bits_deBruijn32tab), ("math/bits.deBruijn64tab", laid_math_bits_deBruijn64tab), ("internal/strconv.uint64pow10", laid_internal_strconv_uint64pow10), ("strconv.ErrRange", laid_strconv_ErrRange), ("strconv.ErrSyntax", laid_strconv_ErrSyntax), ("unicode.White_Space", laid_unicode_White_Space), ("strings.asciiSpace", laid_strings_asciiSpace)], narrowed := true }
def ParserResynchronizesUptoSaid : Prop := parserResynchronizesUptoRow.holds Tryz.pinned (OpenSpec.upto parserResynchronizesSpec)

/-- 'glossatorkeep1.ParserTrivia', WHERE WHAT IT READS IS OF BULK AT MOST 1048576: true; the input reads as it did. -/
def parserTriviaUptoRow : OpenClaim := { program := "ytiogccmfmjhipaagreatdoor", sum := "15349bb35bcb972377f0ea36d490779732d862a25b1718117a66806a7e5827a2", func := "glossator/glossatorkeep1.ParserTrivia", spec := "parserTrivia", inPlace := ["internal/bytealg.IndexByteString", "slices.overlaps[glossator/api.SyntaxTree]", "internal/abi.NoEscape"], unfollowed := true, recurses := true, named := ["strings.asciiSpace", "unicode.White_Space", "strconv.ErrSyntax", "strconv.ErrRange", "internal/strconv.uint64pow10", "math/bits.deBruijn32tab", "math/bits.deBruijn64tab"], apart := false, laid := [("math/bits.deBruijn32tab", laid_math_bits_deBruijn32tab), ("math/bits.deBruijn64tab", laid_math_bits_deBruijn64tab), ("internal/strconv.uint64pow10", laid_internal_strconv_uint64pow10), ("strconv.ErrRange", laid_strconv_ErrRange), ("strconv.ErrSyntax", laid_strconv_ErrSyntax), ("unicode.White_Space", laid_unicode_White_Space), ("strings.asciiSpace", laid_strings_asciiSpace)], narrowed := true }
def ParserTriviaUptoSaid : Prop := parserTriviaUptoRow.holds Tryz.pinned (OpenSpec.upto parserTriviaSpec)

/-- 'glossatorkeep1.ParserLossless', WHERE WHAT IT READS IS OF BULK AT MOST 1048576: true; the input reads as it did. -/
def parserLosslessUptoRow : OpenClaim := { program := "ytiogccmfmjhipaagreatdoor", sum := "15349bb35bcb972377f0ea36d490779732d862a25b1718117a66806a7e5827a2", func := "glossator/glossatorkeep1.ParserLossless", spec := "parserLossless", inPlace := ["internal/bytealg.IndexByteString", "slices.overlaps[glossator/api.SyntaxTree]", "internal/abi.NoEscape"], unfollowed := true, recurses := true, named := ["strings.asciiSpace", "unicode.White_Space", "strconv.ErrSyntax", "strconv.ErrRange", "internal/strconv.uint64pow10", "math/bits.deBruijn32tab", "math/bits.deBruijn64tab"], apart := false, laid := [("math/bits.deBruijn32tab", laid_math_bits_deBruijn32tab), ("math/bits.deBruijn64tab", laid_math_bits_deBruijn64tab), ("internal/strconv.uint64pow10", laid_internal_strconv_uint64pow10), ("strconv.ErrRange", laid_strconv_ErrRange), ("strconv.ErrSyntax", laid_strconv_ErrSyntax), ("unicode.White_Space", laid_unicode_White_Space), ("strings.asciiSpace", laid_strings_asciiSpace)], narrowed := true }
def ParserLosslessUptoSaid : Prop := parserLosslessUptoRow.holds Tryz.pinned (OpenSpec.upto parserLosslessSpec)

/-- 'glossatorkeep1.SymbolsModules', WHERE WHAT IT READS IS OF BULK AT MOST 1048576: true; the input reads as it did. -/
def symbolsModulesUptoRow : OpenClaim := { program := "ytiogccmfmjhipaagreatdoor", sum := "15349bb35bcb972377f0ea36d490779732d862a25b1718117a66806a7e5827a2", func := "glossator/glossatorkeep1.SymbolsModules", spec := "symbolsModules", inPlace := ["internal/bytealg.IndexByteString", "slices.overlaps[glossator/api.SyntaxTree]", "internal/abi.NoEscape"], unfollowed := true, recurses := true, named := ["strings.asciiSpace", "unicode.White_Space", "strconv.ErrSyntax", "strconv.ErrRange", "internal/strconv.uint64pow10", "math/bits.deBruijn32tab", "math/bits.deBruijn64tab"], apart := false, laid := [("math/bits.deBruijn32tab", laid_math_bits_deBruijn32tab), ("math/bits.deBruijn64tab", laid_math_bits_deBruijn64tab), ("internal/strconv.uint64pow10", laid_internal_strconv_uint64pow10), ("strconv.ErrRange", laid_strconv_ErrRange), ("strconv.ErrSyntax", laid_strconv_ErrSyntax), ("unicode.White_Space", laid_unicode_White_Space), ("strings.asciiSpace", laid_strings_asciiSpace)], narrowed := true }
def SymbolsModulesUptoSaid : Prop := symbolsModulesUptoRow.holds Tryz.pinned (OpenSpec.upto symbolsModulesSpec)

/-- 'glossatorkeep1.SymbolsFind', WHERE WHAT IT READS IS OF BULK AT MOST 1048576: true; the input reads as it did. -/
def symbolsFindUptoRow : OpenClaim := { program := "ytiogccmfmjhipaagreatdoor", sum := "15349bb35bcb972377f0ea36d490779732d862a25b1718117a66806a7e5827a2", func := "glossator/glossatorkeep1.SymbolsFind", spec := "symbolsFind", inPlace := ["internal/bytealg.IndexByteString", "slices.overlaps[glossator/api.SyntaxTree]", "internal/abi.NoEscape"], unfollowed := true, recurses := true, named := ["strings.asciiSpace", "unicode.White_Space", "strconv.ErrSyntax", "strconv.ErrRange", "internal/strconv.uint64pow10", "math/bits.deBruijn32tab", "math/bits.deBruijn64tab"], apart := false, laid := [("math/bits.deBruijn32tab", laid_math_bits_deBruijn32tab), ("math/bits.deBruijn64tab", laid_math_bits_deBruijn64tab), ("internal/strconv.uint64pow10", laid_internal_strconv_uint64pow10), ("strconv.ErrRange", laid_strconv_ErrRange), ("strconv.ErrSyntax", laid_strconv_ErrSyntax), ("unicode.White_Space", laid_unicode_White_Space), ("strings.asciiSpace", laid_strings_asciiSpace)], narrowed := true }
def SymbolsFindUptoSaid : Prop := symbolsFindUptoRow.holds Tryz.pinned (OpenSpec.upto symbolsFindSpec)

/-- 'glossatorkeep1.SymbolsTree', WHERE WHAT IT READS IS OF BULK AT MOST 1048576: true; the input reads as it did. -/
def symbolsTreeUptoRow : OpenClaim := { program := "ytiogccmfmjhipaagreatdoor", sum := "15349bb35bcb972377f0ea36d490779732d862a25b1718117a66806a7e5827a2", func := "glossator/glossatorkeep1.SymbolsTree", spec := "symbolsTree", inPlace := ["internal/bytealg.IndexByteString", "slices.overlaps[glossator/api.SyntaxTree]", "internal/abi.NoEscape"], unfollowed := true, recurses := true, named := ["strings.asciiSpace", "unicode.White_Space", "strconv.ErrSyntax", "strconv.ErrRange", "internal/strconv.uint64pow10", "math/bits.deBruijn32tab", "math/bits.deBruijn64tab"], apart := false, laid := [("math/bits.deBruijn32tab", laid_math_bits_deBruijn32tab), ("math/bits.deBruijn64tab", laid_math_bits_deBruijn64tab), ("internal/strconv.uint64pow10", laid_internal_strconv_uint64pow10), ("strconv.ErrRange", laid_strconv_ErrRange), ("strconv.ErrSyntax", laid_strconv_ErrSyntax), ("unicode.White_Space", laid_unicode_White_Space), ("strings.asciiSpace", laid_strings_asciiSpace)], narrowed := true }
def SymbolsTreeUptoSaid : Prop := symbolsTreeUptoRow.holds Tryz.pinned (OpenSpec.upto symbolsTreeSpec)

/-- 'glossatorkeep1.ExportsOrder', WHERE WHAT IT READS IS OF BULK AT MOST 1048576: true; the input reads as it did. -/
def exportsOrderUptoRow : OpenClaim := { program := "ytiogccmfmjhipaagreatdoor", sum := "15349bb35bcb972377f0ea36d490779732d862a25b1718117a66806a7e5827a2", func := "glossator/glossatorkeep1.ExportsOrder", spec := "exportsOrder", inPlace := ["internal/bytealg.IndexByteString", "slices.overlaps[glossator/api.SyntaxTree]", "internal/abi.NoEscape"], unfollowed := true, recurses := true, named := ["strings.asciiSpace", "unicode.White_Space", "strconv.ErrSyntax", "strconv.ErrRange", "internal/strconv.uint64pow10", "math/bits.deBruijn32tab", "math/bits.deBruijn64tab"], apart := false, laid := [("math/bits.deBruijn32tab", laid_math_bits_deBruijn32tab), ("math/bits.deBruijn64tab", laid_math_bits_deBruijn64tab), ("internal/strconv.uint64pow10", laid_internal_strconv_uint64pow10), ("strconv.ErrRange", laid_strconv_ErrRange), ("strconv.ErrSyntax", laid_strconv_ErrSyntax), ("unicode.White_Space", laid_unicode_White_Space), ("strings.asciiSpace", laid_strings_asciiSpace)], narrowed := true }
def ExportsOrderUptoSaid : Prop := exportsOrderUptoRow.holds Tryz.pinned (OpenSpec.upto exportsOrderSpec)

/-- 'glossatorkeep1.ExportsDeclarations', WHERE WHAT IT READS IS OF BULK AT MOST 1048576: true; the input reads as it did. -/
def exportsDeclarationsUptoRow : OpenClaim := { program := "ytiogccmfmjhipaagreatdoor", sum := "15349bb35bcb972377f0ea36d490779732d862a25b1718117a66806a7e5827a2", func := "glossator/glossatorkeep1.ExportsDeclarations", spec := "exportsDeclarations", inPlace := ["internal/bytealg.IndexByteString", "slices.overlaps[glossator/api.SyntaxTree]", "internal/abi.NoEscape"], unfollowed := true, recurses := true, named := ["strings.asciiSpace", "unicode.White_Space", "strconv.ErrSyntax", "strconv.ErrRange", "internal/strconv.uint64pow10", "math/bits.deBruijn32tab", "math/bits.deBruijn64tab"], apart := false, laid := [("math/bits.deBruijn32tab", laid_math_bits_deBruijn32tab), ("math/bits.deBruijn64tab", laid_math_bits_deBruijn64tab), ("internal/strconv.uint64pow10", laid_internal_strconv_uint64pow10), ("strconv.ErrRange", laid_strconv_ErrRange), ("strconv.ErrSyntax", laid_strconv_ErrSyntax), ("unicode.White_Space", laid_unicode_White_Space), ("strings.asciiSpace", laid_strings_asciiSpace)], narrowed := true }
def ExportsDeclarationsUptoSaid : Prop := exportsDeclarationsUptoRow.holds Tryz.pinned (OpenSpec.upto exportsDeclarationsSpec)

/-- 'glossatorkeep1.ResolveRange', WHERE WHAT IT READS IS OF BULK AT MOST 1048576: true; the input reads as it did. -/
def resolveRangeUptoRow : OpenClaim := { program := "ytiogccmfmjhipaagreatdoor", sum := "15349bb35bcb972377f0ea36d490779732d862a25b1718117a66806a7e5827a2", func := "glossator/glossatorkeep1.ResolveRange", spec := "resolveRange", inPlace := ["internal/bytealg.IndexByteString", "slices.overlaps[glossator/api.SyntaxTree]", "internal/abi.NoEscape"], unfollowed := true, recurses := true, named := ["strings.asciiSpace", "unicode.White_Space", "strconv.ErrSyntax", "strconv.ErrRange", "internal/strconv.uint64pow10", "math/bits.deBruijn32tab", "math/bits.deBruijn64tab"], apart := false, laid := [("math/bits.deBruijn32tab", laid_math_bits_deBruijn32tab), ("math/bits.deBruijn64tab", laid_math_bits_deBruijn64tab), ("internal/strconv.uint64pow10", laid_internal_strconv_uint64pow10), ("strconv.ErrRange", laid_strconv_ErrRange), ("strconv.ErrSyntax", laid_strconv_ErrSyntax), ("unicode.White_Space", laid_unicode_White_Space), ("strings.asciiSpace", laid_strings_asciiSpace)], narrowed := true }
def ResolveRangeUptoSaid : Prop := resolveRangeUptoRow.holds Tryz.pinned (OpenSpec.upto resolveRangeSpec)

/-- 'glossatorkeep1.ResolveExtraModule', WHERE WHAT IT READS IS OF BULK AT MOST 1048576: true; the input reads as it did. -/
def resolveExtraModuleUptoRow : OpenClaim := { program := "ytiogccmfmjhipaagreatdoor", sum := "15349bb35bcb972377f0ea36d490779732d862a25b1718117a66806a7e5827a2", func := "glossator/glossatorkeep1.ResolveExtraModule", spec := "resolveExtraModule", inPlace := ["internal/bytealg.IndexByteString", "slices.overlaps[glossator/api.SyntaxTree]", "internal/abi.NoEscape"], unfollowed := true, recurses := true, named := ["strings.asciiSpace", "unicode.White_Space", "strconv.ErrSyntax", "strconv.ErrRange", "internal/strconv.uint64pow10", "math/bits.deBruijn32tab", "math/bits.deBruijn64tab"], apart := false, laid := [("math/bits.deBruijn32tab", laid_math_bits_deBruijn32tab), ("math/bits.deBruijn64tab", laid_math_bits_deBruijn64tab), ("internal/strconv.uint64pow10", laid_internal_strconv_uint64pow10), ("strconv.ErrRange", laid_strconv_ErrRange), ("strconv.ErrSyntax", laid_strconv_ErrSyntax), ("unicode.White_Space", laid_unicode_White_Space), ("strings.asciiSpace", laid_strings_asciiSpace)], narrowed := true }
def ResolveExtraModuleUptoSaid : Prop := resolveExtraModuleUptoRow.holds Tryz.pinned (OpenSpec.upto resolveExtraModuleSpec)

/-- 'glossatorkeep1.ResolveInnermost', WHERE WHAT IT READS IS OF BULK AT MOST 1048576: true; the input reads as it did. -/
def resolveInnermostUptoRow : OpenClaim := { program := "ytiogccmfmjhipaagreatdoor", sum := "15349bb35bcb972377f0ea36d490779732d862a25b1718117a66806a7e5827a2", func := "glossator/glossatorkeep1.ResolveInnermost", spec := "resolveInnermost", inPlace := ["internal/bytealg.IndexByteString", "slices.overlaps[glossator/api.SyntaxTree]", "internal/abi.NoEscape"], unfollowed := true, recurses := true, named := ["strings.asciiSpace", "unicode.White_Space", "strconv.ErrSyntax", "strconv.ErrRange", "internal/strconv.uint64pow10", "math/bits.deBruijn32tab", "math/bits.deBruijn64tab"], apart := false, laid := [("math/bits.deBruijn32tab", laid_math_bits_deBruijn32tab), ("math/bits.deBruijn64tab", laid_math_bits_deBruijn64tab), ("internal/strconv.uint64pow10", laid_internal_strconv_uint64pow10), ("strconv.ErrRange", laid_strconv_ErrRange), ("strconv.ErrSyntax", laid_strconv_ErrSyntax), ("unicode.White_Space", laid_unicode_White_Space), ("strings.asciiSpace", laid_strings_asciiSpace)], narrowed := true }
def ResolveInnermostUptoSaid : Prop := resolveInnermostUptoRow.holds Tryz.pinned (OpenSpec.upto resolveInnermostSpec)

/-- 'glossatorkeep1.ResolveLayout', WHERE WHAT IT READS IS OF BULK AT MOST 1048576: true; the input reads as it did. -/
def resolveLayoutUptoRow : OpenClaim := { program := "ytiogccmfmjhipaagreatdoor", sum := "15349bb35bcb972377f0ea36d490779732d862a25b1718117a66806a7e5827a2", func := "glossator/glossatorkeep1.ResolveLayout", spec := "resolveLayout", inPlace := ["internal/bytealg.IndexByteString", "slices.overlaps[glossator/api.SyntaxTree]", "internal/abi.NoEscape"], unfollowed := true, recurses := true, named := ["strings.asciiSpace", "unicode.White_Space", "strconv.ErrSyntax", "strconv.ErrRange", "internal/strconv.uint64pow10", "math/bits.deBruijn32tab", "math/bits.deBruijn64tab"], apart := false, laid := [("math/bits.deBruijn32tab", laid_math_bits_deBruijn32tab), ("math/bits.deBruijn64tab", laid_math_bits_deBruijn64tab), ("internal/strconv.uint64pow10", laid_internal_strconv_uint64pow10), ("strconv.ErrRange", laid_strconv_ErrRange), ("strconv.ErrSyntax", laid_strconv_ErrSyntax), ("unicode.White_Space", laid_unicode_White_Space), ("strings.asciiSpace", laid_strings_asciiSpace)], narrowed := true }
def ResolveLayoutUptoSaid : Prop := resolveLayoutUptoRow.holds Tryz.pinned (OpenSpec.upto resolveLayoutSpec)

end Rows
end Go.Proofs.YtiogccmfmjhipaaGreatDoor
