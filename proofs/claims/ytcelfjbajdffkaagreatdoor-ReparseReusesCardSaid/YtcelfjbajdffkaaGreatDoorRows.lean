/-
  NARROWER THAN 'FOR EVERY INPUT', by the rows' own cells (each row's printed sentence says how): GreentreeRoundTrip: laid · GreentreeIdentity: laid · GreentreeShares: laid · ReparseEqualsParse: laid · ReparseReuses: laid · ReparseErrors: laid.
  DERIVED. THE GIVEN ROWS OF THIS SEAT. 6 by the template 'for every input the law returns true; each argument reads behind the call as it read before'; 0 by the template 'total and deterministic' (their statements: YtcelfjbajdffkaaGreatDoorTotals.lean).
  GIVEN WITH THE SEED: the statements are not yours to turn. If you find one false, say at which input.
  Laid BY PROGRAM, IN A SANDBOX (cutbox-rows.mjs): the forced cells as the released guide's own fill.sh prints them over the translation b6c159563333a9b6… (all of the seat's roots in one cut). By AI agents, Wed Nov 11 2026. No macro, syntax, notation, axiom, sorry.
-/
import Derived.Test.YtcelfjbajdffkaaGreatDoorChecked
import GoSem.Claim
import GoSem.ClaimJoined
import GoSem.ClaimMapViews
import Derived.JoinedTies
import Derived.KernelRfl
namespace Go.Proofs.YtcelfjbajdffkaaGreatDoor
/- THE CELL 'sum', in the pinned program and in every row, IS THE sha256 OF THE DUMP (.gsa) THAT YtcelfjbajdffkaaGreatDoorProg.lean LOADS. Nothing in Lean hashes anything: it is a label: what it is worth is what the hold of that sum in a sandbox is worth. -/
noncomputable def Tryz.pinned : Pinned := { name := "ytcelfjbajdffkaagreatdoor", sum := "b6c159563333a9b68c8e534e115e3488d8f96adc9ea84f78548126d0a2004315", checked := Tryz.checked }
namespace Rows
def none {H : Type} : Left H := { results := [], args := [] }

/- WHAT THE LISTED PACKAGE-LEVEL VARIABLES READ AS WHEN THE CALL BEGINS. Each datum BY PROGRAM (the guide's laid-datum.mjs) off the statement by which the dump's own 'gosem.cut.vars' lays the variable. In a bare row this is a premise. The card (YtcelfjbajdffkaaGreatDoorCards.lean) ties it to the program's text. -/
def laid_unicode_White_Space {H : Type} : DataW H := .ptr (.agg [.slice [.agg [.lit (.int .u16 9), .lit (.int .u16 13), .lit (.int .u16 1)], .agg [.lit (.int .u16 32), .lit (.int .u16 133), .lit (.int .u16 101)], .agg [.lit (.int .u16 160), .lit (.int .u16 5760), .lit (.int .u16 5600)], .agg [.lit (.int .u16 8192), .lit (.int .u16 8202), .lit (.int .u16 1)], .agg [.lit (.int .u16 8232), .lit (.int .u16 8233), .lit (.int .u16 1)], .agg [.lit (.int .u16 8239), .lit (.int .u16 8287), .lit (.int .u16 48)], .agg [.lit (.int .u16 12288), .lit (.int .u16 12288), .lit (.int .u16 1)]] [], .nil, .lit (.int .i64 2)])
def laid_strings_asciiSpace {H : Type} : DataW H := .agg [.lit (.int .u8 0), .lit (.int .u8 0), .lit (.int .u8 0), .lit (.int .u8 0), .lit (.int .u8 0), .lit (.int .u8 0), .lit (.int .u8 0), .lit (.int .u8 0), .lit (.int .u8 0), .lit (.int .u8 1), .lit (.int .u8 1), .lit (.int .u8 1), .lit (.int .u8 1), .lit (.int .u8 1), .lit (.int .u8 0), .lit (.int .u8 0), .lit (.int .u8 0), .lit (.int .u8 0), .lit (.int .u8 0), .lit (.int .u8 0), .lit (.int .u8 0), .lit (.int .u8 0), .lit (.int .u8 0), .lit (.int .u8 0), .lit (.int .u8 0), .lit (.int .u8 0), .lit (.int .u8 0), .lit (.int .u8 0), .lit (.int .u8 0), .lit (.int .u8 0), .lit (.int .u8 0), .lit (.int .u8 0), .lit (.int .u8 1), .lit (.int .u8 0), .lit (.int .u8 0), .lit (.int .u8 0), .lit (.int .u8 0), .lit (.int .u8 0), .lit (.int .u8 0), .lit (.int .u8 0), .lit (.int .u8 0), .lit (.int .u8 0), .lit (.int .u8 0), .lit (.int .u8 0), .lit (.int .u8 0), .lit (.int .u8 0), .lit (.int .u8 0), .lit (.int .u8 0), .lit (.int .u8 0), .lit (.int .u8 0), .lit (.int .u8 0), .lit (.int .u8 0), .lit (.int .u8 0), .lit (.int .u8 0), .lit (.int .u8 0), .lit (.int .u8 0), .lit (.int .u8 0), .lit (.int .u8 0), .lit (.int .u8 0), .lit (.int .u8 0), .lit (.int .u8 0), .lit (.int .u8 0), .lit (.int .u8 0), .lit (.int .u8 0), .lit (.int .u8 0), .lit (.int .u8 0), .lit (.int .u8 0), .lit (.int .u8 0), .lit (.int .u8 0), .lit (.int .u8 0), .lit (.int .u8 0), .lit (.int .u8 0), .lit (.int .u8 0), .lit (.int .u8 0), .lit (.int .u8 0), .lit (.int .u8 0), .lit (.int .u8 0), .lit (.int .u8 0), .lit (.int .u8 0), .lit (.int .u8 0), .lit (.int .u8 0), .lit (.int .u8 0), .lit (.int .u8 0), .lit (.int .u8 0), .lit (.int .u8 0), .lit (.int .u8 0), .lit (.int .u8 0), .lit (.int .u8 0), .lit (.int .u8 0), .lit (.int .u8 0), .lit (.int .u8 0), .lit (.int .u8 0), .lit (.int .u8 0), .lit (.int .u8 0), .lit (.int .u8 0), .lit (.int .u8 0), .lit (.int .u8 0), .lit (.int .u8 0), .lit (.int .u8 0), .lit (.int .u8 0), .lit (.int .u8 0), .lit (.int .u8 0), .lit (.int .u8 0), .lit (.int .u8 0), .lit (.int .u8 0), .lit (.int .u8 0), .lit (.int .u8 0), .lit (.int .u8 0), .lit (.int .u8 0), .lit (.int .u8 0), .lit (.int .u8 0), .lit (.int .u8 0), .lit (.int .u8 0), .lit (.int .u8 0), .lit (.int .u8 0), .lit (.int .u8 0), .lit (.int .u8 0), .lit (.int .u8 0), .lit (.int .u8 0), .lit (.int .u8 0), .lit (.int .u8 0), .lit (.int .u8 0), .lit (.int .u8 0), .lit (.int .u8 0), .lit (.int .u8 0), .lit (.int .u8 0), .lit (.int .u8 0), .lit (.int .u8 0), .lit (.int .u8 0), .lit (.int .u8 0), .lit (.int .u8 0), .lit (.int .u8 0), .lit (.int .u8 0), .lit (.int .u8 0), .lit (.int .u8 0), .lit (.int .u8 0), .lit (.int .u8 0), .lit (.int .u8 0), .lit (.int .u8 0), .lit (.int .u8 0), .lit (.int .u8 0), .lit (.int .u8 0), .lit (.int .u8 0), .lit (.int .u8 0), .lit (.int .u8 0), .lit (.int .u8 0), .lit (.int .u8 0), .lit (.int .u8 0), .lit (.int .u8 0), .lit (.int .u8 0), .lit (.int .u8 0), .lit (.int .u8 0), .lit (.int .u8 0), .lit (.int .u8 0), .lit (.int .u8 0), .lit (.int .u8 0), .lit (.int .u8 0), .lit (.int .u8 0), .lit (.int .u8 0), .lit (.int .u8 0), .lit (.int .u8 0), .lit (.int .u8 0), .lit (.int .u8 0), .lit (.int .u8 0), .lit (.int .u8 0), .lit (.int .u8 0), .lit (.int .u8 0), .lit (.int .u8 0), .lit (.int .u8 0), .lit (.int .u8 0), .lit (.int .u8 0), .lit (.int .u8 0), .lit (.int .u8 0), .lit (.int .u8 0), .lit (.int .u8 0), .lit (.int .u8 0), .lit (.int .u8 0), .lit (.int .u8 0), .lit (.int .u8 0), .lit (.int .u8 0), .lit (.int .u8 0), .lit (.int .u8 0), .lit (.int .u8 0), .lit (.int .u8 0), .lit (.int .u8 0), .lit (.int .u8 0), .lit (.int .u8 0), .lit (.int .u8 0), .lit (.int .u8 0), .lit (.int .u8 0), .lit (.int .u8 0), .lit (.int .u8 0), .lit (.int .u8 0), .lit (.int .u8 0), .lit (.int .u8 0), .lit (.int .u8 0), .lit (.int .u8 0), .lit (.int .u8 0), .lit (.int .u8 0), .lit (.int .u8 0), .lit (.int .u8 0), .lit (.int .u8 0), .lit (.int .u8 0), .lit (.int .u8 0), .lit (.int .u8 0), .lit (.int .u8 0), .lit (.int .u8 0), .lit (.int .u8 0), .lit (.int .u8 0), .lit (.int .u8 0), .lit (.int .u8 0), .lit (.int .u8 0), .lit (.int .u8 0), .lit (.int .u8 0), .lit (.int .u8 0), .lit (.int .u8 0), .lit (.int .u8 0), .lit (.int .u8 0), .lit (.int .u8 0), .lit (.int .u8 0), .lit (.int .u8 0), .lit (.int .u8 0), .lit (.int .u8 0), .lit (.int .u8 0), .lit (.int .u8 0), .lit (.int .u8 0), .lit (.int .u8 0), .lit (.int .u8 0), .lit (.int .u8 0), .lit (.int .u8 0), .lit (.int .u8 0), .lit (.int .u8 0), .lit (.int .u8 0), .lit (.int .u8 0), .lit (.int .u8 0), .lit (.int .u8 0), .lit (.int .u8 0), .lit (.int .u8 0), .lit (.int .u8 0), .lit (.int .u8 0), .lit (.int .u8 0), .lit (.int .u8 0), .lit (.int .u8 0), .lit (.int .u8 0), .lit (.int .u8 0), .lit (.int .u8 0), .lit (.int .u8 0), .lit (.int .u8 0), .lit (.int .u8 0), .lit (.int .u8 0), .lit (.int .u8 0), .lit (.int .u8 0), .lit (.int .u8 0), .lit (.int .u8 0), .lit (.int .u8 0), .lit (.int .u8 0)]

/-- 'glossatorkeep1.GreentreeRoundTrip': WHATEVER THE INPUT: true; the input reads as it did. -/
def greentreeRoundTripSpec : ChangeSpec := { name := "greentreeRoundTrip", fn := fun _ => fun
  | [d] => { results := [.lit (.bool true)], args := [d] }
  | _ => none }
def greentreeRoundTripRow : OpenClaim := { program := "ytcelfjbajdffkaagreatdoor", sum := "b6c159563333a9b68c8e534e115e3488d8f96adc9ea84f78548126d0a2004315", func := "glossator/glossatorkeep1.GreentreeRoundTrip", spec := "greentreeRoundTrip", inPlace := ["internal/bytealg.IndexByteString", "slices.overlaps[glossator/api.SyntaxTree]"], unfollowed := true, recurses := true, named := ["strings.asciiSpace", "unicode.White_Space"], apart := false, laid := [("unicode.White_Space", laid_unicode_White_Space), ("strings.asciiSpace", laid_strings_asciiSpace)] }
def GreentreeRoundTripSaid : Prop := greentreeRoundTripRow.holds Tryz.pinned (OpenSpec.ofChange greentreeRoundTripSpec)

/-- ITS FALSE NEIGHBOUR: 'it returns false'. Refute it at one input. -/
def greentreeRoundTripWrong : ChangeSpec := { name := "greentreeRoundTrip", fn := fun _ => fun
  | [d] => { results := [.lit (.bool false)], args := [d] }
  | _ => none }
def GreentreeRoundTripWrongFalsely : Prop := greentreeRoundTripRow.holds Tryz.pinned (OpenSpec.ofChange greentreeRoundTripWrong)

/-- 'glossatorkeep1.GreentreeIdentity': WHATEVER THE INPUT: true; the input reads as it did. -/
def greentreeIdentitySpec : ChangeSpec := { name := "greentreeIdentity", fn := fun _ => fun
  | [d1, d2] => { results := [.lit (.bool true)], args := [d1, d2] }
  | _ => none }
def greentreeIdentityRow : OpenClaim := { program := "ytcelfjbajdffkaagreatdoor", sum := "b6c159563333a9b68c8e534e115e3488d8f96adc9ea84f78548126d0a2004315", func := "glossator/glossatorkeep1.GreentreeIdentity", spec := "greentreeIdentity", inPlace := ["internal/bytealg.IndexByteString", "slices.overlaps[glossator/api.SyntaxTree]"], unfollowed := true, recurses := true, named := ["strings.asciiSpace", "unicode.White_Space"], apart := false, laid := [("unicode.White_Space", laid_unicode_White_Space), ("strings.asciiSpace", laid_strings_asciiSpace)] }
def GreentreeIdentitySaid : Prop := greentreeIdentityRow.holds Tryz.pinned (OpenSpec.ofChange greentreeIdentitySpec)

/-- ITS FALSE NEIGHBOUR: 'it returns false'. Refute it at one input. -/
def greentreeIdentityWrong : ChangeSpec := { name := "greentreeIdentity", fn := fun _ => fun
  | [d1, d2] => { results := [.lit (.bool false)], args := [d1, d2] }
  | _ => none }
def GreentreeIdentityWrongFalsely : Prop := greentreeIdentityRow.holds Tryz.pinned (OpenSpec.ofChange greentreeIdentityWrong)

/-- 'glossatorkeep1.GreentreeShares': WHATEVER THE INPUT: true; the input reads as it did. -/
def greentreeSharesSpec : ChangeSpec := { name := "greentreeShares", fn := fun _ => fun
  | [d1, d2] => { results := [.lit (.bool true)], args := [d1, d2] }
  | _ => none }
def greentreeSharesRow : OpenClaim := { program := "ytcelfjbajdffkaagreatdoor", sum := "b6c159563333a9b68c8e534e115e3488d8f96adc9ea84f78548126d0a2004315", func := "glossator/glossatorkeep1.GreentreeShares", spec := "greentreeShares", inPlace := ["internal/bytealg.IndexByteString", "slices.overlaps[glossator/api.SyntaxTree]"], unfollowed := true, recurses := true, named := ["strings.asciiSpace", "unicode.White_Space"], apart := false, laid := [("unicode.White_Space", laid_unicode_White_Space), ("strings.asciiSpace", laid_strings_asciiSpace)] }
def GreentreeSharesSaid : Prop := greentreeSharesRow.holds Tryz.pinned (OpenSpec.ofChange greentreeSharesSpec)

/-- ITS FALSE NEIGHBOUR: 'it returns false'. Refute it at one input. -/
def greentreeSharesWrong : ChangeSpec := { name := "greentreeShares", fn := fun _ => fun
  | [d1, d2] => { results := [.lit (.bool false)], args := [d1, d2] }
  | _ => none }
def GreentreeSharesWrongFalsely : Prop := greentreeSharesRow.holds Tryz.pinned (OpenSpec.ofChange greentreeSharesWrong)

/-- 'glossatorkeep1.ReparseEqualsParse': WHATEVER THE INPUT: true; the input reads as it did. -/
def reparseEqualsParseSpec : ChangeSpec := { name := "reparseEqualsParse", fn := fun _ => fun
  | [d1, d2] => { results := [.lit (.bool true)], args := [d1, d2] }
  | _ => none }
def reparseEqualsParseRow : OpenClaim := { program := "ytcelfjbajdffkaagreatdoor", sum := "b6c159563333a9b68c8e534e115e3488d8f96adc9ea84f78548126d0a2004315", func := "glossator/glossatorkeep1.ReparseEqualsParse", spec := "reparseEqualsParse", inPlace := ["internal/bytealg.IndexByteString", "slices.overlaps[glossator/api.SyntaxTree]", "internal/abi.NoEscape"], unfollowed := true, recurses := true, named := ["strings.asciiSpace", "unicode.White_Space"], apart := false, laid := [("unicode.White_Space", laid_unicode_White_Space), ("strings.asciiSpace", laid_strings_asciiSpace)] }
def ReparseEqualsParseSaid : Prop := reparseEqualsParseRow.holds Tryz.pinned (OpenSpec.ofChange reparseEqualsParseSpec)

/-- ITS FALSE NEIGHBOUR: 'it returns false'. Refute it at one input. -/
def reparseEqualsParseWrong : ChangeSpec := { name := "reparseEqualsParse", fn := fun _ => fun
  | [d1, d2] => { results := [.lit (.bool false)], args := [d1, d2] }
  | _ => none }
def ReparseEqualsParseWrongFalsely : Prop := reparseEqualsParseRow.holds Tryz.pinned (OpenSpec.ofChange reparseEqualsParseWrong)

/-- 'glossatorkeep1.ReparseReuses': WHATEVER THE INPUT: true; the input reads as it did. -/
def reparseReusesSpec : ChangeSpec := { name := "reparseReuses", fn := fun _ => fun
  | [d1, d2] => { results := [.lit (.bool true)], args := [d1, d2] }
  | _ => none }
def reparseReusesRow : OpenClaim := { program := "ytcelfjbajdffkaagreatdoor", sum := "b6c159563333a9b68c8e534e115e3488d8f96adc9ea84f78548126d0a2004315", func := "glossator/glossatorkeep1.ReparseReuses", spec := "reparseReuses", inPlace := ["internal/bytealg.IndexByteString", "slices.overlaps[glossator/api.SyntaxTree]", "internal/abi.NoEscape"], unfollowed := true, recurses := true, named := ["strings.asciiSpace", "unicode.White_Space"], apart := false, laid := [("unicode.White_Space", laid_unicode_White_Space), ("strings.asciiSpace", laid_strings_asciiSpace)] }
def ReparseReusesSaid : Prop := reparseReusesRow.holds Tryz.pinned (OpenSpec.ofChange reparseReusesSpec)

/-- ITS FALSE NEIGHBOUR: 'it returns false'. Refute it at one input. -/
def reparseReusesWrong : ChangeSpec := { name := "reparseReuses", fn := fun _ => fun
  | [d1, d2] => { results := [.lit (.bool false)], args := [d1, d2] }
  | _ => none }
def ReparseReusesWrongFalsely : Prop := reparseReusesRow.holds Tryz.pinned (OpenSpec.ofChange reparseReusesWrong)

/-- 'glossatorkeep1.ReparseErrors': WHATEVER THE INPUT: true; the input reads as it did. -/
def reparseErrorsSpec : ChangeSpec := { name := "reparseErrors", fn := fun _ => fun
  | [d1, d2, d3] => { results := [.lit (.bool true)], args := [d1, d2, d3] }
  | _ => none }
def reparseErrorsRow : OpenClaim := { program := "ytcelfjbajdffkaagreatdoor", sum := "b6c159563333a9b68c8e534e115e3488d8f96adc9ea84f78548126d0a2004315", func := "glossator/glossatorkeep1.ReparseErrors", spec := "reparseErrors", inPlace := ["internal/bytealg.IndexByteString", "slices.overlaps[glossator/api.SyntaxTree]", "internal/abi.NoEscape"], unfollowed := true, recurses := true, named := ["strings.asciiSpace", "unicode.White_Space"], apart := false, laid := [("unicode.White_Space", laid_unicode_White_Space), ("strings.asciiSpace", laid_strings_asciiSpace)] }
def ReparseErrorsSaid : Prop := reparseErrorsRow.holds Tryz.pinned (OpenSpec.ofChange reparseErrorsSpec)

/-- ITS FALSE NEIGHBOUR: 'it returns false'. Refute it at one input. -/
def reparseErrorsWrong : ChangeSpec := { name := "reparseErrors", fn := fun _ => fun
  | [d1, d2, d3] => { results := [.lit (.bool false)], args := [d1, d2, d3] }
  | _ => none }
def ReparseErrorsWrongFalsely : Prop := reparseErrorsRow.holds Tryz.pinned (OpenSpec.ofChange reparseErrorsWrong)

/- THE SECOND FORM. 'bulk': how many values and letters a reading holds, each counted each time it is reached (what is shared counts as often as it is met; a slice's spare places count too). A statement '..UptoSaid' is the law's where the arguments, and the package variables that the reading takes, are together of bulk at most 1048576: NARROWER than '..Said'. Prove '..Said' where nothing that the law and all that it calls make is longer than what came in: it says more and counts as full. Else prove '..UptoSaid'. A law counts once. -/
mutual
def uptoBulk {H : Type} : DataW H → Nat
  | .lit (.string bytes) => bytes.length + 1
  | .lit _ => 1
  | .nil => 1
  | .ptr d => uptoBulk d + 1
  | .slice elems spare => uptoBulkAll elems + uptoBulkAll spare + 1
  | .agg parts => uptoBulkAll parts + 1
  | .iface _ d => uptoBulk d + 1
  | .map entries => uptoBulkEntries entries + 1
  | .held _ => 1
def uptoBulkAll {H : Type} : List (DataW H) → Nat
  | [] => 0
  | d :: r => uptoBulk d + uptoBulkAll r
def uptoBulkEntries {H : Type} : List (Lit × DataW H) → Nat
  | [] => 0
  | x :: r => uptoBulkEntry x + uptoBulkEntries r
def uptoBulkEntry {H : Type} : Lit × DataW H → Nat
  | (.string bytes, d) => bytes.length + uptoBulk d + 1
  | (_, d) => uptoBulk d + 1
 end
def uptoSmall : (H : Type) → List (DataW H) → Bool := fun _ ds => decide (uptoBulkAll ds ≤ 1048576)
def OpenSpec.upto (s : _root_.Go.ChangeSpec) : _root_.Go.OpenSpec := { _root_.Go.OpenSpec.ofChange s with cond := some uptoSmall }

/-- 'glossatorkeep1.GreentreeRoundTrip', WHERE WHAT IT READS IS OF BULK AT MOST 1048576: true; the input reads as it did. -/
def greentreeRoundTripUptoRow : OpenClaim := { program := "ytcelfjbajdffkaagreatdoor", sum := "b6c159563333a9b68c8e534e115e3488d8f96adc9ea84f78548126d0a2004315", func := "glossator/glossatorkeep1.GreentreeRoundTrip", spec := "greentreeRoundTrip", inPlace := ["internal/bytealg.IndexByteString", "slices.overlaps[glossator/api.SyntaxTree]"], unfollowed := true, recurses := true, named := ["strings.asciiSpace", "unicode.White_Space"], apart := false, laid := [("unicode.White_Space", laid_unicode_White_Space), ("strings.asciiSpace", laid_strings_asciiSpace)], narrowed := true }
def GreentreeRoundTripUptoSaid : Prop := greentreeRoundTripUptoRow.holds Tryz.pinned (OpenSpec.upto greentreeRoundTripSpec)

/-- 'glossatorkeep1.GreentreeIdentity', WHERE WHAT IT READS IS OF BULK AT MOST 1048576: true; the input reads as it did. -/
def greentreeIdentityUptoRow : OpenClaim := { program := "ytcelfjbajdffkaagreatdoor", sum := "b6c159563333a9b68c8e534e115e3488d8f96adc9ea84f78548126d0a2004315", func := "glossator/glossatorkeep1.GreentreeIdentity", spec := "greentreeIdentity", inPlace := ["internal/bytealg.IndexByteString", "slices.overlaps[glossator/api.SyntaxTree]"], unfollowed := true, recurses := true, named := ["strings.asciiSpace", "unicode.White_Space"], apart := false, laid := [("unicode.White_Space", laid_unicode_White_Space), ("strings.asciiSpace", laid_strings_asciiSpace)], narrowed := true }
def GreentreeIdentityUptoSaid : Prop := greentreeIdentityUptoRow.holds Tryz.pinned (OpenSpec.upto greentreeIdentitySpec)

/-- 'glossatorkeep1.GreentreeShares', WHERE WHAT IT READS IS OF BULK AT MOST 1048576: true; the input reads as it did. -/
def greentreeSharesUptoRow : OpenClaim := { program := "ytcelfjbajdffkaagreatdoor", sum := "b6c159563333a9b68c8e534e115e3488d8f96adc9ea84f78548126d0a2004315", func := "glossator/glossatorkeep1.GreentreeShares", spec := "greentreeShares", inPlace := ["internal/bytealg.IndexByteString", "slices.overlaps[glossator/api.SyntaxTree]"], unfollowed := true, recurses := true, named := ["strings.asciiSpace", "unicode.White_Space"], apart := false, laid := [("unicode.White_Space", laid_unicode_White_Space), ("strings.asciiSpace", laid_strings_asciiSpace)], narrowed := true }
def GreentreeSharesUptoSaid : Prop := greentreeSharesUptoRow.holds Tryz.pinned (OpenSpec.upto greentreeSharesSpec)

/-- 'glossatorkeep1.ReparseEqualsParse', WHERE WHAT IT READS IS OF BULK AT MOST 1048576: true; the input reads as it did. -/
def reparseEqualsParseUptoRow : OpenClaim := { program := "ytcelfjbajdffkaagreatdoor", sum := "b6c159563333a9b68c8e534e115e3488d8f96adc9ea84f78548126d0a2004315", func := "glossator/glossatorkeep1.ReparseEqualsParse", spec := "reparseEqualsParse", inPlace := ["internal/bytealg.IndexByteString", "slices.overlaps[glossator/api.SyntaxTree]", "internal/abi.NoEscape"], unfollowed := true, recurses := true, named := ["strings.asciiSpace", "unicode.White_Space"], apart := false, laid := [("unicode.White_Space", laid_unicode_White_Space), ("strings.asciiSpace", laid_strings_asciiSpace)], narrowed := true }
def ReparseEqualsParseUptoSaid : Prop := reparseEqualsParseUptoRow.holds Tryz.pinned (OpenSpec.upto reparseEqualsParseSpec)

/-- 'glossatorkeep1.ReparseReuses', WHERE WHAT IT READS IS OF BULK AT MOST 1048576: true; the input reads as it did. -/
def reparseReusesUptoRow : OpenClaim := { program := "ytcelfjbajdffkaagreatdoor", sum := "b6c159563333a9b68c8e534e115e3488d8f96adc9ea84f78548126d0a2004315", func := "glossator/glossatorkeep1.ReparseReuses", spec := "reparseReuses", inPlace := ["internal/bytealg.IndexByteString", "slices.overlaps[glossator/api.SyntaxTree]", "internal/abi.NoEscape"], unfollowed := true, recurses := true, named := ["strings.asciiSpace", "unicode.White_Space"], apart := false, laid := [("unicode.White_Space", laid_unicode_White_Space), ("strings.asciiSpace", laid_strings_asciiSpace)], narrowed := true }
def ReparseReusesUptoSaid : Prop := reparseReusesUptoRow.holds Tryz.pinned (OpenSpec.upto reparseReusesSpec)

/-- 'glossatorkeep1.ReparseErrors', WHERE WHAT IT READS IS OF BULK AT MOST 1048576: true; the input reads as it did. -/
def reparseErrorsUptoRow : OpenClaim := { program := "ytcelfjbajdffkaagreatdoor", sum := "b6c159563333a9b68c8e534e115e3488d8f96adc9ea84f78548126d0a2004315", func := "glossator/glossatorkeep1.ReparseErrors", spec := "reparseErrors", inPlace := ["internal/bytealg.IndexByteString", "slices.overlaps[glossator/api.SyntaxTree]", "internal/abi.NoEscape"], unfollowed := true, recurses := true, named := ["strings.asciiSpace", "unicode.White_Space"], apart := false, laid := [("unicode.White_Space", laid_unicode_White_Space), ("strings.asciiSpace", laid_strings_asciiSpace)], narrowed := true }
def ReparseErrorsUptoSaid : Prop := reparseErrorsUptoRow.holds Tryz.pinned (OpenSpec.upto reparseErrorsSpec)

end Rows
end Go.Proofs.YtcelfjbajdffkaaGreatDoor
