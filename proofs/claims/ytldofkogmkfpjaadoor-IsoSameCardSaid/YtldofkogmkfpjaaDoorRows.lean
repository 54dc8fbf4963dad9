/-
  NARROWER THAN 'FOR EVERY INPUT', by the rows' own cells (each row's printed sentence says how): CalWeekdays: laid · CalYears: laid · CalFromYears: laid · CalWeeks: laid · CalFromWeeks: laid · DecPrints: laid · DecParses: laid · DecLong: laid · LexScans: laid · LexLines: laid · LexJoins: laid · LexData: laid · LexNotes: laid · IsoSame: laid.
  DERIVED. THE GIVEN ROWS OF THIS SEAT. 14 by the template 'for every input the law returns true; each argument reads behind the call as it read before'; 0 by the template 'total and deterministic' (their statements: YtldofkogmkfpjaaDoorTotals.lean).
  GIVEN WITH THE SEED: the statements are not yours to turn. If you find one false, say at which input.
  Laid BY PROGRAM, IN A SANDBOX (cutbox-rows.mjs): the forced cells as the released guide's own fill.sh prints them over the translation 9d7093d561e0323e… (all of the seat's roots in one cut). By AI agents, Wed Nov 11 2026. No macro, syntax, notation, axiom, sorry.
-/
import Derived.Test.YtldofkogmkfpjaaDoorChecked
import GoSem.PinnedTables
import GoSem.Claim
import GoSem.ClaimJoined
import GoSem.ClaimMapViews
import Derived.JoinedTies
import Derived.KernelRfl
namespace Go.Proofs.YtldofkogmkfpjaaDoor
/- THE CELL 'sum', in the pinned program and in every row, IS THE sha256 OF THE DUMP (.gsa) THAT YtldofkogmkfpjaaDoorProg.lean LOADS. Nothing in Lean hashes anything: it is a label: what it is worth is what the hold of that sum in a sandbox is worth. -/
noncomputable def Tryd.pinned : Pinned := { name := "ytldofkogmkfpjaadoor", sum := "9d7093d561e0323eacd11ea409f311229b103e77e1a7f6256c7e5c9bc9efdfbc", checked := Tryd.checked }
namespace Rows
def none {H : Type} : Left H := { results := [], args := [] }

/- WHAT THE LISTED PACKAGE-LEVEL VARIABLES READ AS WHEN THE CALL BEGINS. Each datum BY PROGRAM (the guide's laid-datum.mjs) off the statement by which the dump's own 'gosem.cut.vars' lays the variable. In a bare row this is a premise. The card (YtldofkogmkfpjaaDoorCards.lean) ties it to the program's text. -/
def laid_epact_greg_lengths {H : Type} : DataW H := .agg [.lit (.int .i64 31), .lit (.int .i64 28), .lit (.int .i64 31), .lit (.int .i64 30), .lit (.int .i64 31), .lit (.int .i64 30), .lit (.int .i64 31), .lit (.int .i64 31), .lit (.int .i64 30), .lit (.int .i64 31), .lit (.int .i64 30), .lit (.int .i64 31)]
def laid_math_bits_deBruijn32tab {H : Type} : DataW H := .agg [.lit (.int .u8 0), .lit (.int .u8 1), .lit (.int .u8 28), .lit (.int .u8 2), .lit (.int .u8 29), .lit (.int .u8 14), .lit (.int .u8 24), .lit (.int .u8 3), .lit (.int .u8 30), .lit (.int .u8 22), .lit (.int .u8 20), .lit (.int .u8 15), .lit (.int .u8 25), .lit (.int .u8 17), .lit (.int .u8 4), .lit (.int .u8 8), .lit (.int .u8 31), .lit (.int .u8 27), .lit (.int .u8 13), .lit (.int .u8 23), .lit (.int .u8 21), .lit (.int .u8 19), .lit (.int .u8 16), .lit (.int .u8 7), .lit (.int .u8 26), .lit (.int .u8 12), .lit (.int .u8 18), .lit (.int .u8 6), .lit (.int .u8 11), .lit (.int .u8 5), .lit (.int .u8 10), .lit (.int .u8 9)]
def laid_math_bits_deBruijn64tab {H : Type} : DataW H := .agg [.lit (.int .u8 0), .lit (.int .u8 1), .lit (.int .u8 56), .lit (.int .u8 2), .lit (.int .u8 57), .lit (.int .u8 49), .lit (.int .u8 28), .lit (.int .u8 3), .lit (.int .u8 61), .lit (.int .u8 58), .lit (.int .u8 42), .lit (.int .u8 50), .lit (.int .u8 38), .lit (.int .u8 29), .lit (.int .u8 17), .lit (.int .u8 4), .lit (.int .u8 62), .lit (.int .u8 47), .lit (.int .u8 59), .lit (.int .u8 36), .lit (.int .u8 45), .lit (.int .u8 43), .lit (.int .u8 51), .lit (.int .u8 22), .lit (.int .u8 53), .lit (.int .u8 39), .lit (.int .u8 33), .lit (.int .u8 30), .lit (.int .u8 24), .lit (.int .u8 18), .lit (.int .u8 12), .lit (.int .u8 5), .lit (.int .u8 63), .lit (.int .u8 55), .lit (.int .u8 48), .lit (.int .u8 27), .lit (.int .u8 60), .lit (.int .u8 41), .lit (.int .u8 37), .lit (.int .u8 16), .lit (.int .u8 46), .lit (.int .u8 35), .lit (.int .u8 44), .lit (.int .u8 21), .lit (.int .u8 52), .lit (.int .u8 32), .lit (.int .u8 23), .lit (.int .u8 11), .lit (.int .u8 54), .lit (.int .u8 26), .lit (.int .u8 40), .lit (.int .u8 15), .lit (.int .u8 34), .lit (.int .u8 20), .lit (.int .u8 31), .lit (.int .u8 10), .lit (.int .u8 25), .lit (.int .u8 14), .lit (.int .u8 19), .lit (.int .u8 9), .lit (.int .u8 13), .lit (.int .u8 8), .lit (.int .u8 7), .lit (.int .u8 6)]
def laid_internal_strconv_uint64pow10 {H : Type} : DataW H := .agg [.lit (.int .u64 1), .lit (.int .u64 10), .lit (.int .u64 100), .lit (.int .u64 1000), .lit (.int .u64 10000), .lit (.int .u64 100000), .lit (.int .u64 1000000), .lit (.int .u64 10000000), .lit (.int .u64 100000000), .lit (.int .u64 1000000000), .lit (.int .u64 10000000000), .lit (.int .u64 100000000000), .lit (.int .u64 1000000000000), .lit (.int .u64 10000000000000), .lit (.int .u64 100000000000000), .lit (.int .u64 1000000000000000), .lit (.int .u64 10000000000000000), .lit (.int .u64 100000000000000000), .lit (.int .u64 1000000000000000000), .lit (.int .u64 10000000000000000000)]
def laid_unicode_utf8_acceptRanges {H : Type} : DataW H := .agg [.agg [.lit (.int .u8 128), .lit (.int .u8 191)], .agg [.lit (.int .u8 160), .lit (.int .u8 191)], .agg [.lit (.int .u8 128), .lit (.int .u8 159)], .agg [.lit (.int .u8 144), .lit (.int .u8 191)], .agg [.lit (.int .u8 128), .lit (.int .u8 143)], .agg [.lit (.int .u8 0), .lit (.int .u8 0)], .agg [.lit (.int .u8 0), .lit (.int .u8 0)], .agg [.lit (.int .u8 0), .lit (.int .u8 0)], .agg [.lit (.int .u8 0), .lit (.int .u8 0)], .agg [.lit (.int .u8 0), .lit (.int .u8 0)], .agg [.lit (.int .u8 0), .lit (.int .u8 0)], .agg [.lit (.int .u8 0), .lit (.int .u8 0)], .agg [.lit (.int .u8 0), .lit (.int .u8 0)], .agg [.lit (.int .u8 0), .lit (.int .u8 0)], .agg [.lit (.int .u8 0), .lit (.int .u8 0)], .agg [.lit (.int .u8 0), .lit (.int .u8 0)]]
def laid_strconv_ErrRange {H : Type} : DataW H := .iface "*errors.errorString" (.ptr (.agg [.lit (.string [118, 97, 108, 117, 101, 32, 111, 117, 116, 32, 111, 102, 32, 114, 97, 110, 103, 101])]))
def laid_strconv_ErrSyntax {H : Type} : DataW H := .iface "*errors.errorString" (.ptr (.agg [.lit (.string [105, 110, 118, 97, 108, 105, 100, 32, 115, 121, 110, 116, 97, 120])]))
/-- One of Go's own tables, pinned by name: the form's constant. -/
def laid_unicode_utf8_first : DataW Unit := Go.Pinned.utf8First

/-- 'epactlaw08.CalWeekdays': WHATEVER THE INPUT: true; the input reads as it did. -/
def calWeekdaysSpec : ChangeSpec := { name := "calWeekdays", fn := fun _ => fun
  | [d] => { results := [.lit (.bool true)], args := [d] }
  | _ => none }
def calWeekdaysRow : OpenClaim := { program := "ytldofkogmkfpjaadoor", sum := "9d7093d561e0323eacd11ea409f311229b103e77e1a7f6256c7e5c9bc9efdfbc", func := "epact/epactlaw08.CalWeekdays", spec := "calWeekdays", named := ["epact/greg.lengths"], apart := false, laid := [("epact/greg.lengths", laid_epact_greg_lengths)] }
def CalWeekdaysSaid : Prop := calWeekdaysRow.holds Tryd.pinned (OpenSpec.ofChange calWeekdaysSpec)

/-- ITS FALSE NEIGHBOUR: 'it returns false'. Refute it at one input. -/
def calWeekdaysWrong : ChangeSpec := { name := "calWeekdays", fn := fun _ => fun
  | [d] => { results := [.lit (.bool false)], args := [d] }
  | _ => none }
def CalWeekdaysWrongFalsely : Prop := calWeekdaysRow.holds Tryd.pinned (OpenSpec.ofChange calWeekdaysWrong)

/-- 'epactlaw08.CalYears': WHATEVER THE INPUT: true; the input reads as it did. -/
def calYearsSpec : ChangeSpec := { name := "calYears", fn := fun _ => fun
  | [d] => { results := [.lit (.bool true)], args := [d] }
  | _ => none }
def calYearsRow : OpenClaim := { program := "ytldofkogmkfpjaadoor", sum := "9d7093d561e0323eacd11ea409f311229b103e77e1a7f6256c7e5c9bc9efdfbc", func := "epact/epactlaw08.CalYears", spec := "calYears", named := ["epact/greg.lengths"], apart := false, laid := [("epact/greg.lengths", laid_epact_greg_lengths)] }
def CalYearsSaid : Prop := calYearsRow.holds Tryd.pinned (OpenSpec.ofChange calYearsSpec)

/-- ITS FALSE NEIGHBOUR: 'it returns false'. Refute it at one input. -/
def calYearsWrong : ChangeSpec := { name := "calYears", fn := fun _ => fun
  | [d] => { results := [.lit (.bool false)], args := [d] }
  | _ => none }
def CalYearsWrongFalsely : Prop := calYearsRow.holds Tryd.pinned (OpenSpec.ofChange calYearsWrong)

/-- 'epactlaw08.CalFromYears': WHATEVER THE INPUT: true; the input reads as it did. -/
def calFromYearsSpec : ChangeSpec := { name := "calFromYears", fn := fun _ => fun
  | [d1, d2] => { results := [.lit (.bool true)], args := [d1, d2] }
  | _ => none }
def calFromYearsRow : OpenClaim := { program := "ytldofkogmkfpjaadoor", sum := "9d7093d561e0323eacd11ea409f311229b103e77e1a7f6256c7e5c9bc9efdfbc", func := "epact/epactlaw08.CalFromYears", spec := "calFromYears", named := ["epact/greg.lengths"], apart := false, laid := [("epact/greg.lengths", laid_epact_greg_lengths)] }
def CalFromYearsSaid : Prop := calFromYearsRow.holds Tryd.pinned (OpenSpec.ofChange calFromYearsSpec)

/-- ITS FALSE NEIGHBOUR: 'it returns false'. Refute it at one input. -/
def calFromYearsWrong : ChangeSpec := { name := "calFromYears", fn := fun _ => fun
  | [d1, d2] => { results := [.lit (.bool false)], args := [d1, d2] }
  | _ => none }
def CalFromYearsWrongFalsely : Prop := calFromYearsRow.holds Tryd.pinned (OpenSpec.ofChange calFromYearsWrong)

/-- 'epactlaw08.CalWeeks': WHATEVER THE INPUT: true; the input reads as it did. -/
def calWeeksSpec : ChangeSpec := { name := "calWeeks", fn := fun _ => fun
  | [d] => { results := [.lit (.bool true)], args := [d] }
  | _ => none }
def calWeeksRow : OpenClaim := { program := "ytldofkogmkfpjaadoor", sum := "9d7093d561e0323eacd11ea409f311229b103e77e1a7f6256c7e5c9bc9efdfbc", func := "epact/epactlaw08.CalWeeks", spec := "calWeeks", named := ["epact/greg.lengths"], apart := false, laid := [("epact/greg.lengths", laid_epact_greg_lengths)] }
def CalWeeksSaid : Prop := calWeeksRow.holds Tryd.pinned (OpenSpec.ofChange calWeeksSpec)

/-- ITS FALSE NEIGHBOUR: 'it returns false'. Refute it at one input. -/
def calWeeksWrong : ChangeSpec := { name := "calWeeks", fn := fun _ => fun
  | [d] => { results := [.lit (.bool false)], args := [d] }
  | _ => none }
def CalWeeksWrongFalsely : Prop := calWeeksRow.holds Tryd.pinned (OpenSpec.ofChange calWeeksWrong)

/-- 'epactlaw08.CalFromWeeks': WHATEVER THE INPUT: true; the input reads as it did. -/
def calFromWeeksSpec : ChangeSpec := { name := "calFromWeeks", fn := fun _ => fun
  | [d1, d2, d3] => { results := [.lit (.bool true)], args := [d1, d2, d3] }
  | _ => none }
def calFromWeeksRow : OpenClaim := { program := "ytldofkogmkfpjaadoor", sum := "9d7093d561e0323eacd11ea409f311229b103e77e1a7f6256c7e5c9bc9efdfbc", func := "epact/epactlaw08.CalFromWeeks", spec := "calFromWeeks", named := ["epact/greg.lengths"], apart := false, laid := [("epact/greg.lengths", laid_epact_greg_lengths)] }
def CalFromWeeksSaid : Prop := calFromWeeksRow.holds Tryd.pinned (OpenSpec.ofChange calFromWeeksSpec)

/-- ITS FALSE NEIGHBOUR: 'it returns false'. Refute it at one input. -/
def calFromWeeksWrong : ChangeSpec := { name := "calFromWeeks", fn := fun _ => fun
  | [d1, d2, d3] => { results := [.lit (.bool false)], args := [d1, d2, d3] }
  | _ => none }
def CalFromWeeksWrongFalsely : Prop := calFromWeeksRow.holds Tryd.pinned (OpenSpec.ofChange calFromWeeksWrong)

/-- 'epactlaw04.DecPrints': WHATEVER THE INPUT: true; the input reads as it did. -/
def decPrintsSpec : ChangeSpec := { name := "decPrints", fn := fun _ => fun
  | [d] => { results := [.lit (.bool true)], args := [d] }
  | _ => none }
def decPrintsRow : OpenClaim := { program := "ytldofkogmkfpjaadoor", sum := "9d7093d561e0323eacd11ea409f311229b103e77e1a7f6256c7e5c9bc9efdfbc", func := "epact/epactlaw04.DecPrints", spec := "decPrints", inPlace := ["math/bits.Sub64", "math/bits.Add64", "internal/abi.NoEscape", "internal/bytealg.MakeNoZero"], recurses := true, named := ["math/bits.divideError", "math/bits.overflowError", "internal/strconv.uint64pow10", "math/bits.deBruijn32tab", "math/bits.deBruijn64tab"], apart := false, laid := [("math/bits.deBruijn32tab", laid_math_bits_deBruijn32tab), ("math/bits.deBruijn64tab", laid_math_bits_deBruijn64tab), ("internal/strconv.uint64pow10", laid_internal_strconv_uint64pow10)] }
def DecPrintsSaid : Prop := decPrintsRow.holds Tryd.pinned (OpenSpec.ofChange decPrintsSpec)

/-- ITS FALSE NEIGHBOUR: 'it returns false'. Refute it at one input. -/
def decPrintsWrong : ChangeSpec := { name := "decPrints", fn := fun _ => fun
  | [d] => { results := [.lit (.bool false)], args := [d] }
  | _ => none }
def DecPrintsWrongFalsely : Prop := decPrintsRow.holds Tryd.pinned (OpenSpec.ofChange decPrintsWrong)

/-- 'epactlaw04.DecParses': WHATEVER THE INPUT: true; the input reads as it did. -/
def decParsesSpec : ChangeSpec := { name := "decParses", fn := fun _ => fun
  | [d] => { results := [.lit (.bool true)], args := [d] }
  | _ => none }
def decParsesRow : OpenClaim := { program := "ytldofkogmkfpjaadoor", sum := "9d7093d561e0323eacd11ea409f311229b103e77e1a7f6256c7e5c9bc9efdfbc", func := "epact/epactlaw04.DecParses", spec := "decParses", inPlace := ["math/bits.Sub64", "math/bits.Add64", "internal/abi.NoEscape", "internal/bytealg.MakeNoZero"], recurses := true, named := ["math/bits.divideError", "math/bits.overflowError", "internal/strconv.uint64pow10", "math/bits.deBruijn32tab", "math/bits.deBruijn64tab"], apart := false, laid := [("math/bits.deBruijn32tab", laid_math_bits_deBruijn32tab), ("math/bits.deBruijn64tab", laid_math_bits_deBruijn64tab), ("internal/strconv.uint64pow10", laid_internal_strconv_uint64pow10)] }
def DecParsesSaid : Prop := decParsesRow.holds Tryd.pinned (OpenSpec.ofChange decParsesSpec)

/-- ITS FALSE NEIGHBOUR: 'it returns false'. Refute it at one input. -/
def decParsesWrong : ChangeSpec := { name := "decParses", fn := fun _ => fun
  | [d] => { results := [.lit (.bool false)], args := [d] }
  | _ => none }
def DecParsesWrongFalsely : Prop := decParsesRow.holds Tryd.pinned (OpenSpec.ofChange decParsesWrong)

/-- 'epactlaw04.DecLong': WHATEVER THE INPUT: true; the input reads as it did. -/
def decLongSpec : ChangeSpec := { name := "decLong", fn := fun _ => fun
  | [d1, d2, d3] => { results := [.lit (.bool true)], args := [d1, d2, d3] }
  | _ => none }
def decLongRow : OpenClaim := { program := "ytldofkogmkfpjaadoor", sum := "9d7093d561e0323eacd11ea409f311229b103e77e1a7f6256c7e5c9bc9efdfbc", func := "epact/epactlaw04.DecLong", spec := "decLong", inPlace := ["math/bits.Sub64", "math/bits.Add64", "internal/abi.NoEscape", "internal/bytealg.MakeNoZero"], recurses := true, named := ["math/bits.divideError", "math/bits.overflowError", "internal/strconv.uint64pow10", "math/bits.deBruijn32tab", "math/bits.deBruijn64tab"], apart := false, laid := [("math/bits.deBruijn32tab", laid_math_bits_deBruijn32tab), ("math/bits.deBruijn64tab", laid_math_bits_deBruijn64tab), ("internal/strconv.uint64pow10", laid_internal_strconv_uint64pow10)] }
def DecLongSaid : Prop := decLongRow.holds Tryd.pinned (OpenSpec.ofChange decLongSpec)

/-- ITS FALSE NEIGHBOUR: 'it returns false'. Refute it at one input. -/
def decLongWrong : ChangeSpec := { name := "decLong", fn := fun _ => fun
  | [d1, d2, d3] => { results := [.lit (.bool false)], args := [d1, d2, d3] }
  | _ => none }
def DecLongWrongFalsely : Prop := decLongRow.holds Tryd.pinned (OpenSpec.ofChange decLongWrong)

/-- 'epactlaw10.LexScans': WHATEVER THE INPUT: true; the input reads as it did. -/
def lexScansSpec : ChangeSpec := { name := "lexScans", fn := fun _ => fun
  | [d] => { results := [.lit (.bool true)], args := [d] }
  | _ => none }
def lexScansRow : OpenClaim := { program := "ytldofkogmkfpjaadoor", sum := "9d7093d561e0323eacd11ea409f311229b103e77e1a7f6256c7e5c9bc9efdfbc", func := "epact/epactlaw10.LexScans", spec := "lexScans", inPlace := ["internal/bytealg.IndexByteString", "internal/bytealg.IndexString"], unfollowed := true, recurses := true, named := ["unicode/utf8.first", "unicode/utf8.acceptRanges", "strconv.ErrSyntax", "strconv.ErrRange", "internal/strconv.uint64pow10", "math/bits.deBruijn32tab", "math/bits.deBruijn64tab", "internal/bytealg.MaxLen"], apart := false, laid := [("math/bits.deBruijn32tab", laid_math_bits_deBruijn32tab), ("math/bits.deBruijn64tab", laid_math_bits_deBruijn64tab), ("internal/strconv.uint64pow10", laid_internal_strconv_uint64pow10), ("unicode/utf8.acceptRanges", laid_unicode_utf8_acceptRanges), ("strconv.ErrRange", laid_strconv_ErrRange), ("strconv.ErrSyntax", laid_strconv_ErrSyntax), ("unicode/utf8.first", laid_unicode_utf8_first)] }
def LexScansSaid : Prop := lexScansRow.holds Tryd.pinned (OpenSpec.ofChange lexScansSpec)

/-- ITS FALSE NEIGHBOUR: 'it returns false'. Refute it at one input. -/
def lexScansWrong : ChangeSpec := { name := "lexScans", fn := fun _ => fun
  | [d] => { results := [.lit (.bool false)], args := [d] }
  | _ => none }
def LexScansWrongFalsely : Prop := lexScansRow.holds Tryd.pinned (OpenSpec.ofChange lexScansWrong)

/-- 'epactlaw10.LexLines': WHATEVER THE INPUT: true; the input reads as it did. -/
def lexLinesSpec : ChangeSpec := { name := "lexLines", fn := fun _ => fun
  | [d] => { results := [.lit (.bool true)], args := [d] }
  | _ => none }
def lexLinesRow : OpenClaim := { program := "ytldofkogmkfpjaadoor", sum := "9d7093d561e0323eacd11ea409f311229b103e77e1a7f6256c7e5c9bc9efdfbc", func := "epact/epactlaw10.LexLines", spec := "lexLines", inPlace := ["internal/bytealg.IndexByteString", "internal/bytealg.IndexString"], unfollowed := true, recurses := true, named := ["internal/bytealg.MaxLen", "unicode/utf8.first", "unicode/utf8.acceptRanges", "strconv.ErrSyntax", "strconv.ErrRange", "internal/strconv.uint64pow10", "math/bits.deBruijn32tab", "math/bits.deBruijn64tab"], apart := false, laid := [("math/bits.deBruijn32tab", laid_math_bits_deBruijn32tab), ("math/bits.deBruijn64tab", laid_math_bits_deBruijn64tab), ("internal/strconv.uint64pow10", laid_internal_strconv_uint64pow10), ("unicode/utf8.acceptRanges", laid_unicode_utf8_acceptRanges), ("strconv.ErrRange", laid_strconv_ErrRange), ("strconv.ErrSyntax", laid_strconv_ErrSyntax), ("unicode/utf8.first", laid_unicode_utf8_first)] }
def LexLinesSaid : Prop := lexLinesRow.holds Tryd.pinned (OpenSpec.ofChange lexLinesSpec)

/-- ITS FALSE NEIGHBOUR: 'it returns false'. Refute it at one input. -/
def lexLinesWrong : ChangeSpec := { name := "lexLines", fn := fun _ => fun
  | [d] => { results := [.lit (.bool false)], args := [d] }
  | _ => none }
def LexLinesWrongFalsely : Prop := lexLinesRow.holds Tryd.pinned (OpenSpec.ofChange lexLinesWrong)

/-- 'epactlaw10.LexJoins': WHATEVER THE INPUT: true; the input reads as it did. -/
def lexJoinsSpec : ChangeSpec := { name := "lexJoins", fn := fun _ => fun
  | [d] => { results := [.lit (.bool true)], args := [d] }
  | _ => none }
def lexJoinsRow : OpenClaim := { program := "ytldofkogmkfpjaadoor", sum := "9d7093d561e0323eacd11ea409f311229b103e77e1a7f6256c7e5c9bc9efdfbc", func := "epact/epactlaw10.LexJoins", spec := "lexJoins", inPlace := ["internal/bytealg.IndexByteString", "internal/bytealg.IndexString"], unfollowed := true, recurses := true, named := ["unicode/utf8.first", "unicode/utf8.acceptRanges", "strconv.ErrSyntax", "strconv.ErrRange", "internal/strconv.uint64pow10", "math/bits.deBruijn32tab", "math/bits.deBruijn64tab", "internal/bytealg.MaxLen"], apart := false, laid := [("math/bits.deBruijn32tab", laid_math_bits_deBruijn32tab), ("math/bits.deBruijn64tab", laid_math_bits_deBruijn64tab), ("internal/strconv.uint64pow10", laid_internal_strconv_uint64pow10), ("unicode/utf8.acceptRanges", laid_unicode_utf8_acceptRanges), ("strconv.ErrRange", laid_strconv_ErrRange), ("strconv.ErrSyntax", laid_strconv_ErrSyntax), ("unicode/utf8.first", laid_unicode_utf8_first)] }
def LexJoinsSaid : Prop := lexJoinsRow.holds Tryd.pinned (OpenSpec.ofChange lexJoinsSpec)

/-- ITS FALSE NEIGHBOUR: 'it returns false'. Refute it at one input. -/
def lexJoinsWrong : ChangeSpec := { name := "lexJoins", fn := fun _ => fun
  | [d] => { results := [.lit (.bool false)], args := [d] }
  | _ => none }
def LexJoinsWrongFalsely : Prop := lexJoinsRow.holds Tryd.pinned (OpenSpec.ofChange lexJoinsWrong)

/-- 'epactlaw10.LexData': WHATEVER THE INPUT: true; the input reads as it did. -/
def lexDataSpec : ChangeSpec := { name := "lexData", fn := fun _ => fun
  | [d1, d2, d3, d4, d5] => { results := [.lit (.bool true)], args := [d1, d2, d3, d4, d5] }
  | _ => none }
def lexDataRow : OpenClaim := { program := "ytldofkogmkfpjaadoor", sum := "9d7093d561e0323eacd11ea409f311229b103e77e1a7f6256c7e5c9bc9efdfbc", func := "epact/epactlaw10.LexData", spec := "lexData", inPlace := ["internal/bytealg.IndexByteString", "internal/bytealg.IndexString"], unfollowed := true, recurses := true, named := ["unicode/utf8.first", "unicode/utf8.acceptRanges", "strconv.ErrSyntax", "strconv.ErrRange", "internal/strconv.uint64pow10", "math/bits.deBruijn32tab", "math/bits.deBruijn64tab", "internal/bytealg.MaxLen"], apart := false, laid := [("math/bits.deBruijn32tab", laid_math_bits_deBruijn32tab), ("math/bits.deBruijn64tab", laid_math_bits_deBruijn64tab), ("internal/strconv.uint64pow10", laid_internal_strconv_uint64pow10), ("unicode/utf8.acceptRanges", laid_unicode_utf8_acceptRanges), ("strconv.ErrRange", laid_strconv_ErrRange), ("strconv.ErrSyntax", laid_strconv_ErrSyntax), ("unicode/utf8.first", laid_unicode_utf8_first)] }
def LexDataSaid : Prop := lexDataRow.holds Tryd.pinned (OpenSpec.ofChange lexDataSpec)

/-- ITS FALSE NEIGHBOUR: 'it returns false'. Refute it at one input. -/
def lexDataWrong : ChangeSpec := { name := "lexData", fn := fun _ => fun
  | [d1, d2, d3, d4, d5] => { results := [.lit (.bool false)], args := [d1, d2, d3, d4, d5] }
  | _ => none }
def LexDataWrongFalsely : Prop := lexDataRow.holds Tryd.pinned (OpenSpec.ofChange lexDataWrong)

/-- 'epactlaw10.LexNotes': WHATEVER THE INPUT: true; the input reads as it did. -/
def lexNotesSpec : ChangeSpec := { name := "lexNotes", fn := fun _ => fun
  | [d] => { results := [.lit (.bool true)], args := [d] }
  | _ => none }
def lexNotesRow : OpenClaim := { program := "ytldofkogmkfpjaadoor", sum := "9d7093d561e0323eacd11ea409f311229b103e77e1a7f6256c7e5c9bc9efdfbc", func := "epact/epactlaw10.LexNotes", spec := "lexNotes", inPlace := ["internal/bytealg.IndexByteString", "internal/bytealg.IndexString"], unfollowed := true, recurses := true, named := ["unicode/utf8.first", "unicode/utf8.acceptRanges", "strconv.ErrSyntax", "strconv.ErrRange", "internal/strconv.uint64pow10", "math/bits.deBruijn32tab", "math/bits.deBruijn64tab", "internal/bytealg.MaxLen"], apart := false, laid := [("math/bits.deBruijn32tab", laid_math_bits_deBruijn32tab), ("math/bits.deBruijn64tab", laid_math_bits_deBruijn64tab), ("internal/strconv.uint64pow10", laid_internal_strconv_uint64pow10), ("unicode/utf8.acceptRanges", laid_unicode_utf8_acceptRanges), ("strconv.ErrRange", laid_strconv_ErrRange), ("strconv.ErrSyntax", laid_strconv_ErrSyntax), ("unicode/utf8.first", laid_unicode_utf8_first)] }
def LexNotesSaid : Prop := lexNotesRow.holds Tryd.pinned (OpenSpec.ofChange lexNotesSpec)

/-- ITS FALSE NEIGHBOUR: 'it returns false'. Refute it at one input. -/
def lexNotesWrong : ChangeSpec := { name := "lexNotes", fn := fun _ => fun
  | [d] => { results := [.lit (.bool false)], args := [d] }
  | _ => none }
def LexNotesWrongFalsely : Prop := lexNotesRow.holds Tryd.pinned (OpenSpec.ofChange lexNotesWrong)

/-- 'epactlaw25.IsoSame': WHATEVER THE INPUT: true; the input reads as it did. -/
def isoSameSpec : ChangeSpec := { name := "isoSame", fn := fun _ => fun
  | [d] => { results := [.lit (.bool true)], args := [d] }
  | _ => none }
def isoSameRow : OpenClaim := { program := "ytldofkogmkfpjaadoor", sum := "9d7093d561e0323eacd11ea409f311229b103e77e1a7f6256c7e5c9bc9efdfbc", func := "epact/epactlaw25.IsoSame", spec := "isoSame", inPlace := ["internal/bytealg.IndexByteString", "internal/bytealg.IndexString", "internal/abi.NoEscape", "internal/bytealg.MakeNoZero"], named := ["unicode/utf8.first", "unicode/utf8.acceptRanges", "strconv.ErrSyntax", "strconv.ErrRange", "internal/strconv.uint64pow10", "math/bits.deBruijn32tab", "math/bits.deBruijn64tab", "epact/greg.lengths", "internal/bytealg.MaxLen"], apart := false, laid := [("epact/greg.lengths", laid_epact_greg_lengths), ("math/bits.deBruijn32tab", laid_math_bits_deBruijn32tab), ("math/bits.deBruijn64tab", laid_math_bits_deBruijn64tab), ("internal/strconv.uint64pow10", laid_internal_strconv_uint64pow10), ("unicode/utf8.acceptRanges", laid_unicode_utf8_acceptRanges), ("strconv.ErrRange", laid_strconv_ErrRange), ("strconv.ErrSyntax", laid_strconv_ErrSyntax), ("unicode/utf8.first", laid_unicode_utf8_first)] }
def IsoSameSaid : Prop := isoSameRow.holds Tryd.pinned (OpenSpec.ofChange isoSameSpec)

/-- ITS FALSE NEIGHBOUR: 'it returns false'. Refute it at one input. -/
def isoSameWrong : ChangeSpec := { name := "isoSame", fn := fun _ => fun
  | [d] => { results := [.lit (.bool false)], args := [d] }
  | _ => none }
def IsoSameWrongFalsely : Prop := isoSameRow.holds Tryd.pinned (OpenSpec.ofChange isoSameWrong)

/- THE SECOND FORM. 'bulk': how many values and letters a reading holds, each counted each time it is reached (what is shared counts as often as it is met; a slice's spare places count too). A statement '..UptoSaid' is the law's where the arguments, and the package variables that the reading takes, are together of bulk at most 1048576: NARROWER than '..Said'. Prove '..Said' where nothing that the law and all that it calls make is longer than what came in: it says more and counts as full. Else prove '..UptoSaid'. A law counts once. -/
mutual
def uptoBulk {H : Type} : DataW H → Nat
  | .lit (.string bytes) => bytes.length + 1
  | .lit _ => 1
  | .nil => 1
  | .ptr d => uptoBulk d + 1
  | .slice elems spare => uptoBulkAll elems + uptoBulkAll spare + 1
  | .agg parts => uptoBulkAll parts + 1
  | .iface _ d => uptoBulk d + 1
  | .map entries => uptoBulkEntries entries + 1
  | .held _ => 1
def uptoBulkAll {H : Type} : List (DataW H) → Nat
  | [] => 0
  | d :: r => uptoBulk d + uptoBulkAll r
def uptoBulkEntries {H : Type} : List (Lit × DataW H) → Nat
  | [] => 0
  | x :: r => uptoBulkEntry x + uptoBulkEntries r
def uptoBulkEntry {H : Type} : Lit × DataW H → Nat
  | (.string bytes, d) => bytes.length + uptoBulk d + 1
  | (_, d) => uptoBulk d + 1
 end
def uptoSmall : (H : Type) → List (DataW H) → Bool := fun _ ds => decide (uptoBulkAll ds ≤ 1048576)
def OpenSpec.upto (s : _root_.Go.ChangeSpec) : _root_.Go.OpenSpec := { _root_.Go.OpenSpec.ofChange s with cond := some uptoSmall }

/-- 'epactlaw08.CalWeekdays', WHERE WHAT IT READS IS OF BULK AT MOST 1048576: true; the input reads as it did. -/
def calWeekdaysUptoRow : OpenClaim := { program := "ytldofkogmkfpjaadoor", sum := "9d7093d561e0323eacd11ea409f311229b103e77e1a7f6256c7e5c9bc9efdfbc", func := "epact/epactlaw08.CalWeekdays", spec := "calWeekdays", named := ["epact/greg.lengths"], apart := false, laid := [("epact/greg.lengths", laid_epact_greg_lengths)], narrowed := true }
def CalWeekdaysUptoSaid : Prop := calWeekdaysUptoRow.holds Tryd.pinned (OpenSpec.upto calWeekdaysSpec)

/-- 'epactlaw08.CalYears', WHERE WHAT IT READS IS OF BULK AT MOST 1048576: true; the input reads as it did. -/
def calYearsUptoRow : OpenClaim := { program := "ytldofkogmkfpjaadoor", sum := "9d7093d561e0323eacd11ea409f311229b103e77e1a7f6256c7e5c9bc9efdfbc", func := "epact/epactlaw08.CalYears", spec := "calYears", named := ["epact/greg.lengths"], apart := false, laid := [("epact/greg.lengths", laid_epact_greg_lengths)], narrowed := true }
def CalYearsUptoSaid : Prop := calYearsUptoRow.holds Tryd.pinned (OpenSpec.upto calYearsSpec)

/-- 'epactlaw08.CalFromYears', WHERE WHAT IT READS IS OF BULK AT MOST 1048576: true; the input reads as it did. -/
def calFromYearsUptoRow : OpenClaim := { program := "ytldofkogmkfpjaadoor", sum := "9d7093d561e0323eacd11ea409f311229b103e77e1a7f6256c7e5c9bc9efdfbc", func := "epact/epactlaw08.CalFromYears", spec := "calFromYears", named := ["epact/greg.lengths"], apart := false, laid := [("epact/greg.lengths", laid_epact_greg_lengths)], narrowed := true }
def CalFromYearsUptoSaid : Prop := calFromYearsUptoRow.holds Tryd.pinned (OpenSpec.upto calFromYearsSpec)

/-- 'epactlaw08.CalWeeks', WHERE WHAT IT READS IS OF BULK AT MOST 1048576: true; the input reads as it did. -/
def calWeeksUptoRow : OpenClaim := { program := "ytldofkogmkfpjaadoor", sum := "9d7093d561e0323eacd11ea409f311229b103e77e1a7f6256c7e5c9bc9efdfbc", func := "epact/epactlaw08.CalWeeks", spec := "calWeeks", named := ["epact/greg.lengths"], apart := false, laid := [("epact/greg.lengths", laid_epact_greg_lengths)], narrowed := true }
def CalWeeksUptoSaid : Prop := calWeeksUptoRow.holds Tryd.pinned (OpenSpec.upto calWeeksSpec)

/-- 'epactlaw08.CalFromWeeks', WHERE WHAT IT READS IS OF BULK AT MOST 1048576: true; the input reads as it did. -/
def calFromWeeksUptoRow : OpenClaim := { program := "ytldofkogmkfpjaadoor", sum := "9d7093d561e0323eacd11ea409f311229b103e77e1a7f6256c7e5c9bc9efdfbc", func := "epact/epactlaw08.CalFromWeeks", spec := "calFromWeeks", named := ["epact/greg.lengths"], apart := false, laid := [("epact/greg.lengths", laid_epact_greg_lengths)], narrowed := true }
def CalFromWeeksUptoSaid : Prop := calFromWeeksUptoRow.holds Tryd.pinned (OpenSpec.upto calFromWeeksSpec)

/-- 'epactlaw04.DecPrints', WHERE WHAT IT READS IS OF BULK AT MOST 1048576: true; the input reads as it did. -/
def decPrintsUptoRow : OpenClaim := { program := "ytldofkogmkfpjaadoor", sum := "9d7093d561e0323eacd11ea409f311229b103e77e1a7f6256c7e5c9bc9efdfbc", func := "epact/epactlaw04.DecPrints", spec := "decPrints", inPlace := ["math/bits.Sub64", "math/bits.Add64", "internal/abi.NoEscape", "internal/bytealg.MakeNoZero"], recurses := true, named := ["math/bits.divideError", "math/bits.overflowError", "internal/strconv.uint64pow10", "math/bits.deBruijn32tab", "math/bits.deBruijn64tab"], apart := false, laid := [("math/bits.deBruijn32tab", laid_math_bits_deBruijn32tab), ("math/bits.deBruijn64tab", laid_math_bits_deBruijn64tab), ("internal/strconv.uint64pow10", laid_internal_strconv_uint64pow10)], narrowed := true }
def DecPrintsUptoSaid : Prop := decPrintsUptoRow.holds Tryd.pinned (OpenSpec.upto decPrintsSpec)

/-- 'epactlaw04.DecParses', WHERE WHAT IT READS IS OF BULK AT MOST 1048576: true; the input reads as it did. -/
def decParsesUptoRow : OpenClaim := { program := "ytldofkogmkfpjaadoor", sum := "9d7093d561e0323eacd11ea409f311229b103e77e1a7f6256c7e5c9bc9efdfbc", func := "epact/epactlaw04.DecParses", spec := "decParses", inPlace := ["math/bits.Sub64", "math/bits.Add64", "internal/abi.NoEscape", "internal/bytealg.MakeNoZero"], recurses := true, named := ["math/bits.divideError", "math/bits.overflowError", "internal/strconv.uint64pow10", "math/bits.deBruijn32tab", "math/bits.deBruijn64tab"], apart := false, laid := [("math/bits.deBruijn32tab", laid_math_bits_deBruijn32tab), ("math/bits.deBruijn64tab", laid_math_bits_deBruijn64tab), ("internal/strconv.uint64pow10", laid_internal_strconv_uint64pow10)], narrowed := true }
def DecParsesUptoSaid : Prop := decParsesUptoRow.holds Tryd.pinned (OpenSpec.upto decParsesSpec)

/-- 'epactlaw04.DecLong', WHERE WHAT IT READS IS OF BULK AT MOST 1048576: true; the input reads as it did. -/
def decLongUptoRow : OpenClaim := { program := "ytldofkogmkfpjaadoor", sum := "9d7093d561e0323eacd11ea409f311229b103e77e1a7f6256c7e5c9bc9efdfbc", func := "epact/epactlaw04.DecLong", spec := "decLong", inPlace := ["math/bits.Sub64", "math/bits.Add64", "internal/abi.NoEscape", "internal/bytealg.MakeNoZero"], recurses := true, named := ["math/bits.divideError", "math/bits.overflowError", "internal/strconv.uint64pow10", "math/bits.deBruijn32tab", "math/bits.deBruijn64tab"], apart := false, laid := [("math/bits.deBruijn32tab", laid_math_bits_deBruijn32tab), ("math/bits.deBruijn64tab", laid_math_bits_deBruijn64tab), ("internal/strconv.uint64pow10", laid_internal_strconv_uint64pow10)], narrowed := true }
def DecLongUptoSaid : Prop := decLongUptoRow.holds Tryd.pinned (OpenSpec.upto decLongSpec)

/-- 'epactlaw10.LexScans', WHERE WHAT IT READS IS OF BULK AT MOST 1048576: true; the input reads as it did. -/
def lexScansUptoRow : OpenClaim := { program := "ytldofkogmkfpjaadoor", sum := "9d7093d561e0323eacd11ea409f311229b103e77e1a7f6256c7e5c9bc9efdfbc", func := "epact/epactlaw10.LexScans", spec := "lexScans", inPlace := ["internal/bytealg.IndexByteString", "internal/bytealg.IndexString"], unfollowed := true, recurses := true, named := ["unicode/utf8.first", "unicode/utf8.acceptRanges", "strconv.ErrSyntax", "strconv.ErrRange", "internal/strconv.uint64pow10", "math/bits.deBruijn32tab", "math/bits.deBruijn64tab", "internal/bytealg.MaxLen"], apart := false, laid := [("math/bits.deBruijn32tab", laid_math_bits_deBruijn32tab), ("math/bits.deBruijn64tab", laid_math_bits_deBruijn64tab), ("internal/strconv.uint64pow10", laid_internal_strconv_uint64pow10), ("unicode/utf8.acceptRanges", laid_unicode_utf8_acceptRanges), ("strconv.ErrRange", laid_strconv_ErrRange), ("strconv.ErrSyntax", laid_strconv_ErrSyntax), ("unicode/utf8.first", laid_unicode_utf8_first)], narrowed := true }
def LexScansUptoSaid : Prop := lexScansUptoRow.holds Tryd.pinned (OpenSpec.upto lexScansSpec)

/-- 'epactlaw10.LexLines', WHERE WHAT IT READS IS OF BULK AT MOST 1048576: true; the input reads as it did. -/
def lexLinesUptoRow : OpenClaim := { program := "ytldofkogmkfpjaadoor", sum := "9d7093d561e0323eacd11ea409f311229b103e77e1a7f6256c7e5c9bc9efdfbc", func := "epact/epactlaw10.LexLines", spec := "lexLines", inPlace := ["internal/bytealg.IndexByteString", "internal/bytealg.IndexString"], unfollowed := true, recurses := true, named := ["internal/bytealg.MaxLen", "unicode/utf8.first", "unicode/utf8.acceptRanges", "strconv.ErrSyntax", "strconv.ErrRange", "internal/strconv.uint64pow10", "math/bits.deBruijn32tab", "math/bits.deBruijn64tab"], apart := false, laid := [("math/bits.deBruijn32tab", laid_math_bits_deBruijn32tab), ("math/bits.deBruijn64tab", laid_math_bits_deBruijn64tab), ("internal/strconv.uint64pow10", laid_internal_strconv_uint64pow10), ("unicode/utf8.acceptRanges", laid_unicode_utf8_acceptRanges), ("strconv.ErrRange", laid_strconv_ErrRange), ("strconv.ErrSyntax", laid_strconv_ErrSyntax), ("unicode/utf8.first", laid_unicode_utf8_first)], narrowed := true }
def LexLinesUptoSaid : Prop := lexLinesUptoRow.holds Tryd.pinned (OpenSpec.upto lexLinesSpec)

/-- 'epactlaw10.LexJoins', WHERE WHAT IT READS IS OF BULK AT MOST 1048576: true; the input reads as it did. -/
def lexJoinsUptoRow : OpenClaim := { program := "ytldofkogmkfpjaadoor", sum := "9d7093d561e0323eacd11ea409f311229b103e77e1a7f6256c7e5c9bc9efdfbc", func := "epact/epactlaw10.LexJoins", spec := "lexJoins", inPlace := ["internal/bytealg.IndexByteString", "internal/bytealg.IndexString"], unfollowed := true, recurses := true, named := ["unicode/utf8.first", "unicode/utf8.acceptRanges", "strconv.ErrSyntax", "strconv.ErrRange", "internal/strconv.uint64pow10", "math/bits.deBruijn32tab", "math/bits.deBruijn64tab", "internal/bytealg.MaxLen"], apart := false, laid := [("math/bits.deBruijn32tab", laid_math_bits_deBruijn32tab), ("math/bits.deBruijn64tab", laid_math_bits_deBruijn64tab), ("internal/strconv.uint64pow10", laid_internal_strconv_uint64pow10), ("unicode/utf8.acceptRanges", laid_unicode_utf8_acceptRanges), ("strconv.ErrRange", laid_strconv_ErrRange), ("strconv.ErrSyntax", laid_strconv_ErrSyntax), ("unicode/utf8.first", laid_unicode_utf8_first)], narrowed := true }
def LexJoinsUptoSaid : Prop := lexJoinsUptoRow.holds Tryd.pinned (OpenSpec.upto lexJoinsSpec)

/-- 'epactlaw10.LexData', WHERE WHAT IT READS IS OF BULK AT MOST 1048576: true; the input reads as it did. -/
def lexDataUptoRow : OpenClaim := { program := "ytldofkogmkfpjaadoor", sum := "9d7093d561e0323eacd11ea409f311229b103e77e1a7f6256c7e5c9bc9efdfbc", func := "epact/epactlaw10.LexData", spec := "lexData", inPlace := ["internal/bytealg.IndexByteString", "internal/bytealg.IndexString"], unfollowed := true, recurses := true, named := ["unicode/utf8.first", "unicode/utf8.acceptRanges", "strconv.ErrSyntax", "strconv.ErrRange", "internal/strconv.uint64pow10", "math/bits.deBruijn32tab", "math/bits.deBruijn64tab", "internal/bytealg.MaxLen"], apart := false, laid := [("math/bits.deBruijn32tab", laid_math_bits_deBruijn32tab), ("math/bits.deBruijn64tab", laid_math_bits_deBruijn64tab), ("internal/strconv.uint64pow10", laid_internal_strconv_uint64pow10), ("unicode/utf8.acceptRanges", laid_unicode_utf8_acceptRanges), ("strconv.ErrRange", laid_strconv_ErrRange), ("strconv.ErrSyntax", laid_strconv_ErrSyntax), ("unicode/utf8.first", laid_unicode_utf8_first)], narrowed := true }
def LexDataUptoSaid : Prop := lexDataUptoRow.holds Tryd.pinned (OpenSpec.upto lexDataSpec)

/-- 'epactlaw10.LexNotes', WHERE WHAT IT READS IS OF BULK AT MOST 1048576: true; the input reads as it did. -/
def lexNotesUptoRow : OpenClaim := { program := "ytldofkogmkfpjaadoor", sum := "9d7093d561e0323eacd11ea409f311229b103e77e1a7f6256c7e5c9bc9efdfbc", func := "epact/epactlaw10.LexNotes", spec := "lexNotes", inPlace := ["internal/bytealg.IndexByteString", "internal/bytealg.IndexString"], unfollowed := true, recurses := true, named := ["unicode/utf8.first", "unicode/utf8.acceptRanges", "strconv.ErrSyntax", "strconv.ErrRange", "internal/strconv.uint64pow10", "math/bits.deBruijn32tab", "math/bits.deBruijn64tab", "internal/bytealg.MaxLen"], apart := false, laid := [("math/bits.deBruijn32tab", laid_math_bits_deBruijn32tab), ("math/bits.deBruijn64tab", laid_math_bits_deBruijn64tab), ("internal/strconv.uint64pow10", laid_internal_strconv_uint64pow10), ("unicode/utf8.acceptRanges", laid_unicode_utf8_acceptRanges), ("strconv.ErrRange", laid_strconv_ErrRange), ("strconv.ErrSyntax", laid_strconv_ErrSyntax), ("unicode/utf8.first", laid_unicode_utf8_first)], narrowed := true }
def LexNotesUptoSaid : Prop := lexNotesUptoRow.holds Tryd.pinned (OpenSpec.upto lexNotesSpec)

/-- 'epactlaw25.IsoSame', WHERE WHAT IT READS IS OF BULK AT MOST 1048576: true; the input reads as it did. -/
def isoSameUptoRow : OpenClaim := { program := "ytldofkogmkfpjaadoor", sum := "9d7093d561e0323eacd11ea409f311229b103e77e1a7f6256c7e5c9bc9efdfbc", func := "epact/epactlaw25.IsoSame", spec := "isoSame", inPlace := ["internal/bytealg.IndexByteString", "internal/bytealg.IndexString", "internal/abi.NoEscape", "internal/bytealg.MakeNoZero"], named := ["unicode/utf8.first", "unicode/utf8.acceptRanges", "strconv.ErrSyntax", "strconv.ErrRange", "internal/strconv.uint64pow10", "math/bits.deBruijn32tab", "math/bits.deBruijn64tab", "epact/greg.lengths", "internal/bytealg.MaxLen"], apart := false, laid := [("epact/greg.lengths", laid_epact_greg_lengths), ("math/bits.deBruijn32tab", laid_math_bits_deBruijn32tab), ("math/bits.deBruijn64tab", laid_math_bits_deBruijn64tab), ("internal/strconv.uint64pow10", laid_internal_strconv_uint64pow10), ("unicode/utf8.acceptRanges", laid_unicode_utf8_acceptRanges), ("strconv.ErrRange", laid_strconv_ErrRange), ("strconv.ErrSyntax", laid_strconv_ErrSyntax), ("unicode/utf8.first", laid_unicode_utf8_first)], narrowed := true }
def IsoSameUptoSaid : Prop := isoSameUptoRow.holds Tryd.pinned (OpenSpec.upto isoSameSpec)

end Rows
end Go.Proofs.YtldofkogmkfpjaaDoor
