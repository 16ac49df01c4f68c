/-
  NARROWER THAN 'FOR EVERY INPUT', by the rows' own cells (each row's printed sentence says how): ViewCorrects: laid · ViewTurns: laid · ViewNotes: laid · ViewPrints: laid · DigestPieces: laid · DigestBytes: laid · DigestCuts: laid · ViewTables: laid · VerbChecks: laid · VerbPrints: laid · VerbReads: laid · VerbNames: laid · VerbRanges: laid.
  DERIVED. THE GIVEN ROWS OF THIS SEAT. 13 by the template 'for every input the law returns true; each argument reads behind the call as it read before'; 0 by the template 'total and deterministic' (their statements: YtflmncjhonmmhaaDoorTotals.lean).
  GIVEN WITH THE SEED: the statements are not yours to turn. If you find one false, say at which input.
  Laid BY PROGRAM, IN A SANDBOX (cutbox-rows.mjs): the forced cells as the released guide's own fill.sh prints them over the translation 5281f5811d18e4d9… (all of the seat's roots in one cut). By AI agents, Wed Nov 11 2026. No macro, syntax, notation, axiom, sorry.
-/
import Derived.Test.YtflmncjhonmmhaaDoorChecked
import GoSem.PinnedTables
import GoSem.Claim
import GoSem.ClaimJoined
import GoSem.ClaimMapViews
import Derived.JoinedTies
import Derived.KernelRfl
namespace Go.Proofs.YtflmncjhonmmhaaDoor
/- THE CELL 'sum', in the pinned program and in every row, IS THE sha256 OF THE DUMP (.gsa) THAT YtflmncjhonmmhaaDoorProg.lean LOADS. Nothing in Lean hashes anything: it is a label: what it is worth is what the hold of that sum in a sandbox is worth. -/
noncomputable def Tryd.pinned : Pinned := { name := "ytflmncjhonmmhaadoor", sum := "5281f5811d18e4d9fc130d615ae9e25e7906f38b7eb48b8eb6ef55eecff5ec77", checked := Tryd.checked }
namespace Rows
def none {H : Type} : Left H := { results := [], args := [] }

/- WHAT THE LISTED PACKAGE-LEVEL VARIABLES READ AS WHEN THE CALL BEGINS. Each datum BY PROGRAM (the guide's laid-datum.mjs) off the statement by which the dump's own 'gosem.cut.vars' lays the variable. In a bare row this is a premise. The card (YtflmncjhonmmhaaDoorCards.lean) ties it to the program's text. -/
def laid_math_bits_deBruijn32tab {H : Type} : DataW H := .agg [.lit (.int .u8 0), .lit (.int .u8 1), .lit (.int .u8 28), .lit (.int .u8 2), .lit (.int .u8 29), .lit (.int .u8 14), .lit (.int .u8 24), .lit (.int .u8 3), .lit (.int .u8 30), .lit (.int .u8 22), .lit (.int .u8 20), .lit (.int .u8 15), .lit (.int .u8 25), .lit (.int .u8 17), .lit (.int .u8 4), .lit (.int .u8 8), .lit (.int .u8 31), .lit (.int .u8 27), .lit (.int .u8 13), .lit (.int .u8 23), .lit (.int .u8 21), .lit (.int .u8 19), .lit (.int .u8 16), .lit (.int .u8 7), .lit (.int .u8 26), .lit (.int .u8 12), .lit (.int .u8 18), .lit (.int .u8 6), .lit (.int .u8 11), .lit (.int .u8 5), .lit (.int .u8 10), .lit (.int .u8 9)]
def laid_math_bits_deBruijn64tab {H : Type} : DataW H := .agg [.lit (.int .u8 0), .lit (.int .u8 1), .lit (.int .u8 56), .lit (.int .u8 2), .lit (.int .u8 57), .lit (.int .u8 49), .lit (.int .u8 28), .lit (.int .u8 3), .lit (.int .u8 61), .lit (.int .u8 58), .lit (.int .u8 42), .lit (.int .u8 50), .lit (.int .u8 38), .lit (.int .u8 29), .lit (.int .u8 17), .lit (.int .u8 4), .lit (.int .u8 62), .lit (.int .u8 47), .lit (.int .u8 59), .lit (.int .u8 36), .lit (.int .u8 45), .lit (.int .u8 43), .lit (.int .u8 51), .lit (.int .u8 22), .lit (.int .u8 53), .lit (.int .u8 39), .lit (.int .u8 33), .lit (.int .u8 30), .lit (.int .u8 24), .lit (.int .u8 18), .lit (.int .u8 12), .lit (.int .u8 5), .lit (.int .u8 63), .lit (.int .u8 55), .lit (.int .u8 48), .lit (.int .u8 27), .lit (.int .u8 60), .lit (.int .u8 41), .lit (.int .u8 37), .lit (.int .u8 16), .lit (.int .u8 46), .lit (.int .u8 35), .lit (.int .u8 44), .lit (.int .u8 21), .lit (.int .u8 52), .lit (.int .u8 32), .lit (.int .u8 23), .lit (.int .u8 11), .lit (.int .u8 54), .lit (.int .u8 26), .lit (.int .u8 40), .lit (.int .u8 15), .lit (.int .u8 34), .lit (.int .u8 20), .lit (.int .u8 31), .lit (.int .u8 10), .lit (.int .u8 25), .lit (.int .u8 14), .lit (.int .u8 19), .lit (.int .u8 9), .lit (.int .u8 13), .lit (.int .u8 8), .lit (.int .u8 7), .lit (.int .u8 6)]
def laid_internal_strconv_uint64pow10 {H : Type} : DataW H := .agg [.lit (.int .u64 1), .lit (.int .u64 10), .lit (.int .u64 100), .lit (.int .u64 1000), .lit (.int .u64 10000), .lit (.int .u64 100000), .lit (.int .u64 1000000), .lit (.int .u64 10000000), .lit (.int .u64 100000000), .lit (.int .u64 1000000000), .lit (.int .u64 10000000000), .lit (.int .u64 100000000000), .lit (.int .u64 1000000000000), .lit (.int .u64 10000000000000), .lit (.int .u64 100000000000000), .lit (.int .u64 1000000000000000), .lit (.int .u64 10000000000000000), .lit (.int .u64 100000000000000000), .lit (.int .u64 1000000000000000000), .lit (.int .u64 10000000000000000000)]
def laid_strconv_ErrRange {H : Type} : DataW H := .iface "*errors.errorString" (.ptr (.agg [.lit (.string [118, 97, 108, 117, 101, 32, 111, 117, 116, 32, 111, 102, 32, 114, 97, 110, 103, 101])]))
def laid_strconv_ErrSyntax {H : Type} : DataW H := .iface "*errors.errorString" (.ptr (.agg [.lit (.string [105, 110, 118, 97, 108, 105, 100, 32, 115, 121, 110, 116, 97, 120])]))
def laid_echelon_digest_factors {H : Type} : DataW H := .agg [.lit (.int .u64 13787848793156543929), .lit (.int .u64 10723151780598845931)]
def laid_echelon_digest_shifts {H : Type} : DataW H := .agg [.lit (.int .i64 30), .lit (.int .i64 27), .lit (.int .i64 31)]
def laid_echelon_echelonref07_first {H : Type} : DataW H := .agg [.lit (.string [120]), .lit (.string []), .lit (.string [116, 111]), .lit (.string [112, 111, 119, 101, 114]), .lit (.string [111, 110]), .lit (.string [116, 111]), .lit (.string [119, 104, 97, 116])]
def laid_echelon_echelonref07_least {H : Type} : DataW H := .agg [.lit (.int .i64 (-8)), .lit (.int .i64 0), .lit (.int .i64 0), .lit (.int .i64 1), .lit (.int .i64 0), .lit (.int .i64 0), .lit (.int .i64 0)]
def laid_echelon_echelonref07_most {H : Type} : DataW H := .agg [.lit (.int .i64 8), .lit (.int .i64 0), .lit (.int .i64 15), .lit (.int .i64 3), .lit (.int .i64 1), .lit (.int .i64 15), .lit (.int .i64 255)]
def laid_unicode_utf8_acceptRanges {H : Type} : DataW H := .agg [.agg [.lit (.int .u8 128), .lit (.int .u8 191)], .agg [.lit (.int .u8 160), .lit (.int .u8 191)], .agg [.lit (.int .u8 128), .lit (.int .u8 159)], .agg [.lit (.int .u8 144), .lit (.int .u8 191)], .agg [.lit (.int .u8 128), .lit (.int .u8 143)], .agg [.lit (.int .u8 0), .lit (.int .u8 0)], .agg [.lit (.int .u8 0), .lit (.int .u8 0)], .agg [.lit (.int .u8 0), .lit (.int .u8 0)], .agg [.lit (.int .u8 0), .lit (.int .u8 0)], .agg [.lit (.int .u8 0), .lit (.int .u8 0)], .agg [.lit (.int .u8 0), .lit (.int .u8 0)], .agg [.lit (.int .u8 0), .lit (.int .u8 0)], .agg [.lit (.int .u8 0), .lit (.int .u8 0)], .agg [.lit (.int .u8 0), .lit (.int .u8 0)], .agg [.lit (.int .u8 0), .lit (.int .u8 0)], .agg [.lit (.int .u8 0), .lit (.int .u8 0)]]
/-- One of Go's own tables, pinned by name: the form's constant. -/
def laid_unicode_utf8_first : DataW Unit := Go.Pinned.utf8First
def laid_echelon_echelonref07_names {H : Type} : DataW H := .agg [.lit (.string [115, 116, 101, 101, 114]), .lit (.string [104, 97, 108, 116]), .lit (.string [97, 105, 109]), .lit (.string [102, 105, 114, 101]), .lit (.string [115, 104, 105, 101, 108, 100]), .lit (.string [100, 97, 115, 104]), .lit (.string [115, 97, 121])]

/-- 'echelonlaw23.ViewCorrects': WHATEVER THE INPUT: true; the input reads as it did. -/
def viewCorrectsSpec : ChangeSpec := { name := "viewCorrects", fn := fun _ => fun
  | [d1, d2] => { results := [.lit (.bool true)], args := [d1, d2] }
  | _ => none }
def viewCorrectsRow : OpenClaim := { program := "ytflmncjhonmmhaadoor", sum := "5281f5811d18e4d9fc130d615ae9e25e7906f38b7eb48b8eb6ef55eecff5ec77", func := "echelon/echelonlaw23.ViewCorrects", spec := "viewCorrects", inPlace := ["internal/abi.NoEscape", "internal/bytealg.MakeNoZero"], unfollowed := true, recurses := true, named := ["internal/strconv.uint64pow10", "math/bits.deBruijn32tab", "math/bits.deBruijn64tab"], apart := false, laid := [("math/bits.deBruijn32tab", laid_math_bits_deBruijn32tab), ("math/bits.deBruijn64tab", laid_math_bits_deBruijn64tab), ("internal/strconv.uint64pow10", laid_internal_strconv_uint64pow10)] }
def ViewCorrectsSaid : Prop := viewCorrectsRow.holds Tryd.pinned (OpenSpec.ofChange viewCorrectsSpec)

/-- ITS FALSE NEIGHBOUR: 'it returns false'. Refute it at one input. -/
def viewCorrectsWrong : ChangeSpec := { name := "viewCorrects", fn := fun _ => fun
  | [d1, d2] => { results := [.lit (.bool false)], args := [d1, d2] }
  | _ => none }
def ViewCorrectsWrongFalsely : Prop := viewCorrectsRow.holds Tryd.pinned (OpenSpec.ofChange viewCorrectsWrong)

/-- 'echelonlaw23.ViewTurns': WHATEVER THE INPUT: true; the input reads as it did. -/
def viewTurnsSpec : ChangeSpec := { name := "viewTurns", fn := fun _ => fun
  | [d1, d2] => { results := [.lit (.bool true)], args := [d1, d2] }
  | _ => none }
def viewTurnsRow : OpenClaim := { program := "ytflmncjhonmmhaadoor", sum := "5281f5811d18e4d9fc130d615ae9e25e7906f38b7eb48b8eb6ef55eecff5ec77", func := "echelon/echelonlaw23.ViewTurns", spec := "viewTurns", inPlace := ["internal/abi.NoEscape", "internal/bytealg.MakeNoZero"], unfollowed := true, recurses := true, named := ["internal/strconv.uint64pow10", "math/bits.deBruijn32tab", "math/bits.deBruijn64tab"], apart := false, laid := [("math/bits.deBruijn32tab", laid_math_bits_deBruijn32tab), ("math/bits.deBruijn64tab", laid_math_bits_deBruijn64tab), ("internal/strconv.uint64pow10", laid_internal_strconv_uint64pow10)] }
def ViewTurnsSaid : Prop := viewTurnsRow.holds Tryd.pinned (OpenSpec.ofChange viewTurnsSpec)

/-- ITS FALSE NEIGHBOUR: 'it returns false'. Refute it at one input. -/
def viewTurnsWrong : ChangeSpec := { name := "viewTurns", fn := fun _ => fun
  | [d1, d2] => { results := [.lit (.bool false)], args := [d1, d2] }
  | _ => none }
def ViewTurnsWrongFalsely : Prop := viewTurnsRow.holds Tryd.pinned (OpenSpec.ofChange viewTurnsWrong)

/-- 'echelonlaw23.ViewNotes': WHATEVER THE INPUT: true; the input reads as it did. -/
def viewNotesSpec : ChangeSpec := { name := "viewNotes", fn := fun _ => fun
  | [d] => { results := [.lit (.bool true)], args := [d] }
  | _ => none }
def viewNotesRow : OpenClaim := { program := "ytflmncjhonmmhaadoor", sum := "5281f5811d18e4d9fc130d615ae9e25e7906f38b7eb48b8eb6ef55eecff5ec77", func := "echelon/echelonlaw23.ViewNotes", spec := "viewNotes", inPlace := ["internal/abi.NoEscape", "internal/bytealg.MakeNoZero"], unfollowed := true, recurses := true, named := ["internal/strconv.uint64pow10", "math/bits.deBruijn32tab", "math/bits.deBruijn64tab"], apart := false, laid := [("math/bits.deBruijn32tab", laid_math_bits_deBruijn32tab), ("math/bits.deBruijn64tab", laid_math_bits_deBruijn64tab), ("internal/strconv.uint64pow10", laid_internal_strconv_uint64pow10)] }
def ViewNotesSaid : Prop := viewNotesRow.holds Tryd.pinned (OpenSpec.ofChange viewNotesSpec)

/-- ITS FALSE NEIGHBOUR: 'it returns false'. Refute it at one input. -/
def viewNotesWrong : ChangeSpec := { name := "viewNotes", fn := fun _ => fun
  | [d] => { results := [.lit (.bool false)], args := [d] }
  | _ => none }
def ViewNotesWrongFalsely : Prop := viewNotesRow.holds Tryd.pinned (OpenSpec.ofChange viewNotesWrong)

/-- 'echelonlaw23.ViewPrints': WHATEVER THE INPUT: true; the input reads as it did. -/
def viewPrintsSpec : ChangeSpec := { name := "viewPrints", fn := fun _ => fun
  | [d] => { results := [.lit (.bool true)], args := [d] }
  | _ => none }
def viewPrintsRow : OpenClaim := { program := "ytflmncjhonmmhaadoor", sum := "5281f5811d18e4d9fc130d615ae9e25e7906f38b7eb48b8eb6ef55eecff5ec77", func := "echelon/echelonlaw23.ViewPrints", spec := "viewPrints", inPlace := ["internal/abi.NoEscape", "internal/bytealg.MakeNoZero"], unfollowed := true, recurses := true, named := ["internal/strconv.uint64pow10", "math/bits.deBruijn32tab", "math/bits.deBruijn64tab"], apart := false, laid := [("math/bits.deBruijn32tab", laid_math_bits_deBruijn32tab), ("math/bits.deBruijn64tab", laid_math_bits_deBruijn64tab), ("internal/strconv.uint64pow10", laid_internal_strconv_uint64pow10)] }
def ViewPrintsSaid : Prop := viewPrintsRow.holds Tryd.pinned (OpenSpec.ofChange viewPrintsSpec)

/-- ITS FALSE NEIGHBOUR: 'it returns false'. Refute it at one input. -/
def viewPrintsWrong : ChangeSpec := { name := "viewPrints", fn := fun _ => fun
  | [d] => { results := [.lit (.bool false)], args := [d] }
  | _ => none }
def ViewPrintsWrongFalsely : Prop := viewPrintsRow.holds Tryd.pinned (OpenSpec.ofChange viewPrintsWrong)

/-- 'echelonlaw03.DigestPieces': WHATEVER THE INPUT: true; the input reads as it did. -/
def digestPiecesSpec : ChangeSpec := { name := "digestPieces", fn := fun _ => fun
  | [d] => { results := [.lit (.bool true)], args := [d] }
  | _ => none }
def digestPiecesRow : OpenClaim := { program := "ytflmncjhonmmhaadoor", sum := "5281f5811d18e4d9fc130d615ae9e25e7906f38b7eb48b8eb6ef55eecff5ec77", func := "echelon/echelonlaw03.DigestPieces", spec := "digestPieces", inPlace := ["internal/abi.NoEscape", "internal/bytealg.MakeNoZero"], named := ["strconv.ErrSyntax", "strconv.ErrRange", "internal/strconv.uint64pow10", "math/bits.deBruijn32tab", "math/bits.deBruijn64tab", "echelon/digest.factors", "echelon/digest.shifts"], apart := false, laid := [("math/bits.deBruijn32tab", laid_math_bits_deBruijn32tab), ("math/bits.deBruijn64tab", laid_math_bits_deBruijn64tab), ("internal/strconv.uint64pow10", laid_internal_strconv_uint64pow10), ("strconv.ErrRange", laid_strconv_ErrRange), ("strconv.ErrSyntax", laid_strconv_ErrSyntax), ("echelon/digest.factors", laid_echelon_digest_factors), ("echelon/digest.shifts", laid_echelon_digest_shifts)] }
def DigestPiecesSaid : Prop := digestPiecesRow.holds Tryd.pinned (OpenSpec.ofChange digestPiecesSpec)

/-- ITS FALSE NEIGHBOUR: 'it returns false'. Refute it at one input. -/
def digestPiecesWrong : ChangeSpec := { name := "digestPieces", fn := fun _ => fun
  | [d] => { results := [.lit (.bool false)], args := [d] }
  | _ => none }
def DigestPiecesWrongFalsely : Prop := digestPiecesRow.holds Tryd.pinned (OpenSpec.ofChange digestPiecesWrong)

/-- 'echelonlaw03.DigestBytes': WHATEVER THE INPUT: true; the input reads as it did. -/
def digestBytesSpec : ChangeSpec := { name := "digestBytes", fn := fun _ => fun
  | [d] => { results := [.lit (.bool true)], args := [d] }
  | _ => none }
def digestBytesRow : OpenClaim := { program := "ytflmncjhonmmhaadoor", sum := "5281f5811d18e4d9fc130d615ae9e25e7906f38b7eb48b8eb6ef55eecff5ec77", func := "echelon/echelonlaw03.DigestBytes", spec := "digestBytes", inPlace := ["internal/abi.NoEscape", "internal/bytealg.MakeNoZero"], unfollowed := true, recurses := true, named := ["strconv.ErrSyntax", "strconv.ErrRange", "internal/strconv.uint64pow10", "math/bits.deBruijn32tab", "math/bits.deBruijn64tab", "echelon/digest.factors", "echelon/digest.shifts"], apart := false, laid := [("math/bits.deBruijn32tab", laid_math_bits_deBruijn32tab), ("math/bits.deBruijn64tab", laid_math_bits_deBruijn64tab), ("internal/strconv.uint64pow10", laid_internal_strconv_uint64pow10), ("strconv.ErrRange", laid_strconv_ErrRange), ("strconv.ErrSyntax", laid_strconv_ErrSyntax), ("echelon/digest.factors", laid_echelon_digest_factors), ("echelon/digest.shifts", laid_echelon_digest_shifts)] }
def DigestBytesSaid : Prop := digestBytesRow.holds Tryd.pinned (OpenSpec.ofChange digestBytesSpec)

/-- ITS FALSE NEIGHBOUR: 'it returns false'. Refute it at one input. -/
def digestBytesWrong : ChangeSpec := { name := "digestBytes", fn := fun _ => fun
  | [d] => { results := [.lit (.bool false)], args := [d] }
  | _ => none }
def DigestBytesWrongFalsely : Prop := digestBytesRow.holds Tryd.pinned (OpenSpec.ofChange digestBytesWrong)

/-- 'echelonlaw03.DigestCuts': WHATEVER THE INPUT: true; the input reads as it did. -/
def digestCutsSpec : ChangeSpec := { name := "digestCuts", fn := fun _ => fun
  | [d1, d2] => { results := [.lit (.bool true)], args := [d1, d2] }
  | _ => none }
def digestCutsRow : OpenClaim := { program := "ytflmncjhonmmhaadoor", sum := "5281f5811d18e4d9fc130d615ae9e25e7906f38b7eb48b8eb6ef55eecff5ec77", func := "echelon/echelonlaw03.DigestCuts", spec := "digestCuts", inPlace := ["internal/abi.NoEscape", "internal/bytealg.MakeNoZero"], unfollowed := true, recurses := true, named := ["strconv.ErrSyntax", "strconv.ErrRange", "internal/strconv.uint64pow10", "math/bits.deBruijn32tab", "math/bits.deBruijn64tab", "echelon/digest.factors", "echelon/digest.shifts"], apart := false, laid := [("math/bits.deBruijn32tab", laid_math_bits_deBruijn32tab), ("math/bits.deBruijn64tab", laid_math_bits_deBruijn64tab), ("internal/strconv.uint64pow10", laid_internal_strconv_uint64pow10), ("strconv.ErrRange", laid_strconv_ErrRange), ("strconv.ErrSyntax", laid_strconv_ErrSyntax), ("echelon/digest.factors", laid_echelon_digest_factors), ("echelon/digest.shifts", laid_echelon_digest_shifts)] }
def DigestCutsSaid : Prop := digestCutsRow.holds Tryd.pinned (OpenSpec.ofChange digestCutsSpec)

/-- ITS FALSE NEIGHBOUR: 'it returns false'. Refute it at one input. -/
def digestCutsWrong : ChangeSpec := { name := "digestCuts", fn := fun _ => fun
  | [d1, d2] => { results := [.lit (.bool false)], args := [d1, d2] }
  | _ => none }
def DigestCutsWrongFalsely : Prop := digestCutsRow.holds Tryd.pinned (OpenSpec.ofChange digestCutsWrong)

/-- 'echelonlaw23.ViewTables': WHATEVER THE INPUT: true; the input reads as it did. -/
def viewTablesSpec : ChangeSpec := { name := "viewTables", fn := fun _ => fun
  | [d] => { results := [.lit (.bool true)], args := [d] }
  | _ => none }
def viewTablesRow : OpenClaim := { program := "ytflmncjhonmmhaadoor", sum := "5281f5811d18e4d9fc130d615ae9e25e7906f38b7eb48b8eb6ef55eecff5ec77", func := "echelon/echelonlaw23.ViewTables", spec := "viewTables", inPlace := ["internal/abi.NoEscape", "internal/bytealg.MakeNoZero"], unfollowed := true, recurses := true, named := ["internal/strconv.uint64pow10", "math/bits.deBruijn32tab", "math/bits.deBruijn64tab"], apart := false, laid := [("math/bits.deBruijn32tab", laid_math_bits_deBruijn32tab), ("math/bits.deBruijn64tab", laid_math_bits_deBruijn64tab), ("internal/strconv.uint64pow10", laid_internal_strconv_uint64pow10)] }
def ViewTablesSaid : Prop := viewTablesRow.holds Tryd.pinned (OpenSpec.ofChange viewTablesSpec)

/-- ITS FALSE NEIGHBOUR: 'it returns false'. Refute it at one input. -/
def viewTablesWrong : ChangeSpec := { name := "viewTables", fn := fun _ => fun
  | [d] => { results := [.lit (.bool false)], args := [d] }
  | _ => none }
def ViewTablesWrongFalsely : Prop := viewTablesRow.holds Tryd.pinned (OpenSpec.ofChange viewTablesWrong)

/-- 'echelonlaw07.VerbChecks': WHATEVER THE INPUT: true; the input reads as it did. -/
def verbChecksSpec : ChangeSpec := { name := "verbChecks", fn := fun _ => fun
  | [d] => { results := [.lit (.bool true)], args := [d] }
  | _ => none }
def verbChecksRow : OpenClaim := { program := "ytflmncjhonmmhaadoor", sum := "5281f5811d18e4d9fc130d615ae9e25e7906f38b7eb48b8eb6ef55eecff5ec77", func := "echelon/echelonlaw07.VerbChecks", spec := "verbChecks", inPlace := ["internal/bytealg.CountString", "internal/bytealg.IndexByteString", "internal/bytealg.IndexString"], unfollowed := true, recurses := true, named := ["unicode/utf8.first", "unicode/utf8.acceptRanges", "internal/bytealg.MaxLen", "strconv.ErrSyntax", "strconv.ErrRange", "internal/strconv.uint64pow10", "math/bits.deBruijn32tab", "math/bits.deBruijn64tab", "echelon/echelonref07.first", "echelon/echelonref07.least", "echelon/echelonref07.most"], apart := false, laid := [("echelon/echelonref07.first", laid_echelon_echelonref07_first), ("echelon/echelonref07.least", laid_echelon_echelonref07_least), ("echelon/echelonref07.most", laid_echelon_echelonref07_most), ("math/bits.deBruijn32tab", laid_math_bits_deBruijn32tab), ("math/bits.deBruijn64tab", laid_math_bits_deBruijn64tab), ("internal/strconv.uint64pow10", laid_internal_strconv_uint64pow10), ("unicode/utf8.acceptRanges", laid_unicode_utf8_acceptRanges), ("strconv.ErrRange", laid_strconv_ErrRange), ("strconv.ErrSyntax", laid_strconv_ErrSyntax), ("unicode/utf8.first", laid_unicode_utf8_first)] }
def VerbChecksSaid : Prop := verbChecksRow.holds Tryd.pinned (OpenSpec.ofChange verbChecksSpec)

/-- ITS FALSE NEIGHBOUR: 'it returns false'. Refute it at one input. -/
def verbChecksWrong : ChangeSpec := { name := "verbChecks", fn := fun _ => fun
  | [d] => { results := [.lit (.bool false)], args := [d] }
  | _ => none }
def VerbChecksWrongFalsely : Prop := verbChecksRow.holds Tryd.pinned (OpenSpec.ofChange verbChecksWrong)

/-- 'echelonlaw07.VerbPrints': WHATEVER THE INPUT: true; the input reads as it did. -/
def verbPrintsSpec : ChangeSpec := { name := "verbPrints", fn := fun _ => fun
  | [d] => { results := [.lit (.bool true)], args := [d] }
  | _ => none }
def verbPrintsRow : OpenClaim := { program := "ytflmncjhonmmhaadoor", sum := "5281f5811d18e4d9fc130d615ae9e25e7906f38b7eb48b8eb6ef55eecff5ec77", func := "echelon/echelonlaw07.VerbPrints", spec := "verbPrints", inPlace := ["internal/bytealg.CountString", "internal/bytealg.IndexByteString", "internal/bytealg.IndexString"], unfollowed := true, recurses := true, named := ["unicode/utf8.first", "unicode/utf8.acceptRanges", "internal/bytealg.MaxLen", "strconv.ErrSyntax", "strconv.ErrRange", "internal/strconv.uint64pow10", "math/bits.deBruijn32tab", "math/bits.deBruijn64tab", "echelon/echelonref07.first", "echelon/echelonref07.least", "echelon/echelonref07.most", "echelon/echelonref07.names"], apart := false, laid := [("echelon/echelonref07.names", laid_echelon_echelonref07_names), ("echelon/echelonref07.first", laid_echelon_echelonref07_first), ("echelon/echelonref07.least", laid_echelon_echelonref07_least), ("echelon/echelonref07.most", laid_echelon_echelonref07_most), ("math/bits.deBruijn32tab", laid_math_bits_deBruijn32tab), ("math/bits.deBruijn64tab", laid_math_bits_deBruijn64tab), ("internal/strconv.uint64pow10", laid_internal_strconv_uint64pow10), ("unicode/utf8.acceptRanges", laid_unicode_utf8_acceptRanges), ("strconv.ErrRange", laid_strconv_ErrRange), ("strconv.ErrSyntax", laid_strconv_ErrSyntax), ("unicode/utf8.first", laid_unicode_utf8_first)] }
def VerbPrintsSaid : Prop := verbPrintsRow.holds Tryd.pinned (OpenSpec.ofChange verbPrintsSpec)

/-- ITS FALSE NEIGHBOUR: 'it returns false'. Refute it at one input. -/
def verbPrintsWrong : ChangeSpec := { name := "verbPrints", fn := fun _ => fun
  | [d] => { results := [.lit (.bool false)], args := [d] }
  | _ => none }
def VerbPrintsWrongFalsely : Prop := verbPrintsRow.holds Tryd.pinned (OpenSpec.ofChange verbPrintsWrong)

/-- 'echelonlaw07.VerbReads': WHATEVER THE INPUT: true; the input reads as it did. -/
def verbReadsSpec : ChangeSpec := { name := "verbReads", fn := fun _ => fun
  | [d] => { results := [.lit (.bool true)], args := [d] }
  | _ => none }
def verbReadsRow : OpenClaim := { program := "ytflmncjhonmmhaadoor", sum := "5281f5811d18e4d9fc130d615ae9e25e7906f38b7eb48b8eb6ef55eecff5ec77", func := "echelon/echelonlaw07.VerbReads", spec := "verbReads", inPlace := ["internal/bytealg.CountString", "internal/bytealg.IndexByteString", "internal/bytealg.IndexString"], unfollowed := true, recurses := true, named := ["unicode/utf8.first", "unicode/utf8.acceptRanges", "internal/bytealg.MaxLen", "strconv.ErrSyntax", "strconv.ErrRange", "internal/strconv.uint64pow10", "math/bits.deBruijn32tab", "math/bits.deBruijn64tab", "echelon/echelonref07.least", "echelon/echelonref07.most", "echelon/echelonref07.names", "echelon/echelonref07.first"], apart := false, laid := [("echelon/echelonref07.names", laid_echelon_echelonref07_names), ("echelon/echelonref07.first", laid_echelon_echelonref07_first), ("echelon/echelonref07.least", laid_echelon_echelonref07_least), ("echelon/echelonref07.most", laid_echelon_echelonref07_most), ("math/bits.deBruijn32tab", laid_math_bits_deBruijn32tab), ("math/bits.deBruijn64tab", laid_math_bits_deBruijn64tab), ("internal/strconv.uint64pow10", laid_internal_strconv_uint64pow10), ("unicode/utf8.acceptRanges", laid_unicode_utf8_acceptRanges), ("strconv.ErrRange", laid_strconv_ErrRange), ("strconv.ErrSyntax", laid_strconv_ErrSyntax), ("unicode/utf8.first", laid_unicode_utf8_first)] }
def VerbReadsSaid : Prop := verbReadsRow.holds Tryd.pinned (OpenSpec.ofChange verbReadsSpec)

/-- ITS FALSE NEIGHBOUR: 'it returns false'. Refute it at one input. -/
def verbReadsWrong : ChangeSpec := { name := "verbReads", fn := fun _ => fun
  | [d] => { results := [.lit (.bool false)], args := [d] }
  | _ => none }
def VerbReadsWrongFalsely : Prop := verbReadsRow.holds Tryd.pinned (OpenSpec.ofChange verbReadsWrong)

/-- 'echelonlaw07.VerbNames': WHATEVER THE INPUT: true; the input reads as it did. -/
def verbNamesSpec : ChangeSpec := { name := "verbNames", fn := fun _ => fun
  | [d] => { results := [.lit (.bool true)], args := [d] }
  | _ => none }
def verbNamesRow : OpenClaim := { program := "ytflmncjhonmmhaadoor", sum := "5281f5811d18e4d9fc130d615ae9e25e7906f38b7eb48b8eb6ef55eecff5ec77", func := "echelon/echelonlaw07.VerbNames", spec := "verbNames", inPlace := ["internal/bytealg.CountString", "internal/bytealg.IndexByteString", "internal/bytealg.IndexString"], unfollowed := true, recurses := true, named := ["unicode/utf8.first", "unicode/utf8.acceptRanges", "internal/bytealg.MaxLen", "strconv.ErrSyntax", "strconv.ErrRange", "internal/strconv.uint64pow10", "math/bits.deBruijn32tab", "math/bits.deBruijn64tab", "echelon/echelonref07.first", "echelon/echelonref07.least", "echelon/echelonref07.most", "echelon/echelonref07.names"], apart := false, laid := [("echelon/echelonref07.names", laid_echelon_echelonref07_names), ("echelon/echelonref07.first", laid_echelon_echelonref07_first), ("echelon/echelonref07.least", laid_echelon_echelonref07_least), ("echelon/echelonref07.most", laid_echelon_echelonref07_most), ("math/bits.deBruijn32tab", laid_math_bits_deBruijn32tab), ("math/bits.deBruijn64tab", laid_math_bits_deBruijn64tab), ("internal/strconv.uint64pow10", laid_internal_strconv_uint64pow10), ("unicode/utf8.acceptRanges", laid_unicode_utf8_acceptRanges), ("strconv.ErrRange", laid_strconv_ErrRange), ("strconv.ErrSyntax", laid_strconv_ErrSyntax), ("unicode/utf8.first", laid_unicode_utf8_first)] }
def VerbNamesSaid : Prop := verbNamesRow.holds Tryd.pinned (OpenSpec.ofChange verbNamesSpec)

/-- ITS FALSE NEIGHBOUR: 'it returns false'. Refute it at one input. -/
def verbNamesWrong : ChangeSpec := { name := "verbNames", fn := fun _ => fun
  | [d] => { results := [.lit (.bool false)], args := [d] }
  | _ => none }
def VerbNamesWrongFalsely : Prop := verbNamesRow.holds Tryd.pinned (OpenSpec.ofChange verbNamesWrong)

/-- 'echelonlaw07.VerbRanges': WHATEVER THE INPUT: true; the input reads as it did. -/
def verbRangesSpec : ChangeSpec := { name := "verbRanges", fn := fun _ => fun
  | [d] => { results := [.lit (.bool true)], args := [d] }
  | _ => none }
def verbRangesRow : OpenClaim := { program := "ytflmncjhonmmhaadoor", sum := "5281f5811d18e4d9fc130d615ae9e25e7906f38b7eb48b8eb6ef55eecff5ec77", func := "echelon/echelonlaw07.VerbRanges", spec := "verbRanges", inPlace := ["internal/bytealg.CountString", "internal/bytealg.IndexByteString", "internal/bytealg.IndexString"], unfollowed := true, recurses := true, named := ["unicode/utf8.first", "unicode/utf8.acceptRanges", "internal/bytealg.MaxLen", "strconv.ErrSyntax", "strconv.ErrRange", "internal/strconv.uint64pow10", "math/bits.deBruijn32tab", "math/bits.deBruijn64tab"], apart := false, laid := [("math/bits.deBruijn32tab", laid_math_bits_deBruijn32tab), ("math/bits.deBruijn64tab", laid_math_bits_deBruijn64tab), ("internal/strconv.uint64pow10", laid_internal_strconv_uint64pow10), ("unicode/utf8.acceptRanges", laid_unicode_utf8_acceptRanges), ("strconv.ErrRange", laid_strconv_ErrRange), ("strconv.ErrSyntax", laid_strconv_ErrSyntax), ("unicode/utf8.first", laid_unicode_utf8_first)] }
def VerbRangesSaid : Prop := verbRangesRow.holds Tryd.pinned (OpenSpec.ofChange verbRangesSpec)

/-- ITS FALSE NEIGHBOUR: 'it returns false'. Refute it at one input. -/
def verbRangesWrong : ChangeSpec := { name := "verbRanges", fn := fun _ => fun
  | [d] => { results := [.lit (.bool false)], args := [d] }
  | _ => none }
def VerbRangesWrongFalsely : Prop := verbRangesRow.holds Tryd.pinned (OpenSpec.ofChange verbRangesWrong)

/- THE SECOND FORM. 'bulk': how many values and letters a reading holds, each counted each time it is reached (what is shared counts as often as it is met; a slice's spare places count too). A statement '..UptoSaid' is the law's where the arguments, and the package variables that the reading takes, are together of bulk at most 1048576: NARROWER than '..Said'. Prove '..Said' where nothing that the law and all that it calls make is longer than what came in: it says more and counts as full. Else prove '..UptoSaid'. A law counts once. -/
mutual
def uptoBulk {H : Type} : DataW H → Nat
  | .lit (.string bytes) => bytes.length + 1
  | .lit _ => 1
  | .nil => 1
  | .ptr d => uptoBulk d + 1
  | .slice elems spare => uptoBulkAll elems + uptoBulkAll spare + 1
  | .agg parts => uptoBulkAll parts + 1
  | .iface _ d => uptoBulk d + 1
  | .map entries => uptoBulkEntries entries + 1
  | .held _ => 1
def uptoBulkAll {H : Type} : List (DataW H) → Nat
  | [] => 0
  | d :: r => uptoBulk d + uptoBulkAll r
def uptoBulkEntries {H : Type} : List (Lit × DataW H) → Nat
  | [] => 0
  | x :: r => uptoBulkEntry x + uptoBulkEntries r
def uptoBulkEntry {H : Type} : Lit × DataW H → Nat
  | (.string bytes, d) => bytes.length + uptoBulk d + 1
  | (_, d) => uptoBulk d + 1
 end
def uptoSmall : (H : Type) → List (DataW H) → Bool := fun _ ds => decide (uptoBulkAll ds ≤ 1048576)
def OpenSpec.upto (s : _root_.Go.ChangeSpec) : _root_.Go.OpenSpec := { _root_.Go.OpenSpec.ofChange s with cond := some uptoSmall }

/-- 'echelonlaw23.ViewCorrects', WHERE WHAT IT READS IS OF BULK AT MOST 1048576: true; the input reads as it did. -/
def viewCorrectsUptoRow : OpenClaim := { program := "ytflmncjhonmmhaadoor", sum := "5281f5811d18e4d9fc130d615ae9e25e7906f38b7eb48b8eb6ef55eecff5ec77", func := "echelon/echelonlaw23.ViewCorrects", spec := "viewCorrects", inPlace := ["internal/abi.NoEscape", "internal/bytealg.MakeNoZero"], unfollowed := true, recurses := true, named := ["internal/strconv.uint64pow10", "math/bits.deBruijn32tab", "math/bits.deBruijn64tab"], apart := false, laid := [("math/bits.deBruijn32tab", laid_math_bits_deBruijn32tab), ("math/bits.deBruijn64tab", laid_math_bits_deBruijn64tab), ("internal/strconv.uint64pow10", laid_internal_strconv_uint64pow10)], narrowed := true }
def ViewCorrectsUptoSaid : Prop := viewCorrectsUptoRow.holds Tryd.pinned (OpenSpec.upto viewCorrectsSpec)

/-- 'echelonlaw23.ViewTurns', WHERE WHAT IT READS IS OF BULK AT MOST 1048576: true; the input reads as it did. -/
def viewTurnsUptoRow : OpenClaim := { program := "ytflmncjhonmmhaadoor", sum := "5281f5811d18e4d9fc130d615ae9e25e7906f38b7eb48b8eb6ef55eecff5ec77", func := "echelon/echelonlaw23.ViewTurns", spec := "viewTurns", inPlace := ["internal/abi.NoEscape", "internal/bytealg.MakeNoZero"], unfollowed := true, recurses := true, named := ["internal/strconv.uint64pow10", "math/bits.deBruijn32tab", "math/bits.deBruijn64tab"], apart := false, laid := [("math/bits.deBruijn32tab", laid_math_bits_deBruijn32tab), ("math/bits.deBruijn64tab", laid_math_bits_deBruijn64tab), ("internal/strconv.uint64pow10", laid_internal_strconv_uint64pow10)], narrowed := true }
def ViewTurnsUptoSaid : Prop := viewTurnsUptoRow.holds Tryd.pinned (OpenSpec.upto viewTurnsSpec)

/-- 'echelonlaw23.ViewNotes', WHERE WHAT IT READS IS OF BULK AT MOST 1048576: true; the input reads as it did. -/
def viewNotesUptoRow : OpenClaim := { program := "ytflmncjhonmmhaadoor", sum := "5281f5811d18e4d9fc130d615ae9e25e7906f38b7eb48b8eb6ef55eecff5ec77", func := "echelon/echelonlaw23.ViewNotes", spec := "viewNotes", inPlace := ["internal/abi.NoEscape", "internal/bytealg.MakeNoZero"], unfollowed := true, recurses := true, named := ["internal/strconv.uint64pow10", "math/bits.deBruijn32tab", "math/bits.deBruijn64tab"], apart := false, laid := [("math/bits.deBruijn32tab", laid_math_bits_deBruijn32tab), ("math/bits.deBruijn64tab", laid_math_bits_deBruijn64tab), ("internal/strconv.uint64pow10", laid_internal_strconv_uint64pow10)], narrowed := true }
def ViewNotesUptoSaid : Prop := viewNotesUptoRow.holds Tryd.pinned (OpenSpec.upto viewNotesSpec)

/-- 'echelonlaw23.ViewPrints', WHERE WHAT IT READS IS OF BULK AT MOST 1048576: true; the input reads as it did. -/
def viewPrintsUptoRow : OpenClaim := { program := "ytflmncjhonmmhaadoor", sum := "5281f5811d18e4d9fc130d615ae9e25e7906f38b7eb48b8eb6ef55eecff5ec77", func := "echelon/echelonlaw23.ViewPrints", spec := "viewPrints", inPlace := ["internal/abi.NoEscape", "internal/bytealg.MakeNoZero"], unfollowed := true, recurses := true, named := ["internal/strconv.uint64pow10", "math/bits.deBruijn32tab", "math/bits.deBruijn64tab"], apart := false, laid := [("math/bits.deBruijn32tab", laid_math_bits_deBruijn32tab), ("math/bits.deBruijn64tab", laid_math_bits_deBruijn64tab), ("internal/strconv.uint64pow10", laid_internal_strconv_uint64pow10)], narrowed := true }
def ViewPrintsUptoSaid : Prop := viewPrintsUptoRow.holds Tryd.pinned (OpenSpec.upto viewPrintsSpec)

/-- 'echelonlaw03.DigestPieces', WHERE WHAT IT READS IS OF BULK AT MOST 1048576: true; the input reads as it did. -/
def digestPiecesUptoRow : OpenClaim := { program := "ytflmncjhonmmhaadoor", sum := "5281f5811d18e4d9fc130d615ae9e25e7906f38b7eb48b8eb6ef55eecff5ec77", func := "echelon/echelonlaw03.DigestPieces", spec := "digestPieces", inPlace := ["internal/abi.NoEscape", "internal/bytealg.MakeNoZero"], named := ["strconv.ErrSyntax", "strconv.ErrRange", "internal/strconv.uint64pow10", "math/bits.deBruijn32tab", "math/bits.deBruijn64tab", "echelon/digest.factors", "echelon/digest.shifts"], apart := false, laid := [("math/bits.deBruijn32tab", laid_math_bits_deBruijn32tab), ("math/bits.deBruijn64tab", laid_math_bits_deBruijn64tab), ("internal/strconv.uint64pow10", laid_internal_strconv_uint64pow10), ("strconv.ErrRange", laid_strconv_ErrRange), ("strconv.ErrSyntax", laid_strconv_ErrSyntax), ("echelon/digest.factors", laid_echelon_digest_factors), ("echelon/digest.shifts", laid_echelon_digest_shifts)], narrowed := true }
def DigestPiecesUptoSaid : Prop := digestPiecesUptoRow.holds Tryd.pinned (OpenSpec.upto digestPiecesSpec)

/-- 'echelonlaw03.DigestBytes', WHERE WHAT IT READS IS OF BULK AT MOST 1048576: true; the input reads as it did. -/
def digestBytesUptoRow : OpenClaim := { program := "ytflmncjhonmmhaadoor", sum := "5281f5811d18e4d9fc130d615ae9e25e7906f38b7eb48b8eb6ef55eecff5ec77", func := "echelon/echelonlaw03.DigestBytes", spec := "digestBytes", inPlace := ["internal/abi.NoEscape", "internal/bytealg.MakeNoZero"], unfollowed := true, recurses := true, named := ["strconv.ErrSyntax", "strconv.ErrRange", "internal/strconv.uint64pow10", "math/bits.deBruijn32tab", "math/bits.deBruijn64tab", "echelon/digest.factors", "echelon/digest.shifts"], apart := false, laid := [("math/bits.deBruijn32tab", laid_math_bits_deBruijn32tab), ("math/bits.deBruijn64tab", laid_math_bits_deBruijn64tab), ("internal/strconv.uint64pow10", laid_internal_strconv_uint64pow10), ("strconv.ErrRange", laid_strconv_ErrRange), ("strconv.ErrSyntax", laid_strconv_ErrSyntax), ("echelon/digest.factors", laid_echelon_digest_factors), ("echelon/digest.shifts", laid_echelon_digest_shifts)], narrowed := true }
def DigestBytesUptoSaid : Prop := digestBytesUptoRow.holds Tryd.pinned (OpenSpec.upto digestBytesSpec)

/-- 'echelonlaw03.DigestCuts', WHERE WHAT IT READS IS OF BULK AT MOST 1048576: true; the input reads as it did. -/
def digestCutsUptoRow : OpenClaim := { program := "ytflmncjhonmmhaadoor", sum := "5281f5811d18e4d9fc130d615ae9e25e7906f38b7eb48b8eb6ef55eecff5ec77", func := "echelon/echelonlaw03.DigestCuts", spec := "digestCuts", inPlace := ["internal/abi.NoEscape", "internal/bytealg.MakeNoZero"], unfollowed := true, recurses := true, named := ["strconv.ErrSyntax", "strconv.ErrRange", "internal/strconv.uint64pow10", "math/bits.deBruijn32tab", "math/bits.deBruijn64tab", "echelon/digest.factors", "echelon/digest.shifts"], apart := false, laid := [("math/bits.deBruijn32tab", laid_math_bits_deBruijn32tab), ("math/bits.deBruijn64tab", laid_math_bits_deBruijn64tab), ("internal/strconv.uint64pow10", laid_internal_strconv_uint64pow10), ("strconv.ErrRange", laid_strconv_ErrRange), ("strconv.ErrSyntax", laid_strconv_ErrSyntax), ("echelon/digest.factors", laid_echelon_digest_factors), ("echelon/digest.shifts", laid_echelon_digest_shifts)], narrowed := true }
def DigestCutsUptoSaid : Prop := digestCutsUptoRow.holds Tryd.pinned (OpenSpec.upto digestCutsSpec)

/-- 'echelonlaw23.ViewTables', WHERE WHAT IT READS IS OF BULK AT MOST 1048576: true; the input reads as it did. -/
def viewTablesUptoRow : OpenClaim := { program := "ytflmncjhonmmhaadoor", sum := "5281f5811d18e4d9fc130d615ae9e25e7906f38b7eb48b8eb6ef55eecff5ec77", func := "echelon/echelonlaw23.ViewTables", spec := "viewTables", inPlace := ["internal/abi.NoEscape", "internal/bytealg.MakeNoZero"], unfollowed := true, recurses := true, named := ["internal/strconv.uint64pow10", "math/bits.deBruijn32tab", "math/bits.deBruijn64tab"], apart := false, laid := [("math/bits.deBruijn32tab", laid_math_bits_deBruijn32tab), ("math/bits.deBruijn64tab", laid_math_bits_deBruijn64tab), ("internal/strconv.uint64pow10", laid_internal_strconv_uint64pow10)], narrowed := true }
def ViewTablesUptoSaid : Prop := viewTablesUptoRow.holds Tryd.pinned (OpenSpec.upto viewTablesSpec)

/-- 'echelonlaw07.VerbChecks', WHERE WHAT IT READS IS OF BULK AT MOST 1048576: true; the input reads as it did. -/
def verbChecksUptoRow : OpenClaim := { program := "ytflmncjhonmmhaadoor", sum := "5281f5811d18e4d9fc130d615ae9e25e7906f38b7eb48b8eb6ef55eecff5ec77", func := "echelon/echelonlaw07.VerbChecks", spec := "verbChecks", inPlace := ["internal/bytealg.CountString", "internal/bytealg.IndexByteString", "internal/bytealg.IndexString"], unfollowed := true, recurses := true, named := ["unicode/utf8.first", "unicode/utf8.acceptRanges", "internal/bytealg.MaxLen", "strconv.ErrSyntax", "strconv.ErrRange", "internal/strconv.uint64pow10", "math/bits.deBruijn32tab", "math/bits.deBruijn64tab", "echelon/echelonref07.first", "echelon/echelonref07.least", "echelon/echelonref07.most"], apart := false, laid := [("echelon/echelonref07.first", laid_echelon_echelonref07_first), ("echelon/echelonref07.least", laid_echelon_echelonref07_least), ("echelon/echelonref07.most", laid_echelon_echelonref07_most), ("math/bits.deBruijn32tab", laid_math_bits_deBruijn32tab), ("math/bits.deBruijn64tab", laid_math_bits_deBruijn64tab), ("internal/strconv.uint64pow10", laid_internal_strconv_uint64pow10), ("unicode/utf8.acceptRanges", laid_unicode_utf8_acceptRanges), ("strconv.ErrRange", laid_strconv_ErrRange), ("strconv.ErrSyntax", laid_strconv_ErrSyntax), ("unicode/utf8.first", laid_unicode_utf8_first)], narrowed := true }
def VerbChecksUptoSaid : Prop := verbChecksUptoRow.holds Tryd.pinned (OpenSpec.upto verbChecksSpec)

/-- 'echelonlaw07.VerbPrints', WHERE WHAT IT READS IS OF BULK AT MOST 1048576: true; the input reads as it did. -/
def verbPrintsUptoRow : OpenClaim := { program := "ytflmncjhonmmhaadoor", sum := "5281f5811d18e4d9fc130d615ae9e25e7906f38b7eb48b8eb6ef55eecff5ec77", func := "echelon/echelonlaw07.VerbPrints", spec := "verbPrints", inPlace := ["internal/bytealg.CountString", "internal/bytealg.IndexByteString", "internal/bytealg.IndexString"], unfollowed := true, recurses := true, named := ["unicode/utf8.first", "unicode/utf8.acceptRanges", "internal/bytealg.MaxLen", "strconv.ErrSyntax", "strconv.ErrRange", "internal/strconv.uint64pow10", "math/bits.deBruijn32tab", "math/bits.deBruijn64tab", "echelon/echelonref07.first", "echelon/echelonref07.least", "echelon/echelonref07.most", "echelon/echelonref07.names"], apart := false, laid := [("echelon/echelonref07.names", laid_echelon_echelonref07_names), ("echelon/echelonref07.first", laid_echelon_echelonref07_first), ("echelon/echelonref07.least", laid_echelon_echelonref07_least), ("echelon/echelonref07.most", laid_echelon_echelonref07_most), ("math/bits.deBruijn32tab", laid_math_bits_deBruijn32tab), ("math/bits.deBruijn64tab", laid_math_bits_deBruijn64tab), ("internal/strconv.uint64pow10", laid_internal_strconv_uint64pow10), ("unicode/utf8.acceptRanges", laid_unicode_utf8_acceptRanges), ("strconv.ErrRange", laid_strconv_ErrRange), ("strconv.ErrSyntax", laid_strconv_ErrSyntax), ("unicode/utf8.first", laid_unicode_utf8_first)], narrowed := true }
def VerbPrintsUptoSaid : Prop := verbPrintsUptoRow.holds Tryd.pinned (OpenSpec.upto verbPrintsSpec)

/-- 'echelonlaw07.VerbReads', WHERE WHAT IT READS IS OF BULK AT MOST 1048576: true; the input reads as it did. -/
def verbReadsUptoRow : OpenClaim := { program := "ytflmncjhonmmhaadoor", sum := "5281f5811d18e4d9fc130d615ae9e25e7906f38b7eb48b8eb6ef55eecff5ec77", func := "echelon/echelonlaw07.VerbReads", spec := "verbReads", inPlace := ["internal/bytealg.CountString", "internal/bytealg.IndexByteString", "internal/bytealg.IndexString"], unfollowed := true, recurses := true, named := ["unicode/utf8.first", "unicode/utf8.acceptRanges", "internal/bytealg.MaxLen", "strconv.ErrSyntax", "strconv.ErrRange", "internal/strconv.uint64pow10", "math/bits.deBruijn32tab", "math/bits.deBruijn64tab", "echelon/echelonref07.least", "echelon/echelonref07.most", "echelon/echelonref07.names", "echelon/echelonref07.first"], apart := false, laid := [("echelon/echelonref07.names", laid_echelon_echelonref07_names), ("echelon/echelonref07.first", laid_echelon_echelonref07_first), ("echelon/echelonref07.least", laid_echelon_echelonref07_least), ("echelon/echelonref07.most", laid_echelon_echelonref07_most), ("math/bits.deBruijn32tab", laid_math_bits_deBruijn32tab), ("math/bits.deBruijn64tab", laid_math_bits_deBruijn64tab), ("internal/strconv.uint64pow10", laid_internal_strconv_uint64pow10), ("unicode/utf8.acceptRanges", laid_unicode_utf8_acceptRanges), ("strconv.ErrRange", laid_strconv_ErrRange), ("strconv.ErrSyntax", laid_strconv_ErrSyntax), ("unicode/utf8.first", laid_unicode_utf8_first)], narrowed := true }
def VerbReadsUptoSaid : Prop := verbReadsUptoRow.holds Tryd.pinned (OpenSpec.upto verbReadsSpec)

/-- 'echelonlaw07.VerbNames', WHERE WHAT IT READS IS OF BULK AT MOST 1048576: true; the input reads as it did. -/
def verbNamesUptoRow : OpenClaim := { program := "ytflmncjhonmmhaadoor", sum := "5281f5811d18e4d9fc130d615ae9e25e7906f38b7eb48b8eb6ef55eecff5ec77", func := "echelon/echelonlaw07.VerbNames", spec := "verbNames", inPlace := ["internal/bytealg.CountString", "internal/bytealg.IndexByteString", "internal/bytealg.IndexString"], unfollowed := true, recurses := true, named := ["unicode/utf8.first", "unicode/utf8.acceptRanges", "internal/bytealg.MaxLen", "strconv.ErrSyntax", "strconv.ErrRange", "internal/strconv.uint64pow10", "math/bits.deBruijn32tab", "math/bits.deBruijn64tab", "echelon/echelonref07.first", "echelon/echelonref07.least", "echelon/echelonref07.most", "echelon/echelonref07.names"], apart := false, laid := [("echelon/echelonref07.names", laid_echelon_echelonref07_names), ("echelon/echelonref07.first", laid_echelon_echelonref07_first), ("echelon/echelonref07.least", laid_echelon_echelonref07_least), ("echelon/echelonref07.most", laid_echelon_echelonref07_most), ("math/bits.deBruijn32tab", laid_math_bits_deBruijn32tab), ("math/bits.deBruijn64tab", laid_math_bits_deBruijn64tab), ("internal/strconv.uint64pow10", laid_internal_strconv_uint64pow10), ("unicode/utf8.acceptRanges", laid_unicode_utf8_acceptRanges), ("strconv.ErrRange", laid_strconv_ErrRange), ("strconv.ErrSyntax", laid_strconv_ErrSyntax), ("unicode/utf8.first", laid_unicode_utf8_first)], narrowed := true }
def VerbNamesUptoSaid : Prop := verbNamesUptoRow.holds Tryd.pinned (OpenSpec.upto verbNamesSpec)

/-- 'echelonlaw07.VerbRanges', WHERE WHAT IT READS IS OF BULK AT MOST 1048576: true; the input reads as it did. -/
def verbRangesUptoRow : OpenClaim := { program := "ytflmncjhonmmhaadoor", sum := "5281f5811d18e4d9fc130d615ae9e25e7906f38b7eb48b8eb6ef55eecff5ec77", func := "echelon/echelonlaw07.VerbRanges", spec := "verbRanges", inPlace := ["internal/bytealg.CountString", "internal/bytealg.IndexByteString", "internal/bytealg.IndexString"], unfollowed := true, recurses := true, named := ["unicode/utf8.first", "unicode/utf8.acceptRanges", "internal/bytealg.MaxLen", "strconv.ErrSyntax", "strconv.ErrRange", "internal/strconv.uint64pow10", "math/bits.deBruijn32tab", "math/bits.deBruijn64tab"], apart := false, laid := [("math/bits.deBruijn32tab", laid_math_bits_deBruijn32tab), ("math/bits.deBruijn64tab", laid_math_bits_deBruijn64tab), ("internal/strconv.uint64pow10", laid_internal_strconv_uint64pow10), ("unicode/utf8.acceptRanges", laid_unicode_utf8_acceptRanges), ("strconv.ErrRange", laid_strconv_ErrRange), ("strconv.ErrSyntax", laid_strconv_ErrSyntax), ("unicode/utf8.first", laid_unicode_utf8_first)], narrowed := true }
def VerbRangesUptoSaid : Prop := verbRangesUptoRow.holds Tryd.pinned (OpenSpec.upto verbRangesSpec)

end Rows
end Go.Proofs.YtflmncjhonmmhaaDoor
