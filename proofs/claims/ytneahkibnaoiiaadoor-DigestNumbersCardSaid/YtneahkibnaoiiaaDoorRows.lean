/-
  NARROWER THAN 'FOR EVERY INPUT', by the rows' own cells (each row's printed sentence says how): ViewCorrects: laid · ViewTurns: laid · ViewNotes: laid · ViewPrints: laid · DigestReads: laid · DigestUnlike: laid · DigestNumbers: laid · DigestPieces: laid · DigestBytes: laid · DigestCuts: laid · ViewTables: laid.
  DERIVED. THE GIVEN ROWS OF THIS SEAT. 11 by the template 'for every input the law returns true; each argument reads behind the call as it read before'; 0 by the template 'total and deterministic' (their statements: YtneahkibnaoiiaaDoorTotals.lean).
  GIVEN WITH THE SEED: the statements are not yours to turn. If you find one false, say at which input.
  Laid BY PROGRAM, IN A SANDBOX (cutbox-rows.mjs): the forced cells as the released guide's own fill.sh prints them over the translation 87a23d9e5f7990c2… (all of the seat's roots in one cut). By AI agents, Wed Nov 11 2026. No macro, syntax, notation, axiom, sorry.
-/
import Derived.Test.YtneahkibnaoiiaaDoorChecked
import GoSem.Claim
import GoSem.ClaimJoined
import GoSem.ClaimMapViews
import Derived.JoinedTies
import Derived.KernelRfl
namespace Go.Proofs.YtneahkibnaoiiaaDoor
/- THE CELL 'sum', in the pinned program and in every row, IS THE sha256 OF THE DUMP (.gsa) THAT YtneahkibnaoiiaaDoorProg.lean LOADS. Nothing in Lean hashes anything: it is a label: what it is worth is what the hold of that sum in a sandbox is worth. -/
noncomputable def Tryd.pinned : Pinned := { name := "ytneahkibnaoiiaadoor", sum := "87a23d9e5f7990c24fc76e723eb840c55bf183a1b8a68d5f356ae9178590c265", checked := Tryd.checked }
namespace Rows
def none {H : Type} : Left H := { results := [], args := [] }

/- WHAT THE LISTED PACKAGE-LEVEL VARIABLES READ AS WHEN THE CALL BEGINS. Each datum BY PROGRAM (the guide's laid-datum.mjs) off the statement by which the dump's own 'gosem.cut.vars' lays the variable. In a bare row this is a premise. The card (YtneahkibnaoiiaaDoorCards.lean) ties it to the program's text. -/
def laid_math_bits_deBruijn32tab {H : Type} : DataW H := .agg [.lit (.int .u8 0), .lit (.int .u8 1), .lit (.int .u8 28), .lit (.int .u8 2), .lit (.int .u8 29), .lit (.int .u8 14), .lit (.int .u8 24), .lit (.int .u8 3), .lit (.int .u8 30), .lit (.int .u8 22), .lit (.int .u8 20), .lit (.int .u8 15), .lit (.int .u8 25), .lit (.int .u8 17), .lit (.int .u8 4), .lit (.int .u8 8), .lit (.int .u8 31), .lit (.int .u8 27), .lit (.int .u8 13), .lit (.int .u8 23), .lit (.int .u8 21), .lit (.int .u8 19), .lit (.int .u8 16), .lit (.int .u8 7), .lit (.int .u8 26), .lit (.int .u8 12), .lit (.int .u8 18), .lit (.int .u8 6), .lit (.int .u8 11), .lit (.int .u8 5), .lit (.int .u8 10), .lit (.int .u8 9)]
def laid_math_bits_deBruijn64tab {H : Type} : DataW H := .agg [.lit (.int .u8 0), .lit (.int .u8 1), .lit (.int .u8 56), .lit (.int .u8 2), .lit (.int .u8 57), .lit (.int .u8 49), .lit (.int .u8 28), .lit (.int .u8 3), .lit (.int .u8 61), .lit (.int .u8 58), .lit (.int .u8 42), .lit (.int .u8 50), .lit (.int .u8 38), .lit (.int .u8 29), .lit (.int .u8 17), .lit (.int .u8 4), .lit (.int .u8 62), .lit (.int .u8 47), .lit (.int .u8 59), .lit (.int .u8 36), .lit (.int .u8 45), .lit (.int .u8 43), .lit (.int .u8 51), .lit (.int .u8 22), .lit (.int .u8 53), .lit (.int .u8 39), .lit (.int .u8 33), .lit (.int .u8 30), .lit (.int .u8 24), .lit (.int .u8 18), .lit (.int .u8 12), .lit (.int .u8 5), .lit (.int .u8 63), .lit (.int .u8 55), .lit (.int .u8 48), .lit (.int .u8 27), .lit (.int .u8 60), .lit (.int .u8 41), .lit (.int .u8 37), .lit (.int .u8 16), .lit (.int .u8 46), .lit (.int .u8 35), .lit (.int .u8 44), .lit (.int .u8 21), .lit (.int .u8 52), .lit (.int .u8 32), .lit (.int .u8 23), .lit (.int .u8 11), .lit (.int .u8 54), .lit (.int .u8 26), .lit (.int .u8 40), .lit (.int .u8 15), .lit (.int .u8 34), .lit (.int .u8 20), .lit (.int .u8 31), .lit (.int .u8 10), .lit (.int .u8 25), .lit (.int .u8 14), .lit (.int .u8 19), .lit (.int .u8 9), .lit (.int .u8 13), .lit (.int .u8 8), .lit (.int .u8 7), .lit (.int .u8 6)]
def laid_internal_strconv_uint64pow10 {H : Type} : DataW H := .agg [.lit (.int .u64 1), .lit (.int .u64 10), .lit (.int .u64 100), .lit (.int .u64 1000), .lit (.int .u64 10000), .lit (.int .u64 100000), .lit (.int .u64 1000000), .lit (.int .u64 10000000), .lit (.int .u64 100000000), .lit (.int .u64 1000000000), .lit (.int .u64 10000000000), .lit (.int .u64 100000000000), .lit (.int .u64 1000000000000), .lit (.int .u64 10000000000000), .lit (.int .u64 100000000000000), .lit (.int .u64 1000000000000000), .lit (.int .u64 10000000000000000), .lit (.int .u64 100000000000000000), .lit (.int .u64 1000000000000000000), .lit (.int .u64 10000000000000000000)]
def laid_strconv_ErrRange {H : Type} : DataW H := .iface "*errors.errorString" (.ptr (.agg [.lit (.string [118, 97, 108, 117, 101, 32, 111, 117, 116, 32, 111, 102, 32, 114, 97, 110, 103, 101])]))
def laid_strconv_ErrSyntax {H : Type} : DataW H := .iface "*errors.errorString" (.ptr (.agg [.lit (.string [105, 110, 118, 97, 108, 105, 100, 32, 115, 121, 110, 116, 97, 120])]))
def laid_echelon_digest_factors {H : Type} : DataW H := .agg [.lit (.int .u64 13787848793156543929), .lit (.int .u64 10723151780598845931)]
def laid_echelon_digest_shifts {H : Type} : DataW H := .agg [.lit (.int .i64 30), .lit (.int .i64 27), .lit (.int .i64 31)]

/-- 'echelonlaw23.ViewCorrects': WHATEVER THE INPUT: true; the input reads as it did. -/
def viewCorrectsSpec : ChangeSpec := { name := "viewCorrects", fn := fun _ => fun
  | [d1, d2] => { results := [.lit (.bool true)], args := [d1, d2] }
  | _ => none }
def viewCorrectsRow : OpenClaim := { program := "ytneahkibnaoiiaadoor", sum := "87a23d9e5f7990c24fc76e723eb840c55bf183a1b8a68d5f356ae9178590c265", func := "echelon/echelonlaw23.ViewCorrects", spec := "viewCorrects", inPlace := ["internal/abi.NoEscape", "internal/bytealg.MakeNoZero"], unfollowed := true, recurses := true, named := ["internal/strconv.uint64pow10", "math/bits.deBruijn32tab", "math/bits.deBruijn64tab"], apart := false, laid := [("math/bits.deBruijn32tab", laid_math_bits_deBruijn32tab), ("math/bits.deBruijn64tab", laid_math_bits_deBruijn64tab), ("internal/strconv.uint64pow10", laid_internal_strconv_uint64pow10)] }
def ViewCorrectsSaid : Prop := viewCorrectsRow.holds Tryd.pinned (OpenSpec.ofChange viewCorrectsSpec)

/-- ITS FALSE NEIGHBOUR: 'it returns false'. Refute it at one input. -/
def viewCorrectsWrong : ChangeSpec := { name := "viewCorrects", fn := fun _ => fun
  | [d1, d2] => { results := [.lit (.bool false)], args := [d1, d2] }
  | _ => none }
def ViewCorrectsWrongFalsely : Prop := viewCorrectsRow.holds Tryd.pinned (OpenSpec.ofChange viewCorrectsWrong)

/-- 'echelonlaw23.ViewTurns': WHATEVER THE INPUT: true; the input reads as it did. -/
def viewTurnsSpec : ChangeSpec := { name := "viewTurns", fn := fun _ => fun
  | [d1, d2] => { results := [.lit (.bool true)], args := [d1, d2] }
  | _ => none }
def viewTurnsRow : OpenClaim := { program := "ytneahkibnaoiiaadoor", sum := "87a23d9e5f7990c24fc76e723eb840c55bf183a1b8a68d5f356ae9178590c265", func := "echelon/echelonlaw23.ViewTurns", spec := "viewTurns", inPlace := ["internal/abi.NoEscape", "internal/bytealg.MakeNoZero"], unfollowed := true, recurses := true, named := ["internal/strconv.uint64pow10", "math/bits.deBruijn32tab", "math/bits.deBruijn64tab"], apart := false, laid := [("math/bits.deBruijn32tab", laid_math_bits_deBruijn32tab), ("math/bits.deBruijn64tab", laid_math_bits_deBruijn64tab), ("internal/strconv.uint64pow10", laid_internal_strconv_uint64pow10)] }
def ViewTurnsSaid : Prop := viewTurnsRow.holds Tryd.pinned (OpenSpec.ofChange viewTurnsSpec)

/-- ITS FALSE NEIGHBOUR: 'it returns false'. Refute it at one input. -/
def viewTurnsWrong : ChangeSpec := { name := "viewTurns", fn := fun _ => fun
  | [d1, d2] => { results := [.lit (.bool false)], args := [d1, d2] }
  | _ => none }
def ViewTurnsWrongFalsely : Prop := viewTurnsRow.holds Tryd.pinned (OpenSpec.ofChange viewTurnsWrong)

/-- 'echelonlaw23.ViewNotes': WHATEVER THE INPUT: true; the input reads as it did. -/
def viewNotesSpec : ChangeSpec := { name := "viewNotes", fn := fun _ => fun
  | [d] => { results := [.lit (.bool true)], args := [d] }
  | _ => none }
def viewNotesRow : OpenClaim := { program := "ytneahkibnaoiiaadoor", sum := "87a23d9e5f7990c24fc76e723eb840c55bf183a1b8a68d5f356ae9178590c265", func := "echelon/echelonlaw23.ViewNotes", spec := "viewNotes", inPlace := ["internal/abi.NoEscape", "internal/bytealg.MakeNoZero"], unfollowed := true, recurses := true, named := ["internal/strconv.uint64pow10", "math/bits.deBruijn32tab", "math/bits.deBruijn64tab"], apart := false, laid := [("math/bits.deBruijn32tab", laid_math_bits_deBruijn32tab), ("math/bits.deBruijn64tab", laid_math_bits_deBruijn64tab), ("internal/strconv.uint64pow10", laid_internal_strconv_uint64pow10)] }
def ViewNotesSaid : Prop := viewNotesRow.holds Tryd.pinned (OpenSpec.ofChange viewNotesSpec)

/-- ITS FALSE NEIGHBOUR: 'it returns false'. Refute it at one input. -/
def viewNotesWrong : ChangeSpec := { name := "viewNotes", fn := fun _ => fun
  | [d] => { results := [.lit (.bool false)], args := [d] }
  | _ => none }
def ViewNotesWrongFalsely : Prop := viewNotesRow.holds Tryd.pinned (OpenSpec.ofChange viewNotesWrong)

/-- 'echelonlaw23.ViewPrints': WHATEVER THE INPUT: true; the input reads as it did. -/
def viewPrintsSpec : ChangeSpec := { name := "viewPrints", fn := fun _ => fun
  | [d] => { results := [.lit (.bool true)], args := [d] }
  | _ => none }
def viewPrintsRow : OpenClaim := { program := "ytneahkibnaoiiaadoor", sum := "87a23d9e5f7990c24fc76e723eb840c55bf183a1b8a68d5f356ae9178590c265", func := "echelon/echelonlaw23.ViewPrints", spec := "viewPrints", inPlace := ["internal/abi.NoEscape", "internal/bytealg.MakeNoZero"], unfollowed := true, recurses := true, named := ["internal/strconv.uint64pow10", "math/bits.deBruijn32tab", "math/bits.deBruijn64tab"], apart := false, laid := [("math/bits.deBruijn32tab", laid_math_bits_deBruijn32tab), ("math/bits.deBruijn64tab", laid_math_bits_deBruijn64tab), ("internal/strconv.uint64pow10", laid_internal_strconv_uint64pow10)] }
def ViewPrintsSaid : Prop := viewPrintsRow.holds Tryd.pinned (OpenSpec.ofChange viewPrintsSpec)

/-- ITS FALSE NEIGHBOUR: 'it returns false'. Refute it at one input. -/
def viewPrintsWrong : ChangeSpec := { name := "viewPrints", fn := fun _ => fun
  | [d] => { results := [.lit (.bool false)], args := [d] }
  | _ => none }
def ViewPrintsWrongFalsely : Prop := viewPrintsRow.holds Tryd.pinned (OpenSpec.ofChange viewPrintsWrong)

/-- 'echelonlaw03.DigestReads': WHATEVER THE INPUT: true; the input reads as it did. -/
def digestReadsSpec : ChangeSpec := { name := "digestReads", fn := fun _ => fun
  | [d] => { results := [.lit (.bool true)], args := [d] }
  | _ => none }
def digestReadsRow : OpenClaim := { program := "ytneahkibnaoiiaadoor", sum := "87a23d9e5f7990c24fc76e723eb840c55bf183a1b8a68d5f356ae9178590c265", func := "echelon/echelonlaw03.DigestReads", spec := "digestReads", inPlace := ["internal/abi.NoEscape", "internal/bytealg.MakeNoZero"], named := ["strconv.ErrSyntax", "strconv.ErrRange", "internal/strconv.uint64pow10", "math/bits.deBruijn32tab", "math/bits.deBruijn64tab", "echelon/digest.factors", "echelon/digest.shifts"], apart := false, laid := [("math/bits.deBruijn32tab", laid_math_bits_deBruijn32tab), ("math/bits.deBruijn64tab", laid_math_bits_deBruijn64tab), ("internal/strconv.uint64pow10", laid_internal_strconv_uint64pow10), ("strconv.ErrRange", laid_strconv_ErrRange), ("strconv.ErrSyntax", laid_strconv_ErrSyntax), ("echelon/digest.factors", laid_echelon_digest_factors), ("echelon/digest.shifts", laid_echelon_digest_shifts)] }
def DigestReadsSaid : Prop := digestReadsRow.holds Tryd.pinned (OpenSpec.ofChange digestReadsSpec)

/-- ITS FALSE NEIGHBOUR: 'it returns false'. Refute it at one input. -/
def digestReadsWrong : ChangeSpec := { name := "digestReads", fn := fun _ => fun
  | [d] => { results := [.lit (.bool false)], args := [d] }
  | _ => none }
def DigestReadsWrongFalsely : Prop := digestReadsRow.holds Tryd.pinned (OpenSpec.ofChange digestReadsWrong)

/-- 'echelonlaw03.DigestUnlike': WHATEVER THE INPUT: true; the input reads as it did. -/
def digestUnlikeSpec : ChangeSpec := { name := "digestUnlike", fn := fun _ => fun
  | [d1, d2] => { results := [.lit (.bool true)], args := [d1, d2] }
  | _ => none }
def digestUnlikeRow : OpenClaim := { program := "ytneahkibnaoiiaadoor", sum := "87a23d9e5f7990c24fc76e723eb840c55bf183a1b8a68d5f356ae9178590c265", func := "echelon/echelonlaw03.DigestUnlike", spec := "digestUnlike", inPlace := ["internal/abi.NoEscape", "internal/bytealg.MakeNoZero"], named := ["strconv.ErrSyntax", "strconv.ErrRange", "internal/strconv.uint64pow10", "math/bits.deBruijn32tab", "math/bits.deBruijn64tab", "echelon/digest.factors", "echelon/digest.shifts"], apart := false, laid := [("math/bits.deBruijn32tab", laid_math_bits_deBruijn32tab), ("math/bits.deBruijn64tab", laid_math_bits_deBruijn64tab), ("internal/strconv.uint64pow10", laid_internal_strconv_uint64pow10), ("strconv.ErrRange", laid_strconv_ErrRange), ("strconv.ErrSyntax", laid_strconv_ErrSyntax), ("echelon/digest.factors", laid_echelon_digest_factors), ("echelon/digest.shifts", laid_echelon_digest_shifts)] }
def DigestUnlikeSaid : Prop := digestUnlikeRow.holds Tryd.pinned (OpenSpec.ofChange digestUnlikeSpec)

/-- ITS FALSE NEIGHBOUR: 'it returns false'. Refute it at one input. -/
def digestUnlikeWrong : ChangeSpec := { name := "digestUnlike", fn := fun _ => fun
  | [d1, d2] => { results := [.lit (.bool false)], args := [d1, d2] }
  | _ => none }
def DigestUnlikeWrongFalsely : Prop := digestUnlikeRow.holds Tryd.pinned (OpenSpec.ofChange digestUnlikeWrong)

/-- 'echelonlaw03.DigestNumbers': WHATEVER THE INPUT: true; the input reads as it did. -/
def digestNumbersSpec : ChangeSpec := { name := "digestNumbers", fn := fun _ => fun
  | [d1, d2] => { results := [.lit (.bool true)], args := [d1, d2] }
  | _ => none }
def digestNumbersRow : OpenClaim := { program := "ytneahkibnaoiiaadoor", sum := "87a23d9e5f7990c24fc76e723eb840c55bf183a1b8a68d5f356ae9178590c265", func := "echelon/echelonlaw03.DigestNumbers", spec := "digestNumbers", inPlace := ["internal/abi.NoEscape", "internal/bytealg.MakeNoZero"], named := ["strconv.ErrSyntax", "strconv.ErrRange", "internal/strconv.uint64pow10", "math/bits.deBruijn32tab", "math/bits.deBruijn64tab", "echelon/digest.factors", "echelon/digest.shifts"], apart := false, laid := [("math/bits.deBruijn32tab", laid_math_bits_deBruijn32tab), ("math/bits.deBruijn64tab", laid_math_bits_deBruijn64tab), ("internal/strconv.uint64pow10", laid_internal_strconv_uint64pow10), ("strconv.ErrRange", laid_strconv_ErrRange), ("strconv.ErrSyntax", laid_strconv_ErrSyntax), ("echelon/digest.factors", laid_echelon_digest_factors), ("echelon/digest.shifts", laid_echelon_digest_shifts)] }
def DigestNumbersSaid : Prop := digestNumbersRow.holds Tryd.pinned (OpenSpec.ofChange digestNumbersSpec)

/-- ITS FALSE NEIGHBOUR: 'it returns false'. Refute it at one input. -/
def digestNumbersWrong : ChangeSpec := { name := "digestNumbers", fn := fun _ => fun
  | [d1, d2] => { results := [.lit (.bool false)], args := [d1, d2] }
  | _ => none }
def DigestNumbersWrongFalsely : Prop := digestNumbersRow.holds Tryd.pinned (OpenSpec.ofChange digestNumbersWrong)

/-- 'echelonlaw03.DigestPieces': WHATEVER THE INPUT: true; the input reads as it did. -/
def digestPiecesSpec : ChangeSpec := { name := "digestPieces", fn := fun _ => fun
  | [d] => { results := [.lit (.bool true)], args := [d] }
  | _ => none }
def digestPiecesRow : OpenClaim := { program := "ytneahkibnaoiiaadoor", sum := "87a23d9e5f7990c24fc76e723eb840c55bf183a1b8a68d5f356ae9178590c265", func := "echelon/echelonlaw03.DigestPieces", spec := "digestPieces", inPlace := ["internal/abi.NoEscape", "internal/bytealg.MakeNoZero"], named := ["strconv.ErrSyntax", "strconv.ErrRange", "internal/strconv.uint64pow10", "math/bits.deBruijn32tab", "math/bits.deBruijn64tab", "echelon/digest.factors", "echelon/digest.shifts"], apart := false, laid := [("math/bits.deBruijn32tab", laid_math_bits_deBruijn32tab), ("math/bits.deBruijn64tab", laid_math_bits_deBruijn64tab), ("internal/strconv.uint64pow10", laid_internal_strconv_uint64pow10), ("strconv.ErrRange", laid_strconv_ErrRange), ("strconv.ErrSyntax", laid_strconv_ErrSyntax), ("echelon/digest.factors", laid_echelon_digest_factors), ("echelon/digest.shifts", laid_echelon_digest_shifts)] }
def DigestPiecesSaid : Prop := digestPiecesRow.holds Tryd.pinned (OpenSpec.ofChange digestPiecesSpec)

/-- ITS FALSE NEIGHBOUR: 'it returns false'. Refute it at one input. -/
def digestPiecesWrong : ChangeSpec := { name := "digestPieces", fn := fun _ => fun
  | [d] => { results := [.lit (.bool false)], args := [d] }
  | _ => none }
def DigestPiecesWrongFalsely : Prop := digestPiecesRow.holds Tryd.pinned (OpenSpec.ofChange digestPiecesWrong)

/-- 'echelonlaw03.DigestBytes': WHATEVER THE INPUT: true; the input reads as it did. -/
def digestBytesSpec : ChangeSpec := { name := "digestBytes", fn := fun _ => fun
  | [d] => { results := [.lit (.bool true)], args := [d] }
  | _ => none }
def digestBytesRow : OpenClaim := { program := "ytneahkibnaoiiaadoor", sum := "87a23d9e5f7990c24fc76e723eb840c55bf183a1b8a68d5f356ae9178590c265", func := "echelon/echelonlaw03.DigestBytes", spec := "digestBytes", inPlace := ["internal/abi.NoEscape", "internal/bytealg.MakeNoZero"], unfollowed := true, recurses := true, named := ["strconv.ErrSyntax", "strconv.ErrRange", "internal/strconv.uint64pow10", "math/bits.deBruijn32tab", "math/bits.deBruijn64tab", "echelon/digest.factors", "echelon/digest.shifts"], apart := false, laid := [("math/bits.deBruijn32tab", laid_math_bits_deBruijn32tab), ("math/bits.deBruijn64tab", laid_math_bits_deBruijn64tab), ("internal/strconv.uint64pow10", laid_internal_strconv_uint64pow10), ("strconv.ErrRange", laid_strconv_ErrRange), ("strconv.ErrSyntax", laid_strconv_ErrSyntax), ("echelon/digest.factors", laid_echelon_digest_factors), ("echelon/digest.shifts", laid_echelon_digest_shifts)] }
def DigestBytesSaid : Prop := digestBytesRow.holds Tryd.pinned (OpenSpec.ofChange digestBytesSpec)

/-- ITS FALSE NEIGHBOUR: 'it returns false'. Refute it at one input. -/
def digestBytesWrong : ChangeSpec := { name := "digestBytes", fn := fun _ => fun
  | [d] => { results := [.lit (.bool false)], args := [d] }
  | _ => none }
def DigestBytesWrongFalsely : Prop := digestBytesRow.holds Tryd.pinned (OpenSpec.ofChange digestBytesWrong)

/-- 'echelonlaw03.DigestCuts': WHATEVER THE INPUT: true; the input reads as it did. -/
def digestCutsSpec : ChangeSpec := { name := "digestCuts", fn := fun _ => fun
  | [d1, d2] => { results := [.lit (.bool true)], args := [d1, d2] }
  | _ => none }
def digestCutsRow : OpenClaim := { program := "ytneahkibnaoiiaadoor", sum := "87a23d9e5f7990c24fc76e723eb840c55bf183a1b8a68d5f356ae9178590c265", func := "echelon/echelonlaw03.DigestCuts", spec := "digestCuts", inPlace := ["internal/abi.NoEscape", "internal/bytealg.MakeNoZero"], unfollowed := true, recurses := true, named := ["strconv.ErrSyntax", "strconv.ErrRange", "internal/strconv.uint64pow10", "math/bits.deBruijn32tab", "math/bits.deBruijn64tab", "echelon/digest.factors", "echelon/digest.shifts"], apart := false, laid := [("math/bits.deBruijn32tab", laid_math_bits_deBruijn32tab), ("math/bits.deBruijn64tab", laid_math_bits_deBruijn64tab), ("internal/strconv.uint64pow10", laid_internal_strconv_uint64pow10), ("strconv.ErrRange", laid_strconv_ErrRange), ("strconv.ErrSyntax", laid_strconv_ErrSyntax), ("echelon/digest.factors", laid_echelon_digest_factors), ("echelon/digest.shifts", laid_echelon_digest_shifts)] }
def DigestCutsSaid : Prop := digestCutsRow.holds Tryd.pinned (OpenSpec.ofChange digestCutsSpec)

/-- ITS FALSE NEIGHBOUR: 'it returns false'. Refute it at one input. -/
def digestCutsWrong : ChangeSpec := { name := "digestCuts", fn := fun _ => fun
  | [d1, d2] => { results := [.lit (.bool false)], args := [d1, d2] }
  | _ => none }
def DigestCutsWrongFalsely : Prop := digestCutsRow.holds Tryd.pinned (OpenSpec.ofChange digestCutsWrong)

/-- 'echelonlaw23.ViewTables': WHATEVER THE INPUT: true; the input reads as it did. -/
def viewTablesSpec : ChangeSpec := { name := "viewTables", fn := fun _ => fun
  | [d] => { results := [.lit (.bool true)], args := [d] }
  | _ => none }
def viewTablesRow : OpenClaim := { program := "ytneahkibnaoiiaadoor", sum := "87a23d9e5f7990c24fc76e723eb840c55bf183a1b8a68d5f356ae9178590c265", func := "echelon/echelonlaw23.ViewTables", spec := "viewTables", inPlace := ["internal/abi.NoEscape", "internal/bytealg.MakeNoZero"], unfollowed := true, recurses := true, named := ["internal/strconv.uint64pow10", "math/bits.deBruijn32tab", "math/bits.deBruijn64tab"], apart := false, laid := [("math/bits.deBruijn32tab", laid_math_bits_deBruijn32tab), ("math/bits.deBruijn64tab", laid_math_bits_deBruijn64tab), ("internal/strconv.uint64pow10", laid_internal_strconv_uint64pow10)] }
def ViewTablesSaid : Prop := viewTablesRow.holds Tryd.pinned (OpenSpec.ofChange viewTablesSpec)

/-- ITS FALSE NEIGHBOUR: 'it returns false'. Refute it at one input. -/
def viewTablesWrong : ChangeSpec := { name := "viewTables", fn := fun _ => fun
  | [d] => { results := [.lit (.bool false)], args := [d] }
  | _ => none }
def ViewTablesWrongFalsely : Prop := viewTablesRow.holds Tryd.pinned (OpenSpec.ofChange viewTablesWrong)

/- THE SECOND FORM. 'bulk': how many values and letters a reading holds, each counted each time it is reached (what is shared counts as often as it is met; a slice's spare places count too). A statement '..UptoSaid' is the law's where the arguments, and the package variables that the reading takes, are together of bulk at most 1048576: NARROWER than '..Said'. Prove '..Said' where nothing that the law and all that it calls make is longer than what came in: it says more and counts as full. Else prove '..UptoSaid'. A law counts once. -/
mutual
def uptoBulk {H : Type} : DataW H → Nat
  | .lit (.string bytes) => bytes.length + 1
  | .lit _ => 1
  | .nil => 1
  | .ptr d => uptoBulk d + 1
  | .slice elems spare => uptoBulkAll elems + uptoBulkAll spare + 1
  | .agg parts => uptoBulkAll parts + 1
  | .iface _ d => uptoBulk d + 1
  | .map entries => uptoBulkEntries entries + 1
  | .held _ => 1
def uptoBulkAll {H : Type} : List (DataW H) → Nat
  | [] => 0
  | d :: r => uptoBulk d + uptoBulkAll r
def uptoBulkEntries {H : Type} : List (Lit × DataW H) → Nat
  | [] => 0
  | x :: r => uptoBulkEntry x + uptoBulkEntries r
def uptoBulkEntry {H : Type} : Lit × DataW H → Nat
  | (.string bytes, d) => bytes.length + uptoBulk d + 1
  | (_, d) => uptoBulk d + 1
 end
def uptoSmall : (H : Type) → List (DataW H) → Bool := fun _ ds => decide (uptoBulkAll ds ≤ 1048576)
def OpenSpec.upto (s : _root_.Go.ChangeSpec) : _root_.Go.OpenSpec := { _root_.Go.OpenSpec.ofChange s with cond := some uptoSmall }

/-- 'echelonlaw23.ViewCorrects', WHERE WHAT IT READS IS OF BULK AT MOST 1048576: true; the input reads as it did. -/
def viewCorrectsUptoRow : OpenClaim := { program := "ytneahkibnaoiiaadoor", sum := "87a23d9e5f7990c24fc76e723eb840c55bf183a1b8a68d5f356ae9178590c265", func := "echelon/echelonlaw23.ViewCorrects", spec := "viewCorrects", inPlace := ["internal/abi.NoEscape", "internal/bytealg.MakeNoZero"], unfollowed := true, recurses := true, named := ["internal/strconv.uint64pow10", "math/bits.deBruijn32tab", "math/bits.deBruijn64tab"], apart := false, laid := [("math/bits.deBruijn32tab", laid_math_bits_deBruijn32tab), ("math/bits.deBruijn64tab", laid_math_bits_deBruijn64tab), ("internal/strconv.uint64pow10", laid_internal_strconv_uint64pow10)], narrowed := true }
def ViewCorrectsUptoSaid : Prop := viewCorrectsUptoRow.holds Tryd.pinned (OpenSpec.upto viewCorrectsSpec)

/-- 'echelonlaw23.ViewTurns', WHERE WHAT IT READS IS OF BULK AT MOST 1048576: true; the input reads as it did. -/
def viewTurnsUptoRow : OpenClaim := { program := "ytneahkibnaoiiaadoor", sum := "87a23d9e5f7990c24fc76e723eb840c55bf183a1b8a68d5f356ae9178590c265", func := "echelon/echelonlaw23.ViewTurns", spec := "viewTurns", inPlace := ["internal/abi.NoEscape", "internal/bytealg.MakeNoZero"], unfollowed := true, recurses := true, named := ["internal/strconv.uint64pow10", "math/bits.deBruijn32tab", "math/bits.deBruijn64tab"], apart := false, laid := [("math/bits.deBruijn32tab", laid_math_bits_deBruijn32tab), ("math/bits.deBruijn64tab", laid_math_bits_deBruijn64tab), ("internal/strconv.uint64pow10", laid_internal_strconv_uint64pow10)], narrowed := true }
def ViewTurnsUptoSaid : Prop := viewTurnsUptoRow.holds Tryd.pinned (OpenSpec.upto viewTurnsSpec)

/-- 'echelonlaw23.ViewNotes', WHERE WHAT IT READS IS OF BULK AT MOST 1048576: true; the input reads as it did. -/
def viewNotesUptoRow : OpenClaim := { program := "ytneahkibnaoiiaadoor", sum := "87a23d9e5f7990c24fc76e723eb840c55bf183a1b8a68d5f356ae9178590c265", func := "echelon/echelonlaw23.ViewNotes", spec := "viewNotes", inPlace := ["internal/abi.NoEscape", "internal/bytealg.MakeNoZero"], unfollowed := true, recurses := true, named := ["internal/strconv.uint64pow10", "math/bits.deBruijn32tab", "math/bits.deBruijn64tab"], apart := false, laid := [("math/bits.deBruijn32tab", laid_math_bits_deBruijn32tab), ("math/bits.deBruijn64tab", laid_math_bits_deBruijn64tab), ("internal/strconv.uint64pow10", laid_internal_strconv_uint64pow10)], narrowed := true }
def ViewNotesUptoSaid : Prop := viewNotesUptoRow.holds Tryd.pinned (OpenSpec.upto viewNotesSpec)

/-- 'echelonlaw23.ViewPrints', WHERE WHAT IT READS IS OF BULK AT MOST 1048576: true; the input reads as it did. -/
def viewPrintsUptoRow : OpenClaim := { program := "ytneahkibnaoiiaadoor", sum := "87a23d9e5f7990c24fc76e723eb840c55bf183a1b8a68d5f356ae9178590c265", func := "echelon/echelonlaw23.ViewPrints", spec := "viewPrints", inPlace := ["internal/abi.NoEscape", "internal/bytealg.MakeNoZero"], unfollowed := true, recurses := true, named := ["internal/strconv.uint64pow10", "math/bits.deBruijn32tab", "math/bits.deBruijn64tab"], apart := false, laid := [("math/bits.deBruijn32tab", laid_math_bits_deBruijn32tab), ("math/bits.deBruijn64tab", laid_math_bits_deBruijn64tab), ("internal/strconv.uint64pow10", laid_internal_strconv_uint64pow10)], narrowed := true }
def ViewPrintsUptoSaid : Prop := viewPrintsUptoRow.holds Tryd.pinned (OpenSpec.upto viewPrintsSpec)

/-- 'echelonlaw03.DigestReads', WHERE WHAT IT READS IS OF BULK AT MOST 1048576: true; the input reads as it did. -/
def digestReadsUptoRow : OpenClaim := { program := "ytneahkibnaoiiaadoor", sum := "87a23d9e5f7990c24fc76e723eb840c55bf183a1b8a68d5f356ae9178590c265", func := "echelon/echelonlaw03.DigestReads", spec := "digestReads", inPlace := ["internal/abi.NoEscape", "internal/bytealg.MakeNoZero"], named := ["strconv.ErrSyntax", "strconv.ErrRange", "internal/strconv.uint64pow10", "math/bits.deBruijn32tab", "math/bits.deBruijn64tab", "echelon/digest.factors", "echelon/digest.shifts"], apart := false, laid := [("math/bits.deBruijn32tab", laid_math_bits_deBruijn32tab), ("math/bits.deBruijn64tab", laid_math_bits_deBruijn64tab), ("internal/strconv.uint64pow10", laid_internal_strconv_uint64pow10), ("strconv.ErrRange", laid_strconv_ErrRange), ("strconv.ErrSyntax", laid_strconv_ErrSyntax), ("echelon/digest.factors", laid_echelon_digest_factors), ("echelon/digest.shifts", laid_echelon_digest_shifts)], narrowed := true }
def DigestReadsUptoSaid : Prop := digestReadsUptoRow.holds Tryd.pinned (OpenSpec.upto digestReadsSpec)

/-- 'echelonlaw03.DigestUnlike', WHERE WHAT IT READS IS OF BULK AT MOST 1048576: true; the input reads as it did. -/
def digestUnlikeUptoRow : OpenClaim := { program := "ytneahkibnaoiiaadoor", sum := "87a23d9e5f7990c24fc76e723eb840c55bf183a1b8a68d5f356ae9178590c265", func := "echelon/echelonlaw03.DigestUnlike", spec := "digestUnlike", inPlace := ["internal/abi.NoEscape", "internal/bytealg.MakeNoZero"], named := ["strconv.ErrSyntax", "strconv.ErrRange", "internal/strconv.uint64pow10", "math/bits.deBruijn32tab", "math/bits.deBruijn64tab", "echelon/digest.factors", "echelon/digest.shifts"], apart := false, laid := [("math/bits.deBruijn32tab", laid_math_bits_deBruijn32tab), ("math/bits.deBruijn64tab", laid_math_bits_deBruijn64tab), ("internal/strconv.uint64pow10", laid_internal_strconv_uint64pow10), ("strconv.ErrRange", laid_strconv_ErrRange), ("strconv.ErrSyntax", laid_strconv_ErrSyntax), ("echelon/digest.factors", laid_echelon_digest_factors), ("echelon/digest.shifts", laid_echelon_digest_shifts)], narrowed := true }
def DigestUnlikeUptoSaid : Prop := digestUnlikeUptoRow.holds Tryd.pinned (OpenSpec.upto digestUnlikeSpec)

/-- 'echelonlaw03.DigestNumbers', WHERE WHAT IT READS IS OF BULK AT MOST 1048576: true; the input reads as it did. -/
def digestNumbersUptoRow : OpenClaim := { program := "ytneahkibnaoiiaadoor", sum := "87a23d9e5f7990c24fc76e723eb840c55bf183a1b8a68d5f356ae9178590c265", func := "echelon/echelonlaw03.DigestNumbers", spec := "digestNumbers", inPlace := ["internal/abi.NoEscape", "internal/bytealg.MakeNoZero"], named := ["strconv.ErrSyntax", "strconv.ErrRange", "internal/strconv.uint64pow10", "math/bits.deBruijn32tab", "math/bits.deBruijn64tab", "echelon/digest.factors", "echelon/digest.shifts"], apart := false, laid := [("math/bits.deBruijn32tab", laid_math_bits_deBruijn32tab), ("math/bits.deBruijn64tab", laid_math_bits_deBruijn64tab), ("internal/strconv.uint64pow10", laid_internal_strconv_uint64pow10), ("strconv.ErrRange", laid_strconv_ErrRange), ("strconv.ErrSyntax", laid_strconv_ErrSyntax), ("echelon/digest.factors", laid_echelon_digest_factors), ("echelon/digest.shifts", laid_echelon_digest_shifts)], narrowed := true }
def DigestNumbersUptoSaid : Prop := digestNumbersUptoRow.holds Tryd.pinned (OpenSpec.upto digestNumbersSpec)

/-- 'echelonlaw03.DigestPieces', WHERE WHAT IT READS IS OF BULK AT MOST 1048576: true; the input reads as it did. -/
def digestPiecesUptoRow : OpenClaim := { program := "ytneahkibnaoiiaadoor", sum := "87a23d9e5f7990c24fc76e723eb840c55bf183a1b8a68d5f356ae9178590c265", func := "echelon/echelonlaw03.DigestPieces", spec := "digestPieces", inPlace := ["internal/abi.NoEscape", "internal/bytealg.MakeNoZero"], named := ["strconv.ErrSyntax", "strconv.ErrRange", "internal/strconv.uint64pow10", "math/bits.deBruijn32tab", "math/bits.deBruijn64tab", "echelon/digest.factors", "echelon/digest.shifts"], apart := false, laid := [("math/bits.deBruijn32tab", laid_math_bits_deBruijn32tab), ("math/bits.deBruijn64tab", laid_math_bits_deBruijn64tab), ("internal/strconv.uint64pow10", laid_internal_strconv_uint64pow10), ("strconv.ErrRange", laid_strconv_ErrRange), ("strconv.ErrSyntax", laid_strconv_ErrSyntax), ("echelon/digest.factors", laid_echelon_digest_factors), ("echelon/digest.shifts", laid_echelon_digest_shifts)], narrowed := true }
def DigestPiecesUptoSaid : Prop := digestPiecesUptoRow.holds Tryd.pinned (OpenSpec.upto digestPiecesSpec)

/-- 'echelonlaw03.DigestBytes', WHERE WHAT IT READS IS OF BULK AT MOST 1048576: true; the input reads as it did. -/
def digestBytesUptoRow : OpenClaim := { program := "ytneahkibnaoiiaadoor", sum := "87a23d9e5f7990c24fc76e723eb840c55bf183a1b8a68d5f356ae9178590c265", func := "echelon/echelonlaw03.DigestBytes", spec := "digestBytes", inPlace := ["internal/abi.NoEscape", "internal/bytealg.MakeNoZero"], unfollowed := true, recurses := true, named := ["strconv.ErrSyntax", "strconv.ErrRange", "internal/strconv.uint64pow10", "math/bits.deBruijn32tab", "math/bits.deBruijn64tab", "echelon/digest.factors", "echelon/digest.shifts"], apart := false, laid := [("math/bits.deBruijn32tab", laid_math_bits_deBruijn32tab), ("math/bits.deBruijn64tab", laid_math_bits_deBruijn64tab), ("internal/strconv.uint64pow10", laid_internal_strconv_uint64pow10), ("strconv.ErrRange", laid_strconv_ErrRange), ("strconv.ErrSyntax", laid_strconv_ErrSyntax), ("echelon/digest.factors", laid_echelon_digest_factors), ("echelon/digest.shifts", laid_echelon_digest_shifts)], narrowed := true }
def DigestBytesUptoSaid : Prop := digestBytesUptoRow.holds Tryd.pinned (OpenSpec.upto digestBytesSpec)

/-- 'echelonlaw03.DigestCuts', WHERE WHAT IT READS IS OF BULK AT MOST 1048576: true; the input reads as it did. -/
def digestCutsUptoRow : OpenClaim := { program := "ytneahkibnaoiiaadoor", sum := "87a23d9e5f7990c24fc76e723eb840c55bf183a1b8a68d5f356ae9178590c265", func := "echelon/echelonlaw03.DigestCuts", spec := "digestCuts", inPlace := ["internal/abi.NoEscape", "internal/bytealg.MakeNoZero"], unfollowed := true, recurses := true, named := ["strconv.ErrSyntax", "strconv.ErrRange", "internal/strconv.uint64pow10", "math/bits.deBruijn32tab", "math/bits.deBruijn64tab", "echelon/digest.factors", "echelon/digest.shifts"], apart := false, laid := [("math/bits.deBruijn32tab", laid_math_bits_deBruijn32tab), ("math/bits.deBruijn64tab", laid_math_bits_deBruijn64tab), ("internal/strconv.uint64pow10", laid_internal_strconv_uint64pow10), ("strconv.ErrRange", laid_strconv_ErrRange), ("strconv.ErrSyntax", laid_strconv_ErrSyntax), ("echelon/digest.factors", laid_echelon_digest_factors), ("echelon/digest.shifts", laid_echelon_digest_shifts)], narrowed := true }
def DigestCutsUptoSaid : Prop := digestCutsUptoRow.holds Tryd.pinned (OpenSpec.upto digestCutsSpec)

/-- 'echelonlaw23.ViewTables', WHERE WHAT IT READS IS OF BULK AT MOST 1048576: true; the input reads as it did. -/
def viewTablesUptoRow : OpenClaim := { program := "ytneahkibnaoiiaadoor", sum := "87a23d9e5f7990c24fc76e723eb840c55bf183a1b8a68d5f356ae9178590c265", func := "echelon/echelonlaw23.ViewTables", spec := "viewTables", inPlace := ["internal/abi.NoEscape", "internal/bytealg.MakeNoZero"], unfollowed := true, recurses := true, named := ["internal/strconv.uint64pow10", "math/bits.deBruijn32tab", "math/bits.deBruijn64tab"], apart := false, laid := [("math/bits.deBruijn32tab", laid_math_bits_deBruijn32tab), ("math/bits.deBruijn64tab", laid_math_bits_deBruijn64tab), ("internal/strconv.uint64pow10", laid_internal_strconv_uint64pow10)], narrowed := true }
def ViewTablesUptoSaid : Prop := viewTablesUptoRow.holds Tryd.pinned (OpenSpec.upto viewTablesSpec)

end Rows
end Go.Proofs.YtneahkibnaoiiaaDoor
