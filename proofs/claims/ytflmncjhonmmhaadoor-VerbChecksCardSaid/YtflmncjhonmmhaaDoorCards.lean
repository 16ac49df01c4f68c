/-
  DERIVED. GIVEN WITH THE SEED: THE CARDS: each row of YtflmncjhonmmhaaDoorRows.lean that lists a variable, with what it lists TIED to the program's text (the seventh form; the later family's looks); each row that meets fmt, with fmt's text TOLD by the authors' own Lean function (tested against real Go, not proved from fmt's source: count such statements apart). THE CARD IS WHAT COUNTS. Prove the row's statement (the work); the ties are given (YtflmncjhonmmhaaDoorTie.lean); close each card by the builder's one call (the guide's Derived/Test/ToyasCard.lean, 'card_holds'). Laid BY PROGRAM, IN A SANDBOX (cutbox-door.mjs). By AI agents, Wed Nov 11 2026. No macro, syntax, notation, axiom, sorry.
-/
import Derived.Test.YtflmncjhonmmhaaDoorRows
import GoSem.ClaimSeven
namespace Go.Proofs.YtflmncjhonmmhaaDoor
namespace Rows

/-- THE TIED CARD OF 'echelonlaw23.ViewCorrects'. -/
def viewCorrectsCard : Claim7 := { stood := { row := viewCorrectsRow, standIns := [], harness := (true, "4ab79ef029c89db245d525b9aa0da46d69069b67fcec781f7e08f554d6d2a355"), looks := true }, kinds := [], alts := [], laidByText := true, laidKinds := [.data, .data, .data], laidTests := true, laidLooks := .later }
def ViewCorrectsCardSaid : Prop := Claim7.holds Tryd.pinned (.plain (OpenSpec.ofChange viewCorrectsSpec)) viewCorrectsCard

/-- THE TIED CARD OF 'echelonlaw23.ViewTurns'. -/
def viewTurnsCard : Claim7 := { stood := { row := viewTurnsRow, standIns := [], harness := (true, "4ab79ef029c89db245d525b9aa0da46d69069b67fcec781f7e08f554d6d2a355"), looks := true }, kinds := [], alts := [], laidByText := true, laidKinds := [.data, .data, .data], laidTests := true, laidLooks := .later }
def ViewTurnsCardSaid : Prop := Claim7.holds Tryd.pinned (.plain (OpenSpec.ofChange viewTurnsSpec)) viewTurnsCard

/-- THE TIED CARD OF 'echelonlaw23.ViewNotes'. -/
def viewNotesCard : Claim7 := { stood := { row := viewNotesRow, standIns := [], harness := (true, "4ab79ef029c89db245d525b9aa0da46d69069b67fcec781f7e08f554d6d2a355"), looks := true }, kinds := [], alts := [], laidByText := true, laidKinds := [.data, .data, .data], laidTests := true, laidLooks := .later }
def ViewNotesCardSaid : Prop := Claim7.holds Tryd.pinned (.plain (OpenSpec.ofChange viewNotesSpec)) viewNotesCard

/-- THE TIED CARD OF 'echelonlaw23.ViewPrints'. -/
def viewPrintsCard : Claim7 := { stood := { row := viewPrintsRow, standIns := [], harness := (true, "4ab79ef029c89db245d525b9aa0da46d69069b67fcec781f7e08f554d6d2a355"), looks := true }, kinds := [], alts := [], laidByText := true, laidKinds := [.data, .data, .data], laidTests := true, laidLooks := .later }
def ViewPrintsCardSaid : Prop := Claim7.holds Tryd.pinned (.plain (OpenSpec.ofChange viewPrintsSpec)) viewPrintsCard

/-- THE TIED CARD OF 'echelonlaw03.DigestPieces'. -/
def digestPiecesCard : Claim7 := { stood := { row := digestPiecesRow, standIns := [], harness := (true, "4ab79ef029c89db245d525b9aa0da46d69069b67fcec781f7e08f554d6d2a355"), looks := true }, kinds := [], alts := [], laidByText := true, laidKinds := [.data, .data, .data, .sentinel, .sentinel, .data, .data], laidTests := true, laidLooks := .later }
def DigestPiecesCardSaid : Prop := Claim7.holds Tryd.pinned (.plain (OpenSpec.ofChange digestPiecesSpec)) digestPiecesCard

/-- THE TIED CARD OF 'echelonlaw03.DigestBytes'. -/
def digestBytesCard : Claim7 := { stood := { row := digestBytesRow, standIns := [], harness := (true, "4ab79ef029c89db245d525b9aa0da46d69069b67fcec781f7e08f554d6d2a355"), looks := true }, kinds := [], alts := [], laidByText := true, laidKinds := [.data, .data, .data, .sentinel, .sentinel, .data, .data], laidTests := true, laidLooks := .later }
def DigestBytesCardSaid : Prop := Claim7.holds Tryd.pinned (.plain (OpenSpec.ofChange digestBytesSpec)) digestBytesCard

/-- THE TIED CARD OF 'echelonlaw03.DigestCuts'. -/
def digestCutsCard : Claim7 := { stood := { row := digestCutsRow, standIns := [], harness := (true, "4ab79ef029c89db245d525b9aa0da46d69069b67fcec781f7e08f554d6d2a355"), looks := true }, kinds := [], alts := [], laidByText := true, laidKinds := [.data, .data, .data, .sentinel, .sentinel, .data, .data], laidTests := true, laidLooks := .later }
def DigestCutsCardSaid : Prop := Claim7.holds Tryd.pinned (.plain (OpenSpec.ofChange digestCutsSpec)) digestCutsCard

/-- THE TIED CARD OF 'echelonlaw23.ViewTables'. -/
def viewTablesCard : Claim7 := { stood := { row := viewTablesRow, standIns := [], harness := (true, "4ab79ef029c89db245d525b9aa0da46d69069b67fcec781f7e08f554d6d2a355"), looks := true }, kinds := [], alts := [], laidByText := true, laidKinds := [.data, .data, .data], laidTests := true, laidLooks := .later }
def ViewTablesCardSaid : Prop := Claim7.holds Tryd.pinned (.plain (OpenSpec.ofChange viewTablesSpec)) viewTablesCard

/-- THE TIED CARD OF 'echelonlaw07.VerbChecks'. -/
def verbChecksCard : Claim7 := { stood := { row := verbChecksRow, standIns := [], harness := (true, "4ab79ef029c89db245d525b9aa0da46d69069b67fcec781f7e08f554d6d2a355"), looks := true }, kinds := [], alts := [], laidByText := true, laidKinds := [.data, .data, .data, .data, .data, .data, .data, .sentinel, .sentinel, .pinned], laidTests := true, laidLooks := .later }
def VerbChecksCardSaid : Prop := Claim7.holds Tryd.pinned (.plain (OpenSpec.ofChange verbChecksSpec)) verbChecksCard

/-- THE TIED CARD OF 'echelonlaw07.VerbPrints'. -/
def verbPrintsCard : Claim7 := { stood := { row := verbPrintsRow, standIns := [], harness := (true, "4ab79ef029c89db245d525b9aa0da46d69069b67fcec781f7e08f554d6d2a355"), looks := true }, kinds := [], alts := [], laidByText := true, laidKinds := [.data, .data, .data, .data, .data, .data, .data, .data, .sentinel, .sentinel, .pinned], laidTests := true, laidLooks := .later }
def VerbPrintsCardSaid : Prop := Claim7.holds Tryd.pinned (.plain (OpenSpec.ofChange verbPrintsSpec)) verbPrintsCard

/-- THE TIED CARD OF 'echelonlaw07.VerbReads'. -/
def verbReadsCard : Claim7 := { stood := { row := verbReadsRow, standIns := [], harness := (true, "4ab79ef029c89db245d525b9aa0da46d69069b67fcec781f7e08f554d6d2a355"), looks := true }, kinds := [], alts := [], laidByText := true, laidKinds := [.data, .data, .data, .data, .data, .data, .data, .data, .sentinel, .sentinel, .pinned], laidTests := true, laidLooks := .later }
def VerbReadsCardSaid : Prop := Claim7.holds Tryd.pinned (.plain (OpenSpec.ofChange verbReadsSpec)) verbReadsCard

/-- THE TIED CARD OF 'echelonlaw07.VerbNames'. -/
def verbNamesCard : Claim7 := { stood := { row := verbNamesRow, standIns := [], harness := (true, "4ab79ef029c89db245d525b9aa0da46d69069b67fcec781f7e08f554d6d2a355"), looks := true }, kinds := [], alts := [], laidByText := true, laidKinds := [.data, .data, .data, .data, .data, .data, .data, .data, .sentinel, .sentinel, .pinned], laidTests := true, laidLooks := .later }
def VerbNamesCardSaid : Prop := Claim7.holds Tryd.pinned (.plain (OpenSpec.ofChange verbNamesSpec)) verbNamesCard

/-- THE TIED CARD OF 'echelonlaw07.VerbRanges'. -/
def verbRangesCard : Claim7 := { stood := { row := verbRangesRow, standIns := [], harness := (true, "4ab79ef029c89db245d525b9aa0da46d69069b67fcec781f7e08f554d6d2a355"), looks := true }, kinds := [], alts := [], laidByText := true, laidKinds := [.data, .data, .data, .data, .sentinel, .sentinel, .pinned], laidTests := true, laidLooks := .later }
def VerbRangesCardSaid : Prop := Claim7.holds Tryd.pinned (.plain (OpenSpec.ofChange verbRangesSpec)) verbRangesCard

/-- THE SECOND FORM's CARD OF 'echelonlaw23.ViewCorrects'. -/
def viewCorrectsUptoCard : Claim7 := { stood := { row := viewCorrectsUptoRow, standIns := [], harness := (true, "4ab79ef029c89db245d525b9aa0da46d69069b67fcec781f7e08f554d6d2a355"), looks := true }, kinds := [], alts := [], laidByText := true, laidKinds := [.data, .data, .data], laidTests := true, laidLooks := .later }
def ViewCorrectsUptoCardSaid : Prop := Claim7.holds Tryd.pinned (.plain (OpenSpec.upto viewCorrectsSpec)) viewCorrectsUptoCard

/-- THE SECOND FORM's CARD OF 'echelonlaw23.ViewTurns'. -/
def viewTurnsUptoCard : Claim7 := { stood := { row := viewTurnsUptoRow, standIns := [], harness := (true, "4ab79ef029c89db245d525b9aa0da46d69069b67fcec781f7e08f554d6d2a355"), looks := true }, kinds := [], alts := [], laidByText := true, laidKinds := [.data, .data, .data], laidTests := true, laidLooks := .later }
def ViewTurnsUptoCardSaid : Prop := Claim7.holds Tryd.pinned (.plain (OpenSpec.upto viewTurnsSpec)) viewTurnsUptoCard

/-- THE SECOND FORM's CARD OF 'echelonlaw23.ViewNotes'. -/
def viewNotesUptoCard : Claim7 := { stood := { row := viewNotesUptoRow, standIns := [], harness := (true, "4ab79ef029c89db245d525b9aa0da46d69069b67fcec781f7e08f554d6d2a355"), looks := true }, kinds := [], alts := [], laidByText := true, laidKinds := [.data, .data, .data], laidTests := true, laidLooks := .later }
def ViewNotesUptoCardSaid : Prop := Claim7.holds Tryd.pinned (.plain (OpenSpec.upto viewNotesSpec)) viewNotesUptoCard

/-- THE SECOND FORM's CARD OF 'echelonlaw23.ViewPrints'. -/
def viewPrintsUptoCard : Claim7 := { stood := { row := viewPrintsUptoRow, standIns := [], harness := (true, "4ab79ef029c89db245d525b9aa0da46d69069b67fcec781f7e08f554d6d2a355"), looks := true }, kinds := [], alts := [], laidByText := true, laidKinds := [.data, .data, .data], laidTests := true, laidLooks := .later }
def ViewPrintsUptoCardSaid : Prop := Claim7.holds Tryd.pinned (.plain (OpenSpec.upto viewPrintsSpec)) viewPrintsUptoCard

/-- THE SECOND FORM's CARD OF 'echelonlaw03.DigestPieces'. -/
def digestPiecesUptoCard : Claim7 := { stood := { row := digestPiecesUptoRow, standIns := [], harness := (true, "4ab79ef029c89db245d525b9aa0da46d69069b67fcec781f7e08f554d6d2a355"), looks := true }, kinds := [], alts := [], laidByText := true, laidKinds := [.data, .data, .data, .sentinel, .sentinel, .data, .data], laidTests := true, laidLooks := .later }
def DigestPiecesUptoCardSaid : Prop := Claim7.holds Tryd.pinned (.plain (OpenSpec.upto digestPiecesSpec)) digestPiecesUptoCard

/-- THE SECOND FORM's CARD OF 'echelonlaw03.DigestBytes'. -/
def digestBytesUptoCard : Claim7 := { stood := { row := digestBytesUptoRow, standIns := [], harness := (true, "4ab79ef029c89db245d525b9aa0da46d69069b67fcec781f7e08f554d6d2a355"), looks := true }, kinds := [], alts := [], laidByText := true, laidKinds := [.data, .data, .data, .sentinel, .sentinel, .data, .data], laidTests := true, laidLooks := .later }
def DigestBytesUptoCardSaid : Prop := Claim7.holds Tryd.pinned (.plain (OpenSpec.upto digestBytesSpec)) digestBytesUptoCard

/-- THE SECOND FORM's CARD OF 'echelonlaw03.DigestCuts'. -/
def digestCutsUptoCard : Claim7 := { stood := { row := digestCutsUptoRow, standIns := [], harness := (true, "4ab79ef029c89db245d525b9aa0da46d69069b67fcec781f7e08f554d6d2a355"), looks := true }, kinds := [], alts := [], laidByText := true, laidKinds := [.data, .data, .data, .sentinel, .sentinel, .data, .data], laidTests := true, laidLooks := .later }
def DigestCutsUptoCardSaid : Prop := Claim7.holds Tryd.pinned (.plain (OpenSpec.upto digestCutsSpec)) digestCutsUptoCard

/-- THE SECOND FORM's CARD OF 'echelonlaw23.ViewTables'. -/
def viewTablesUptoCard : Claim7 := { stood := { row := viewTablesUptoRow, standIns := [], harness := (true, "4ab79ef029c89db245d525b9aa0da46d69069b67fcec781f7e08f554d6d2a355"), looks := true }, kinds := [], alts := [], laidByText := true, laidKinds := [.data, .data, .data], laidTests := true, laidLooks := .later }
def ViewTablesUptoCardSaid : Prop := Claim7.holds Tryd.pinned (.plain (OpenSpec.upto viewTablesSpec)) viewTablesUptoCard

/-- THE SECOND FORM's CARD OF 'echelonlaw07.VerbChecks'. -/
def verbChecksUptoCard : Claim7 := { stood := { row := verbChecksUptoRow, standIns := [], harness := (true, "4ab79ef029c89db245d525b9aa0da46d69069b67fcec781f7e08f554d6d2a355"), looks := true }, kinds := [], alts := [], laidByText := true, laidKinds := [.data, .data, .data, .data, .data, .data, .data, .sentinel, .sentinel, .pinned], laidTests := true, laidLooks := .later }
def VerbChecksUptoCardSaid : Prop := Claim7.holds Tryd.pinned (.plain (OpenSpec.upto verbChecksSpec)) verbChecksUptoCard

/-- THE SECOND FORM's CARD OF 'echelonlaw07.VerbPrints'. -/
def verbPrintsUptoCard : Claim7 := { stood := { row := verbPrintsUptoRow, standIns := [], harness := (true, "4ab79ef029c89db245d525b9aa0da46d69069b67fcec781f7e08f554d6d2a355"), looks := true }, kinds := [], alts := [], laidByText := true, laidKinds := [.data, .data, .data, .data, .data, .data, .data, .data, .sentinel, .sentinel, .pinned], laidTests := true, laidLooks := .later }
def VerbPrintsUptoCardSaid : Prop := Claim7.holds Tryd.pinned (.plain (OpenSpec.upto verbPrintsSpec)) verbPrintsUptoCard

/-- THE SECOND FORM's CARD OF 'echelonlaw07.VerbReads'. -/
def verbReadsUptoCard : Claim7 := { stood := { row := verbReadsUptoRow, standIns := [], harness := (true, "4ab79ef029c89db245d525b9aa0da46d69069b67fcec781f7e08f554d6d2a355"), looks := true }, kinds := [], alts := [], laidByText := true, laidKinds := [.data, .data, .data, .data, .data, .data, .data, .data, .sentinel, .sentinel, .pinned], laidTests := true, laidLooks := .later }
def VerbReadsUptoCardSaid : Prop := Claim7.holds Tryd.pinned (.plain (OpenSpec.upto verbReadsSpec)) verbReadsUptoCard

/-- THE SECOND FORM's CARD OF 'echelonlaw07.VerbNames'. -/
def verbNamesUptoCard : Claim7 := { stood := { row := verbNamesUptoRow, standIns := [], harness := (true, "4ab79ef029c89db245d525b9aa0da46d69069b67fcec781f7e08f554d6d2a355"), looks := true }, kinds := [], alts := [], laidByText := true, laidKinds := [.data, .data, .data, .data, .data, .data, .data, .data, .sentinel, .sentinel, .pinned], laidTests := true, laidLooks := .later }
def VerbNamesUptoCardSaid : Prop := Claim7.holds Tryd.pinned (.plain (OpenSpec.upto verbNamesSpec)) verbNamesUptoCard

/-- THE SECOND FORM's CARD OF 'echelonlaw07.VerbRanges'. -/
def verbRangesUptoCard : Claim7 := { stood := { row := verbRangesUptoRow, standIns := [], harness := (true, "4ab79ef029c89db245d525b9aa0da46d69069b67fcec781f7e08f554d6d2a355"), looks := true }, kinds := [], alts := [], laidByText := true, laidKinds := [.data, .data, .data, .data, .sentinel, .sentinel, .pinned], laidTests := true, laidLooks := .later }
def VerbRangesUptoCardSaid : Prop := Claim7.holds Tryd.pinned (.plain (OpenSpec.upto verbRangesSpec)) verbRangesUptoCard
end Rows
end Go.Proofs.YtflmncjhonmmhaaDoor
