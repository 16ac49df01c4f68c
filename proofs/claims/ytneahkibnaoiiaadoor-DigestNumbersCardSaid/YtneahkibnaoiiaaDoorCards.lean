/-
  DERIVED. GIVEN WITH THE SEED: THE CARDS: each row of YtneahkibnaoiiaaDoorRows.lean that lists a variable, with what it lists TIED to the program's text (the seventh form; the later family's looks); each row that meets fmt, with fmt's text TOLD by the authors' own Lean function (tested against real Go, not proved from fmt's source: count such statements apart). THE CARD IS WHAT COUNTS. Prove the row's statement (the work); the ties are given (YtneahkibnaoiiaaDoorTie.lean); close each card by the builder's one call (the guide's Derived/Test/ToyasCard.lean, 'card_holds'). Laid BY PROGRAM, IN A SANDBOX (cutbox-door.mjs). By AI agents, Wed Nov 11 2026. No macro, syntax, notation, axiom, sorry.
-/
import Derived.Test.YtneahkibnaoiiaaDoorRows
import GoSem.ClaimSeven
namespace Go.Proofs.YtneahkibnaoiiaaDoor
namespace Rows

/-- THE TIED CARD OF 'echelonlaw23.ViewCorrects'. -/
def viewCorrectsCard : Claim7 := { stood := { row := viewCorrectsRow, standIns := [], harness := (true, "7983912f8388c1232fe9c5c141e876b9df4cf6166949efbeb18a787d5ab460ea"), looks := true }, kinds := [], alts := [], laidByText := true, laidKinds := [.data, .data, .data], laidTests := true, laidLooks := .later }
def ViewCorrectsCardSaid : Prop := Claim7.holds Tryd.pinned (.plain (OpenSpec.ofChange viewCorrectsSpec)) viewCorrectsCard

/-- THE TIED CARD OF 'echelonlaw23.ViewTurns'. -/
def viewTurnsCard : Claim7 := { stood := { row := viewTurnsRow, standIns := [], harness := (true, "7983912f8388c1232fe9c5c141e876b9df4cf6166949efbeb18a787d5ab460ea"), looks := true }, kinds := [], alts := [], laidByText := true, laidKinds := [.data, .data, .data], laidTests := true, laidLooks := .later }
def ViewTurnsCardSaid : Prop := Claim7.holds Tryd.pinned (.plain (OpenSpec.ofChange viewTurnsSpec)) viewTurnsCard

/-- THE TIED CARD OF 'echelonlaw23.ViewNotes'. -/
def viewNotesCard : Claim7 := { stood := { row := viewNotesRow, standIns := [], harness := (true, "7983912f8388c1232fe9c5c141e876b9df4cf6166949efbeb18a787d5ab460ea"), looks := true }, kinds := [], alts := [], laidByText := true, laidKinds := [.data, .data, .data], laidTests := true, laidLooks := .later }
def ViewNotesCardSaid : Prop := Claim7.holds Tryd.pinned (.plain (OpenSpec.ofChange viewNotesSpec)) viewNotesCard

/-- THE TIED CARD OF 'echelonlaw23.ViewPrints'. -/
def viewPrintsCard : Claim7 := { stood := { row := viewPrintsRow, standIns := [], harness := (true, "7983912f8388c1232fe9c5c141e876b9df4cf6166949efbeb18a787d5ab460ea"), looks := true }, kinds := [], alts := [], laidByText := true, laidKinds := [.data, .data, .data], laidTests := true, laidLooks := .later }
def ViewPrintsCardSaid : Prop := Claim7.holds Tryd.pinned (.plain (OpenSpec.ofChange viewPrintsSpec)) viewPrintsCard

/-- THE TIED CARD OF 'echelonlaw03.DigestReads'. -/
def digestReadsCard : Claim7 := { stood := { row := digestReadsRow, standIns := [], harness := (true, "7983912f8388c1232fe9c5c141e876b9df4cf6166949efbeb18a787d5ab460ea"), looks := true }, kinds := [], alts := [], laidByText := true, laidKinds := [.data, .data, .data, .sentinel, .sentinel, .data, .data], laidTests := true, laidLooks := .later }
def DigestReadsCardSaid : Prop := Claim7.holds Tryd.pinned (.plain (OpenSpec.ofChange digestReadsSpec)) digestReadsCard

/-- THE TIED CARD OF 'echelonlaw03.DigestUnlike'. -/
def digestUnlikeCard : Claim7 := { stood := { row := digestUnlikeRow, standIns := [], harness := (true, "7983912f8388c1232fe9c5c141e876b9df4cf6166949efbeb18a787d5ab460ea"), looks := true }, kinds := [], alts := [], laidByText := true, laidKinds := [.data, .data, .data, .sentinel, .sentinel, .data, .data], laidTests := true, laidLooks := .later }
def DigestUnlikeCardSaid : Prop := Claim7.holds Tryd.pinned (.plain (OpenSpec.ofChange digestUnlikeSpec)) digestUnlikeCard

/-- THE TIED CARD OF 'echelonlaw03.DigestNumbers'. -/
def digestNumbersCard : Claim7 := { stood := { row := digestNumbersRow, standIns := [], harness := (true, "7983912f8388c1232fe9c5c141e876b9df4cf6166949efbeb18a787d5ab460ea"), looks := true }, kinds := [], alts := [], laidByText := true, laidKinds := [.data, .data, .data, .sentinel, .sentinel, .data, .data], laidTests := true, laidLooks := .later }
def DigestNumbersCardSaid : Prop := Claim7.holds Tryd.pinned (.plain (OpenSpec.ofChange digestNumbersSpec)) digestNumbersCard

/-- THE TIED CARD OF 'echelonlaw03.DigestPieces'. -/
def digestPiecesCard : Claim7 := { stood := { row := digestPiecesRow, standIns := [], harness := (true, "7983912f8388c1232fe9c5c141e876b9df4cf6166949efbeb18a787d5ab460ea"), looks := true }, kinds := [], alts := [], laidByText := true, laidKinds := [.data, .data, .data, .sentinel, .sentinel, .data, .data], laidTests := true, laidLooks := .later }
def DigestPiecesCardSaid : Prop := Claim7.holds Tryd.pinned (.plain (OpenSpec.ofChange digestPiecesSpec)) digestPiecesCard

/-- THE TIED CARD OF 'echelonlaw03.DigestBytes'. -/
def digestBytesCard : Claim7 := { stood := { row := digestBytesRow, standIns := [], harness := (true, "7983912f8388c1232fe9c5c141e876b9df4cf6166949efbeb18a787d5ab460ea"), looks := true }, kinds := [], alts := [], laidByText := true, laidKinds := [.data, .data, .data, .sentinel, .sentinel, .data, .data], laidTests := true, laidLooks := .later }
def DigestBytesCardSaid : Prop := Claim7.holds Tryd.pinned (.plain (OpenSpec.ofChange digestBytesSpec)) digestBytesCard

/-- THE TIED CARD OF 'echelonlaw03.DigestCuts'. -/
def digestCutsCard : Claim7 := { stood := { row := digestCutsRow, standIns := [], harness := (true, "7983912f8388c1232fe9c5c141e876b9df4cf6166949efbeb18a787d5ab460ea"), looks := true }, kinds := [], alts := [], laidByText := true, laidKinds := [.data, .data, .data, .sentinel, .sentinel, .data, .data], laidTests := true, laidLooks := .later }
def DigestCutsCardSaid : Prop := Claim7.holds Tryd.pinned (.plain (OpenSpec.ofChange digestCutsSpec)) digestCutsCard

/-- THE TIED CARD OF 'echelonlaw23.ViewTables'. -/
def viewTablesCard : Claim7 := { stood := { row := viewTablesRow, standIns := [], harness := (true, "7983912f8388c1232fe9c5c141e876b9df4cf6166949efbeb18a787d5ab460ea"), looks := true }, kinds := [], alts := [], laidByText := true, laidKinds := [.data, .data, .data], laidTests := true, laidLooks := .later }
def ViewTablesCardSaid : Prop := Claim7.holds Tryd.pinned (.plain (OpenSpec.ofChange viewTablesSpec)) viewTablesCard

/-- THE SECOND FORM's CARD OF 'echelonlaw23.ViewCorrects'. -/
def viewCorrectsUptoCard : Claim7 := { stood := { row := viewCorrectsUptoRow, standIns := [], harness := (true, "7983912f8388c1232fe9c5c141e876b9df4cf6166949efbeb18a787d5ab460ea"), looks := true }, kinds := [], alts := [], laidByText := true, laidKinds := [.data, .data, .data], laidTests := true, laidLooks := .later }
def ViewCorrectsUptoCardSaid : Prop := Claim7.holds Tryd.pinned (.plain (OpenSpec.upto viewCorrectsSpec)) viewCorrectsUptoCard

/-- THE SECOND FORM's CARD OF 'echelonlaw23.ViewTurns'. -/
def viewTurnsUptoCard : Claim7 := { stood := { row := viewTurnsUptoRow, standIns := [], harness := (true, "7983912f8388c1232fe9c5c141e876b9df4cf6166949efbeb18a787d5ab460ea"), looks := true }, kinds := [], alts := [], laidByText := true, laidKinds := [.data, .data, .data], laidTests := true, laidLooks := .later }
def ViewTurnsUptoCardSaid : Prop := Claim7.holds Tryd.pinned (.plain (OpenSpec.upto viewTurnsSpec)) viewTurnsUptoCard

/-- THE SECOND FORM's CARD OF 'echelonlaw23.ViewNotes'. -/
def viewNotesUptoCard : Claim7 := { stood := { row := viewNotesUptoRow, standIns := [], harness := (true, "7983912f8388c1232fe9c5c141e876b9df4cf6166949efbeb18a787d5ab460ea"), looks := true }, kinds := [], alts := [], laidByText := true, laidKinds := [.data, .data, .data], laidTests := true, laidLooks := .later }
def ViewNotesUptoCardSaid : Prop := Claim7.holds Tryd.pinned (.plain (OpenSpec.upto viewNotesSpec)) viewNotesUptoCard

/-- THE SECOND FORM's CARD OF 'echelonlaw23.ViewPrints'. -/
def viewPrintsUptoCard : Claim7 := { stood := { row := viewPrintsUptoRow, standIns := [], harness := (true, "7983912f8388c1232fe9c5c141e876b9df4cf6166949efbeb18a787d5ab460ea"), looks := true }, kinds := [], alts := [], laidByText := true, laidKinds := [.data, .data, .data], laidTests := true, laidLooks := .later }
def ViewPrintsUptoCardSaid : Prop := Claim7.holds Tryd.pinned (.plain (OpenSpec.upto viewPrintsSpec)) viewPrintsUptoCard

/-- THE SECOND FORM's CARD OF 'echelonlaw03.DigestReads'. -/
def digestReadsUptoCard : Claim7 := { stood := { row := digestReadsUptoRow, standIns := [], harness := (true, "7983912f8388c1232fe9c5c141e876b9df4cf6166949efbeb18a787d5ab460ea"), looks := true }, kinds := [], alts := [], laidByText := true, laidKinds := [.data, .data, .data, .sentinel, .sentinel, .data, .data], laidTests := true, laidLooks := .later }
def DigestReadsUptoCardSaid : Prop := Claim7.holds Tryd.pinned (.plain (OpenSpec.upto digestReadsSpec)) digestReadsUptoCard

/-- THE SECOND FORM's CARD OF 'echelonlaw03.DigestUnlike'. -/
def digestUnlikeUptoCard : Claim7 := { stood := { row := digestUnlikeUptoRow, standIns := [], harness := (true, "7983912f8388c1232fe9c5c141e876b9df4cf6166949efbeb18a787d5ab460ea"), looks := true }, kinds := [], alts := [], laidByText := true, laidKinds := [.data, .data, .data, .sentinel, .sentinel, .data, .data], laidTests := true, laidLooks := .later }
def DigestUnlikeUptoCardSaid : Prop := Claim7.holds Tryd.pinned (.plain (OpenSpec.upto digestUnlikeSpec)) digestUnlikeUptoCard

/-- THE SECOND FORM's CARD OF 'echelonlaw03.DigestNumbers'. -/
def digestNumbersUptoCard : Claim7 := { stood := { row := digestNumbersUptoRow, standIns := [], harness := (true, "7983912f8388c1232fe9c5c141e876b9df4cf6166949efbeb18a787d5ab460ea"), looks := true }, kinds := [], alts := [], laidByText := true, laidKinds := [.data, .data, .data, .sentinel, .sentinel, .data, .data], laidTests := true, laidLooks := .later }
def DigestNumbersUptoCardSaid : Prop := Claim7.holds Tryd.pinned (.plain (OpenSpec.upto digestNumbersSpec)) digestNumbersUptoCard

/-- THE SECOND FORM's CARD OF 'echelonlaw03.DigestPieces'. -/
def digestPiecesUptoCard : Claim7 := { stood := { row := digestPiecesUptoRow, standIns := [], harness := (true, "7983912f8388c1232fe9c5c141e876b9df4cf6166949efbeb18a787d5ab460ea"), looks := true }, kinds := [], alts := [], laidByText := true, laidKinds := [.data, .data, .data, .sentinel, .sentinel, .data, .data], laidTests := true, laidLooks := .later }
def DigestPiecesUptoCardSaid : Prop := Claim7.holds Tryd.pinned (.plain (OpenSpec.upto digestPiecesSpec)) digestPiecesUptoCard

/-- THE SECOND FORM's CARD OF 'echelonlaw03.DigestBytes'. -/
def digestBytesUptoCard : Claim7 := { stood := { row := digestBytesUptoRow, standIns := [], harness := (true, "7983912f8388c1232fe9c5c141e876b9df4cf6166949efbeb18a787d5ab460ea"), looks := true }, kinds := [], alts := [], laidByText := true, laidKinds := [.data, .data, .data, .sentinel, .sentinel, .data, .data], laidTests := true, laidLooks := .later }
def DigestBytesUptoCardSaid : Prop := Claim7.holds Tryd.pinned (.plain (OpenSpec.upto digestBytesSpec)) digestBytesUptoCard

/-- THE SECOND FORM's CARD OF 'echelonlaw03.DigestCuts'. -/
def digestCutsUptoCard : Claim7 := { stood := { row := digestCutsUptoRow, standIns := [], harness := (true, "7983912f8388c1232fe9c5c141e876b9df4cf6166949efbeb18a787d5ab460ea"), looks := true }, kinds := [], alts := [], laidByText := true, laidKinds := [.data, .data, .data, .sentinel, .sentinel, .data, .data], laidTests := true, laidLooks := .later }
def DigestCutsUptoCardSaid : Prop := Claim7.holds Tryd.pinned (.plain (OpenSpec.upto digestCutsSpec)) digestCutsUptoCard

/-- THE SECOND FORM's CARD OF 'echelonlaw23.ViewTables'. -/
def viewTablesUptoCard : Claim7 := { stood := { row := viewTablesUptoRow, standIns := [], harness := (true, "7983912f8388c1232fe9c5c141e876b9df4cf6166949efbeb18a787d5ab460ea"), looks := true }, kinds := [], alts := [], laidByText := true, laidKinds := [.data, .data, .data], laidTests := true, laidLooks := .later }
def ViewTablesUptoCardSaid : Prop := Claim7.holds Tryd.pinned (.plain (OpenSpec.upto viewTablesSpec)) viewTablesUptoCard
end Rows
end Go.Proofs.YtneahkibnaoiiaaDoor
