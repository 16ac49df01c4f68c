/-
  DERIVED. GIVEN WITH THE SEED: THE CARDS: each row of YtlppoapbkmbipaaDoorRows.lean that lists a variable, with what it lists TIED to the program's text (the seventh form; the later family's looks); each row that meets fmt, with fmt's text TOLD by the authors' own Lean function (tested against real Go, not proved from fmt's source: count such statements apart). THE CARD IS WHAT COUNTS. Prove the row's statement (the work); the ties are given (YtlppoapbkmbipaaDoorTie.lean); close each card by the builder's one call (the guide's Derived/Test/ToyasCard.lean, 'card_holds'). Laid BY PROGRAM, IN A SANDBOX (cutbox-door.mjs). By AI agents, Wed Nov 11 2026. No macro, syntax, notation, axiom, sorry.
-/
import Derived.Test.YtlppoapbkmbipaaDoorRows
import GoSem.ClaimSeven
namespace Go.Proofs.YtlppoapbkmbipaaDoor
namespace Rows

/-- THE TIED CARD OF 'echelonlaw01.FixedWorks'. -/
def fixedWorksCard : Claim7 := { stood := { row := fixedWorksRow, standIns := [], harness := (true, "32e241a5ccad5b808782018febea61a42b9b19c190fcfaf55892ce9225eddf69"), looks := false }, kinds := [], alts := [], laidByText := true, laidKinds := [.data, .data, .data, .data, .pinned], laidTests := true, laidLooks := .later }
def FixedWorksCardSaid : Prop := Claim7.holds Tryd.pinned (.plain (OpenSpec.ofChange fixedWorksSpec)) fixedWorksCard

/-- THE TIED CARD OF 'echelonlaw01.FixedParts'. -/
def fixedPartsCard : Claim7 := { stood := { row := fixedPartsRow, standIns := [], harness := (true, "32e241a5ccad5b808782018febea61a42b9b19c190fcfaf55892ce9225eddf69"), looks := false }, kinds := [], alts := [], laidByText := true, laidKinds := [.data, .data, .data, .data, .pinned], laidTests := true, laidLooks := .later }
def FixedPartsCardSaid : Prop := Claim7.holds Tryd.pinned (.plain (OpenSpec.ofChange fixedPartsSpec)) fixedPartsCard

/-- THE TIED CARD OF 'echelonlaw01.FixedBlends'. -/
def fixedBlendsCard : Claim7 := { stood := { row := fixedBlendsRow, standIns := [], harness := (true, "32e241a5ccad5b808782018febea61a42b9b19c190fcfaf55892ce9225eddf69"), looks := false }, kinds := [], alts := [], laidByText := true, laidKinds := [.data, .data, .data, .data, .pinned], laidTests := true, laidLooks := .later }
def FixedBlendsCardSaid : Prop := Claim7.holds Tryd.pinned (.plain (OpenSpec.ofChange fixedBlendsSpec)) fixedBlendsCard

/-- THE TIED CARD OF 'echelonlaw01.FixedPrints'. -/
def fixedPrintsCard : Claim7 := { stood := { row := fixedPrintsRow, standIns := [], harness := (true, "32e241a5ccad5b808782018febea61a42b9b19c190fcfaf55892ce9225eddf69"), looks := false }, kinds := [], alts := [], laidByText := true, laidKinds := [.data, .data, .data, .data, .pinned], laidTests := true, laidLooks := .later }
def FixedPrintsCardSaid : Prop := Claim7.holds Tryd.pinned (.plain (OpenSpec.ofChange fixedPrintsSpec)) fixedPrintsCard

/-- THE TIED CARD OF 'echelonlaw01.FixedReads'. -/
def fixedReadsCard : Claim7 := { stood := { row := fixedReadsRow, standIns := [], harness := (true, "32e241a5ccad5b808782018febea61a42b9b19c190fcfaf55892ce9225eddf69"), looks := false }, kinds := [], alts := [], laidByText := true, laidKinds := [.data, .data, .data, .data, .pinned], laidTests := true, laidLooks := .later }
def FixedReadsCardSaid : Prop := Claim7.holds Tryd.pinned (.plain (OpenSpec.ofChange fixedReadsSpec)) fixedReadsCard

/-- THE TIED CARD OF 'echelonlaw01.FixedSums'. -/
def fixedSumsCard : Claim7 := { stood := { row := fixedSumsRow, standIns := [], harness := (true, "32e241a5ccad5b808782018febea61a42b9b19c190fcfaf55892ce9225eddf69"), looks := false }, kinds := [], alts := [], laidByText := true, laidKinds := [.data, .data, .data, .data, .pinned], laidTests := true, laidLooks := .later }
def FixedSumsCardSaid : Prop := Claim7.holds Tryd.pinned (.plain (OpenSpec.ofChange fixedSumsSpec)) fixedSumsCard

/-- THE TIED CARD OF 'echelonlaw01.FixedNear'. -/
def fixedNearCard : Claim7 := { stood := { row := fixedNearRow, standIns := [], harness := (true, "32e241a5ccad5b808782018febea61a42b9b19c190fcfaf55892ce9225eddf69"), looks := false }, kinds := [], alts := [], laidByText := true, laidKinds := [.data, .data, .data, .data, .pinned], laidTests := true, laidLooks := .later }
def FixedNearCardSaid : Prop := Claim7.holds Tryd.pinned (.plain (OpenSpec.ofChange fixedNearSpec)) fixedNearCard

/-- THE TIED CARD OF 'echelonlaw01.FixedBetween'. -/
def fixedBetweenCard : Claim7 := { stood := { row := fixedBetweenRow, standIns := [], harness := (true, "32e241a5ccad5b808782018febea61a42b9b19c190fcfaf55892ce9225eddf69"), looks := false }, kinds := [], alts := [], laidByText := true, laidKinds := [.data, .data, .data, .data, .pinned], laidTests := true, laidLooks := .later }
def FixedBetweenCardSaid : Prop := Claim7.holds Tryd.pinned (.plain (OpenSpec.ofChange fixedBetweenSpec)) fixedBetweenCard

/-- THE TIED CARD OF 'echelonlaw01.FixedSigns'. -/
def fixedSignsCard : Claim7 := { stood := { row := fixedSignsRow, standIns := [], harness := (true, "32e241a5ccad5b808782018febea61a42b9b19c190fcfaf55892ce9225eddf69"), looks := false }, kinds := [], alts := [], laidByText := true, laidKinds := [.data, .data, .data, .data, .pinned], laidTests := true, laidLooks := .later }
def FixedSignsCardSaid : Prop := Claim7.holds Tryd.pinned (.plain (OpenSpec.ofChange fixedSignsSpec)) fixedSignsCard

/-- THE SECOND FORM's CARD OF 'echelonlaw01.FixedWorks'. -/
def fixedWorksUptoCard : Claim7 := { stood := { row := fixedWorksUptoRow, standIns := [], harness := (true, "32e241a5ccad5b808782018febea61a42b9b19c190fcfaf55892ce9225eddf69"), looks := false }, kinds := [], alts := [], laidByText := true, laidKinds := [.data, .data, .data, .data, .pinned], laidTests := true, laidLooks := .later }
def FixedWorksUptoCardSaid : Prop := Claim7.holds Tryd.pinned (.plain (OpenSpec.upto fixedWorksSpec)) fixedWorksUptoCard

/-- THE SECOND FORM's CARD OF 'echelonlaw01.FixedParts'. -/
def fixedPartsUptoCard : Claim7 := { stood := { row := fixedPartsUptoRow, standIns := [], harness := (true, "32e241a5ccad5b808782018febea61a42b9b19c190fcfaf55892ce9225eddf69"), looks := false }, kinds := [], alts := [], laidByText := true, laidKinds := [.data, .data, .data, .data, .pinned], laidTests := true, laidLooks := .later }
def FixedPartsUptoCardSaid : Prop := Claim7.holds Tryd.pinned (.plain (OpenSpec.upto fixedPartsSpec)) fixedPartsUptoCard

/-- THE SECOND FORM's CARD OF 'echelonlaw01.FixedBlends'. -/
def fixedBlendsUptoCard : Claim7 := { stood := { row := fixedBlendsUptoRow, standIns := [], harness := (true, "32e241a5ccad5b808782018febea61a42b9b19c190fcfaf55892ce9225eddf69"), looks := false }, kinds := [], alts := [], laidByText := true, laidKinds := [.data, .data, .data, .data, .pinned], laidTests := true, laidLooks := .later }
def FixedBlendsUptoCardSaid : Prop := Claim7.holds Tryd.pinned (.plain (OpenSpec.upto fixedBlendsSpec)) fixedBlendsUptoCard

/-- THE SECOND FORM's CARD OF 'echelonlaw01.FixedPrints'. -/
def fixedPrintsUptoCard : Claim7 := { stood := { row := fixedPrintsUptoRow, standIns := [], harness := (true, "32e241a5ccad5b808782018febea61a42b9b19c190fcfaf55892ce9225eddf69"), looks := false }, kinds := [], alts := [], laidByText := true, laidKinds := [.data, .data, .data, .data, .pinned], laidTests := true, laidLooks := .later }
def FixedPrintsUptoCardSaid : Prop := Claim7.holds Tryd.pinned (.plain (OpenSpec.upto fixedPrintsSpec)) fixedPrintsUptoCard

/-- THE SECOND FORM's CARD OF 'echelonlaw01.FixedReads'. -/
def fixedReadsUptoCard : Claim7 := { stood := { row := fixedReadsUptoRow, standIns := [], harness := (true, "32e241a5ccad5b808782018febea61a42b9b19c190fcfaf55892ce9225eddf69"), looks := false }, kinds := [], alts := [], laidByText := true, laidKinds := [.data, .data, .data, .data, .pinned], laidTests := true, laidLooks := .later }
def FixedReadsUptoCardSaid : Prop := Claim7.holds Tryd.pinned (.plain (OpenSpec.upto fixedReadsSpec)) fixedReadsUptoCard

/-- THE SECOND FORM's CARD OF 'echelonlaw01.FixedSums'. -/
def fixedSumsUptoCard : Claim7 := { stood := { row := fixedSumsUptoRow, standIns := [], harness := (true, "32e241a5ccad5b808782018febea61a42b9b19c190fcfaf55892ce9225eddf69"), looks := false }, kinds := [], alts := [], laidByText := true, laidKinds := [.data, .data, .data, .data, .pinned], laidTests := true, laidLooks := .later }
def FixedSumsUptoCardSaid : Prop := Claim7.holds Tryd.pinned (.plain (OpenSpec.upto fixedSumsSpec)) fixedSumsUptoCard

/-- THE SECOND FORM's CARD OF 'echelonlaw01.FixedNear'. -/
def fixedNearUptoCard : Claim7 := { stood := { row := fixedNearUptoRow, standIns := [], harness := (true, "32e241a5ccad5b808782018febea61a42b9b19c190fcfaf55892ce9225eddf69"), looks := false }, kinds := [], alts := [], laidByText := true, laidKinds := [.data, .data, .data, .data, .pinned], laidTests := true, laidLooks := .later }
def FixedNearUptoCardSaid : Prop := Claim7.holds Tryd.pinned (.plain (OpenSpec.upto fixedNearSpec)) fixedNearUptoCard

/-- THE SECOND FORM's CARD OF 'echelonlaw01.FixedBetween'. -/
def fixedBetweenUptoCard : Claim7 := { stood := { row := fixedBetweenUptoRow, standIns := [], harness := (true, "32e241a5ccad5b808782018febea61a42b9b19c190fcfaf55892ce9225eddf69"), looks := false }, kinds := [], alts := [], laidByText := true, laidKinds := [.data, .data, .data, .data, .pinned], laidTests := true, laidLooks := .later }
def FixedBetweenUptoCardSaid : Prop := Claim7.holds Tryd.pinned (.plain (OpenSpec.upto fixedBetweenSpec)) fixedBetweenUptoCard

/-- THE SECOND FORM's CARD OF 'echelonlaw01.FixedSigns'. -/
def fixedSignsUptoCard : Claim7 := { stood := { row := fixedSignsUptoRow, standIns := [], harness := (true, "32e241a5ccad5b808782018febea61a42b9b19c190fcfaf55892ce9225eddf69"), looks := false }, kinds := [], alts := [], laidByText := true, laidKinds := [.data, .data, .data, .data, .pinned], laidTests := true, laidLooks := .later }
def FixedSignsUptoCardSaid : Prop := Claim7.holds Tryd.pinned (.plain (OpenSpec.upto fixedSignsSpec)) fixedSignsUptoCard
end Rows
end Go.Proofs.YtlppoapbkmbipaaDoor
