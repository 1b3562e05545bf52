/-
  DERIVED. GIVEN WITH THE SEED: THE CARDS: each row of YtgppfikidagfpaaGreatDoorRows.lean that lists a variable, with what it lists TIED to the program's text (the seventh form; the later family's looks); each row that meets fmt, with fmt's text TOLD by the authors' own Lean function (tested against real Go, not proved from fmt's source: count such statements apart). THE CARD IS WHAT COUNTS. Prove the row's statement (the work); the ties are given (YtgppfikidagfpaaGreatDoorTie.lean); close each card by the builder's one call (the guide's Derived/Test/ToyasCard.lean, 'card_holds'). Laid BY PROGRAM, IN A SANDBOX (cutbox-door.mjs). By AI agents, Wed Nov 11 2026. No macro, syntax, notation, axiom, sorry.
-/
import Derived.Test.YtgppfikidagfpaaGreatDoorRows
import GoSem.ClaimSeven
namespace Go.Proofs.YtgppfikidagfpaaGreatDoor
namespace Rows

/-- THE TIED CARD OF 'roundtablelaw29.SubdivisionSimplices'. -/
def subdivisionSimplicesCard : Claim7 := { stood := { row := subdivisionSimplicesRow, standIns := [], harness := (true, "1dd25e3c7a1b9a654c502b7f138bd5894de8b60b0f9176090fcc7fc1cf362bcb"), looks := false }, kinds := [], alts := [], laidByText := true, laidKinds := [.data, .data, .data], laidTests := true, laidLooks := .later }
def SubdivisionSimplicesCardSaid : Prop := Claim7.holds Tryz.pinned (.plain (OpenSpec.ofChange subdivisionSimplicesSpec)) subdivisionSimplicesCard

/-- THE TIED CARD OF 'roundtablelaw29.SubdivisionSnapshots'. -/
def subdivisionSnapshotsCard : Claim7 := { stood := { row := subdivisionSnapshotsRow, standIns := [], harness := (true, "1dd25e3c7a1b9a654c502b7f138bd5894de8b60b0f9176090fcc7fc1cf362bcb"), looks := false }, kinds := [], alts := [], laidByText := true, laidKinds := [.data, .data, .data], laidTests := true, laidLooks := .later }
def SubdivisionSnapshotsCardSaid : Prop := Claim7.holds Tryz.pinned (.plain (OpenSpec.ofChange subdivisionSnapshotsSpec)) subdivisionSnapshotsCard

/-- THE TIED CARD OF 'roundtablelaw29.SubdivisionFaces'. -/
def subdivisionFacesCard : Claim7 := { stood := { row := subdivisionFacesRow, standIns := [], harness := (true, "1dd25e3c7a1b9a654c502b7f138bd5894de8b60b0f9176090fcc7fc1cf362bcb"), looks := false }, kinds := [], alts := [], laidByText := true, laidKinds := [.data, .data, .data], laidTests := true, laidLooks := .later }
def SubdivisionFacesCardSaid : Prop := Claim7.holds Tryz.pinned (.plain (OpenSpec.ofChange subdivisionFacesSpec)) subdivisionFacesCard

/-- THE TIED CARD OF 'roundtablelaw29.SubdivisionComplexes'. -/
def subdivisionComplexesCard : Claim7 := { stood := { row := subdivisionComplexesRow, standIns := [], harness := (true, "1dd25e3c7a1b9a654c502b7f138bd5894de8b60b0f9176090fcc7fc1cf362bcb"), looks := false }, kinds := [], alts := [], laidByText := true, laidKinds := [.data, .data, .data], laidTests := true, laidLooks := .later }
def SubdivisionComplexesCardSaid : Prop := Claim7.holds Tryz.pinned (.plain (OpenSpec.ofChange subdivisionComplexesSpec)) subdivisionComplexesCard

/-- THE TIED CARD OF 'roundtablelaw29.SubdivisionChecks'. -/
def subdivisionChecksCard : Claim7 := { stood := { row := subdivisionChecksRow, standIns := [], harness := (true, "1dd25e3c7a1b9a654c502b7f138bd5894de8b60b0f9176090fcc7fc1cf362bcb"), looks := false }, kinds := [], alts := [], laidByText := true, laidKinds := [.data, .data, .data], laidTests := true, laidLooks := .later }
def SubdivisionChecksCardSaid : Prop := Claim7.holds Tryz.pinned (.plain (OpenSpec.ofChange subdivisionChecksSpec)) subdivisionChecksCard

/-- THE TIED CARD OF 'roundtablelaw29.SubdivisionBounds'. -/
def subdivisionBoundsCard : Claim7 := { stood := { row := subdivisionBoundsRow, standIns := [], harness := (true, "1dd25e3c7a1b9a654c502b7f138bd5894de8b60b0f9176090fcc7fc1cf362bcb"), looks := false }, kinds := [], alts := [], laidByText := true, laidKinds := [.data, .data, .data], laidTests := true, laidLooks := .later }
def SubdivisionBoundsCardSaid : Prop := Claim7.holds Tryz.pinned (.plain (OpenSpec.ofChange subdivisionBoundsSpec)) subdivisionBoundsCard

/-- THE TIED CARD OF 'roundtablelaw29.SubdivisionRepeats'. -/
def subdivisionRepeatsCard : Claim7 := { stood := { row := subdivisionRepeatsRow, standIns := [], harness := (true, "1dd25e3c7a1b9a654c502b7f138bd5894de8b60b0f9176090fcc7fc1cf362bcb"), looks := false }, kinds := [], alts := [], laidByText := true, laidKinds := [.data, .data, .data], laidTests := true, laidLooks := .later }
def SubdivisionRepeatsCardSaid : Prop := Claim7.holds Tryz.pinned (.plain (OpenSpec.ofChange subdivisionRepeatsSpec)) subdivisionRepeatsCard

/-- THE TIED CARD OF 'roundtablelaw29.SubdivisionKeeps'. -/
def subdivisionKeepsCard : Claim7 := { stood := { row := subdivisionKeepsRow, standIns := [], harness := (true, "1dd25e3c7a1b9a654c502b7f138bd5894de8b60b0f9176090fcc7fc1cf362bcb"), looks := false }, kinds := [], alts := [], laidByText := true, laidKinds := [.data, .data, .data], laidTests := true, laidLooks := .later }
def SubdivisionKeepsCardSaid : Prop := Claim7.holds Tryz.pinned (.plain (OpenSpec.ofChange subdivisionKeepsSpec)) subdivisionKeepsCard

/-- THE SECOND FORM's CARD OF 'roundtablelaw29.SubdivisionSimplices'. -/
def subdivisionSimplicesUptoCard : Claim7 := { stood := { row := subdivisionSimplicesUptoRow, standIns := [], harness := (true, "1dd25e3c7a1b9a654c502b7f138bd5894de8b60b0f9176090fcc7fc1cf362bcb"), looks := false }, kinds := [], alts := [], laidByText := true, laidKinds := [.data, .data, .data], laidTests := true, laidLooks := .later }
def SubdivisionSimplicesUptoCardSaid : Prop := Claim7.holds Tryz.pinned (.plain (OpenSpec.upto subdivisionSimplicesSpec)) subdivisionSimplicesUptoCard

/-- THE SECOND FORM's CARD OF 'roundtablelaw29.SubdivisionSnapshots'. -/
def subdivisionSnapshotsUptoCard : Claim7 := { stood := { row := subdivisionSnapshotsUptoRow, standIns := [], harness := (true, "1dd25e3c7a1b9a654c502b7f138bd5894de8b60b0f9176090fcc7fc1cf362bcb"), looks := false }, kinds := [], alts := [], laidByText := true, laidKinds := [.data, .data, .data], laidTests := true, laidLooks := .later }
def SubdivisionSnapshotsUptoCardSaid : Prop := Claim7.holds Tryz.pinned (.plain (OpenSpec.upto subdivisionSnapshotsSpec)) subdivisionSnapshotsUptoCard

/-- THE SECOND FORM's CARD OF 'roundtablelaw29.SubdivisionFaces'. -/
def subdivisionFacesUptoCard : Claim7 := { stood := { row := subdivisionFacesUptoRow, standIns := [], harness := (true, "1dd25e3c7a1b9a654c502b7f138bd5894de8b60b0f9176090fcc7fc1cf362bcb"), looks := false }, kinds := [], alts := [], laidByText := true, laidKinds := [.data, .data, .data], laidTests := true, laidLooks := .later }
def SubdivisionFacesUptoCardSaid : Prop := Claim7.holds Tryz.pinned (.plain (OpenSpec.upto subdivisionFacesSpec)) subdivisionFacesUptoCard

/-- THE SECOND FORM's CARD OF 'roundtablelaw29.SubdivisionComplexes'. -/
def subdivisionComplexesUptoCard : Claim7 := { stood := { row := subdivisionComplexesUptoRow, standIns := [], harness := (true, "1dd25e3c7a1b9a654c502b7f138bd5894de8b60b0f9176090fcc7fc1cf362bcb"), looks := false }, kinds := [], alts := [], laidByText := true, laidKinds := [.data, .data, .data], laidTests := true, laidLooks := .later }
def SubdivisionComplexesUptoCardSaid : Prop := Claim7.holds Tryz.pinned (.plain (OpenSpec.upto subdivisionComplexesSpec)) subdivisionComplexesUptoCard

/-- THE SECOND FORM's CARD OF 'roundtablelaw29.SubdivisionChecks'. -/
def subdivisionChecksUptoCard : Claim7 := { stood := { row := subdivisionChecksUptoRow, standIns := [], harness := (true, "1dd25e3c7a1b9a654c502b7f138bd5894de8b60b0f9176090fcc7fc1cf362bcb"), looks := false }, kinds := [], alts := [], laidByText := true, laidKinds := [.data, .data, .data], laidTests := true, laidLooks := .later }
def SubdivisionChecksUptoCardSaid : Prop := Claim7.holds Tryz.pinned (.plain (OpenSpec.upto subdivisionChecksSpec)) subdivisionChecksUptoCard

/-- THE SECOND FORM's CARD OF 'roundtablelaw29.SubdivisionBounds'. -/
def subdivisionBoundsUptoCard : Claim7 := { stood := { row := subdivisionBoundsUptoRow, standIns := [], harness := (true, "1dd25e3c7a1b9a654c502b7f138bd5894de8b60b0f9176090fcc7fc1cf362bcb"), looks := false }, kinds := [], alts := [], laidByText := true, laidKinds := [.data, .data, .data], laidTests := true, laidLooks := .later }
def SubdivisionBoundsUptoCardSaid : Prop := Claim7.holds Tryz.pinned (.plain (OpenSpec.upto subdivisionBoundsSpec)) subdivisionBoundsUptoCard

/-- THE SECOND FORM's CARD OF 'roundtablelaw29.SubdivisionRepeats'. -/
def subdivisionRepeatsUptoCard : Claim7 := { stood := { row := subdivisionRepeatsUptoRow, standIns := [], harness := (true, "1dd25e3c7a1b9a654c502b7f138bd5894de8b60b0f9176090fcc7fc1cf362bcb"), looks := false }, kinds := [], alts := [], laidByText := true, laidKinds := [.data, .data, .data], laidTests := true, laidLooks := .later }
def SubdivisionRepeatsUptoCardSaid : Prop := Claim7.holds Tryz.pinned (.plain (OpenSpec.upto subdivisionRepeatsSpec)) subdivisionRepeatsUptoCard

/-- THE SECOND FORM's CARD OF 'roundtablelaw29.SubdivisionKeeps'. -/
def subdivisionKeepsUptoCard : Claim7 := { stood := { row := subdivisionKeepsUptoRow, standIns := [], harness := (true, "1dd25e3c7a1b9a654c502b7f138bd5894de8b60b0f9176090fcc7fc1cf362bcb"), looks := false }, kinds := [], alts := [], laidByText := true, laidKinds := [.data, .data, .data], laidTests := true, laidLooks := .later }
def SubdivisionKeepsUptoCardSaid : Prop := Claim7.holds Tryz.pinned (.plain (OpenSpec.upto subdivisionKeepsSpec)) subdivisionKeepsUptoCard
end Rows
end Go.Proofs.YtgppfikidagfpaaGreatDoor
