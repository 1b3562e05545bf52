/-
  DERIVED. GIVEN WITH THE SEED: THE CARDS: each row of YtmcllakdbgnfiaaGreatDoorRows.lean that lists a variable, with what it lists TIED to the program's text (the seventh form; the later family's looks); each row that meets fmt, with fmt's text TOLD by the authors' own Lean function (tested against real Go, not proved from fmt's source: count such statements apart). THE CARD IS WHAT COUNTS. Prove the row's statement (the work); the ties are given (YtmcllakdbgnfiaaGreatDoorTie.lean); close each card by the builder's one call (the guide's Derived/Test/ToyasCard.lean, 'card_holds'). Laid BY PROGRAM, IN A SANDBOX (cutbox-door.mjs). By AI agents, Wed Nov 11 2026. No macro, syntax, notation, axiom, sorry.
-/
import Derived.Test.YtmcllakdbgnfiaaGreatDoorRows
import GoSem.ClaimSeven
namespace Go.Proofs.YtmcllakdbgnfiaaGreatDoor
namespace Rows

/-- THE TIED CARD OF 'roundtablelaw29.SubdivisionComplexes'. -/
def subdivisionComplexesCard : Claim7 := { stood := { row := subdivisionComplexesRow, standIns := [], harness := (true, "8ac2148791d4cd2df8da695f912629fc05dfd75c82b80b0fe3d9da2a878dbe04"), looks := false }, kinds := [], alts := [], laidByText := true, laidKinds := [.data, .data, .data], laidTests := true, laidLooks := .later }
def SubdivisionComplexesCardSaid : Prop := Claim7.holds Tryz.pinned (.plain (OpenSpec.ofChange subdivisionComplexesSpec)) subdivisionComplexesCard

/-- THE TIED CARD OF 'roundtablelaw29.SubdivisionRepeats'. -/
def subdivisionRepeatsCard : Claim7 := { stood := { row := subdivisionRepeatsRow, standIns := [], harness := (true, "8ac2148791d4cd2df8da695f912629fc05dfd75c82b80b0fe3d9da2a878dbe04"), looks := false }, kinds := [], alts := [], laidByText := true, laidKinds := [.data, .data, .data], laidTests := true, laidLooks := .later }
def SubdivisionRepeatsCardSaid : Prop := Claim7.holds Tryz.pinned (.plain (OpenSpec.ofChange subdivisionRepeatsSpec)) subdivisionRepeatsCard

/-- THE TIED CARD OF 'roundtablelaw29.SubdivisionKeeps'. -/
def subdivisionKeepsCard : Claim7 := { stood := { row := subdivisionKeepsRow, standIns := [], harness := (true, "8ac2148791d4cd2df8da695f912629fc05dfd75c82b80b0fe3d9da2a878dbe04"), looks := false }, kinds := [], alts := [], laidByText := true, laidKinds := [.data, .data, .data], laidTests := true, laidLooks := .later }
def SubdivisionKeepsCardSaid : Prop := Claim7.holds Tryz.pinned (.plain (OpenSpec.ofChange subdivisionKeepsSpec)) subdivisionKeepsCard

/-- THE SECOND FORM's CARD OF 'roundtablelaw29.SubdivisionComplexes'. -/
def subdivisionComplexesUptoCard : Claim7 := { stood := { row := subdivisionComplexesUptoRow, standIns := [], harness := (true, "8ac2148791d4cd2df8da695f912629fc05dfd75c82b80b0fe3d9da2a878dbe04"), looks := false }, kinds := [], alts := [], laidByText := true, laidKinds := [.data, .data, .data], laidTests := true, laidLooks := .later }
def SubdivisionComplexesUptoCardSaid : Prop := Claim7.holds Tryz.pinned (.plain (OpenSpec.upto subdivisionComplexesSpec)) subdivisionComplexesUptoCard

/-- THE SECOND FORM's CARD OF 'roundtablelaw29.SubdivisionRepeats'. -/
def subdivisionRepeatsUptoCard : Claim7 := { stood := { row := subdivisionRepeatsUptoRow, standIns := [], harness := (true, "8ac2148791d4cd2df8da695f912629fc05dfd75c82b80b0fe3d9da2a878dbe04"), looks := false }, kinds := [], alts := [], laidByText := true, laidKinds := [.data, .data, .data], laidTests := true, laidLooks := .later }
def SubdivisionRepeatsUptoCardSaid : Prop := Claim7.holds Tryz.pinned (.plain (OpenSpec.upto subdivisionRepeatsSpec)) subdivisionRepeatsUptoCard

/-- THE SECOND FORM's CARD OF 'roundtablelaw29.SubdivisionKeeps'. -/
def subdivisionKeepsUptoCard : Claim7 := { stood := { row := subdivisionKeepsUptoRow, standIns := [], harness := (true, "8ac2148791d4cd2df8da695f912629fc05dfd75c82b80b0fe3d9da2a878dbe04"), looks := false }, kinds := [], alts := [], laidByText := true, laidKinds := [.data, .data, .data], laidTests := true, laidLooks := .later }
def SubdivisionKeepsUptoCardSaid : Prop := Claim7.holds Tryz.pinned (.plain (OpenSpec.upto subdivisionKeepsSpec)) subdivisionKeepsUptoCard
end Rows
end Go.Proofs.YtmcllakdbgnfiaaGreatDoor
