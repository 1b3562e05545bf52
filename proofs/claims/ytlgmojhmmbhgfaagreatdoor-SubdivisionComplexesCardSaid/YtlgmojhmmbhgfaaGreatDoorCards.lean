/-
  DERIVED. GIVEN WITH THE SEED: THE CARDS: each row of YtlgmojhmmbhgfaaGreatDoorRows.lean that lists a variable, with what it lists TIED to the program's text (the seventh form; the later family's looks); each row that meets fmt, with fmt's text TOLD by the authors' own Lean function (tested against real Go, not proved from fmt's source: count such statements apart). THE CARD IS WHAT COUNTS. Prove the row's statement (the work); the ties are given (YtlgmojhmmbhgfaaGreatDoorTie.lean); close each card by the builder's one call (the guide's Derived/Test/ToyasCard.lean, 'card_holds'). Laid BY PROGRAM, IN A SANDBOX (cutbox-door.mjs). By AI agents, Wed Nov 11 2026. No macro, syntax, notation, axiom, sorry.
-/
import Derived.Test.YtlgmojhmmbhgfaaGreatDoorRows
import GoSem.ClaimSeven
namespace Go.Proofs.YtlgmojhmmbhgfaaGreatDoor
namespace Rows

/-- THE TIED CARD OF 'roundtablelaw29.SubdivisionComplexes'. -/
def subdivisionComplexesCard : Claim7 := { stood := { row := subdivisionComplexesRow, standIns := [], harness := (true, "8c7affa7fefcbb67a7cef0c92e50889ee5b88271fb51452e5d0036e5d7e20f3b"), looks := false }, kinds := [], alts := [], laidByText := true, laidKinds := [.data, .data, .data], laidTests := true, laidLooks := .later }
def SubdivisionComplexesCardSaid : Prop := Claim7.holds Tryz.pinned (.plain (OpenSpec.ofChange subdivisionComplexesSpec)) subdivisionComplexesCard

/-- THE SECOND FORM's CARD OF 'roundtablelaw29.SubdivisionComplexes'. -/
def subdivisionComplexesUptoCard : Claim7 := { stood := { row := subdivisionComplexesUptoRow, standIns := [], harness := (true, "8c7affa7fefcbb67a7cef0c92e50889ee5b88271fb51452e5d0036e5d7e20f3b"), looks := false }, kinds := [], alts := [], laidByText := true, laidKinds := [.data, .data, .data], laidTests := true, laidLooks := .later }
def SubdivisionComplexesUptoCardSaid : Prop := Claim7.holds Tryz.pinned (.plain (OpenSpec.upto subdivisionComplexesSpec)) subdivisionComplexesUptoCard
end Rows
end Go.Proofs.YtlgmojhmmbhgfaaGreatDoor
