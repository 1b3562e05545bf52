/-
  DERIVED. GIVEN WITH THE SEED: THE CARDS: each row of YtekiljakcngcoaaGreatDoorRows.lean that lists a variable, with what it lists TIED to the program's text (the seventh form; the later family's looks); each row that meets fmt, with fmt's text TOLD by the authors' own Lean function (tested against real Go, not proved from fmt's source: count such statements apart). THE CARD IS WHAT COUNTS. Prove the row's statement (the work); the ties are given (YtekiljakcngcoaaGreatDoorTie.lean); close each card by the builder's one call (the guide's Derived/Test/ToyasCard.lean, 'card_holds'). Laid BY PROGRAM, IN A SANDBOX (cutbox-door.mjs). By AI agents, Wed Nov 11 2026. No macro, syntax, notation, axiom, sorry.
-/
import Derived.Test.YtekiljakcngcoaaGreatDoorRows
import GoSem.ClaimSeven
namespace Go.Proofs.YtekiljakcngcoaaGreatDoor
namespace Rows

/-- THE TIED CARD OF 'roundtablelaw29.SubdivisionKeeps'. -/
def subdivisionKeepsCard : Claim7 := { stood := { row := subdivisionKeepsRow, standIns := [], harness := (true, "d44ff7aa76373cd0a217de01c42e7892809bf7889c65cbc4a01436e8a46224cf"), looks := false }, kinds := [], alts := [], laidByText := true, laidKinds := [.data, .data, .data], laidTests := true, laidLooks := .later }
def SubdivisionKeepsCardSaid : Prop := Claim7.holds Tryz.pinned (.plain (OpenSpec.ofChange subdivisionKeepsSpec)) subdivisionKeepsCard

/-- THE SECOND FORM's CARD OF 'roundtablelaw29.SubdivisionKeeps'. -/
def subdivisionKeepsUptoCard : Claim7 := { stood := { row := subdivisionKeepsUptoRow, standIns := [], harness := (true, "d44ff7aa76373cd0a217de01c42e7892809bf7889c65cbc4a01436e8a46224cf"), looks := false }, kinds := [], alts := [], laidByText := true, laidKinds := [.data, .data, .data], laidTests := true, laidLooks := .later }
def SubdivisionKeepsUptoCardSaid : Prop := Claim7.holds Tryz.pinned (.plain (OpenSpec.upto subdivisionKeepsSpec)) subdivisionKeepsUptoCard
end Rows
end Go.Proofs.YtekiljakcngcoaaGreatDoor
