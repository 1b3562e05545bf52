/-
  DERIVED. GIVEN WITH THE SEED: THE CARDS: each row of YtofkoleingbbpaaGreatDoorRows.lean that lists a variable, with what it lists TIED to the program's text (the seventh form; the later family's looks); each row that meets fmt, with fmt's text TOLD by the authors' own Lean function (tested against real Go, not proved from fmt's source: count such statements apart). THE CARD IS WHAT COUNTS. Prove the row's statement (the work); the ties are given (YtofkoleingbbpaaGreatDoorTie.lean); close each card by the builder's one call (the guide's Derived/Test/ToyasCard.lean, 'card_holds'). Laid BY PROGRAM, IN A SANDBOX (cutbox-door.mjs). By AI agents, Wed Nov 11 2026. No macro, syntax, notation, axiom, sorry.
-/
import Derived.Test.YtofkoleingbbpaaGreatDoorRows
import GoSem.ClaimSeven
namespace Go.Proofs.YtofkoleingbbpaaGreatDoor
namespace Rows

/-- THE TIED CARD OF 'roundtablelaw34.SpernerSuits'. -/
def spernerSuitsCard : Claim7 := { stood := { row := spernerSuitsRow, standIns := [], harness := (true, "df91bd8bdc57081fe77a38f6158b3cb3cb8c10be8fbacf92a7d46f96ed3d96e3"), looks := false }, kinds := [], alts := [], laidByText := true, laidKinds := [.data, .data, .data], laidTests := true, laidLooks := .later }
def SpernerSuitsCardSaid : Prop := Claim7.holds Tryz.pinned (.plain (OpenSpec.ofChange spernerSuitsSpec)) spernerSuitsCard

/-- THE TIED CARD OF 'roundtablelaw34.SpernerCounts'. -/
def spernerCountsCard : Claim7 := { stood := { row := spernerCountsRow, standIns := [], harness := (true, "df91bd8bdc57081fe77a38f6158b3cb3cb8c10be8fbacf92a7d46f96ed3d96e3"), looks := false }, kinds := [], alts := [], laidByText := true, laidKinds := [.data, .data, .data], laidTests := true, laidLooks := .later }
def SpernerCountsCardSaid : Prop := Claim7.holds Tryz.pinned (.plain (OpenSpec.ofChange spernerCountsSpec)) spernerCountsCard

/-- THE TIED CARD OF 'roundtablelaw34.SpernerLabels'. -/
def spernerLabelsCard : Claim7 := { stood := { row := spernerLabelsRow, standIns := [], harness := (true, "df91bd8bdc57081fe77a38f6158b3cb3cb8c10be8fbacf92a7d46f96ed3d96e3"), looks := false }, kinds := [], alts := [], laidByText := true, laidKinds := [.data, .data, .data], laidTests := true, laidLooks := .later }
def SpernerLabelsCardSaid : Prop := Claim7.holds Tryz.pinned (.plain (OpenSpec.ofChange spernerLabelsSpec)) spernerLabelsCard

/-- THE TIED CARD OF 'roundtablelaw34.SpernerCertifies'. -/
def spernerCertifiesCard : Claim7 := { stood := { row := spernerCertifiesRow, standIns := [], harness := (true, "df91bd8bdc57081fe77a38f6158b3cb3cb8c10be8fbacf92a7d46f96ed3d96e3"), looks := false }, kinds := [], alts := [], laidByText := true, laidKinds := [.data, .data, .data], laidTests := true, laidLooks := .later }
def SpernerCertifiesCardSaid : Prop := Claim7.holds Tryz.pinned (.plain (OpenSpec.ofChange spernerCertifiesSpec)) spernerCertifiesCard

/-- THE TIED CARD OF 'roundtablelaw34.SpernerVerifies'. -/
def spernerVerifiesCard : Claim7 := { stood := { row := spernerVerifiesRow, standIns := [], harness := (true, "df91bd8bdc57081fe77a38f6158b3cb3cb8c10be8fbacf92a7d46f96ed3d96e3"), looks := false }, kinds := [], alts := [], laidByText := true, laidKinds := [.data, .data, .data], laidTests := true, laidLooks := .later }
def SpernerVerifiesCardSaid : Prop := Claim7.holds Tryz.pinned (.plain (OpenSpec.ofChange spernerVerifiesSpec)) spernerVerifiesCard

/-- THE TIED CARD OF 'roundtablelaw34.SpernerProves'. -/
def spernerProvesCard : Claim7 := { stood := { row := spernerProvesRow, standIns := [], harness := (true, "df91bd8bdc57081fe77a38f6158b3cb3cb8c10be8fbacf92a7d46f96ed3d96e3"), looks := false }, kinds := [], alts := [], laidByText := true, laidKinds := [.data, .data, .data], laidTests := true, laidLooks := .later }
def SpernerProvesCardSaid : Prop := Claim7.holds Tryz.pinned (.plain (OpenSpec.ofChange spernerProvesSpec)) spernerProvesCard

/-- THE SECOND FORM's CARD OF 'roundtablelaw34.SpernerSuits'. -/
def spernerSuitsUptoCard : Claim7 := { stood := { row := spernerSuitsUptoRow, standIns := [], harness := (true, "df91bd8bdc57081fe77a38f6158b3cb3cb8c10be8fbacf92a7d46f96ed3d96e3"), looks := false }, kinds := [], alts := [], laidByText := true, laidKinds := [.data, .data, .data], laidTests := true, laidLooks := .later }
def SpernerSuitsUptoCardSaid : Prop := Claim7.holds Tryz.pinned (.plain (OpenSpec.upto spernerSuitsSpec)) spernerSuitsUptoCard

/-- THE SECOND FORM's CARD OF 'roundtablelaw34.SpernerCounts'. -/
def spernerCountsUptoCard : Claim7 := { stood := { row := spernerCountsUptoRow, standIns := [], harness := (true, "df91bd8bdc57081fe77a38f6158b3cb3cb8c10be8fbacf92a7d46f96ed3d96e3"), looks := false }, kinds := [], alts := [], laidByText := true, laidKinds := [.data, .data, .data], laidTests := true, laidLooks := .later }
def SpernerCountsUptoCardSaid : Prop := Claim7.holds Tryz.pinned (.plain (OpenSpec.upto spernerCountsSpec)) spernerCountsUptoCard

/-- THE SECOND FORM's CARD OF 'roundtablelaw34.SpernerLabels'. -/
def spernerLabelsUptoCard : Claim7 := { stood := { row := spernerLabelsUptoRow, standIns := [], harness := (true, "df91bd8bdc57081fe77a38f6158b3cb3cb8c10be8fbacf92a7d46f96ed3d96e3"), looks := false }, kinds := [], alts := [], laidByText := true, laidKinds := [.data, .data, .data], laidTests := true, laidLooks := .later }
def SpernerLabelsUptoCardSaid : Prop := Claim7.holds Tryz.pinned (.plain (OpenSpec.upto spernerLabelsSpec)) spernerLabelsUptoCard

/-- THE SECOND FORM's CARD OF 'roundtablelaw34.SpernerCertifies'. -/
def spernerCertifiesUptoCard : Claim7 := { stood := { row := spernerCertifiesUptoRow, standIns := [], harness := (true, "df91bd8bdc57081fe77a38f6158b3cb3cb8c10be8fbacf92a7d46f96ed3d96e3"), looks := false }, kinds := [], alts := [], laidByText := true, laidKinds := [.data, .data, .data], laidTests := true, laidLooks := .later }
def SpernerCertifiesUptoCardSaid : Prop := Claim7.holds Tryz.pinned (.plain (OpenSpec.upto spernerCertifiesSpec)) spernerCertifiesUptoCard

/-- THE SECOND FORM's CARD OF 'roundtablelaw34.SpernerVerifies'. -/
def spernerVerifiesUptoCard : Claim7 := { stood := { row := spernerVerifiesUptoRow, standIns := [], harness := (true, "df91bd8bdc57081fe77a38f6158b3cb3cb8c10be8fbacf92a7d46f96ed3d96e3"), looks := false }, kinds := [], alts := [], laidByText := true, laidKinds := [.data, .data, .data], laidTests := true, laidLooks := .later }
def SpernerVerifiesUptoCardSaid : Prop := Claim7.holds Tryz.pinned (.plain (OpenSpec.upto spernerVerifiesSpec)) spernerVerifiesUptoCard

/-- THE SECOND FORM's CARD OF 'roundtablelaw34.SpernerProves'. -/
def spernerProvesUptoCard : Claim7 := { stood := { row := spernerProvesUptoRow, standIns := [], harness := (true, "df91bd8bdc57081fe77a38f6158b3cb3cb8c10be8fbacf92a7d46f96ed3d96e3"), looks := false }, kinds := [], alts := [], laidByText := true, laidKinds := [.data, .data, .data], laidTests := true, laidLooks := .later }
def SpernerProvesUptoCardSaid : Prop := Claim7.holds Tryz.pinned (.plain (OpenSpec.upto spernerProvesSpec)) spernerProvesUptoCard
end Rows
end Go.Proofs.YtofkoleingbbpaaGreatDoor
