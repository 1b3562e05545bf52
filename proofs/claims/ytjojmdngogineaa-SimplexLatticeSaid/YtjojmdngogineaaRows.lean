/-
  No cell of these rows narrows 'for every input' (looked for: loops, veiled, ifaces, maps, wideKeys, modest, calm, conditions, laid).
  DERIVED. THE GIVEN ROWS OF THIS SEAT. 12 by the template 'for every input the law returns true; each argument reads behind the call as it read before'; 0 by the template 'total and deterministic' (their statements: YtjojmdngogineaaTotals.lean).
  GIVEN WITH THE SEED: the statements are not yours to turn. If you find one false, say at which input.
  Laid BY PROGRAM, IN A SANDBOX (cutbox-rows.mjs): the forced cells as the released guide's own fill.sh prints them over the translation 90e196249884621f… (all of the seat's roots in one cut). By AI agents, Wed Nov 11 2026. No macro, syntax, notation, axiom, sorry.
-/
import Derived.Test.YtjojmdngogineaaChecked
import GoSem.Claim
import GoSem.ClaimJoined
import GoSem.ClaimMapViews
import Derived.JoinedTies
import Derived.KernelRfl
namespace Go.Proofs.Ytjojmdngogineaa
/- THE CELL 'sum', in the pinned program and in every row, IS THE sha256 OF THE DUMP (.gsa) THAT YtjojmdngogineaaProg.lean LOADS. Nothing in Lean hashes anything: it is a label: what it is worth is what the hold of that sum in a sandbox is worth. -/
noncomputable def Try.pinned : Pinned := { name := "ytjojmdngogineaa", sum := "90e196249884621fa934b26f85b5deaad517a0038de7342c7b51d86659dcdc23", checked := Try.checked }
namespace Rows
def none {H : Type} : Left H := { results := [], args := [] }

/-- 'roundtablelaw26.SimplexChecks': WHATEVER THE INPUT: true; the input reads as it did. -/
def simplexChecksSpec : ChangeSpec := { name := "simplexChecks", fn := fun _ => fun
  | [d] => { results := [.lit (.bool true)], args := [d] }
  | _ => none }
def simplexChecksRow : OpenClaim := { program := "ytjojmdngogineaa", sum := "90e196249884621fa934b26f85b5deaad517a0038de7342c7b51d86659dcdc23", func := "roundtable/roundtablelaw26.SimplexChecks", spec := "simplexChecks", unfollowed := true, recurses := true, plainKeys := false, apart := false }
def SimplexChecksSaid : Prop := simplexChecksRow.holds Try.pinned (OpenSpec.ofChange simplexChecksSpec)

/-- ITS FALSE NEIGHBOUR: 'it returns false'. Refute it at one input. -/
def simplexChecksWrong : ChangeSpec := { name := "simplexChecks", fn := fun _ => fun
  | [d] => { results := [.lit (.bool false)], args := [d] }
  | _ => none }
def SimplexChecksWrongFalsely : Prop := simplexChecksRow.holds Try.pinned (OpenSpec.ofChange simplexChecksWrong)

/-- 'roundtablelaw26.SimplexFaces': WHATEVER THE INPUT: true; the input reads as it did. -/
def simplexFacesSpec : ChangeSpec := { name := "simplexFaces", fn := fun _ => fun
  | [d1, d2, d3] => { results := [.lit (.bool true)], args := [d1, d2, d3] }
  | _ => none }
def simplexFacesRow : OpenClaim := { program := "ytjojmdngogineaa", sum := "90e196249884621fa934b26f85b5deaad517a0038de7342c7b51d86659dcdc23", func := "roundtable/roundtablelaw26.SimplexFaces", spec := "simplexFaces", unfollowed := true, recurses := true, plainKeys := false, apart := false }
def SimplexFacesSaid : Prop := simplexFacesRow.holds Try.pinned (OpenSpec.ofChange simplexFacesSpec)

/-- ITS FALSE NEIGHBOUR: 'it returns false'. Refute it at one input. -/
def simplexFacesWrong : ChangeSpec := { name := "simplexFaces", fn := fun _ => fun
  | [d1, d2, d3] => { results := [.lit (.bool false)], args := [d1, d2, d3] }
  | _ => none }
def SimplexFacesWrongFalsely : Prop := simplexFacesRow.holds Try.pinned (OpenSpec.ofChange simplexFacesWrong)

/-- 'roundtablelaw26.SimplexMeets': WHATEVER THE INPUT: true; the input reads as it did. -/
def simplexMeetsSpec : ChangeSpec := { name := "simplexMeets", fn := fun _ => fun
  | [d1, d2, d3] => { results := [.lit (.bool true)], args := [d1, d2, d3] }
  | _ => none }
def simplexMeetsRow : OpenClaim := { program := "ytjojmdngogineaa", sum := "90e196249884621fa934b26f85b5deaad517a0038de7342c7b51d86659dcdc23", func := "roundtable/roundtablelaw26.SimplexMeets", spec := "simplexMeets", unfollowed := true, recurses := true, plainKeys := false, apart := false }
def SimplexMeetsSaid : Prop := simplexMeetsRow.holds Try.pinned (OpenSpec.ofChange simplexMeetsSpec)

/-- ITS FALSE NEIGHBOUR: 'it returns false'. Refute it at one input. -/
def simplexMeetsWrong : ChangeSpec := { name := "simplexMeets", fn := fun _ => fun
  | [d1, d2, d3] => { results := [.lit (.bool false)], args := [d1, d2, d3] }
  | _ => none }
def SimplexMeetsWrongFalsely : Prop := simplexMeetsRow.holds Try.pinned (OpenSpec.ofChange simplexMeetsWrong)

/-- 'roundtablelaw26.SimplexOrders': WHATEVER THE INPUT: true; the input reads as it did. -/
def simplexOrdersSpec : ChangeSpec := { name := "simplexOrders", fn := fun _ => fun
  | [d1, d2, d3] => { results := [.lit (.bool true)], args := [d1, d2, d3] }
  | _ => none }
def simplexOrdersRow : OpenClaim := { program := "ytjojmdngogineaa", sum := "90e196249884621fa934b26f85b5deaad517a0038de7342c7b51d86659dcdc23", func := "roundtable/roundtablelaw26.SimplexOrders", spec := "simplexOrders", unfollowed := true, recurses := true, plainKeys := false, apart := false }
def SimplexOrdersSaid : Prop := simplexOrdersRow.holds Try.pinned (OpenSpec.ofChange simplexOrdersSpec)

/-- ITS FALSE NEIGHBOUR: 'it returns false'. Refute it at one input. -/
def simplexOrdersWrong : ChangeSpec := { name := "simplexOrders", fn := fun _ => fun
  | [d1, d2, d3] => { results := [.lit (.bool false)], args := [d1, d2, d3] }
  | _ => none }
def SimplexOrdersWrongFalsely : Prop := simplexOrdersRow.holds Try.pinned (OpenSpec.ofChange simplexOrdersWrong)

/-- 'roundtablelaw26.SimplexDivides': WHATEVER THE INPUT: true; the input reads as it did. -/
def simplexDividesSpec : ChangeSpec := { name := "simplexDivides", fn := fun _ => fun
  | [d1, d2] => { results := [.lit (.bool true)], args := [d1, d2] }
  | _ => none }
def simplexDividesRow : OpenClaim := { program := "ytjojmdngogineaa", sum := "90e196249884621fa934b26f85b5deaad517a0038de7342c7b51d86659dcdc23", func := "roundtable/roundtablelaw26.SimplexDivides", spec := "simplexDivides", unfollowed := true, recurses := true, plainKeys := false, apart := false }
def SimplexDividesSaid : Prop := simplexDividesRow.holds Try.pinned (OpenSpec.ofChange simplexDividesSpec)

/-- ITS FALSE NEIGHBOUR: 'it returns false'. Refute it at one input. -/
def simplexDividesWrong : ChangeSpec := { name := "simplexDivides", fn := fun _ => fun
  | [d1, d2] => { results := [.lit (.bool false)], args := [d1, d2] }
  | _ => none }
def SimplexDividesWrongFalsely : Prop := simplexDividesRow.holds Try.pinned (OpenSpec.ofChange simplexDividesWrong)

/-- 'roundtablelaw26.SimplexCounts': WHATEVER THE INPUT: true; the input reads as it did. -/
def simplexCountsSpec : ChangeSpec := { name := "simplexCounts", fn := fun _ => fun
  | [d1, d2, d3] => { results := [.lit (.bool true)], args := [d1, d2, d3] }
  | _ => none }
def simplexCountsRow : OpenClaim := { program := "ytjojmdngogineaa", sum := "90e196249884621fa934b26f85b5deaad517a0038de7342c7b51d86659dcdc23", func := "roundtable/roundtablelaw26.SimplexCounts", spec := "simplexCounts", unfollowed := true, recurses := true, plainKeys := false, apart := false }
def SimplexCountsSaid : Prop := simplexCountsRow.holds Try.pinned (OpenSpec.ofChange simplexCountsSpec)

/-- ITS FALSE NEIGHBOUR: 'it returns false'. Refute it at one input. -/
def simplexCountsWrong : ChangeSpec := { name := "simplexCounts", fn := fun _ => fun
  | [d1, d2, d3] => { results := [.lit (.bool false)], args := [d1, d2, d3] }
  | _ => none }
def SimplexCountsWrongFalsely : Prop := simplexCountsRow.holds Try.pinned (OpenSpec.ofChange simplexCountsWrong)

/-- 'roundtablelaw26.SimplexLattice': WHATEVER THE INPUT: true; the input reads as it did. -/
def simplexLatticeSpec : ChangeSpec := { name := "simplexLattice", fn := fun _ => fun
  | [d1, d2, d3] => { results := [.lit (.bool true)], args := [d1, d2, d3] }
  | _ => none }
def simplexLatticeRow : OpenClaim := { program := "ytjojmdngogineaa", sum := "90e196249884621fa934b26f85b5deaad517a0038de7342c7b51d86659dcdc23", func := "roundtable/roundtablelaw26.SimplexLattice", spec := "simplexLattice", unfollowed := true, recurses := true, plainKeys := false, apart := false }
def SimplexLatticeSaid : Prop := simplexLatticeRow.holds Try.pinned (OpenSpec.ofChange simplexLatticeSpec)

/-- ITS FALSE NEIGHBOUR: 'it returns false'. Refute it at one input. -/
def simplexLatticeWrong : ChangeSpec := { name := "simplexLattice", fn := fun _ => fun
  | [d1, d2, d3] => { results := [.lit (.bool false)], args := [d1, d2, d3] }
  | _ => none }
def SimplexLatticeWrongFalsely : Prop := simplexLatticeRow.holds Try.pinned (OpenSpec.ofChange simplexLatticeWrong)

/-- 'roundtablelaw27.ComplexParts': WHATEVER THE INPUT: true; the input reads as it did. -/
def complexPartsSpec : ChangeSpec := { name := "complexParts", fn := fun _ => fun
  | [d1, d2, d3] => { results := [.lit (.bool true)], args := [d1, d2, d3] }
  | _ => none }
def complexPartsRow : OpenClaim := { program := "ytjojmdngogineaa", sum := "90e196249884621fa934b26f85b5deaad517a0038de7342c7b51d86659dcdc23", func := "roundtable/roundtablelaw27.ComplexParts", spec := "complexParts", unfollowed := true, recurses := true, plainKeys := false, apart := false }
def ComplexPartsSaid : Prop := complexPartsRow.holds Try.pinned (OpenSpec.ofChange complexPartsSpec)

/-- ITS FALSE NEIGHBOUR: 'it returns false'. Refute it at one input. -/
def complexPartsWrong : ChangeSpec := { name := "complexParts", fn := fun _ => fun
  | [d1, d2, d3] => { results := [.lit (.bool false)], args := [d1, d2, d3] }
  | _ => none }
def ComplexPartsWrongFalsely : Prop := complexPartsRow.holds Try.pinned (OpenSpec.ofChange complexPartsWrong)

/-- 'roundtablelaw27.ComplexCounts': WHATEVER THE INPUT: true; the input reads as it did. -/
def complexCountsSpec : ChangeSpec := { name := "complexCounts", fn := fun _ => fun
  | [d1, d2] => { results := [.lit (.bool true)], args := [d1, d2] }
  | _ => none }
def complexCountsRow : OpenClaim := { program := "ytjojmdngogineaa", sum := "90e196249884621fa934b26f85b5deaad517a0038de7342c7b51d86659dcdc23", func := "roundtable/roundtablelaw27.ComplexCounts", spec := "complexCounts", unfollowed := true, recurses := true, plainKeys := false, apart := false }
def ComplexCountsSaid : Prop := complexCountsRow.holds Try.pinned (OpenSpec.ofChange complexCountsSpec)

/-- ITS FALSE NEIGHBOUR: 'it returns false'. Refute it at one input. -/
def complexCountsWrong : ChangeSpec := { name := "complexCounts", fn := fun _ => fun
  | [d1, d2] => { results := [.lit (.bool false)], args := [d1, d2] }
  | _ => none }
def ComplexCountsWrongFalsely : Prop := complexCountsRow.holds Try.pinned (OpenSpec.ofChange complexCountsWrong)

/-- 'roundtablelaw27.ComplexGenerates': WHATEVER THE INPUT: true; the input reads as it did. -/
def complexGeneratesSpec : ChangeSpec := { name := "complexGenerates", fn := fun _ => fun
  | [d] => { results := [.lit (.bool true)], args := [d] }
  | _ => none }
def complexGeneratesRow : OpenClaim := { program := "ytjojmdngogineaa", sum := "90e196249884621fa934b26f85b5deaad517a0038de7342c7b51d86659dcdc23", func := "roundtable/roundtablelaw27.ComplexGenerates", spec := "complexGenerates", unfollowed := true, recurses := true, plainKeys := false, apart := false }
def ComplexGeneratesSaid : Prop := complexGeneratesRow.holds Try.pinned (OpenSpec.ofChange complexGeneratesSpec)

/-- ITS FALSE NEIGHBOUR: 'it returns false'. Refute it at one input. -/
def complexGeneratesWrong : ChangeSpec := { name := "complexGenerates", fn := fun _ => fun
  | [d] => { results := [.lit (.bool false)], args := [d] }
  | _ => none }
def ComplexGeneratesWrongFalsely : Prop := complexGeneratesRow.holds Try.pinned (OpenSpec.ofChange complexGeneratesWrong)

/-- 'roundtablelaw27.ComplexAdds': WHATEVER THE INPUT: true; the input reads as it did. -/
def complexAddsSpec : ChangeSpec := { name := "complexAdds", fn := fun _ => fun
  | [d1, d2] => { results := [.lit (.bool true)], args := [d1, d2] }
  | _ => none }
def complexAddsRow : OpenClaim := { program := "ytjojmdngogineaa", sum := "90e196249884621fa934b26f85b5deaad517a0038de7342c7b51d86659dcdc23", func := "roundtable/roundtablelaw27.ComplexAdds", spec := "complexAdds", unfollowed := true, recurses := true, plainKeys := false, apart := false }
def ComplexAddsSaid : Prop := complexAddsRow.holds Try.pinned (OpenSpec.ofChange complexAddsSpec)

/-- ITS FALSE NEIGHBOUR: 'it returns false'. Refute it at one input. -/
def complexAddsWrong : ChangeSpec := { name := "complexAdds", fn := fun _ => fun
  | [d1, d2] => { results := [.lit (.bool false)], args := [d1, d2] }
  | _ => none }
def ComplexAddsWrongFalsely : Prop := complexAddsRow.holds Try.pinned (OpenSpec.ofChange complexAddsWrong)

/-- 'roundtablelaw27.ComplexSplits': WHATEVER THE INPUT: true; the input reads as it did. -/
def complexSplitsSpec : ChangeSpec := { name := "complexSplits", fn := fun _ => fun
  | [d] => { results := [.lit (.bool true)], args := [d] }
  | _ => none }
def complexSplitsRow : OpenClaim := { program := "ytjojmdngogineaa", sum := "90e196249884621fa934b26f85b5deaad517a0038de7342c7b51d86659dcdc23", func := "roundtable/roundtablelaw27.ComplexSplits", spec := "complexSplits", unfollowed := true, recurses := true, plainKeys := false, apart := false }
def ComplexSplitsSaid : Prop := complexSplitsRow.holds Try.pinned (OpenSpec.ofChange complexSplitsSpec)

/-- ITS FALSE NEIGHBOUR: 'it returns false'. Refute it at one input. -/
def complexSplitsWrong : ChangeSpec := { name := "complexSplits", fn := fun _ => fun
  | [d] => { results := [.lit (.bool false)], args := [d] }
  | _ => none }
def ComplexSplitsWrongFalsely : Prop := complexSplitsRow.holds Try.pinned (OpenSpec.ofChange complexSplitsWrong)

/- THE SECOND FORM. 'bulk': how many values and letters a reading holds, each counted each time it is reached (what is shared counts as often as it is met; a slice's spare places count too). A statement '..UptoSaid' is the law's where the arguments, and the package variables that the reading takes, are together of bulk at most 1048576: NARROWER than '..Said'. Prove '..Said' where nothing that the law and all that it calls make is longer than what came in: it says more and counts as full. Else prove '..UptoSaid'. A law counts once. -/
mutual
def uptoBulk {H : Type} : DataW H → Nat
  | .lit (.string bytes) => bytes.length + 1
  | .lit _ => 1
  | .nil => 1
  | .ptr d => uptoBulk d + 1
  | .slice elems spare => uptoBulkAll elems + uptoBulkAll spare + 1
  | .agg parts => uptoBulkAll parts + 1
  | .iface _ d => uptoBulk d + 1
  | .map entries => uptoBulkEntries entries + 1
  | .held _ => 1
def uptoBulkAll {H : Type} : List (DataW H) → Nat
  | [] => 0
  | d :: r => uptoBulk d + uptoBulkAll r
def uptoBulkEntries {H : Type} : List (Lit × DataW H) → Nat
  | [] => 0
  | x :: r => uptoBulkEntry x + uptoBulkEntries r
def uptoBulkEntry {H : Type} : Lit × DataW H → Nat
  | (.string bytes, d) => bytes.length + uptoBulk d + 1
  | (_, d) => uptoBulk d + 1
 end
def uptoSmall : (H : Type) → List (DataW H) → Bool := fun _ ds => decide (uptoBulkAll ds ≤ 1048576)
def OpenSpec.upto (s : _root_.Go.ChangeSpec) : _root_.Go.OpenSpec := { _root_.Go.OpenSpec.ofChange s with cond := some uptoSmall }

/-- 'roundtablelaw26.SimplexChecks', WHERE WHAT IT READS IS OF BULK AT MOST 1048576: true; the input reads as it did. -/
def simplexChecksUptoRow : OpenClaim := { program := "ytjojmdngogineaa", sum := "90e196249884621fa934b26f85b5deaad517a0038de7342c7b51d86659dcdc23", func := "roundtable/roundtablelaw26.SimplexChecks", spec := "simplexChecks", unfollowed := true, recurses := true, plainKeys := false, apart := false, narrowed := true }
def SimplexChecksUptoSaid : Prop := simplexChecksUptoRow.holds Try.pinned (OpenSpec.upto simplexChecksSpec)

/-- 'roundtablelaw26.SimplexFaces', WHERE WHAT IT READS IS OF BULK AT MOST 1048576: true; the input reads as it did. -/
def simplexFacesUptoRow : OpenClaim := { program := "ytjojmdngogineaa", sum := "90e196249884621fa934b26f85b5deaad517a0038de7342c7b51d86659dcdc23", func := "roundtable/roundtablelaw26.SimplexFaces", spec := "simplexFaces", unfollowed := true, recurses := true, plainKeys := false, apart := false, narrowed := true }
def SimplexFacesUptoSaid : Prop := simplexFacesUptoRow.holds Try.pinned (OpenSpec.upto simplexFacesSpec)

/-- 'roundtablelaw26.SimplexMeets', WHERE WHAT IT READS IS OF BULK AT MOST 1048576: true; the input reads as it did. -/
def simplexMeetsUptoRow : OpenClaim := { program := "ytjojmdngogineaa", sum := "90e196249884621fa934b26f85b5deaad517a0038de7342c7b51d86659dcdc23", func := "roundtable/roundtablelaw26.SimplexMeets", spec := "simplexMeets", unfollowed := true, recurses := true, plainKeys := false, apart := false, narrowed := true }
def SimplexMeetsUptoSaid : Prop := simplexMeetsUptoRow.holds Try.pinned (OpenSpec.upto simplexMeetsSpec)

/-- 'roundtablelaw26.SimplexOrders', WHERE WHAT IT READS IS OF BULK AT MOST 1048576: true; the input reads as it did. -/
def simplexOrdersUptoRow : OpenClaim := { program := "ytjojmdngogineaa", sum := "90e196249884621fa934b26f85b5deaad517a0038de7342c7b51d86659dcdc23", func := "roundtable/roundtablelaw26.SimplexOrders", spec := "simplexOrders", unfollowed := true, recurses := true, plainKeys := false, apart := false, narrowed := true }
def SimplexOrdersUptoSaid : Prop := simplexOrdersUptoRow.holds Try.pinned (OpenSpec.upto simplexOrdersSpec)

/-- 'roundtablelaw26.SimplexDivides', WHERE WHAT IT READS IS OF BULK AT MOST 1048576: true; the input reads as it did. -/
def simplexDividesUptoRow : OpenClaim := { program := "ytjojmdngogineaa", sum := "90e196249884621fa934b26f85b5deaad517a0038de7342c7b51d86659dcdc23", func := "roundtable/roundtablelaw26.SimplexDivides", spec := "simplexDivides", unfollowed := true, recurses := true, plainKeys := false, apart := false, narrowed := true }
def SimplexDividesUptoSaid : Prop := simplexDividesUptoRow.holds Try.pinned (OpenSpec.upto simplexDividesSpec)

/-- 'roundtablelaw26.SimplexCounts', WHERE WHAT IT READS IS OF BULK AT MOST 1048576: true; the input reads as it did. -/
def simplexCountsUptoRow : OpenClaim := { program := "ytjojmdngogineaa", sum := "90e196249884621fa934b26f85b5deaad517a0038de7342c7b51d86659dcdc23", func := "roundtable/roundtablelaw26.SimplexCounts", spec := "simplexCounts", unfollowed := true, recurses := true, plainKeys := false, apart := false, narrowed := true }
def SimplexCountsUptoSaid : Prop := simplexCountsUptoRow.holds Try.pinned (OpenSpec.upto simplexCountsSpec)

/-- 'roundtablelaw26.SimplexLattice', WHERE WHAT IT READS IS OF BULK AT MOST 1048576: true; the input reads as it did. -/
def simplexLatticeUptoRow : OpenClaim := { program := "ytjojmdngogineaa", sum := "90e196249884621fa934b26f85b5deaad517a0038de7342c7b51d86659dcdc23", func := "roundtable/roundtablelaw26.SimplexLattice", spec := "simplexLattice", unfollowed := true, recurses := true, plainKeys := false, apart := false, narrowed := true }
def SimplexLatticeUptoSaid : Prop := simplexLatticeUptoRow.holds Try.pinned (OpenSpec.upto simplexLatticeSpec)

/-- 'roundtablelaw27.ComplexParts', WHERE WHAT IT READS IS OF BULK AT MOST 1048576: true; the input reads as it did. -/
def complexPartsUptoRow : OpenClaim := { program := "ytjojmdngogineaa", sum := "90e196249884621fa934b26f85b5deaad517a0038de7342c7b51d86659dcdc23", func := "roundtable/roundtablelaw27.ComplexParts", spec := "complexParts", unfollowed := true, recurses := true, plainKeys := false, apart := false, narrowed := true }
def ComplexPartsUptoSaid : Prop := complexPartsUptoRow.holds Try.pinned (OpenSpec.upto complexPartsSpec)

/-- 'roundtablelaw27.ComplexCounts', WHERE WHAT IT READS IS OF BULK AT MOST 1048576: true; the input reads as it did. -/
def complexCountsUptoRow : OpenClaim := { program := "ytjojmdngogineaa", sum := "90e196249884621fa934b26f85b5deaad517a0038de7342c7b51d86659dcdc23", func := "roundtable/roundtablelaw27.ComplexCounts", spec := "complexCounts", unfollowed := true, recurses := true, plainKeys := false, apart := false, narrowed := true }
def ComplexCountsUptoSaid : Prop := complexCountsUptoRow.holds Try.pinned (OpenSpec.upto complexCountsSpec)

/-- 'roundtablelaw27.ComplexGenerates', WHERE WHAT IT READS IS OF BULK AT MOST 1048576: true; the input reads as it did. -/
def complexGeneratesUptoRow : OpenClaim := { program := "ytjojmdngogineaa", sum := "90e196249884621fa934b26f85b5deaad517a0038de7342c7b51d86659dcdc23", func := "roundtable/roundtablelaw27.ComplexGenerates", spec := "complexGenerates", unfollowed := true, recurses := true, plainKeys := false, apart := false, narrowed := true }
def ComplexGeneratesUptoSaid : Prop := complexGeneratesUptoRow.holds Try.pinned (OpenSpec.upto complexGeneratesSpec)

/-- 'roundtablelaw27.ComplexAdds', WHERE WHAT IT READS IS OF BULK AT MOST 1048576: true; the input reads as it did. -/
def complexAddsUptoRow : OpenClaim := { program := "ytjojmdngogineaa", sum := "90e196249884621fa934b26f85b5deaad517a0038de7342c7b51d86659dcdc23", func := "roundtable/roundtablelaw27.ComplexAdds", spec := "complexAdds", unfollowed := true, recurses := true, plainKeys := false, apart := false, narrowed := true }
def ComplexAddsUptoSaid : Prop := complexAddsUptoRow.holds Try.pinned (OpenSpec.upto complexAddsSpec)

/-- 'roundtablelaw27.ComplexSplits', WHERE WHAT IT READS IS OF BULK AT MOST 1048576: true; the input reads as it did. -/
def complexSplitsUptoRow : OpenClaim := { program := "ytjojmdngogineaa", sum := "90e196249884621fa934b26f85b5deaad517a0038de7342c7b51d86659dcdc23", func := "roundtable/roundtablelaw27.ComplexSplits", spec := "complexSplits", unfollowed := true, recurses := true, plainKeys := false, apart := false, narrowed := true }
def ComplexSplitsUptoSaid : Prop := complexSplitsUptoRow.holds Try.pinned (OpenSpec.upto complexSplitsSpec)

end Rows
end Go.Proofs.Ytjojmdngogineaa
