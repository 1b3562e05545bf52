/-
  No cell of these rows narrows 'for every input' (looked for: loops, veiled, ifaces, maps, wideKeys, modest, calm, conditions, laid).
  DERIVED. THE GIVEN ROWS OF THIS SEAT. 7 by the template 'for every input the law returns true; each argument reads behind the call as it read before'; 0 by the template 'total and deterministic' (their statements: YtpiidgcljlalmaaTotals.lean).
  GIVEN WITH THE SEED: the statements are not yours to turn. If you find one false, say at which input.
  Laid BY PROGRAM, IN A SANDBOX (cutbox-rows.mjs): the forced cells as the released guide's own fill.sh prints them over the translation 3954332136c2fce7… (all of the seat's roots in one cut). By AI agents, Wed Nov 11 2026. No macro, syntax, notation, axiom, sorry.
-/
import Derived.Test.YtpiidgcljlalmaaChecked
import GoSem.Claim
import GoSem.ClaimJoined
import GoSem.ClaimMapViews
import Derived.JoinedTies
import Derived.KernelRfl
namespace Go.Proofs.Ytpiidgcljlalmaa
/- THE CELL 'sum', in the pinned program and in every row, IS THE sha256 OF THE DUMP (.gsa) THAT YtpiidgcljlalmaaProg.lean LOADS. Nothing in Lean hashes anything: it is a label: what it is worth is what the hold of that sum in a sandbox is worth. -/
noncomputable def Try.pinned : Pinned := { name := "ytpiidgcljlalmaa", sum := "3954332136c2fce751fce30810daa372189fdae6c2e436acc1ec12eff50d8cdb", checked := Try.checked }
namespace Rows
def none {H : Type} : Left H := { results := [], args := [] }

/-- 'roundtabletop.TopProofsExclude': WHATEVER THE INPUT: true; the input reads as it did. -/
def topProofsExcludeSpec : ChangeSpec := { name := "topProofsExclude", fn := fun _ => fun
  | [d1, d2, d3] => { results := [.lit (.bool true)], args := [d1, d2, d3] }
  | _ => none }
def topProofsExcludeRow : OpenClaim := { program := "ytpiidgcljlalmaa", sum := "3954332136c2fce751fce30810daa372189fdae6c2e436acc1ec12eff50d8cdb", func := "roundtable/roundtabletop.TopProofsExclude", spec := "topProofsExclude", unfollowed := true, recurses := true, apart := false }
def TopProofsExcludeSaid : Prop := topProofsExcludeRow.holds Try.pinned (OpenSpec.ofChange topProofsExcludeSpec)

/-- ITS FALSE NEIGHBOUR: 'it returns false'. Refute it at one input. -/
def topProofsExcludeWrong : ChangeSpec := { name := "topProofsExclude", fn := fun _ => fun
  | [d1, d2, d3] => { results := [.lit (.bool false)], args := [d1, d2, d3] }
  | _ => none }
def TopProofsExcludeWrongFalsely : Prop := topProofsExcludeRow.holds Try.pinned (OpenSpec.ofChange topProofsExcludeWrong)

/-- 'roundtabletop.TopSearchesDecide': WHATEVER THE INPUT: true; the input reads as it did. -/
def topSearchesDecideSpec : ChangeSpec := { name := "topSearchesDecide", fn := fun _ => fun
  | [d] => { results := [.lit (.bool true)], args := [d] }
  | _ => none }
def topSearchesDecideRow : OpenClaim := { program := "ytpiidgcljlalmaa", sum := "3954332136c2fce751fce30810daa372189fdae6c2e436acc1ec12eff50d8cdb", func := "roundtable/roundtabletop.TopSearchesDecide", spec := "topSearchesDecide", unfollowed := true, recurses := true, apart := false }
def TopSearchesDecideSaid : Prop := topSearchesDecideRow.holds Try.pinned (OpenSpec.ofChange topSearchesDecideSpec)

/-- ITS FALSE NEIGHBOUR: 'it returns false'. Refute it at one input. -/
def topSearchesDecideWrong : ChangeSpec := { name := "topSearchesDecide", fn := fun _ => fun
  | [d] => { results := [.lit (.bool false)], args := [d] }
  | _ => none }
def TopSearchesDecideWrongFalsely : Prop := topSearchesDecideRow.holds Try.pinned (OpenSpec.ofChange topSearchesDecideWrong)

/-- 'roundtablelaw43.SolverLists': WHATEVER THE INPUT: true; the input reads as it did. -/
def solverListsSpec : ChangeSpec := { name := "solverLists", fn := fun _ => fun
  | [d1, d2] => { results := [.lit (.bool true)], args := [d1, d2] }
  | _ => none }
def solverListsRow : OpenClaim := { program := "ytpiidgcljlalmaa", sum := "3954332136c2fce751fce30810daa372189fdae6c2e436acc1ec12eff50d8cdb", func := "roundtable/roundtablelaw43.SolverLists", spec := "solverLists", unfollowed := true, recurses := true, apart := false }
def SolverListsSaid : Prop := solverListsRow.holds Try.pinned (OpenSpec.ofChange solverListsSpec)

/-- ITS FALSE NEIGHBOUR: 'it returns false'. Refute it at one input. -/
def solverListsWrong : ChangeSpec := { name := "solverLists", fn := fun _ => fun
  | [d1, d2] => { results := [.lit (.bool false)], args := [d1, d2] }
  | _ => none }
def SolverListsWrongFalsely : Prop := solverListsRow.holds Try.pinned (OpenSpec.ofChange solverListsWrong)

/-- 'roundtablelaw43.SolverAdds': WHATEVER THE INPUT: true; the input reads as it did. -/
def solverAddsSpec : ChangeSpec := { name := "solverAdds", fn := fun _ => fun
  | [d1, d2] => { results := [.lit (.bool true)], args := [d1, d2] }
  | _ => none }
def solverAddsRow : OpenClaim := { program := "ytpiidgcljlalmaa", sum := "3954332136c2fce751fce30810daa372189fdae6c2e436acc1ec12eff50d8cdb", func := "roundtable/roundtablelaw43.SolverAdds", spec := "solverAdds", unfollowed := true, recurses := true, apart := false }
def SolverAddsSaid : Prop := solverAddsRow.holds Try.pinned (OpenSpec.ofChange solverAddsSpec)

/-- ITS FALSE NEIGHBOUR: 'it returns false'. Refute it at one input. -/
def solverAddsWrong : ChangeSpec := { name := "solverAdds", fn := fun _ => fun
  | [d1, d2] => { results := [.lit (.bool false)], args := [d1, d2] }
  | _ => none }
def SolverAddsWrongFalsely : Prop := solverAddsRow.holds Try.pinned (OpenSpec.ofChange solverAddsWrong)

/-- 'roundtablelaw43.SolverCores': WHATEVER THE INPUT: true; the input reads as it did. -/
def solverCoresSpec : ChangeSpec := { name := "solverCores", fn := fun _ => fun
  | [d] => { results := [.lit (.bool true)], args := [d] }
  | _ => none }
def solverCoresRow : OpenClaim := { program := "ytpiidgcljlalmaa", sum := "3954332136c2fce751fce30810daa372189fdae6c2e436acc1ec12eff50d8cdb", func := "roundtable/roundtablelaw43.SolverCores", spec := "solverCores", unfollowed := true, recurses := true, apart := false }
def SolverCoresSaid : Prop := solverCoresRow.holds Try.pinned (OpenSpec.ofChange solverCoresSpec)

/-- ITS FALSE NEIGHBOUR: 'it returns false'. Refute it at one input. -/
def solverCoresWrong : ChangeSpec := { name := "solverCores", fn := fun _ => fun
  | [d] => { results := [.lit (.bool false)], args := [d] }
  | _ => none }
def SolverCoresWrongFalsely : Prop := solverCoresRow.holds Try.pinned (OpenSpec.ofChange solverCoresWrong)

/-- 'roundtablelaw43.SolverTries': WHATEVER THE INPUT: true; the input reads as it did. -/
def solverTriesSpec : ChangeSpec := { name := "solverTries", fn := fun _ => fun
  | [d] => { results := [.lit (.bool true)], args := [d] }
  | _ => none }
def solverTriesRow : OpenClaim := { program := "ytpiidgcljlalmaa", sum := "3954332136c2fce751fce30810daa372189fdae6c2e436acc1ec12eff50d8cdb", func := "roundtable/roundtablelaw43.SolverTries", spec := "solverTries", unfollowed := true, recurses := true, apart := false }
def SolverTriesSaid : Prop := solverTriesRow.holds Try.pinned (OpenSpec.ofChange solverTriesSpec)

/-- ITS FALSE NEIGHBOUR: 'it returns false'. Refute it at one input. -/
def solverTriesWrong : ChangeSpec := { name := "solverTries", fn := fun _ => fun
  | [d] => { results := [.lit (.bool false)], args := [d] }
  | _ => none }
def SolverTriesWrongFalsely : Prop := solverTriesRow.holds Try.pinned (OpenSpec.ofChange solverTriesWrong)

/-- 'roundtablelaw43.SolverBlocks': WHATEVER THE INPUT: true; the input reads as it did. -/
def solverBlocksSpec : ChangeSpec := { name := "solverBlocks", fn := fun _ => fun
  | [d] => { results := [.lit (.bool true)], args := [d] }
  | _ => none }
def solverBlocksRow : OpenClaim := { program := "ytpiidgcljlalmaa", sum := "3954332136c2fce751fce30810daa372189fdae6c2e436acc1ec12eff50d8cdb", func := "roundtable/roundtablelaw43.SolverBlocks", spec := "solverBlocks", unfollowed := true, recurses := true, apart := false }
def SolverBlocksSaid : Prop := solverBlocksRow.holds Try.pinned (OpenSpec.ofChange solverBlocksSpec)

/-- ITS FALSE NEIGHBOUR: 'it returns false'. Refute it at one input. -/
def solverBlocksWrong : ChangeSpec := { name := "solverBlocks", fn := fun _ => fun
  | [d] => { results := [.lit (.bool false)], args := [d] }
  | _ => none }
def SolverBlocksWrongFalsely : Prop := solverBlocksRow.holds Try.pinned (OpenSpec.ofChange solverBlocksWrong)

/- THE SECOND FORM. 'bulk': how many values and letters a reading holds, each counted each time it is reached (what is shared counts as often as it is met; a slice's spare places count too). A statement '..UptoSaid' is the law's where the arguments, and the package variables that the reading takes, are together of bulk at most 1048576: NARROWER than '..Said'. Prove '..Said' where nothing that the law and all that it calls make is longer than what came in: it says more and counts as full. Else prove '..UptoSaid'. A law counts once. -/
mutual
def uptoBulk {H : Type} : DataW H → Nat
  | .lit (.string bytes) => bytes.length + 1
  | .lit _ => 1
  | .nil => 1
  | .ptr d => uptoBulk d + 1
  | .slice elems spare => uptoBulkAll elems + uptoBulkAll spare + 1
  | .agg parts => uptoBulkAll parts + 1
  | .iface _ d => uptoBulk d + 1
  | .map entries => uptoBulkEntries entries + 1
  | .held _ => 1
def uptoBulkAll {H : Type} : List (DataW H) → Nat
  | [] => 0
  | d :: r => uptoBulk d + uptoBulkAll r
def uptoBulkEntries {H : Type} : List (Lit × DataW H) → Nat
  | [] => 0
  | x :: r => uptoBulkEntry x + uptoBulkEntries r
def uptoBulkEntry {H : Type} : Lit × DataW H → Nat
  | (.string bytes, d) => bytes.length + uptoBulk d + 1
  | (_, d) => uptoBulk d + 1
 end
def uptoSmall : (H : Type) → List (DataW H) → Bool := fun _ ds => decide (uptoBulkAll ds ≤ 1048576)
def OpenSpec.upto (s : _root_.Go.ChangeSpec) : _root_.Go.OpenSpec := { _root_.Go.OpenSpec.ofChange s with cond := some uptoSmall }

/-- 'roundtabletop.TopProofsExclude', WHERE WHAT IT READS IS OF BULK AT MOST 1048576: true; the input reads as it did. -/
def topProofsExcludeUptoRow : OpenClaim := { program := "ytpiidgcljlalmaa", sum := "3954332136c2fce751fce30810daa372189fdae6c2e436acc1ec12eff50d8cdb", func := "roundtable/roundtabletop.TopProofsExclude", spec := "topProofsExclude", unfollowed := true, recurses := true, apart := false, narrowed := true }
def TopProofsExcludeUptoSaid : Prop := topProofsExcludeUptoRow.holds Try.pinned (OpenSpec.upto topProofsExcludeSpec)

/-- 'roundtabletop.TopSearchesDecide', WHERE WHAT IT READS IS OF BULK AT MOST 1048576: true; the input reads as it did. -/
def topSearchesDecideUptoRow : OpenClaim := { program := "ytpiidgcljlalmaa", sum := "3954332136c2fce751fce30810daa372189fdae6c2e436acc1ec12eff50d8cdb", func := "roundtable/roundtabletop.TopSearchesDecide", spec := "topSearchesDecide", unfollowed := true, recurses := true, apart := false, narrowed := true }
def TopSearchesDecideUptoSaid : Prop := topSearchesDecideUptoRow.holds Try.pinned (OpenSpec.upto topSearchesDecideSpec)

/-- 'roundtablelaw43.SolverLists', WHERE WHAT IT READS IS OF BULK AT MOST 1048576: true; the input reads as it did. -/
def solverListsUptoRow : OpenClaim := { program := "ytpiidgcljlalmaa", sum := "3954332136c2fce751fce30810daa372189fdae6c2e436acc1ec12eff50d8cdb", func := "roundtable/roundtablelaw43.SolverLists", spec := "solverLists", unfollowed := true, recurses := true, apart := false, narrowed := true }
def SolverListsUptoSaid : Prop := solverListsUptoRow.holds Try.pinned (OpenSpec.upto solverListsSpec)

/-- 'roundtablelaw43.SolverAdds', WHERE WHAT IT READS IS OF BULK AT MOST 1048576: true; the input reads as it did. -/
def solverAddsUptoRow : OpenClaim := { program := "ytpiidgcljlalmaa", sum := "3954332136c2fce751fce30810daa372189fdae6c2e436acc1ec12eff50d8cdb", func := "roundtable/roundtablelaw43.SolverAdds", spec := "solverAdds", unfollowed := true, recurses := true, apart := false, narrowed := true }
def SolverAddsUptoSaid : Prop := solverAddsUptoRow.holds Try.pinned (OpenSpec.upto solverAddsSpec)

/-- 'roundtablelaw43.SolverCores', WHERE WHAT IT READS IS OF BULK AT MOST 1048576: true; the input reads as it did. -/
def solverCoresUptoRow : OpenClaim := { program := "ytpiidgcljlalmaa", sum := "3954332136c2fce751fce30810daa372189fdae6c2e436acc1ec12eff50d8cdb", func := "roundtable/roundtablelaw43.SolverCores", spec := "solverCores", unfollowed := true, recurses := true, apart := false, narrowed := true }
def SolverCoresUptoSaid : Prop := solverCoresUptoRow.holds Try.pinned (OpenSpec.upto solverCoresSpec)

/-- 'roundtablelaw43.SolverTries', WHERE WHAT IT READS IS OF BULK AT MOST 1048576: true; the input reads as it did. -/
def solverTriesUptoRow : OpenClaim := { program := "ytpiidgcljlalmaa", sum := "3954332136c2fce751fce30810daa372189fdae6c2e436acc1ec12eff50d8cdb", func := "roundtable/roundtablelaw43.SolverTries", spec := "solverTries", unfollowed := true, recurses := true, apart := false, narrowed := true }
def SolverTriesUptoSaid : Prop := solverTriesUptoRow.holds Try.pinned (OpenSpec.upto solverTriesSpec)

/-- 'roundtablelaw43.SolverBlocks', WHERE WHAT IT READS IS OF BULK AT MOST 1048576: true; the input reads as it did. -/
def solverBlocksUptoRow : OpenClaim := { program := "ytpiidgcljlalmaa", sum := "3954332136c2fce751fce30810daa372189fdae6c2e436acc1ec12eff50d8cdb", func := "roundtable/roundtablelaw43.SolverBlocks", spec := "solverBlocks", unfollowed := true, recurses := true, apart := false, narrowed := true }
def SolverBlocksUptoSaid : Prop := solverBlocksUptoRow.holds Try.pinned (OpenSpec.upto solverBlocksSpec)

end Rows
end Go.Proofs.Ytpiidgcljlalmaa
