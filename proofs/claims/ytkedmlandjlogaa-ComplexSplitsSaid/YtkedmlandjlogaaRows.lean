/-
  No cell of these rows narrows 'for every input' (looked for: loops, veiled, ifaces, maps, wideKeys, modest, calm, conditions, laid).
  DERIVED. THE GIVEN ROWS OF THIS SEAT. 5 by the template 'for every input the law returns true; each argument reads behind the call as it read before'; 0 by the template 'total and deterministic' (their statements: YtkedmlandjlogaaTotals.lean).
  GIVEN WITH THE SEED: the statements are not yours to turn. If you find one false, say at which input.
  Laid BY PROGRAM, IN A SANDBOX (cutbox-rows.mjs): the forced cells as the released guide's own fill.sh prints them over the translation 2b520c9b81c17d18… (all of the seat's roots in one cut). By AI agents, Wed Nov 11 2026. No macro, syntax, notation, axiom, sorry.
-/
import Derived.Test.YtkedmlandjlogaaChecked
import GoSem.Claim
import GoSem.ClaimJoined
import GoSem.ClaimMapViews
import Derived.JoinedTies
import Derived.KernelRfl
namespace Go.Proofs.Ytkedmlandjlogaa
/- THE CELL 'sum', in the pinned program and in every row, IS THE sha256 OF THE DUMP (.gsa) THAT YtkedmlandjlogaaProg.lean LOADS. Nothing in Lean hashes anything: it is a label: what it is worth is what the hold of that sum in a sandbox is worth. -/
noncomputable def Try.pinned : Pinned := { name := "ytkedmlandjlogaa", sum := "2b520c9b81c17d1877c9dee47ef84152184f67ae775a2adf11b22f21dc41a75d", checked := Try.checked }
namespace Rows
def none {H : Type} : Left H := { results := [], args := [] }

/-- 'roundtablelaw27.ComplexParts': WHATEVER THE INPUT: true; the input reads as it did. -/
def complexPartsSpec : ChangeSpec := { name := "complexParts", fn := fun _ => fun
  | [d1, d2, d3] => { results := [.lit (.bool true)], args := [d1, d2, d3] }
  | _ => none }
def complexPartsRow : OpenClaim := { program := "ytkedmlandjlogaa", sum := "2b520c9b81c17d1877c9dee47ef84152184f67ae775a2adf11b22f21dc41a75d", func := "roundtable/roundtablelaw27.ComplexParts", spec := "complexParts", unfollowed := true, recurses := true, plainKeys := false, apart := false }
def ComplexPartsSaid : Prop := complexPartsRow.holds Try.pinned (OpenSpec.ofChange complexPartsSpec)

/-- ITS FALSE NEIGHBOUR: 'it returns false'. Refute it at one input. -/
def complexPartsWrong : ChangeSpec := { name := "complexParts", fn := fun _ => fun
  | [d1, d2, d3] => { results := [.lit (.bool false)], args := [d1, d2, d3] }
  | _ => none }
def ComplexPartsWrongFalsely : Prop := complexPartsRow.holds Try.pinned (OpenSpec.ofChange complexPartsWrong)

/-- 'roundtablelaw27.ComplexCounts': WHATEVER THE INPUT: true; the input reads as it did. -/
def complexCountsSpec : ChangeSpec := { name := "complexCounts", fn := fun _ => fun
  | [d1, d2] => { results := [.lit (.bool true)], args := [d1, d2] }
  | _ => none }
def complexCountsRow : OpenClaim := { program := "ytkedmlandjlogaa", sum := "2b520c9b81c17d1877c9dee47ef84152184f67ae775a2adf11b22f21dc41a75d", func := "roundtable/roundtablelaw27.ComplexCounts", spec := "complexCounts", unfollowed := true, recurses := true, plainKeys := false, apart := false }
def ComplexCountsSaid : Prop := complexCountsRow.holds Try.pinned (OpenSpec.ofChange complexCountsSpec)

/-- ITS FALSE NEIGHBOUR: 'it returns false'. Refute it at one input. -/
def complexCountsWrong : ChangeSpec := { name := "complexCounts", fn := fun _ => fun
  | [d1, d2] => { results := [.lit (.bool false)], args := [d1, d2] }
  | _ => none }
def ComplexCountsWrongFalsely : Prop := complexCountsRow.holds Try.pinned (OpenSpec.ofChange complexCountsWrong)

/-- 'roundtablelaw27.ComplexGenerates': WHATEVER THE INPUT: true; the input reads as it did. -/
def complexGeneratesSpec : ChangeSpec := { name := "complexGenerates", fn := fun _ => fun
  | [d] => { results := [.lit (.bool true)], args := [d] }
  | _ => none }
def complexGeneratesRow : OpenClaim := { program := "ytkedmlandjlogaa", sum := "2b520c9b81c17d1877c9dee47ef84152184f67ae775a2adf11b22f21dc41a75d", func := "roundtable/roundtablelaw27.ComplexGenerates", spec := "complexGenerates", unfollowed := true, recurses := true, plainKeys := false, apart := false }
def ComplexGeneratesSaid : Prop := complexGeneratesRow.holds Try.pinned (OpenSpec.ofChange complexGeneratesSpec)

/-- ITS FALSE NEIGHBOUR: 'it returns false'. Refute it at one input. -/
def complexGeneratesWrong : ChangeSpec := { name := "complexGenerates", fn := fun _ => fun
  | [d] => { results := [.lit (.bool false)], args := [d] }
  | _ => none }
def ComplexGeneratesWrongFalsely : Prop := complexGeneratesRow.holds Try.pinned (OpenSpec.ofChange complexGeneratesWrong)

/-- 'roundtablelaw27.ComplexAdds': WHATEVER THE INPUT: true; the input reads as it did. -/
def complexAddsSpec : ChangeSpec := { name := "complexAdds", fn := fun _ => fun
  | [d1, d2] => { results := [.lit (.bool true)], args := [d1, d2] }
  | _ => none }
def complexAddsRow : OpenClaim := { program := "ytkedmlandjlogaa", sum := "2b520c9b81c17d1877c9dee47ef84152184f67ae775a2adf11b22f21dc41a75d", func := "roundtable/roundtablelaw27.ComplexAdds", spec := "complexAdds", unfollowed := true, recurses := true, plainKeys := false, apart := false }
def ComplexAddsSaid : Prop := complexAddsRow.holds Try.pinned (OpenSpec.ofChange complexAddsSpec)

/-- ITS FALSE NEIGHBOUR: 'it returns false'. Refute it at one input. -/
def complexAddsWrong : ChangeSpec := { name := "complexAdds", fn := fun _ => fun
  | [d1, d2] => { results := [.lit (.bool false)], args := [d1, d2] }
  | _ => none }
def ComplexAddsWrongFalsely : Prop := complexAddsRow.holds Try.pinned (OpenSpec.ofChange complexAddsWrong)

/-- 'roundtablelaw27.ComplexSplits': WHATEVER THE INPUT: true; the input reads as it did. -/
def complexSplitsSpec : ChangeSpec := { name := "complexSplits", fn := fun _ => fun
  | [d] => { results := [.lit (.bool true)], args := [d] }
  | _ => none }
def complexSplitsRow : OpenClaim := { program := "ytkedmlandjlogaa", sum := "2b520c9b81c17d1877c9dee47ef84152184f67ae775a2adf11b22f21dc41a75d", func := "roundtable/roundtablelaw27.ComplexSplits", spec := "complexSplits", unfollowed := true, recurses := true, plainKeys := false, apart := false }
def ComplexSplitsSaid : Prop := complexSplitsRow.holds Try.pinned (OpenSpec.ofChange complexSplitsSpec)

/-- ITS FALSE NEIGHBOUR: 'it returns false'. Refute it at one input. -/
def complexSplitsWrong : ChangeSpec := { name := "complexSplits", fn := fun _ => fun
  | [d] => { results := [.lit (.bool false)], args := [d] }
  | _ => none }
def ComplexSplitsWrongFalsely : Prop := complexSplitsRow.holds Try.pinned (OpenSpec.ofChange complexSplitsWrong)

/- THE SECOND FORM. 'bulk': how many values and letters a reading holds, each counted each time it is reached (what is shared counts as often as it is met; a slice's spare places count too). A statement '..UptoSaid' is the law's where the arguments, and the package variables that the reading takes, are together of bulk at most 1048576: NARROWER than '..Said'. Prove '..Said' where nothing that the law and all that it calls make is longer than what came in: it says more and counts as full. Else prove '..UptoSaid'. A law counts once. -/
mutual
def uptoBulk {H : Type} : DataW H → Nat
  | .lit (.string bytes) => bytes.length + 1
  | .lit _ => 1
  | .nil => 1
  | .ptr d => uptoBulk d + 1
  | .slice elems spare => uptoBulkAll elems + uptoBulkAll spare + 1
  | .agg parts => uptoBulkAll parts + 1
  | .iface _ d => uptoBulk d + 1
  | .map entries => uptoBulkEntries entries + 1
  | .held _ => 1
def uptoBulkAll {H : Type} : List (DataW H) → Nat
  | [] => 0
  | d :: r => uptoBulk d + uptoBulkAll r
def uptoBulkEntries {H : Type} : List (Lit × DataW H) → Nat
  | [] => 0
  | x :: r => uptoBulkEntry x + uptoBulkEntries r
def uptoBulkEntry {H : Type} : Lit × DataW H → Nat
  | (.string bytes, d) => bytes.length + uptoBulk d + 1
  | (_, d) => uptoBulk d + 1
 end
def uptoSmall : (H : Type) → List (DataW H) → Bool := fun _ ds => decide (uptoBulkAll ds ≤ 1048576)
def OpenSpec.upto (s : _root_.Go.ChangeSpec) : _root_.Go.OpenSpec := { _root_.Go.OpenSpec.ofChange s with cond := some uptoSmall }

/-- 'roundtablelaw27.ComplexParts', WHERE WHAT IT READS IS OF BULK AT MOST 1048576: true; the input reads as it did. -/
def complexPartsUptoRow : OpenClaim := { program := "ytkedmlandjlogaa", sum := "2b520c9b81c17d1877c9dee47ef84152184f67ae775a2adf11b22f21dc41a75d", func := "roundtable/roundtablelaw27.ComplexParts", spec := "complexParts", unfollowed := true, recurses := true, plainKeys := false, apart := false, narrowed := true }
def ComplexPartsUptoSaid : Prop := complexPartsUptoRow.holds Try.pinned (OpenSpec.upto complexPartsSpec)

/-- 'roundtablelaw27.ComplexCounts', WHERE WHAT IT READS IS OF BULK AT MOST 1048576: true; the input reads as it did. -/
def complexCountsUptoRow : OpenClaim := { program := "ytkedmlandjlogaa", sum := "2b520c9b81c17d1877c9dee47ef84152184f67ae775a2adf11b22f21dc41a75d", func := "roundtable/roundtablelaw27.ComplexCounts", spec := "complexCounts", unfollowed := true, recurses := true, plainKeys := false, apart := false, narrowed := true }
def ComplexCountsUptoSaid : Prop := complexCountsUptoRow.holds Try.pinned (OpenSpec.upto complexCountsSpec)

/-- 'roundtablelaw27.ComplexGenerates', WHERE WHAT IT READS IS OF BULK AT MOST 1048576: true; the input reads as it did. -/
def complexGeneratesUptoRow : OpenClaim := { program := "ytkedmlandjlogaa", sum := "2b520c9b81c17d1877c9dee47ef84152184f67ae775a2adf11b22f21dc41a75d", func := "roundtable/roundtablelaw27.ComplexGenerates", spec := "complexGenerates", unfollowed := true, recurses := true, plainKeys := false, apart := false, narrowed := true }
def ComplexGeneratesUptoSaid : Prop := complexGeneratesUptoRow.holds Try.pinned (OpenSpec.upto complexGeneratesSpec)

/-- 'roundtablelaw27.ComplexAdds', WHERE WHAT IT READS IS OF BULK AT MOST 1048576: true; the input reads as it did. -/
def complexAddsUptoRow : OpenClaim := { program := "ytkedmlandjlogaa", sum := "2b520c9b81c17d1877c9dee47ef84152184f67ae775a2adf11b22f21dc41a75d", func := "roundtable/roundtablelaw27.ComplexAdds", spec := "complexAdds", unfollowed := true, recurses := true, plainKeys := false, apart := false, narrowed := true }
def ComplexAddsUptoSaid : Prop := complexAddsUptoRow.holds Try.pinned (OpenSpec.upto complexAddsSpec)

/-- 'roundtablelaw27.ComplexSplits', WHERE WHAT IT READS IS OF BULK AT MOST 1048576: true; the input reads as it did. -/
def complexSplitsUptoRow : OpenClaim := { program := "ytkedmlandjlogaa", sum := "2b520c9b81c17d1877c9dee47ef84152184f67ae775a2adf11b22f21dc41a75d", func := "roundtable/roundtablelaw27.ComplexSplits", spec := "complexSplits", unfollowed := true, recurses := true, plainKeys := false, apart := false, narrowed := true }
def ComplexSplitsUptoSaid : Prop := complexSplitsUptoRow.holds Try.pinned (OpenSpec.upto complexSplitsSpec)

end Rows
end Go.Proofs.Ytkedmlandjlogaa
