/-
  No cell of these rows narrows 'for every input' (looked for: loops, veiled, ifaces, maps, wideKeys, modest, calm, conditions, laid).
  DERIVED. THE GIVEN ROWS OF THIS SEAT. 8 by the template 'for every input the law returns true; each argument reads behind the call as it read before'; 0 by the template 'total and deterministic' (their statements: YtjbepoofigokjaaGreatTotals.lean).
  GIVEN WITH THE SEED: the statements are not yours to turn. If you find one false, say at which input.
  Laid BY PROGRAM, IN A SANDBOX (cutbox-rows.mjs): the forced cells as the released guide's own fill.sh prints them over the translation e589473ba3a0db3b… (all of the seat's roots in one cut). By AI agents, Wed Nov 11 2026. No macro, syntax, notation, axiom, sorry.
-/
import Derived.Test.YtjbepoofigokjaaGreatChecked
import GoSem.Claim
import GoSem.ClaimJoined
import GoSem.ClaimMapViews
import Derived.JoinedTies
import Derived.KernelRfl
namespace Go.Proofs.YtjbepoofigokjaaGreat
/- THE CELL 'sum', in the pinned program and in every row, IS THE sha256 OF THE DUMP (.gsa) THAT YtjbepoofigokjaaGreatProg.lean LOADS. Nothing in Lean hashes anything: it is a label: what it is worth is what the hold of that sum in a sandbox is worth. -/
noncomputable def Tryz.pinned : Pinned := { name := "ytjbepoofigokjaagreat", sum := "e589473ba3a0db3b5155b05772758698345f9ba6ff94a1bec3366f0694d684fe", checked := Tryz.checked }
namespace Rows
def none {H : Type} : Left H := { results := [], args := [] }

/-- 'roundtablelaw32.CollapseFrees': WHATEVER THE INPUT: true; the input reads as it did. -/
def collapseFreesSpec : ChangeSpec := { name := "collapseFrees", fn := fun _ => fun
  | [d] => { results := [.lit (.bool true)], args := [d] }
  | _ => none }
def collapseFreesRow : OpenClaim := { program := "ytjbepoofigokjaagreat", sum := "e589473ba3a0db3b5155b05772758698345f9ba6ff94a1bec3366f0694d684fe", func := "roundtable/roundtablelaw32.CollapseFrees", spec := "collapseFrees", unfollowed := true, recurses := true, plainKeys := false, apart := false }
def CollapseFreesSaid : Prop := collapseFreesRow.holds Tryz.pinned (OpenSpec.ofChange collapseFreesSpec)

/-- ITS FALSE NEIGHBOUR: 'it returns false'. Refute it at one input. -/
def collapseFreesWrong : ChangeSpec := { name := "collapseFrees", fn := fun _ => fun
  | [d] => { results := [.lit (.bool false)], args := [d] }
  | _ => none }
def CollapseFreesWrongFalsely : Prop := collapseFreesRow.holds Tryz.pinned (OpenSpec.ofChange collapseFreesWrong)

/-- 'roundtablelaw32.CollapseSteps': WHATEVER THE INPUT: true; the input reads as it did. -/
def collapseStepsSpec : ChangeSpec := { name := "collapseSteps", fn := fun _ => fun
  | [d1, d2] => { results := [.lit (.bool true)], args := [d1, d2] }
  | _ => none }
def collapseStepsRow : OpenClaim := { program := "ytjbepoofigokjaagreat", sum := "e589473ba3a0db3b5155b05772758698345f9ba6ff94a1bec3366f0694d684fe", func := "roundtable/roundtablelaw32.CollapseSteps", spec := "collapseSteps", unfollowed := true, recurses := true, plainKeys := false, apart := false }
def CollapseStepsSaid : Prop := collapseStepsRow.holds Tryz.pinned (OpenSpec.ofChange collapseStepsSpec)

/-- ITS FALSE NEIGHBOUR: 'it returns false'. Refute it at one input. -/
def collapseStepsWrong : ChangeSpec := { name := "collapseSteps", fn := fun _ => fun
  | [d1, d2] => { results := [.lit (.bool false)], args := [d1, d2] }
  | _ => none }
def CollapseStepsWrongFalsely : Prop := collapseStepsRow.holds Tryz.pinned (OpenSpec.ofChange collapseStepsWrong)

/-- 'roundtablelaw32.CollapseReduces': WHATEVER THE INPUT: true; the input reads as it did. -/
def collapseReducesSpec : ChangeSpec := { name := "collapseReduces", fn := fun _ => fun
  | [d] => { results := [.lit (.bool true)], args := [d] }
  | _ => none }
def collapseReducesRow : OpenClaim := { program := "ytjbepoofigokjaagreat", sum := "e589473ba3a0db3b5155b05772758698345f9ba6ff94a1bec3366f0694d684fe", func := "roundtable/roundtablelaw32.CollapseReduces", spec := "collapseReduces", unfollowed := true, recurses := true, plainKeys := false, apart := false }
def CollapseReducesSaid : Prop := collapseReducesRow.holds Tryz.pinned (OpenSpec.ofChange collapseReducesSpec)

/-- ITS FALSE NEIGHBOUR: 'it returns false'. Refute it at one input. -/
def collapseReducesWrong : ChangeSpec := { name := "collapseReduces", fn := fun _ => fun
  | [d] => { results := [.lit (.bool false)], args := [d] }
  | _ => none }
def CollapseReducesWrongFalsely : Prop := collapseReducesRow.holds Tryz.pinned (OpenSpec.ofChange collapseReducesWrong)

/-- 'roundtablelaw32.CollapseVerifies': WHATEVER THE INPUT: true; the input reads as it did. -/
def collapseVerifiesSpec : ChangeSpec := { name := "collapseVerifies", fn := fun _ => fun
  | [d1, d2, d3] => { results := [.lit (.bool true)], args := [d1, d2, d3] }
  | _ => none }
def collapseVerifiesRow : OpenClaim := { program := "ytjbepoofigokjaagreat", sum := "e589473ba3a0db3b5155b05772758698345f9ba6ff94a1bec3366f0694d684fe", func := "roundtable/roundtablelaw32.CollapseVerifies", spec := "collapseVerifies", unfollowed := true, recurses := true, plainKeys := false, apart := false }
def CollapseVerifiesSaid : Prop := collapseVerifiesRow.holds Tryz.pinned (OpenSpec.ofChange collapseVerifiesSpec)

/-- ITS FALSE NEIGHBOUR: 'it returns false'. Refute it at one input. -/
def collapseVerifiesWrong : ChangeSpec := { name := "collapseVerifies", fn := fun _ => fun
  | [d1, d2, d3] => { results := [.lit (.bool false)], args := [d1, d2, d3] }
  | _ => none }
def CollapseVerifiesWrongFalsely : Prop := collapseVerifiesRow.holds Tryz.pinned (OpenSpec.ofChange collapseVerifiesWrong)

/-- 'roundtablelaw32.CollapseEnds': WHATEVER THE INPUT: true; the input reads as it did. -/
def collapseEndsSpec : ChangeSpec := { name := "collapseEnds", fn := fun _ => fun
  | [d1, d2] => { results := [.lit (.bool true)], args := [d1, d2] }
  | _ => none }
def collapseEndsRow : OpenClaim := { program := "ytjbepoofigokjaagreat", sum := "e589473ba3a0db3b5155b05772758698345f9ba6ff94a1bec3366f0694d684fe", func := "roundtable/roundtablelaw32.CollapseEnds", spec := "collapseEnds", unfollowed := true, recurses := true, plainKeys := false, apart := false }
def CollapseEndsSaid : Prop := collapseEndsRow.holds Tryz.pinned (OpenSpec.ofChange collapseEndsSpec)

/-- ITS FALSE NEIGHBOUR: 'it returns false'. Refute it at one input. -/
def collapseEndsWrong : ChangeSpec := { name := "collapseEnds", fn := fun _ => fun
  | [d1, d2] => { results := [.lit (.bool false)], args := [d1, d2] }
  | _ => none }
def CollapseEndsWrongFalsely : Prop := collapseEndsRow.holds Tryz.pinned (OpenSpec.ofChange collapseEndsWrong)

/-- 'roundtablelaw32.CollapseTrees': WHATEVER THE INPUT: true; the input reads as it did. -/
def collapseTreesSpec : ChangeSpec := { name := "collapseTrees", fn := fun _ => fun
  | [d] => { results := [.lit (.bool true)], args := [d] }
  | _ => none }
def collapseTreesRow : OpenClaim := { program := "ytjbepoofigokjaagreat", sum := "e589473ba3a0db3b5155b05772758698345f9ba6ff94a1bec3366f0694d684fe", func := "roundtable/roundtablelaw32.CollapseTrees", spec := "collapseTrees", unfollowed := true, recurses := true, plainKeys := false, apart := false }
def CollapseTreesSaid : Prop := collapseTreesRow.holds Tryz.pinned (OpenSpec.ofChange collapseTreesSpec)

/-- ITS FALSE NEIGHBOUR: 'it returns false'. Refute it at one input. -/
def collapseTreesWrong : ChangeSpec := { name := "collapseTrees", fn := fun _ => fun
  | [d] => { results := [.lit (.bool false)], args := [d] }
  | _ => none }
def CollapseTreesWrongFalsely : Prop := collapseTreesRow.holds Tryz.pinned (OpenSpec.ofChange collapseTreesWrong)

/-- 'roundtablelaw32.CollapseKeeps': WHATEVER THE INPUT: true; the input reads as it did. -/
def collapseKeepsSpec : ChangeSpec := { name := "collapseKeeps", fn := fun _ => fun
  | [d1, d2] => { results := [.lit (.bool true)], args := [d1, d2] }
  | _ => none }
def collapseKeepsRow : OpenClaim := { program := "ytjbepoofigokjaagreat", sum := "e589473ba3a0db3b5155b05772758698345f9ba6ff94a1bec3366f0694d684fe", func := "roundtable/roundtablelaw32.CollapseKeeps", spec := "collapseKeeps", unfollowed := true, recurses := true, plainKeys := false, apart := false }
def CollapseKeepsSaid : Prop := collapseKeepsRow.holds Tryz.pinned (OpenSpec.ofChange collapseKeepsSpec)

/-- ITS FALSE NEIGHBOUR: 'it returns false'. Refute it at one input. -/
def collapseKeepsWrong : ChangeSpec := { name := "collapseKeeps", fn := fun _ => fun
  | [d1, d2] => { results := [.lit (.bool false)], args := [d1, d2] }
  | _ => none }
def CollapseKeepsWrongFalsely : Prop := collapseKeepsRow.holds Tryz.pinned (OpenSpec.ofChange collapseKeepsWrong)

/-- 'roundtablelaw32.CollapseCones': WHATEVER THE INPUT: true; the input reads as it did. -/
def collapseConesSpec : ChangeSpec := { name := "collapseCones", fn := fun _ => fun
  | [d] => { results := [.lit (.bool true)], args := [d] }
  | _ => none }
def collapseConesRow : OpenClaim := { program := "ytjbepoofigokjaagreat", sum := "e589473ba3a0db3b5155b05772758698345f9ba6ff94a1bec3366f0694d684fe", func := "roundtable/roundtablelaw32.CollapseCones", spec := "collapseCones", unfollowed := true, recurses := true, plainKeys := false, apart := false }
def CollapseConesSaid : Prop := collapseConesRow.holds Tryz.pinned (OpenSpec.ofChange collapseConesSpec)

/-- ITS FALSE NEIGHBOUR: 'it returns false'. Refute it at one input. -/
def collapseConesWrong : ChangeSpec := { name := "collapseCones", fn := fun _ => fun
  | [d] => { results := [.lit (.bool false)], args := [d] }
  | _ => none }
def CollapseConesWrongFalsely : Prop := collapseConesRow.holds Tryz.pinned (OpenSpec.ofChange collapseConesWrong)

/- THE SECOND FORM. 'bulk': how many values and letters a reading holds, each counted each time it is reached (what is shared counts as often as it is met; a slice's spare places count too). A statement '..UptoSaid' is the law's where the arguments, and the package variables that the reading takes, are together of bulk at most 1048576: NARROWER than '..Said'. Prove '..Said' where nothing that the law and all that it calls make is longer than what came in: it says more and counts as full. Else prove '..UptoSaid'. A law counts once. -/
mutual
def uptoBulk {H : Type} : DataW H → Nat
  | .lit (.string bytes) => bytes.length + 1
  | .lit _ => 1
  | .nil => 1
  | .ptr d => uptoBulk d + 1
  | .slice elems spare => uptoBulkAll elems + uptoBulkAll spare + 1
  | .agg parts => uptoBulkAll parts + 1
  | .iface _ d => uptoBulk d + 1
  | .map entries => uptoBulkEntries entries + 1
  | .held _ => 1
def uptoBulkAll {H : Type} : List (DataW H) → Nat
  | [] => 0
  | d :: r => uptoBulk d + uptoBulkAll r
def uptoBulkEntries {H : Type} : List (Lit × DataW H) → Nat
  | [] => 0
  | x :: r => uptoBulkEntry x + uptoBulkEntries r
def uptoBulkEntry {H : Type} : Lit × DataW H → Nat
  | (.string bytes, d) => bytes.length + uptoBulk d + 1
  | (_, d) => uptoBulk d + 1
 end
def uptoSmall : (H : Type) → List (DataW H) → Bool := fun _ ds => decide (uptoBulkAll ds ≤ 1048576)
def OpenSpec.upto (s : _root_.Go.ChangeSpec) : _root_.Go.OpenSpec := { _root_.Go.OpenSpec.ofChange s with cond := some uptoSmall }

/-- 'roundtablelaw32.CollapseFrees', WHERE WHAT IT READS IS OF BULK AT MOST 1048576: true; the input reads as it did. -/
def collapseFreesUptoRow : OpenClaim := { program := "ytjbepoofigokjaagreat", sum := "e589473ba3a0db3b5155b05772758698345f9ba6ff94a1bec3366f0694d684fe", func := "roundtable/roundtablelaw32.CollapseFrees", spec := "collapseFrees", unfollowed := true, recurses := true, plainKeys := false, apart := false, narrowed := true }
def CollapseFreesUptoSaid : Prop := collapseFreesUptoRow.holds Tryz.pinned (OpenSpec.upto collapseFreesSpec)

/-- 'roundtablelaw32.CollapseSteps', WHERE WHAT IT READS IS OF BULK AT MOST 1048576: true; the input reads as it did. -/
def collapseStepsUptoRow : OpenClaim := { program := "ytjbepoofigokjaagreat", sum := "e589473ba3a0db3b5155b05772758698345f9ba6ff94a1bec3366f0694d684fe", func := "roundtable/roundtablelaw32.CollapseSteps", spec := "collapseSteps", unfollowed := true, recurses := true, plainKeys := false, apart := false, narrowed := true }
def CollapseStepsUptoSaid : Prop := collapseStepsUptoRow.holds Tryz.pinned (OpenSpec.upto collapseStepsSpec)

/-- 'roundtablelaw32.CollapseReduces', WHERE WHAT IT READS IS OF BULK AT MOST 1048576: true; the input reads as it did. -/
def collapseReducesUptoRow : OpenClaim := { program := "ytjbepoofigokjaagreat", sum := "e589473ba3a0db3b5155b05772758698345f9ba6ff94a1bec3366f0694d684fe", func := "roundtable/roundtablelaw32.CollapseReduces", spec := "collapseReduces", unfollowed := true, recurses := true, plainKeys := false, apart := false, narrowed := true }
def CollapseReducesUptoSaid : Prop := collapseReducesUptoRow.holds Tryz.pinned (OpenSpec.upto collapseReducesSpec)

/-- 'roundtablelaw32.CollapseVerifies', WHERE WHAT IT READS IS OF BULK AT MOST 1048576: true; the input reads as it did. -/
def collapseVerifiesUptoRow : OpenClaim := { program := "ytjbepoofigokjaagreat", sum := "e589473ba3a0db3b5155b05772758698345f9ba6ff94a1bec3366f0694d684fe", func := "roundtable/roundtablelaw32.CollapseVerifies", spec := "collapseVerifies", unfollowed := true, recurses := true, plainKeys := false, apart := false, narrowed := true }
def CollapseVerifiesUptoSaid : Prop := collapseVerifiesUptoRow.holds Tryz.pinned (OpenSpec.upto collapseVerifiesSpec)

/-- 'roundtablelaw32.CollapseEnds', WHERE WHAT IT READS IS OF BULK AT MOST 1048576: true; the input reads as it did. -/
def collapseEndsUptoRow : OpenClaim := { program := "ytjbepoofigokjaagreat", sum := "e589473ba3a0db3b5155b05772758698345f9ba6ff94a1bec3366f0694d684fe", func := "roundtable/roundtablelaw32.CollapseEnds", spec := "collapseEnds", unfollowed := true, recurses := true, plainKeys := false, apart := false, narrowed := true }
def CollapseEndsUptoSaid : Prop := collapseEndsUptoRow.holds Tryz.pinned (OpenSpec.upto collapseEndsSpec)

/-- 'roundtablelaw32.CollapseTrees', WHERE WHAT IT READS IS OF BULK AT MOST 1048576: true; the input reads as it did. -/
def collapseTreesUptoRow : OpenClaim := { program := "ytjbepoofigokjaagreat", sum := "e589473ba3a0db3b5155b05772758698345f9ba6ff94a1bec3366f0694d684fe", func := "roundtable/roundtablelaw32.CollapseTrees", spec := "collapseTrees", unfollowed := true, recurses := true, plainKeys := false, apart := false, narrowed := true }
def CollapseTreesUptoSaid : Prop := collapseTreesUptoRow.holds Tryz.pinned (OpenSpec.upto collapseTreesSpec)

/-- 'roundtablelaw32.CollapseKeeps', WHERE WHAT IT READS IS OF BULK AT MOST 1048576: true; the input reads as it did. -/
def collapseKeepsUptoRow : OpenClaim := { program := "ytjbepoofigokjaagreat", sum := "e589473ba3a0db3b5155b05772758698345f9ba6ff94a1bec3366f0694d684fe", func := "roundtable/roundtablelaw32.CollapseKeeps", spec := "collapseKeeps", unfollowed := true, recurses := true, plainKeys := false, apart := false, narrowed := true }
def CollapseKeepsUptoSaid : Prop := collapseKeepsUptoRow.holds Tryz.pinned (OpenSpec.upto collapseKeepsSpec)

/-- 'roundtablelaw32.CollapseCones', WHERE WHAT IT READS IS OF BULK AT MOST 1048576: true; the input reads as it did. -/
def collapseConesUptoRow : OpenClaim := { program := "ytjbepoofigokjaagreat", sum := "e589473ba3a0db3b5155b05772758698345f9ba6ff94a1bec3366f0694d684fe", func := "roundtable/roundtablelaw32.CollapseCones", spec := "collapseCones", unfollowed := true, recurses := true, plainKeys := false, apart := false, narrowed := true }
def CollapseConesUptoSaid : Prop := collapseConesUptoRow.holds Tryz.pinned (OpenSpec.upto collapseConesSpec)

end Rows
end Go.Proofs.YtjbepoofigokjaaGreat
