/-
  No cell of these rows narrows 'for every input' (looked for: loops, veiled, ifaces, maps, wideKeys, modest, calm, conditions, laid).
  DERIVED. THE GIVEN ROWS OF THIS SEAT. 8 by the template 'for every input the law returns true; each argument reads behind the call as it read before'; 0 by the template 'total and deterministic' (their statements: YtjifihfkoflbiaaTotals.lean).
  GIVEN WITH THE SEED: the statements are not yours to turn. If you find one false, say at which input.
  Laid BY PROGRAM, IN A SANDBOX (cutbox-rows.mjs): the forced cells as the released guide's own fill.sh prints them over the translation f320af231ea487b8… (all of the seat's roots in one cut). By AI agents, Wed Nov 11 2026. No macro, syntax, notation, axiom, sorry.
-/
import Derived.Test.YtjifihfkoflbiaaChecked
import GoSem.Claim
import GoSem.ClaimJoined
import GoSem.ClaimMapViews
import Derived.JoinedTies
import Derived.KernelRfl
namespace Go.Proofs.Ytjifihfkoflbiaa
/- THE CELL 'sum', in the pinned program and in every row, IS THE sha256 OF THE DUMP (.gsa) THAT YtjifihfkoflbiaaProg.lean LOADS. Nothing in Lean hashes anything: it is a label: what it is worth is what the hold of that sum in a sandbox is worth. -/
noncomputable def Try.pinned : Pinned := { name := "ytjifihfkoflbiaa", sum := "f320af231ea487b8b8f705b4e73278ae0cafc38c6a2103e9638e4fed41c7f2c0", checked := Try.checked }
namespace Rows
def none {H : Type} : Left H := { results := [], args := [] }

/-- 'roundtablelaw42.RefuteVerifies': WHATEVER THE INPUT: true; the input reads as it did. -/
def refuteVerifiesSpec : ChangeSpec := { name := "refuteVerifies", fn := fun _ => fun
  | [d1, d2] => { results := [.lit (.bool true)], args := [d1, d2] }
  | _ => none }
def refuteVerifiesRow : OpenClaim := { program := "ytjifihfkoflbiaa", sum := "f320af231ea487b8b8f705b4e73278ae0cafc38c6a2103e9638e4fed41c7f2c0", func := "roundtable/roundtablelaw42.RefuteVerifies", spec := "refuteVerifies", unfollowed := true, recurses := true, apart := false }
def RefuteVerifiesSaid : Prop := refuteVerifiesRow.holds Try.pinned (OpenSpec.ofChange refuteVerifiesSpec)

/-- ITS FALSE NEIGHBOUR: 'it returns false'. Refute it at one input. -/
def refuteVerifiesWrong : ChangeSpec := { name := "refuteVerifies", fn := fun _ => fun
  | [d1, d2] => { results := [.lit (.bool false)], args := [d1, d2] }
  | _ => none }
def RefuteVerifiesWrongFalsely : Prop := refuteVerifiesRow.holds Try.pinned (OpenSpec.ofChange refuteVerifiesWrong)

/-- 'roundtablelaw42.RefuteTrims': WHATEVER THE INPUT: true; the input reads as it did. -/
def refuteTrimsSpec : ChangeSpec := { name := "refuteTrims", fn := fun _ => fun
  | [d1, d2] => { results := [.lit (.bool true)], args := [d1, d2] }
  | _ => none }
def refuteTrimsRow : OpenClaim := { program := "ytjifihfkoflbiaa", sum := "f320af231ea487b8b8f705b4e73278ae0cafc38c6a2103e9638e4fed41c7f2c0", func := "roundtable/roundtablelaw42.RefuteTrims", spec := "refuteTrims", unfollowed := true, recurses := true, apart := false }
def RefuteTrimsSaid : Prop := refuteTrimsRow.holds Try.pinned (OpenSpec.ofChange refuteTrimsSpec)

/-- ITS FALSE NEIGHBOUR: 'it returns false'. Refute it at one input. -/
def refuteTrimsWrong : ChangeSpec := { name := "refuteTrims", fn := fun _ => fun
  | [d1, d2] => { results := [.lit (.bool false)], args := [d1, d2] }
  | _ => none }
def RefuteTrimsWrongFalsely : Prop := refuteTrimsRow.holds Try.pinned (OpenSpec.ofChange refuteTrimsWrong)

/-- 'roundtablelaw42.RefuteCores': WHATEVER THE INPUT: true; the input reads as it did. -/
def refuteCoresSpec : ChangeSpec := { name := "refuteCores", fn := fun _ => fun
  | [d1, d2] => { results := [.lit (.bool true)], args := [d1, d2] }
  | _ => none }
def refuteCoresRow : OpenClaim := { program := "ytjifihfkoflbiaa", sum := "f320af231ea487b8b8f705b4e73278ae0cafc38c6a2103e9638e4fed41c7f2c0", func := "roundtable/roundtablelaw42.RefuteCores", spec := "refuteCores", unfollowed := true, recurses := true, apart := false }
def RefuteCoresSaid : Prop := refuteCoresRow.holds Try.pinned (OpenSpec.ofChange refuteCoresSpec)

/-- ITS FALSE NEIGHBOUR: 'it returns false'. Refute it at one input. -/
def refuteCoresWrong : ChangeSpec := { name := "refuteCores", fn := fun _ => fun
  | [d1, d2] => { results := [.lit (.bool false)], args := [d1, d2] }
  | _ => none }
def RefuteCoresWrongFalsely : Prop := refuteCoresRow.holds Try.pinned (OpenSpec.ofChange refuteCoresWrong)

/-- 'roundtablelaw42.RefuteGrows': WHATEVER THE INPUT: true; the input reads as it did. -/
def refuteGrowsSpec : ChangeSpec := { name := "refuteGrows", fn := fun _ => fun
  | [d1, d2, d3] => { results := [.lit (.bool true)], args := [d1, d2, d3] }
  | _ => none }
def refuteGrowsRow : OpenClaim := { program := "ytjifihfkoflbiaa", sum := "f320af231ea487b8b8f705b4e73278ae0cafc38c6a2103e9638e4fed41c7f2c0", func := "roundtable/roundtablelaw42.RefuteGrows", spec := "refuteGrows", unfollowed := true, recurses := true, apart := false }
def RefuteGrowsSaid : Prop := refuteGrowsRow.holds Try.pinned (OpenSpec.ofChange refuteGrowsSpec)

/-- ITS FALSE NEIGHBOUR: 'it returns false'. Refute it at one input. -/
def refuteGrowsWrong : ChangeSpec := { name := "refuteGrows", fn := fun _ => fun
  | [d1, d2, d3] => { results := [.lit (.bool false)], args := [d1, d2, d3] }
  | _ => none }
def RefuteGrowsWrongFalsely : Prop := refuteGrowsRow.holds Try.pinned (OpenSpec.ofChange refuteGrowsWrong)

/-- 'roundtablelaw42.RefuteShrinks': WHATEVER THE INPUT: true; the input reads as it did. -/
def refuteShrinksSpec : ChangeSpec := { name := "refuteShrinks", fn := fun _ => fun
  | [d1, d2] => { results := [.lit (.bool true)], args := [d1, d2] }
  | _ => none }
def refuteShrinksRow : OpenClaim := { program := "ytjifihfkoflbiaa", sum := "f320af231ea487b8b8f705b4e73278ae0cafc38c6a2103e9638e4fed41c7f2c0", func := "roundtable/roundtablelaw42.RefuteShrinks", spec := "refuteShrinks", unfollowed := true, recurses := true, apart := false }
def RefuteShrinksSaid : Prop := refuteShrinksRow.holds Try.pinned (OpenSpec.ofChange refuteShrinksSpec)

/-- ITS FALSE NEIGHBOUR: 'it returns false'. Refute it at one input. -/
def refuteShrinksWrong : ChangeSpec := { name := "refuteShrinks", fn := fun _ => fun
  | [d1, d2] => { results := [.lit (.bool false)], args := [d1, d2] }
  | _ => none }
def RefuteShrinksWrongFalsely : Prop := refuteShrinksRow.holds Try.pinned (OpenSpec.ofChange refuteShrinksWrong)

/-- 'roundtablelaw42.RefuteResolves': WHATEVER THE INPUT: true; the input reads as it did. -/
def refuteResolvesSpec : ChangeSpec := { name := "refuteResolves", fn := fun _ => fun
  | [d1, d2] => { results := [.lit (.bool true)], args := [d1, d2] }
  | _ => none }
def refuteResolvesRow : OpenClaim := { program := "ytjifihfkoflbiaa", sum := "f320af231ea487b8b8f705b4e73278ae0cafc38c6a2103e9638e4fed41c7f2c0", func := "roundtable/roundtablelaw42.RefuteResolves", spec := "refuteResolves", unfollowed := true, recurses := true, apart := false }
def RefuteResolvesSaid : Prop := refuteResolvesRow.holds Try.pinned (OpenSpec.ofChange refuteResolvesSpec)

/-- ITS FALSE NEIGHBOUR: 'it returns false'. Refute it at one input. -/
def refuteResolvesWrong : ChangeSpec := { name := "refuteResolves", fn := fun _ => fun
  | [d1, d2] => { results := [.lit (.bool false)], args := [d1, d2] }
  | _ => none }
def RefuteResolvesWrongFalsely : Prop := refuteResolvesRow.holds Try.pinned (OpenSpec.ofChange refuteResolvesWrong)

/-- 'roundtablelaw42.RefuteImplies': WHATEVER THE INPUT: true; the input reads as it did. -/
def refuteImpliesSpec : ChangeSpec := { name := "refuteImplies", fn := fun _ => fun
  | [d1, d2] => { results := [.lit (.bool true)], args := [d1, d2] }
  | _ => none }
def refuteImpliesRow : OpenClaim := { program := "ytjifihfkoflbiaa", sum := "f320af231ea487b8b8f705b4e73278ae0cafc38c6a2103e9638e4fed41c7f2c0", func := "roundtable/roundtablelaw42.RefuteImplies", spec := "refuteImplies", unfollowed := true, recurses := true, apart := false }
def RefuteImpliesSaid : Prop := refuteImpliesRow.holds Try.pinned (OpenSpec.ofChange refuteImpliesSpec)

/-- ITS FALSE NEIGHBOUR: 'it returns false'. Refute it at one input. -/
def refuteImpliesWrong : ChangeSpec := { name := "refuteImplies", fn := fun _ => fun
  | [d1, d2] => { results := [.lit (.bool false)], args := [d1, d2] }
  | _ => none }
def RefuteImpliesWrongFalsely : Prop := refuteImpliesRow.holds Try.pinned (OpenSpec.ofChange refuteImpliesWrong)

/-- 'roundtablelaw42.RefuteHolds': WHATEVER THE INPUT: true; the input reads as it did. -/
def refuteHoldsSpec : ChangeSpec := { name := "refuteHolds", fn := fun _ => fun
  | [d1, d2, d3] => { results := [.lit (.bool true)], args := [d1, d2, d3] }
  | _ => none }
def refuteHoldsRow : OpenClaim := { program := "ytjifihfkoflbiaa", sum := "f320af231ea487b8b8f705b4e73278ae0cafc38c6a2103e9638e4fed41c7f2c0", func := "roundtable/roundtablelaw42.RefuteHolds", spec := "refuteHolds", unfollowed := true, recurses := true, apart := false }
def RefuteHoldsSaid : Prop := refuteHoldsRow.holds Try.pinned (OpenSpec.ofChange refuteHoldsSpec)

/-- ITS FALSE NEIGHBOUR: 'it returns false'. Refute it at one input. -/
def refuteHoldsWrong : ChangeSpec := { name := "refuteHolds", fn := fun _ => fun
  | [d1, d2, d3] => { results := [.lit (.bool false)], args := [d1, d2, d3] }
  | _ => none }
def RefuteHoldsWrongFalsely : Prop := refuteHoldsRow.holds Try.pinned (OpenSpec.ofChange refuteHoldsWrong)

/- THE SECOND FORM. 'bulk': how many values and letters a reading holds, each counted each time it is reached (what is shared counts as often as it is met; a slice's spare places count too). A statement '..UptoSaid' is the law's where the arguments, and the package variables that the reading takes, are together of bulk at most 1048576: NARROWER than '..Said'. Prove '..Said' where nothing that the law and all that it calls make is longer than what came in: it says more and counts as full. Else prove '..UptoSaid'. A law counts once. -/
mutual
def uptoBulk {H : Type} : DataW H → Nat
  | .lit (.string bytes) => bytes.length + 1
  | .lit _ => 1
  | .nil => 1
  | .ptr d => uptoBulk d + 1
  | .slice elems spare => uptoBulkAll elems + uptoBulkAll spare + 1
  | .agg parts => uptoBulkAll parts + 1
  | .iface _ d => uptoBulk d + 1
  | .map entries => uptoBulkEntries entries + 1
  | .held _ => 1
def uptoBulkAll {H : Type} : List (DataW H) → Nat
  | [] => 0
  | d :: r => uptoBulk d + uptoBulkAll r
def uptoBulkEntries {H : Type} : List (Lit × DataW H) → Nat
  | [] => 0
  | x :: r => uptoBulkEntry x + uptoBulkEntries r
def uptoBulkEntry {H : Type} : Lit × DataW H → Nat
  | (.string bytes, d) => bytes.length + uptoBulk d + 1
  | (_, d) => uptoBulk d + 1
 end
def uptoSmall : (H : Type) → List (DataW H) → Bool := fun _ ds => decide (uptoBulkAll ds ≤ 1048576)
def OpenSpec.upto (s : _root_.Go.ChangeSpec) : _root_.Go.OpenSpec := { _root_.Go.OpenSpec.ofChange s with cond := some uptoSmall }

/-- 'roundtablelaw42.RefuteVerifies', WHERE WHAT IT READS IS OF BULK AT MOST 1048576: true; the input reads as it did. -/
def refuteVerifiesUptoRow : OpenClaim := { program := "ytjifihfkoflbiaa", sum := "f320af231ea487b8b8f705b4e73278ae0cafc38c6a2103e9638e4fed41c7f2c0", func := "roundtable/roundtablelaw42.RefuteVerifies", spec := "refuteVerifies", unfollowed := true, recurses := true, apart := false, narrowed := true }
def RefuteVerifiesUptoSaid : Prop := refuteVerifiesUptoRow.holds Try.pinned (OpenSpec.upto refuteVerifiesSpec)

/-- 'roundtablelaw42.RefuteTrims', WHERE WHAT IT READS IS OF BULK AT MOST 1048576: true; the input reads as it did. -/
def refuteTrimsUptoRow : OpenClaim := { program := "ytjifihfkoflbiaa", sum := "f320af231ea487b8b8f705b4e73278ae0cafc38c6a2103e9638e4fed41c7f2c0", func := "roundtable/roundtablelaw42.RefuteTrims", spec := "refuteTrims", unfollowed := true, recurses := true, apart := false, narrowed := true }
def RefuteTrimsUptoSaid : Prop := refuteTrimsUptoRow.holds Try.pinned (OpenSpec.upto refuteTrimsSpec)

/-- 'roundtablelaw42.RefuteCores', WHERE WHAT IT READS IS OF BULK AT MOST 1048576: true; the input reads as it did. -/
def refuteCoresUptoRow : OpenClaim := { program := "ytjifihfkoflbiaa", sum := "f320af231ea487b8b8f705b4e73278ae0cafc38c6a2103e9638e4fed41c7f2c0", func := "roundtable/roundtablelaw42.RefuteCores", spec := "refuteCores", unfollowed := true, recurses := true, apart := false, narrowed := true }
def RefuteCoresUptoSaid : Prop := refuteCoresUptoRow.holds Try.pinned (OpenSpec.upto refuteCoresSpec)

/-- 'roundtablelaw42.RefuteGrows', WHERE WHAT IT READS IS OF BULK AT MOST 1048576: true; the input reads as it did. -/
def refuteGrowsUptoRow : OpenClaim := { program := "ytjifihfkoflbiaa", sum := "f320af231ea487b8b8f705b4e73278ae0cafc38c6a2103e9638e4fed41c7f2c0", func := "roundtable/roundtablelaw42.RefuteGrows", spec := "refuteGrows", unfollowed := true, recurses := true, apart := false, narrowed := true }
def RefuteGrowsUptoSaid : Prop := refuteGrowsUptoRow.holds Try.pinned (OpenSpec.upto refuteGrowsSpec)

/-- 'roundtablelaw42.RefuteShrinks', WHERE WHAT IT READS IS OF BULK AT MOST 1048576: true; the input reads as it did. -/
def refuteShrinksUptoRow : OpenClaim := { program := "ytjifihfkoflbiaa", sum := "f320af231ea487b8b8f705b4e73278ae0cafc38c6a2103e9638e4fed41c7f2c0", func := "roundtable/roundtablelaw42.RefuteShrinks", spec := "refuteShrinks", unfollowed := true, recurses := true, apart := false, narrowed := true }
def RefuteShrinksUptoSaid : Prop := refuteShrinksUptoRow.holds Try.pinned (OpenSpec.upto refuteShrinksSpec)

/-- 'roundtablelaw42.RefuteResolves', WHERE WHAT IT READS IS OF BULK AT MOST 1048576: true; the input reads as it did. -/
def refuteResolvesUptoRow : OpenClaim := { program := "ytjifihfkoflbiaa", sum := "f320af231ea487b8b8f705b4e73278ae0cafc38c6a2103e9638e4fed41c7f2c0", func := "roundtable/roundtablelaw42.RefuteResolves", spec := "refuteResolves", unfollowed := true, recurses := true, apart := false, narrowed := true }
def RefuteResolvesUptoSaid : Prop := refuteResolvesUptoRow.holds Try.pinned (OpenSpec.upto refuteResolvesSpec)

/-- 'roundtablelaw42.RefuteImplies', WHERE WHAT IT READS IS OF BULK AT MOST 1048576: true; the input reads as it did. -/
def refuteImpliesUptoRow : OpenClaim := { program := "ytjifihfkoflbiaa", sum := "f320af231ea487b8b8f705b4e73278ae0cafc38c6a2103e9638e4fed41c7f2c0", func := "roundtable/roundtablelaw42.RefuteImplies", spec := "refuteImplies", unfollowed := true, recurses := true, apart := false, narrowed := true }
def RefuteImpliesUptoSaid : Prop := refuteImpliesUptoRow.holds Try.pinned (OpenSpec.upto refuteImpliesSpec)

/-- 'roundtablelaw42.RefuteHolds', WHERE WHAT IT READS IS OF BULK AT MOST 1048576: true; the input reads as it did. -/
def refuteHoldsUptoRow : OpenClaim := { program := "ytjifihfkoflbiaa", sum := "f320af231ea487b8b8f705b4e73278ae0cafc38c6a2103e9638e4fed41c7f2c0", func := "roundtable/roundtablelaw42.RefuteHolds", spec := "refuteHolds", unfollowed := true, recurses := true, apart := false, narrowed := true }
def RefuteHoldsUptoSaid : Prop := refuteHoldsUptoRow.holds Try.pinned (OpenSpec.upto refuteHoldsSpec)

end Rows
end Go.Proofs.Ytjifihfkoflbiaa
