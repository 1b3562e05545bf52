/-
  Behind a range over a function: the activation leaves with a mark; what a row's value looks like.
-/
import Derived.Test.YtjojmdngogineaaI5
namespace Go.Proofs.Ytjojmdngogineaa
open Go.RowKit
section
variable {P : Program} {ops : Array Oper} {hp : List HObj} {o : Oper} {fr : List Dat} {d : Dat} {Q : Exit → Act → World → Prop} {rest : List Oper} {P0 : Nat → Prop} {B : Nat} {w0 w : World} {a : Act}
/-- an operation, whatever the activation has deferred -/
theorem wpList_defers (hg : o.guard = none) (h : SY P ops hp o fr d) (hh : Hp P0 B w0 hp w) (hf : Fr (Imm P0 B hp) w { tmps := a.tmps, defers := [] } fr)
    (k : ∀ a' w', a'.defers = a.defers → Hp P0 B w0 hp w' → Fr (Imm P0 B hp) w' { tmps := a'.tmps, defers := [] } (setD fr o.dst d) → wpList P ops Q rest a' w') : wpList P ops Q (o :: rest) a w := by
  unfold wpList
  have hwant : Region.wanted o (yielded ops a.tmps) = true := by simp [Region.wanted, hg]
  rw [if_pos hwant]
  refine .inl (h.out hh (a := a) ⟨hf.size, fun t _ d hd => hf.rd t d hd⟩ _ _ fun v w' e hd => ?_)
  have hf2 := Fr.put (x := o.dst) (hf.ext e) hd
  refine k (a.put o.dst v) w' ?_ (hh.ext e) ?_
  · cases o.dst <;> rfl
  · have e1 : ({ tmps := (a.put o.dst v).tmps, defers := [] } : Act) = ({ tmps := a.tmps, defers := [] } : Act).put o.dst v := by cases o.dst <;> rfl
    rw [e1]; exact hf2
end
namespace I
section
variable {P : Program} {ops : Array Oper} {hp : List HObj} {fr : List Dat} {Q : Post} {rest : List Oper}
theorem WL.knowRow {α : Type} {R : Rel α} {_gR : Good R} {v : Value} {e : TypeId} {xs : List α} (hm : hRow v e R xs ∈ hp) (h : (∃ a c, v = .slice a xs.length c) → WL P ops Q rest fr hp) : WL P ops Q rest fr hp := WL.of fun _ _ _ _ _ hh hf =>
  (h (Own.len (hh.ok _ hm))).on hh hf
end
end I
end Go.Proofs.Ytjojmdngogineaa
