/-
  Lists of operations that may call yield: the frames' WL once more, over the walk inside the wide fence. All that WL can do it can do too (an operation that is walked plainly is one here).
-/
import Derived.Test.YtjojmdngogineaaOps8
import Derived.ControlIn
import Derived.OrdersIn
import Derived.TacticsIn
namespace Go.Proofs.Ytjojmdngogineaa.I
open Go.RowKit
theorem oper_wide {P : Program} {o : Oper} {a : Act} {w : World} {K : Act → World → Prop} {Q : Exit → Act → World → Prop} (h : o.wp P a w K Q) : o.wpIn Fence.wide 0 P a w K Q := by
  refine ⟨fun _ _ => trivial, ?_⟩
  show o.uponIn Fence.wide 0 P a K Q ((execOp a.eval o).run P w)
  unfold Oper.wp at h
  revert h
  generalize (execOp a.eval o).run P w = r
  intro h
  unfold Oper.upon at h
  unfold Oper.uponIn
  split at h
  · exact h
  · exact h
  · exact h
  · exact ⟨fun h => by simp [Fence.wide] at h, callsIn_wide.2 h⟩
  · exact ⟨fun h => by simp [Fence.wide] at h, fun c cs _ => let ⟨v, w2, r, s⟩ := h c cs; ⟨v, w2, r, stepsIn_wide.2 s⟩⟩
  · exact h
  · exact h.elim
theorem wpListIn_plainW {P : Program} {ops : Array Oper} {Q : Exit → Act → World → Prop} {rest : List Oper} {o : Oper} {a : Act} {w : World} (hg : o.guard = none)
    (h : ∀ K : Act → World → Prop, (∀ a w, wpListIn Fence.wide 0 P ops Q rest a w → K a w) → o.wp P a w K Q) : wpListIn Fence.wide 0 P ops Q (o :: rest) a w :=
  wpListIn_plain hg fun K hK => oper_wide (h K hK)
end Go.Proofs.Ytjojmdngogineaa.I
