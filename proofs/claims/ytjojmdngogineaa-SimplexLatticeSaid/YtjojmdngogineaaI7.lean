/-
  Operations behind a guard that was left out itself.
-/
import Derived.Test.YtjojmdngogineaaOps8
namespace Go.Proofs.Ytjojmdngogineaa
open Go.RowKit
/-- behind an operation that was left out -/
theorem want_undef {ops : Array Oper} {o : Oper} {fr : List Dat} {gi : Nat} {pol : Bool} {t : Tmp} (hg : o.guard = some (gi, pol)) (ht : (ops[gi]?).bind (·.dst) = some t) (hf : fr[t]? = some (dX undef)) : WantS ops o fr false := WantS.mk fun I w a ho => by
  have h1 : a.tmps.getD t undef = undef := ho.2 t (guard_mem hg ht) _ hf
  have hlt : t < a.tmps.size := by rw [ho.1]; exact (List.getElem?_eq_some_iff.1 hf).1
  have h2 : a.tmps[t]? = some undef := by
    rw [Array.getD_eq_getD_getElem?] at h1
    rw [Array.getElem?_eq_getElem hlt] at h1 ⊢
    simpa using h1
  simp [Region.wanted, hg, yielded, ht, h2, undef]
end Go.Proofs.Ytjojmdngogineaa
