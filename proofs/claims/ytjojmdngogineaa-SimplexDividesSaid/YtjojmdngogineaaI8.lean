/-
  Small unsigned numbers.
-/
import Derived.Test.YtjojmdngogineaaI7
import Derived.Test.YtjojmdngogineaaProg
namespace Go.Proofs.Ytjojmdngogineaa
open Go.RowKit
section
variable {P : Program} {ops : Array Oper} {hp : List HObj} {fr : List Dat} {dst : Option Tmp} {ty : TypeId} {ps : String} {af : Array Edge} {g : Option (Nat × Bool)}
/-- a conversion, of a value that is known exactly -/
theorem SY.convX {x : Operand} {A T : TypeId} {u : Value} {n : Int} (hx : OpD fr x (dX u)) (hr : ∀ w, (convert A T u).run P w = .ok (.int .i64 n) w) :
    SY P ops hp { dst := dst, op := .convert A T x, type := ty, pos := ps, after := af, guard := g } fr (dI n) := SY.val fun {I w a} ho => by
  have h1 : a.eval x = u := hx.get (by simp [Op.operands]) ho
  refine ⟨.int .i64 n, ?_, rfl⟩
  unfold execOp
  simp only [h1, Sem.run_bind, hr, Result.andThen_ok, Sem.run_pure]
theorem SY.unX {x : Operand} {T : TypeId} {u v : Value} {op : UnOp} (hx : OpD fr x (dX u)) (hr : ∀ w, (Op.unary op u).run P w = .ok v w) :
    SY P ops hp { dst := dst, op := .unOp op T x, type := ty, pos := ps, after := af, guard := g } fr (dX v) := SY.val fun {I w a} ho => by
  have h1 : a.eval x = u := hx.get (by simp [Op.operands]) ho
  refine ⟨v, ?_, rfl⟩
  unfold execOp
  simp only [h1, Sem.run_bind, hr, Result.andThen_ok, Sem.run_pure]
end
theorem cvU8 (c : Int) (h : 0 ≤ c ∧ c ≤ 255) : ∀ w, (convert 5 3 (.int .u8 c)).run Try.prog w = .ok (.int .i64 c) w := by
  have hw : IntKind.i64.wrap c = c := by rw [IntKind.wrap_i64]; omega
  intro w; go_simp
end Go.Proofs.Ytjojmdngogineaa
