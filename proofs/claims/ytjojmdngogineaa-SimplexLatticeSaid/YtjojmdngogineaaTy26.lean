/-
  The types of the program that simplices need: rows of the table.
-/
import Derived.Test.YtjojmdngogineaaOps4
import Derived.Test.YtjojmdngogineaaProg
namespace Go.Proofs.Ytjojmdngogineaa
open Go.RowKit

theorem elV : ElT Try.prog 22 56 2 (.agg #[.int .i64 0, .int .i64 0]) 16 true := ⟨Try.underlying22, by kernel_rfl, Try.isAgg56, rfl⟩
theorem elSi : ElT Try.prog 43 22 1 (.slice none 0 0) 24 false := ⟨Try.underlying43, by kernel_rfl, Try.isAgg22, rfl⟩
theorem elI : ElT Try.prog 89 3 1 (.int .i64 0) 8 false := ⟨Try.underlying89, by kernel_rfl, Try.isAgg3, rfl⟩
theorem elE : ElT Try.prog 172 25 1 (.int .i64 0) 8 false := ⟨Try.underlying172, by kernel_rfl, Try.isAgg25, rfl⟩
theorem tyV : TyI Try.prog 56 2 true := ⟨by kernel_rfl, Try.isAgg56⟩
theorem tySi : TyI Try.prog 22 1 false := ⟨by kernel_rfl, Try.isAgg22⟩
theorem tyI : TyI Try.prog 3 1 false := ⟨by kernel_rfl, Try.isAgg3⟩
theorem tyE : TyI Try.prog 25 1 false := ⟨by kernel_rfl, Try.isAgg25⟩
theorem tzV : TyZ Try.prog 56 (.agg #[.int .i64 0, .int .i64 0]) := ⟨by kernel_rfl⟩
theorem vxT : VxT Try.prog 56 := by
  constructor
  · intro b off w; go_simp
  · intro b off w; go_simp
  · intro x y p q p' q' w; go_simp; by_cases h : p = p' <;> by_cases h' : q = q' <;> simp [h, h']
  · intro x y p q p' q' w; go_simp; by_cases h : p = p' <;> by_cases h' : q = q' <;> simp [h, h']
  · intro p q w; go_simp
  · intro p w; go_simp
  · intro q w; go_simp
theorem cvIE : ∀ n w, (convert 3 25 (.int .i64 n)).run Try.prog w = .ok (.int .i64 (IntKind.i64.wrap n)) w := by
  intro n w; go_simp
theorem cvEI : ∀ n w, (convert 25 3 (.int .i64 n)).run Try.prog w = .ok (.int .i64 (IntKind.i64.wrap n)) w := by
  intro n w; go_simp
theorem eqBB : ∀ (x y : Operand) (p q : Bool) w, (do eqGuard .eql 4 x y (.bool p) (.bool q); Go.binOp .eql 4 (.bool p) (.bool q)).run Try.prog w = .ok (.bool (p == q)) w := by
  intro x y p q w; cases p <;> cases q <;> go_simp
theorem nqBB : ∀ (x y : Operand) (p q : Bool) w, (do eqGuard .neq 4 x y (.bool p) (.bool q); Go.binOp .neq 4 (.bool p) (.bool q)).run Try.prog w = .ok (.bool (p != q)) w := by
  intro x y p q w; cases p <;> cases q <;> go_simp
theorem eqNilV : ∀ (x y : Operand) ad m c w, (do eqGuard .eql 22 x y (.slice ad m c) (.slice none 0 0); Go.binOp .eql 22 (.slice ad m c) (.slice none 0 0)).run Try.prog w = .ok (.bool ad.isNone) w := by
  intro x y ad m c w
  cases ad <;> (go_simp; try (unfold Go.binOp; simp only; unfold Op.equal Op.maxDepth Op.equalIn; simp [run_underlying Try.underlying22]))

end Go.Proofs.Ytjojmdngogineaa
