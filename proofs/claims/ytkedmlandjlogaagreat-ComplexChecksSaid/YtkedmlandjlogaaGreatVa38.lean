/-
  Part 38 of the texts that the claims of this seat lean on: walks of the program's functions by contracts over symbolic frames, and plain laws of what they compute. No condition.
-/
import Derived.Deep.OwnRows
import Derived.Test.YtkedmlandjlogaaGreatVa35
set_option linter.unusedVariables false
set_option linter.unusedSimpArgs false
set_option linter.unusedSectionVars false
namespace Go.Proofs.YtkedmlandjlogaaGreat
open Go.RowKit
theorem made_zero (z : Value) (n : Nat) : (madeCells #[z] n).toList = List.replicate n z := by
  unfold madeCells
  apply List.ext_getElem (by simp)
  intro i h1 h2
  simp [Nat.mod_one]
section
variable {P : Program} {ops : Array Oper} {hp : List HObj} {fr : List Dat} {d : Dat} {Q : Post} {rest : List Oper}
variable {dst : Option Tmp} {ty : TypeId} {ps : String} {af : Array Edge} {bytes : Nat} {e t : TypeId}
theorem WL.makeI {n : Nat} {j : Int} {y y' : Operand} (E : ElT P t e 1 (.int .i64 0) bytes false) (hy : OpD fr y (dI j)) (hy' : OpD fr y' (dI j)) (hj : j = (n : Int)) (hb : bytes * n ≤ 281474976710656) (hm : n ≤ 1000000000) (h : ∀ v, WL P ops Q rest (setD fr dst (dX v)) (hRow v e RI (List.replicate n (0 : Int)) :: hp)) :
    WL P ops Q ({ dst := dst, op := .makeSlice t y y', type := ty, pos := ps, after := af, guard := none } :: rest) fr hp := by
  refine WL.of fun P0 B w0 w a hh hf => ?_
  have h1 : a.eval y = .int .i64 n := by rw [← hj]; exact hy.ev hf
  have h2 : a.eval y' = .int .i64 n := by rw [← hj]; exact hy'.ev hf
  have hr := run_make_row' (P := P) t e (.int .i64 0) bytes E.und E.info rfl .i64 .i64 n hb (by omega) w
  refine wpList_value rfl (v := .slice (some ⟨w.heap.size, 0, none⟩) n n) (w' := w.alloc (.cells (madeCells #[.int .i64 0] n) e)) ?_ ?_
  · unfold execOp
    simp only [h1, h2, Sem.run_bind, hr, Result.andThen_ok, Sem.run_pure]
  have hx := Ext.of_alloc w (.cells (madeCells #[.int .i64 0] n) e)
  have hb' : ∀ q, (hRow (.slice (some ⟨w.heap.size, 0, none⟩) n n) e RI (List.replicate n (0 : Int))).blk = some q → w.heap.size ≤ q ∧ q < (w.alloc (.cells (madeCells #[.int .i64 0] n) e)).heap.size := fun q hq => by
    cases hq
    exact ⟨Nat.le_refl _, by simp⟩
  refine (h _).on (hh.push hx hb' ?_) (Fr.put (hf.mono fun d _ hd => Hp.pushed hx (fun k hk => (hb' k hk).1) hd) rfl)
  refine ⟨List.replicate n (.int .i64 0), by simp, ⟨by simp, .inr ⟨w.heap.size, n, madeCells #[.int .i64 0] n, by simp, Nat.zero_le _, alloc_get w _, by simp, by simp only [maxLen]; omega, by simp [size_madeCells], ?_⟩⟩, fun k a b => ?_⟩
  · rw [made_zero, List.length_replicate, Nat.mul_one, List.take_of_length_le (by simp)]
  · simp only [List.getElem_replicate]
    exact ⟨rfl, rfl⟩
end
end Go.Proofs.YtkedmlandjlogaaGreat
