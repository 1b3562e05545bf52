/- Part 7: walks by contracts, and plain laws. -/
import Derived.Test.YtpiidgcljlalmaaVd6
set_option linter.unusedVariables false
set_option linter.unusedSimpArgs false
set_option linter.unusedSectionVars false
namespace Go.Proofs.Ytpiidgcljlalmaa
open Go.RowKit
set_option linter.unusedSimpArgs false
set_option linter.unusedVariables false
set_option maxHeartbeats 2000000
set_option maxRecDepth 100000
theorem good43_p (V : Int) (l : List (List Int)) (k : Int) : Fn Try.prog 26 [dS Cls (V, l), dI k] (dB (fewB V l && (decide (checkI V l = 0) && decide (V ≤ k)))) := by
  (refine Fn.intro1 Try.func26 rfl rfl ?_; simp only [Try.ntmps26, List.length_cons, List.length_nil, Nat.reduceAdd, Nat.reduceSub, List.replicate_succ, List.replicate_zero, List.cons_append, List.nil_append])
  have h1 := few43_p V l
  have h2 := rcheck43_p V l
  generalize fewB V l = f at *
  by_cases hc : checkI V l = 0 <;> by_cases hv : V ≤ k <;> cases f <;>
  (((repeat' (first | (apply WL.opN; exact yF; dsimp only [setD, z0, z1]) | refine WL.nil ?_ | refine WC.seqK fun Kx hK => ?_ | (refine hK _ _ ?_; clear hK) | refine WC.region ?_ | (apply WL.opG; (focus (first | exact wN | (apply SYG.yes; (exact wY); ((first | (apply SY.call (h1) Try.call36; (exact aD)) | (apply SY.call (h2) Try.call37; (exact aD)) | ((first | apply SY.move | apply SY.assign | apply SY.leq | apply SY.eql) <;> (exact oD)) | (apply SY.load; (exact tD); (exact oD)) | (apply SY.fldP0 clT; exact OpD.t rfl) | (apply SY.fldP1 clT; exact OpD.t rfl) | (apply SY.pickT; (exact oD); (with_reducible rfl); (exact oD)) | (apply SY.pickF; (exact oD); (with_reducible rfl); (exact oD)) | (apply SY.box; (exact oD); (exact hD)) | fail); all_goals infer_instance)))); dsimp only [setD, z0, z1]) | ((first | refine WL.caseP rfl rfl rfl (fun h => ?_) (fun h => ?_) | refine WL.caseN rfl rfl rfl (fun h => ?_) (fun h => ?_) | refine WL.caseB rfl rfl rfl (fun h => ?_) (fun h => ?_)) <;> (first | (exfalso; first | omega | contradiction) | (dsimp only [z0, z1]))) | refine WC.ret ?_)); all_goals (first | ((repeat clear hK); (repeat clear Kx)))); all_goals try (exfalso; first | contradiction | omega)); all_goals ((refine ⟨trivial, _, rfl, ?_⟩; (first | exact fD | refine FinD.b ?_)); try simp [hc, hv])
theorem solve_verdict {V : Nat} {l : List (List Int)} {v : Int} {m : List Int} {p : List (List Int)} (h : SolveR V l v m p) : (v = 1 ∧ 0 < (allF V l []).length) ∨ (v = 2 ∧ (allF V l []).length = 0) := by
  rcases h.is with ⟨h1, _, h2⟩ | ⟨h1, _, _, h2, _⟩
  · exact .inl ⟨h1, List.length_pos_of_mem h2⟩
  · exact .inr ⟨h1, by rw [unsB_iff.1 h2]; rfl⟩
end Go.Proofs.Ytpiidgcljlalmaa
