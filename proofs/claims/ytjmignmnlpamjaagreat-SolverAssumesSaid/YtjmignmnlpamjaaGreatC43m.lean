/-
  The claim: Under is the reference's.
-/
import Derived.Test.YtjmignmnlpamjaaGreatVa42
import Derived.Test.YtjmignmnlpamjaaGreatVa43
namespace Go.Proofs.YtjmignmnlpamjaaGreat
open Go.ChangeShapes Go.WideShapes Go.ChangeAt Go.RowKit
set_option maxRecDepth 100000 in
theorem solverAssumes_lifted (os : Os) (started : os.Started) (H : Type) (enc : TypeId × Value → H) :
    ReturnsInHanded {} Tryz.checked os 3 .any (Rows.solverAssumesSpec.pre6 enc Tryz.prog Tryz.f3 Rows.solverAssumesRow.domain false) (Rows.solverAssumesSpec.post enc Tryz.prog Tryz.f3 false true false false) := by
  refine returnsInHanded_of_change (C := Tryz.checked) own started (by kernel_rfl) Tryz.func3
    (ChangeSpec.witness6 (enc := enc) (C := Tryz.checked) false ⟨#[], #[.agg #[.int .i64 0, .slice none 0 0], .slice none 0 0], []⟩ 8 (by kernel_rfl) (by kernel_rfl) (by kernel_rfl) (by kernel_rfl)) ?_
  intro W base args ds gs before hval0 hW _ _
  have hval : ∀ (j : Nat) t v, Tryz.f3.params[j]? = some t → args[j]? = some v → Value.okWide Tryz.prog W .any base t v := hval0
  have hW' : DataW.Whole enc Tryz.prog Tryz.f3.params.toList Rows.solverAssumesSpec.vars false W args.toList ds gs before := hW
  obtain ⟨p, q, hA0, hV, rfl, hfz, hnd⟩ := hW
  have hA : DataW.TrodAll enc Tryz.prog W 0 (fun _ => true) true Tryz.f3.params.toList args.toList ds p := hA0
  rw [Tryz.params3] at hA hval
  obtain ⟨v0, v1, d0, d1, p0, p1, rfl, rfl, rfl, h0, h1⟩ := trodAll_two hA
  obtain ⟨x0, r0, n0, _⟩ := open_Q' (hval 0 24 v0 rfl rfl) h0
  obtain ⟨x1, r1, n1⟩ := open_Z' (hval 1 25 v1 rfl rfl) h1
  refine (fn_law (assumes_p x0.1 x0.2 x1 n0 n1) (vs := [v0, v1]) rfl (fun i d h => match i, d, h with | 0, _, h => by cases h; exact r0 | 1, _, h => by cases h; exact r1)).mono fun e W2 he => ?_
  obtain ⟨rfl, hE⟩ := he
  exact ⟨_, rfl, post_law hW' rfl (by kernel_rfl) rfl (by rw [Tryz.params3]; decide +kernel) hE⟩

theorem and_yes {a b : Bool} (h : a = true) (k : b = true) : (a && b) = true := by rw [h, k]; rfl
set_option maxHeartbeats 16000000 in
theorem solverAssumes_holds : Rows.SolverAssumesSaid :=
  OpenClaim.holds_of_wide 3 Tryz.f3 rfl rfl rfl rfl rfl rfl rfl ⟨rfl, rfl, rfl, rfl, rfl⟩ rfl rfl rfl rfl rfl (by kernel_rfl) Tryz.func3 (by unfold joinedFacts; (repeat' (with_reducible refine and_yes ?_ ?_)); all_goals (as_aux_lemma => kernel_rfl))
    (of_decide_eq_true (by kernel_rfl)) (by unfold Func.isWrapper; first | (rw [if_pos (by decide +kernel)]; kernel_rfl) | (rw [if_neg (by decide +kernel)]; exact ⟨rfl, rfl⟩))
    (fun os started H enc _ => solverAssumes_lifted os started H enc)
end Go.Proofs.YtjmignmnlpamjaaGreat
