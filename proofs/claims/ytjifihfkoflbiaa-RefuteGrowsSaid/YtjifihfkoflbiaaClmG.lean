/-
  RefuteGrows, proved of the given program for every input, without a condition: a refutation remains one if a clause is added to the clauses, or an implied clause in front of it.
-/
import Derived.Test.YtjifihfkoflbiaaGrow
namespace Go.Proofs.Ytjifihfkoflbiaa
open Go.ChangeShapes Go.WideShapes Go.ChangeAt Go.RowKit

set_option maxRecDepth 100000 in
theorem refuteGrows_lifted (os : Os) (started : os.Started) (H : Type) (enc : TypeId × Value → H) :
    ReturnsInHanded {} Try.checked os 6 .any (Rows.refuteGrowsSpec.pre6 enc Try.prog Try.f6 Rows.refuteGrowsRow.domain false) (Rows.refuteGrowsSpec.post enc Try.prog Try.f6 false true false false) := by
  refine returnsInHanded_of_change (C := Try.checked) own started (by kernel_rfl) Try.func6
    (ChangeSpec.witness6 (enc := enc) (C := Try.checked) false ⟨#[], #[.agg #[.int .i64 0, .slice none 0 0], .slice none 0 0, .slice none 0 0], []⟩ 8 (by kernel_rfl) (by kernel_rfl) (by kernel_rfl) (by kernel_rfl)) ?_
  intro W base args ds gs before hval0 hW _ _
  have hval : ∀ (j : Nat) t v, Try.f6.params[j]? = some t → args[j]? = some v → Value.okWide Try.prog W .any base t v := hval0
  have hW' : DataW.Whole enc Try.prog Try.f6.params.toList Rows.refuteGrowsSpec.vars false W args.toList ds gs before := hW
  obtain ⟨p, q, hA0, hV, rfl, hfz, hnd⟩ := hW
  have hA : DataW.TrodAll enc Try.prog W 0 (fun _ => true) true Try.f6.params.toList args.toList ds p := hA0
  rw [Try.params6] at hA hval
  obtain ⟨v0, v1, v2, d0, d1, d2, p0, p1, p2, rfl, rfl, rfl, h0, h1, h2⟩ := trodAll_three hA
  obtain ⟨n, u, l, rfl, hu, hr, hn⟩ := open_C (hval 0 24 v0 rfl rfl) h0
  obtain ⟨x, hx, _⟩ := open_R' (hval 1 22 v1 rfl rfl) h1
  obtain ⟨z, hz, hzr⟩ := open_I' (hval 2 37 v2 rfl rfl) h2
  refine (grows_w n W hu hx hz hr hzr hn).mono fun e W2 he => ?_
  obtain ⟨rfl, hE⟩ := he
  exact ⟨_, rfl, post_law hW' rfl (by kernel_rfl) rfl (by rw [Try.params6]; decide +kernel) hE⟩

theorem refuteGrows_holds : Rows.RefuteGrowsSaid :=
  OpenClaim.holds_of_wide 6 Try.f6 rfl rfl rfl rfl rfl rfl rfl ⟨rfl, rfl, rfl, rfl, rfl⟩ rfl rfl rfl rfl rfl (by kernel_rfl) Try.func6 (by kernel_rfl)
    (of_decide_eq_true (by kernel_rfl)) (by unfold Func.isWrapper; first | (rw [if_pos (by decide +kernel)]; kernel_rfl) | (rw [if_neg (by decide +kernel)]; exact ⟨rfl, rfl⟩))
    (fun os started H enc _ => refuteGrows_lifted os started H enc)

end Go.Proofs.Ytjifihfkoflbiaa
