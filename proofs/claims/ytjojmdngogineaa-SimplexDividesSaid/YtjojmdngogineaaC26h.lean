/-
  SimplexDivides, proved of the given program for every input, without a condition: restricting a simplex to a set of colors and to the others divides it.
-/
import Derived.Test.YtjojmdngogineaaOpn
import Derived.Test.YtjojmdngogineaaL26h
import Derived.Test.YtjojmdngogineaaP26j
namespace Go.Proofs.Ytjojmdngogineaa
open Go.ChangeShapes Go.WideShapes Go.ChangeAt Go.RowKit
set_option maxRecDepth 100000 in
theorem simplexDivides_lifted (os : Os) (started : os.Started) (H : Type) (enc : TypeId × Value → H) :
    ReturnsInHanded {} Try.checked os 7 .any (Rows.simplexDividesSpec.pre6 enc Try.prog Try.f7 Rows.simplexDividesRow.domain false) (Rows.simplexDividesSpec.post enc Try.prog Try.f7 false true false false) := by
  refine returnsInHanded_of_change (C := Try.checked) own started (by kernel_rfl) Try.func7
    (ChangeSpec.witness6 (enc := enc) (C := Try.checked) false ⟨#[], #[.slice none 0 0, .int .u8 0], []⟩ 8 (by kernel_rfl) (by kernel_rfl) (by kernel_rfl) (by kernel_rfl)) ?_
  intro W base args ds gs before hval0 hW _ _
  have hval : ∀ (j : Nat) t v, Try.f7.params[j]? = some t → args[j]? = some v → Value.okWide Try.prog W .any base t v := hval0
  have hW' : DataW.Whole enc Try.prog Try.f7.params.toList Rows.simplexDividesSpec.vars false W args.toList ds gs before := hW
  obtain ⟨p, q, hA0, hV, rfl, hfz, hnd⟩ := hW
  have hA : DataW.TrodAll enc Try.prog W 0 (fun _ => true) true Try.f7.params.toList args.toList ds p := hA0
  rw [Try.params7] at hA hval
  obtain ⟨v0, v1, d0, d1, p0, p1, rfl, rfl, rfl, h0, h1⟩ := trodAll_two hA
  obtain ⟨x0, r0⟩ := open_V' (hval 0 22 v0 rfl rfl) h0
  obtain ⟨x1, rfl, n1⟩ := open_U8' (hval 1 5 v1 rfl rfl) h1
  refine (fn_law (divides_of awake_p x0 x1 n1) (vs := [v0, .int .u8 x1]) rfl (fun i d h => match i, d, h with | 0, _, h => by cases h; exact r0 | 1, _, h => by cases h; exact rfl)).mono fun e W2 he => ?_
  obtain ⟨rfl, hE⟩ := he
  exact ⟨_, rfl, post_law hW' rfl (by kernel_rfl) rfl (by rw [Try.params7]; decide +kernel) hE⟩

theorem simplexDivides_holds : Rows.SimplexDividesSaid :=
  OpenClaim.holds_of_wide 7 Try.f7 rfl rfl rfl rfl rfl rfl rfl ⟨rfl, rfl, rfl, rfl, rfl⟩ rfl rfl rfl rfl rfl (by kernel_rfl) Try.func7 (by kernel_rfl)
    (of_decide_eq_true (by kernel_rfl)) (by unfold Func.isWrapper; first | (rw [if_pos (by decide +kernel)]; kernel_rfl) | (rw [if_neg (by decide +kernel)]; exact ⟨rfl, rfl⟩))
    (fun os started H enc _ => simplexDivides_lifted os started H enc)
end Go.Proofs.Ytjojmdngogineaa
