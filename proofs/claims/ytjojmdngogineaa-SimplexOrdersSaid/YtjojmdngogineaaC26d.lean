/-
  SimplexOrders, proved of the given program for every input, without a condition: the order of simplices is total.
-/
import Derived.Test.YtjojmdngogineaaOpn
import Derived.Test.YtjojmdngogineaaL26b
import Derived.Test.YtjojmdngogineaaP26j
namespace Go.Proofs.Ytjojmdngogineaa
open Go.ChangeShapes Go.WideShapes Go.ChangeAt Go.RowKit
set_option maxRecDepth 100000 in
theorem simplexOrders_lifted (os : Os) (started : os.Started) (H : Type) (enc : TypeId × Value → H) :
    ReturnsInHanded {} Try.checked os 6 .any (Rows.simplexOrdersSpec.pre6 enc Try.prog Try.f6 Rows.simplexOrdersRow.domain false) (Rows.simplexOrdersSpec.post enc Try.prog Try.f6 false true false false) := by
  refine returnsInHanded_of_change (C := Try.checked) own started (by kernel_rfl) Try.func6
    (ChangeSpec.witness6 (enc := enc) (C := Try.checked) false ⟨#[], #[.slice none 0 0, .slice none 0 0, .slice none 0 0], []⟩ 8 (by kernel_rfl) (by kernel_rfl) (by kernel_rfl) (by kernel_rfl)) ?_
  intro W base args ds gs before hval0 hW _ _
  have hval : ∀ (j : Nat) t v, Try.f6.params[j]? = some t → args[j]? = some v → Value.okWide Try.prog W .any base t v := hval0
  have hW' : DataW.Whole enc Try.prog Try.f6.params.toList Rows.simplexOrdersSpec.vars false W args.toList ds gs before := hW
  obtain ⟨p, q, hA0, hV, rfl, hfz, hnd⟩ := hW
  have hA : DataW.TrodAll enc Try.prog W 0 (fun _ => true) true Try.f6.params.toList args.toList ds p := hA0
  rw [Try.params6] at hA hval
  obtain ⟨v0, v1, v2, d0, d1, d2, p0, p1, p2, rfl, rfl, rfl, h0, h1, h2⟩ := trodAll_three hA
  obtain ⟨x0, r0⟩ := open_V' (hval 0 22 v0 rfl rfl) h0
  obtain ⟨x1, r1⟩ := open_V' (hval 1 22 v1 rfl rfl) h1
  obtain ⟨x2, r2⟩ := open_V' (hval 2 22 v2 rfl rfl) h2
  refine (fn_law (orders_of awake_p x0 x1 x2) (vs := [v0, v1, v2]) rfl (fun i d h => match i, d, h with | 0, _, h => by cases h; exact r0 | 1, _, h => by cases h; exact r1 | 2, _, h => by cases h; exact r2)).mono fun e W2 he => ?_
  obtain ⟨rfl, hE⟩ := he
  exact ⟨_, rfl, post_law hW' rfl (by kernel_rfl) rfl (by rw [Try.params6]; decide +kernel) hE⟩

theorem simplexOrders_holds : Rows.SimplexOrdersSaid :=
  OpenClaim.holds_of_wide 6 Try.f6 rfl rfl rfl rfl rfl rfl rfl ⟨rfl, rfl, rfl, rfl, rfl⟩ rfl rfl rfl rfl rfl (by kernel_rfl) Try.func6 (by kernel_rfl)
    (of_decide_eq_true (by kernel_rfl)) (by unfold Func.isWrapper; first | (rw [if_pos (by decide +kernel)]; kernel_rfl) | (rw [if_neg (by decide +kernel)]; exact ⟨rfl, rfl⟩))
    (fun os started H enc _ => simplexOrders_lifted os started H enc)
end Go.Proofs.Ytjojmdngogineaa
