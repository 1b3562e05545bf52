/-
  SimplexLattice, proved of the given program for every input, without a condition: what two simplices share, and what each has alone, divide their union.
-/
import Derived.Test.YtjojmdngogineaaOpn
import Derived.Test.YtjojmdngogineaaL26m
import Derived.Test.YtjojmdngogineaaP26j
namespace Go.Proofs.Ytjojmdngogineaa
open Go.ChangeShapes Go.WideShapes Go.ChangeAt Go.RowKit
set_option maxRecDepth 100000 in
theorem simplexLattice_lifted (os : Os) (started : os.Started) (H : Type) (enc : TypeId × Value → H) :
    ReturnsInHanded {} Try.checked os 9 .any (Rows.simplexLatticeSpec.pre6 enc Try.prog Try.f9 Rows.simplexLatticeRow.domain false) (Rows.simplexLatticeSpec.post enc Try.prog Try.f9 false true false false) := by
  refine returnsInHanded_of_change (C := Try.checked) own started (by kernel_rfl) Try.func9
    (ChangeSpec.witness6 (enc := enc) (C := Try.checked) false ⟨#[], #[.slice none 0 0, .slice none 0 0, .slice none 0 0], []⟩ 8 (by kernel_rfl) (by kernel_rfl) (by kernel_rfl) (by kernel_rfl)) ?_
  intro W base args ds gs before hval0 hW _ _
  have hval : ∀ (j : Nat) t v, Try.f9.params[j]? = some t → args[j]? = some v → Value.okWide Try.prog W .any base t v := hval0
  have hW' : DataW.Whole enc Try.prog Try.f9.params.toList Rows.simplexLatticeSpec.vars false W args.toList ds gs before := hW
  obtain ⟨p, q, hA0, hV, rfl, hfz, hnd⟩ := hW
  have hA : DataW.TrodAll enc Try.prog W 0 (fun _ => true) true Try.f9.params.toList args.toList ds p := hA0
  rw [Try.params9] at hA hval
  obtain ⟨v0, v1, v2, d0, d1, d2, p0, p1, p2, rfl, rfl, rfl, h0, h1, h2⟩ := trodAll_three hA
  obtain ⟨x0, r0⟩ := open_V' (hval 0 22 v0 rfl rfl) h0
  obtain ⟨x1, r1⟩ := open_V' (hval 1 22 v1 rfl rfl) h1
  obtain ⟨x2, r2⟩ := open_V' (hval 2 22 v2 rfl rfl) h2
  refine (fn_law (lattice_of awake_p x0 x1 x2) (vs := [v0, v1, v2]) rfl (fun i d h => match i, d, h with | 0, _, h => by cases h; exact r0 | 1, _, h => by cases h; exact r1 | 2, _, h => by cases h; exact r2)).mono fun e W2 he => ?_
  obtain ⟨rfl, hE⟩ := he
  exact ⟨_, rfl, post_law hW' rfl (by kernel_rfl) rfl (by rw [Try.params9]; decide +kernel) hE⟩

theorem simplexLattice_holds : Rows.SimplexLatticeSaid :=
  OpenClaim.holds_of_wide 9 Try.f9 rfl rfl rfl rfl rfl rfl rfl ⟨rfl, rfl, rfl, rfl, rfl⟩ rfl rfl rfl rfl rfl (by kernel_rfl) Try.func9 (by kernel_rfl)
    (of_decide_eq_true (by kernel_rfl)) (by unfold Func.isWrapper; first | (rw [if_pos (by decide +kernel)]; kernel_rfl) | (rw [if_neg (by decide +kernel)]; exact ⟨rfl, rfl⟩))
    (fun os started H enc _ => simplexLattice_lifted os started H enc)
end Go.Proofs.Ytjojmdngogineaa
