/-
  The claim SubdivisionKeeps.
-/
import Derived.Test.YtekiljakcngcoaaGreatDoorV48
import Derived.Test.YtekiljakcngcoaaGreatDoorV49
import Derived.Test.YtekiljakcngcoaaGreatDoorCards
import Derived.Test.YtekiljakcngcoaaGreatDoorTie
import Derived.LaidMore
import Derived.Lay
import Derived.SevenTiedAt
import Derived.Stop.Joined
import Derived.LaidSub
import Derived.Stop.LaidErr
namespace Go.Proofs.YtekiljakcngcoaaGreatDoor
open Go.ChangeShapes Go.WideShapes Go.ChangeAt Go.RowKit
set_option maxRecDepth 100000 in
/-- the library's table lies where the card says -/
theorem laid_law {W : World} (h : laidMetH Tryz.prog [("math/bits.deBruijn32tab", Rows.laid_math_bits_deBruijn32tab), ("math/bits.deBruijn64tab", Rows.laid_math_bits_deBruijn64tab), ("internal/strconv.uint64pow10", Rows.laid_internal_strconv_uint64pow10)] W) : LaidIn anyB W := by
  rw [MakeChecks.laidMetH_plain _ _ _ (by kernel_rfl)] at h
  have h1 := laidMet.tail (laidMet.tail h)
  have e : (Rows.laid_internal_strconv_uint64pow10 : DataW Unit) = Lib.tabData .u64 Lib.pow10Tab := by kernel_rfl
  rw [e] at h1
  exact ⟨0, by kernel_rfl, trivial, Lib.tabIs_of_head (g := 0) (t := 182) (e := 161) (n := 20) (rest := []) (by kernel_rfl) (by kernel_rfl) (by kernel_rfl) (by kernel_rfl) (by kernel_rfl) (by kernel_rfl) h1⟩
set_option maxRecDepth 100000 in
theorem open_L27 {H : Type} {enc : TypeId × Value → H} {w : World} {r : Reach} {b0 : Nat} {v : Value} {d : DataW H} {ps : List MemPlace} (hv : Value.okWide Tryz.prog w r b0 24 v) (h : DataW.Trod enc Tryz.prog w 0 (fun _ => true) true 24 v d ps) (q : LaidIn anyB w) : ∃ xs, (dS CpxL xs).rd anyB w v := by
  obtain ⟨xs, u, h1, h2, h3⟩ := open_C' hv h
  exact ⟨xs, u, h1, h2, gain_S9 h3 (.inr q)⟩
set_option maxRecDepth 100000 in
theorem subdivisionKeeps_lifted (os : Os) (started : os.Started) (H : Type) (enc : TypeId × Value → H) :
    ReturnsInHanded {} Tryz.checked os 3 .any (fun w args => (Rows.subdivisionKeepsSpec.pre enc Tryz.prog Tryz.f3 Rows.subdivisionKeepsRow.domain false w args ∧ laidMetH Tryz.prog Rows.subdivisionKeepsRow.laid w) ∧ sizedMet enc Tryz.prog Tryz.f3 (OpenSpec.ofChange Rows.subdivisionKeepsSpec) false w args) (Rows.subdivisionKeepsSpec.post enc Tryz.prog Tryz.f3 false true false false) := by
  refine returnsInHanded_of_change_and (C := Tryz.checked) (X := fun w _ => laidMetH Tryz.prog Rows.subdivisionKeepsRow.laid w) (fun _ _ _ hh h => h.of_heap hh) own started (by kernel_rfl) Tryz.func3
    (ChangeSpec.witness_shaped (enc := enc) (C := Tryz.checked) (os := os) (X := fun w _ => laidMetH Tryz.prog Rows.subdivisionKeepsRow.laid w) false (World.laidAll Tryz.prog os Rows.subdivisionKeepsRow.laid) #[.agg #[.slice none 0 0], .int .u8 0] 8 (World.laidAll_os _ _ _)
      (World.shaped_of_ZipB (by kernel_rfl) (by kernel_rfl)) (by kernel_rfl) (by kernel_rfl) (by kernel_rfl)
      (by rw [MakeChecks.laidMetH_plain _ _ _ (by kernel_rfl)]; exact laidMet_laidAll _ (by kernel_rfl) (by kernel_rfl))) ?_
  intro W base args ds gs before hval0 hW _ _ hL _
  have hval : ∀ (j : Nat) t v, Tryz.f3.params[j]? = some t → args[j]? = some v → Value.okWide Tryz.prog W .any base t v := hval0
  have hW' : DataW.Whole enc Tryz.prog Tryz.f3.params.toList Rows.subdivisionKeepsSpec.vars false W args.toList ds gs before := hW
  obtain ⟨p, q, hA0, hV, rfl, hfz, hnd⟩ := hW
  have hA : DataW.TrodAll enc Tryz.prog W 0 (fun _ => true) true Tryz.f3.params.toList args.toList ds p := hA0
  rw [Tryz.params3] at hA hval
  obtain ⟨v0, v1, d0, d1, p0, p1, rfl, rfl, rfl, h0, h1⟩ := trodAll_two hA
  obtain ⟨x0, r0⟩ := open_L27 (hval 0 24 v0 rfl rfl) h0 (laid_law hL)
  obtain ⟨x1, rfl, n1⟩ := open_U8' (hval 1 5 v1 rfl rfl) h1
  refine (fn_law (keeps29_p x0 x1 n1) (vs := [v0, .int .u8 x1]) rfl (fun i d h => match i, d, h with | 0, _, h => by cases h; exact r0 | 1, _, h => by cases h; exact rfl)).mono fun e W2 he => ?_
  obtain ⟨rfl, hE⟩ := he
  exact ⟨_, rfl, post_law hW' rfl (by kernel_rfl) rfl (by rw [Tryz.params3]; decide +kernel) hE⟩

theorem and_yes {a b : Bool} (h : a = true) (k : b = true) : (a && b) = true := by rw [h, k]; rfl
set_option maxHeartbeats 16000000 in
theorem subdivisionKeeps_holds : Rows.SubdivisionKeepsSaid :=
  OpenClaim.holds_of_wide 3 Tryz.f3 rfl rfl rfl rfl rfl rfl rfl ⟨rfl, rfl, rfl, rfl, rfl⟩ rfl rfl rfl rfl rfl (by kernel_rfl) Tryz.func3 (by unfold joinedFacts; (repeat' (with_reducible refine and_yes ?_ ?_)); all_goals (as_aux_lemma => kernel_rfl))
    (of_decide_eq_true (by kernel_rfl)) (by unfold Func.isWrapper; first | (rw [if_pos (by decide +kernel)]; kernel_rfl) | (rw [if_neg (by decide +kernel)]; exact ⟨rfl, rfl⟩))
    (fun os started H enc _ => subdivisionKeeps_lifted os started H enc)
theorem subdivisionKeeps_card : Rows.SubdivisionKeepsCardSaid :=
  Claim7.holds_tied_plain_at .later [] [.data, .data, .data] true Rows.subdivisionKeepsCard.stood.harness false
    subdivisionKeeps_holds (fun _ h => by cases h) (by kernel_rfl) (fun _ h => by cases h) subdivisionKeeps_row_tie rfl ⟨rfl, rfl⟩ (by kernel_rfl) rfl
    (fun f fn hf hfn => by
      obtain rfl : f = 3 := (Option.some.inj ((show Tryz.prog.funcNamed Rows.subdivisionKeepsRow.func = some 3 by kernel_rfl).symm.trans hf)).symm
      obtain rfl : fn = Tryz.f3 := (Option.some.inj (Tryz.func3.symm.trans hfn)).symm
      refine ⟨by kernel_rfl, fun j t ht => ?_⟩
      have h : (Tryz.f3.params.toList.all fun t => !(Tryz.prog.wantsStandIn t)) = true := by kernel_rfl
      have h2 := List.all_eq_true.1 h t (Array.mem_toList_iff.2 (Array.mem_of_getElem? ht))
      exact Bool.not_eq_true' _ |>.mp h2)
    (by kernel_rfl)
end Go.Proofs.YtekiljakcngcoaaGreatDoor
