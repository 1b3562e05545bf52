/-
  Part 19 of the texts that the claims of this seat lean on: walks of the program's functions by contracts over symbolic frames, and plain laws of what they compute. No condition.
-/
import Derived.Test.YtkedmlandjlogaaProg
import Derived.Test.YtkedmlandjlogaaK18
set_option linter.unusedVariables false
set_option linter.unusedSimpArgs false
set_option linter.unusedSectionVars false
namespace Go.Proofs.Ytkedmlandjlogaa
open Go.RowKit
set_option maxHeartbeats 2000000
set_option linter.unusedSimpArgs false


set_option maxRecDepth 100000
theorem coveredC_snoc {l : Cx} {s : List Vx} {k : Nat} (h : k < l.length) : coveredC (l.take (k + 1)) s = (coveredC (l.take k) s || (decide (s.length < l[k].length) && insideV s l[k])) := by unfold coveredC; rw [take_snoc' h, List.any_append]; simp
theorem fewAll_c (l : Cx) : Fn Try.prog 38 [dS Simps l] (dB (fewAllV l)) := by
  (refine Fn.intro1 Try.func38 rfl rfl ?_; simp only [Try.ntmps38, List.length_cons, List.length_nil, Nat.reduceAdd, Nat.reduceSub, List.replicate_succ, List.replicate_zero, List.cons_append, List.nil_append])
  ((repeat' (first | (apply WL.opG; (focus (apply SYG.yes; (exact want_none rfl); (first | (apply SY.move <;> (exact oD)) | (apply SY.assign <;> (exact oD)) | (apply SY.load; (exact tD); (exact OpD.t rfl))))); dsimp only [setD, z0, z1]) | refine WL.nil ?_ | refine WC.seqK fun Kx hK => ?_ | (refine hK _ _ ?_; clear hK) | (refine Kont.skip ?_; clear hK) | refine WC.region ?_ | (apply WL.opG; (focus (apply SYG.yes; (exact want_none rfl); ((first | exact yMove | exact yAssign | exact yLss | exact yGtr | exact yNot | exact yAdd | exact yLoad | exact yLen | exact yIndexaddr | fail); all_goals infer_instance))); dsimp only [setD, z0, z1]) | (apply WC.condT; (exact oD); (with_reducible rfl)) | (apply WC.condF; (exact oD); (with_reducible rfl)) | (apply WC.condD; (exact oD); (all_goals intro h); (all_goals try (exfalso; first | omega | contradiction))) | (apply WC.condN; (exact oD); (all_goals intro h); (all_goals try (exfalso; first | omega | contradiction))) | (apply WC.condNB; (exact oD); (all_goals intro h); (all_goals try (exfalso; first | omega | contradiction))) | (apply WC.cond; (exact oD); (all_goals intro h); (all_goals try (exfalso; first | omega | contradiction))) | refine WC.skip ?_ | refine WC.ret ?_ | refine WC.exit ?_ | refine WC.block ?_ | refine ThenD.n ?_ | refine ThenD.r ?_ | refine ThenD.x ?_ | refine InBlockD.x ?_ | refine InBlockD.n ?_ | refine InBlockD.r ?_ | refine InBlockD.y (by decide) ?_)); all_goals (first | refine WC.id ?_ | refine WL.id ?_ | refine WDs.id ?_ | ((repeat clear hK); (repeat clear Kx))))
  · (refine ⟨trivial, _, rfl, ?_⟩; (first | exact fD | refine FinD.i ?_ | refine FinD.b ?_ | refine FinD.rowKE (.head _) ?_ | refine FinD.rowE (.head _) ?_ | refine FinD.nilKE (by decide) ?_ | refine FinD.nilE ?_ | refine FinD.s ?_))
    unfold fewAllV
    rw [decide_eq_false (by omega)]; rfl
  · have h0 : l.length ≤ 30 := by omega
    (refine WC.loopU (X := Nat) (fun k => [(3, dI (k : Int)), (2, dA), (7, dA), (8, dA), (9, dA), (10, dA), (11, dA), (12, dA), (13, dA), (14, dA), (15, dA), (16, dA), (17, dA), (18, dA)]) (fun k => []) (fun k => l.length - k) (fun k => k ≤ l.length ∧ ∀ s ∈ l.take k, s.length ≤ 10) 0 ?start ?frame0 ?objs0 ?round)
    case start => simp
    case frame0 => ((try dsimp only [upds, z0, z1]); repeat (first | exact LeF.nil | refine LeF.cons (by first | with_reducible exact Dat.le_any _ | with_reducible exact Dat.le_refl _ | exact le_ii (by omega) | exact Dat.le_nil | exact Dat.le_nilK (by decide) | assumption | exact Dat.le_refl _ | exact le_eq (by simp)) ?_))
    case objs0 => rfl
    case round =>
      rintro k ⟨h1, h2⟩
      dsimp only [upds, z0, z1]
      ((repeat' (first | (apply WL.opG; (focus (apply SYG.yes; (exact want_none rfl); (first | (apply SY.move <;> (exact oD)) | (apply SY.assign <;> (exact oD)) | (apply SY.load; (exact tD); (exact OpD.t rfl))))); dsimp only [setD, z0, z1]) | refine WL.nil ?_ | refine WC.seqK fun Kx hK => ?_ | (refine hK _ _ ?_; clear hK) | (refine Kont.skip ?_; clear hK) | refine WC.region ?_ | (apply WL.opG; (focus (apply SYG.yes; (exact want_none rfl); ((first | (apply SY.call (few_c _) Try.call9; (exact aD)) | exact yMove | exact yAssign | exact yLss | exact yGtr | exact yNot | exact yAdd | exact yLoad | exact yLen | exact yIndexaddr | fail); all_goals infer_instance))); dsimp only [setD, z0, z1]) | (apply WC.condT; (exact oD); (with_reducible rfl)) | (apply WC.condF; (exact oD); (with_reducible rfl)) | (apply WC.condD; (exact oD); (all_goals intro h); (all_goals try (exfalso; first | omega | contradiction))) | (apply WC.condN; (exact oD); (all_goals intro h); (all_goals try (exfalso; first | omega | contradiction))) | (apply WC.condNB; (exact oD); (all_goals intro h); (all_goals try (exfalso; first | omega | contradiction))) | (apply WC.cond; (exact oD); (all_goals intro h); (all_goals try (exfalso; first | omega | contradiction))) | refine WC.skip ?_ | refine WC.ret ?_ | refine WC.exit ?_ | refine WC.block ?_ | refine ThenD.n ?_ | refine ThenD.r ?_ | refine ThenD.x ?_ | refine InBlockD.x ?_ | refine InBlockD.n ?_ | refine InBlockD.r ?_ | refine InBlockD.y (by decide) ?_)); all_goals (first | refine WC.id ?_ | refine WL.id ?_ | refine WDs.id ?_ | ((repeat clear hK); (repeat clear Kx))))
      · (refine ⟨trivial, _, rfl, ?_⟩; (first | exact fD | refine FinD.i ?_ | refine FinD.b ?_ | refine FinD.rowKE (.head _) ?_ | refine FinD.rowE (.head _) ?_ | refine FinD.nilKE (by decide) ?_ | refine FinD.nilE ?_ | refine FinD.s ?_))
        unfold fewAllV
        symm
        rw [Bool.and_eq_false_iff]
        right
        rw [List.all_eq_false]
        exact ⟨_, List.getElem_mem (show k < l.length by omega), by rw [decide_eq_false (by omega)]; exact Bool.false_ne_true⟩
      · (refine ⟨k + 1, ?_, by first | omega | (simp only; omega), rfl, ?_⟩; rotate_left; ((try dsimp only [upds, z0, z1]); repeat (first | exact LeF.nil | refine LeF.cons (by first | with_reducible exact Dat.le_any _ | with_reducible exact Dat.le_refl _ | exact le_ii (by omega) | exact Dat.le_nil | exact Dat.le_nilK (by decide) | assumption | exact Dat.le_refl _ | exact le_eq (by simp)) ?_)); (try dsimp only))
        refine ⟨by omega, fun s hs => ?_⟩
        rcases (mem_take_snoc (by omega)).1 hs with h' | rfl
        · exact h2 s h'
        · omega
      · rw [List.take_of_length_le (by omega)] at h2
        (refine ⟨trivial, _, rfl, ?_⟩; (first | exact fD | refine FinD.i ?_ | refine FinD.b ?_ | refine FinD.rowKE (.head _) ?_ | refine FinD.rowE (.head _) ?_ | refine FinD.nilKE (by decide) ?_ | refine FinD.nilE ?_ | refine FinD.s ?_))
        unfold fewAllV
        symm
        rw [Bool.and_eq_true, List.all_eq_true]
        exact ⟨decide_eq_true h0, fun s hs => decide_eq_true (h2 s hs)⟩
theorem fewC_c (l : Cx) : Fn Try.prog 8 [dS Cpx l] (dB (fewAllV l)) := by
  (refine Fn.intro1 Try.func8 rfl rfl ?_; simp only [Try.ntmps8, List.length_cons, List.length_nil, Nat.reduceAdd, Nat.reduceSub, List.replicate_succ, List.replicate_zero, List.cons_append, List.nil_append])
  ((repeat' (first | (apply WL.opG; (focus (apply SYG.yes; (exact want_none rfl); (first | (apply SY.assign <;> (exact oD)) | (apply SY.load; (exact tD); (exact OpD.t rfl))))); dsimp only [setD, z0, z1]) | refine WL.nil ?_ | refine WC.seqK fun Kx hK => ?_ | (refine hK _ _ ?_; clear hK) | (refine Kont.skip ?_; clear hK) | refine WC.region ?_ | (apply WL.opG; (focus (apply SYG.yes; (exact want_none rfl); ((first | (apply SY.call (fewAll_c _) Try.call38; (exact aD)) | exact yAssign | exact yLoad | exact yLoadh | exact yFieldaddr | exact yBox | fail); all_goals infer_instance))); dsimp only [setD, z0, z1]) | refine WC.skip ?_ | refine WC.ret ?_ | refine ThenD.n ?_ | refine ThenD.r ?_)); all_goals (first | refine WC.id ?_ | refine WL.id ?_ | refine WDs.id ?_ | ((repeat clear hK); (repeat clear Kx))))
  (refine ⟨trivial, _, rfl, ?_⟩; (first | exact fD | refine FinD.i ?_ | refine FinD.b ?_ | refine FinD.rowKE (.head _) ?_ | refine FinD.rowE (.head _) ?_ | refine FinD.nilKE (by decide) ?_ | refine FinD.nilE ?_ | refine FinD.s ?_))
theorem sameC_c (l m : Cx) : Fn Try.prog 13 [dS Cpx l, dS Cpx m] (dB (decide (l = m))) := by
  (refine Fn.intro1 Try.func13 rfl rfl ?_; simp only [Try.ntmps13, List.length_cons, List.length_nil, Nat.reduceAdd, Nat.reduceSub, List.replicate_succ, List.replicate_zero, List.cons_append, List.nil_append])
  ((repeat' (first | (apply WL.opG; (focus (apply SYG.yes; (exact want_none rfl); (first | (apply SY.assign <;> (exact oD)) | (apply SY.load; (exact tD); (exact OpD.t rfl))))); dsimp only [setD, z0, z1]) | refine WL.nil ?_ | refine WC.seqK fun Kx hK => ?_ | (refine hK _ _ ?_; clear hK) | (refine Kont.skip ?_; clear hK) | refine WC.region ?_ | (apply WL.opG; (focus (apply SYG.yes; (exact want_none rfl); ((first | (apply SY.call (sameAll_c _ _) Try.call26; (exact aD)) | exact yAssign | exact yLoad | exact yLoadh | exact yFieldaddr | exact yBox | fail); all_goals infer_instance))); dsimp only [setD, z0, z1]) | refine WC.skip ?_ | refine WC.ret ?_ | refine ThenD.n ?_ | refine ThenD.r ?_)); all_goals (first | refine WC.id ?_ | refine WL.id ?_ | refine WDs.id ?_ | ((repeat clear hK); (repeat clear Kx))))
  (refine ⟨trivial, _, rfl, ?_⟩; (first | exact fD | refine FinD.i ?_ | refine FinD.b ?_ | refine FinD.rowKE (.head _) ?_ | refine FinD.rowE (.head _) ?_ | refine FinD.nilKE (by decide) ?_ | refine FinD.nilE ?_ | refine FinD.s ?_))
theorem covered_c (l : Cx) (s : List Vx) : Fn Try.prog 90 [dS Simps l, dS Verts s] (dB (coveredC l s)) := by
  (refine Fn.intro1 Try.func90 rfl rfl ?_; simp only [Try.ntmps90, List.length_cons, List.length_nil, Nat.reduceAdd, Nat.reduceSub, List.replicate_succ, List.replicate_zero, List.cons_append, List.nil_append])
  ((repeat' (first | (apply WL.opG; (focus (apply SYG.yes; (exact want_none rfl); (first | (apply SY.move <;> (exact oD)) | (apply SY.assign <;> (exact oD)) | (apply SY.load; (exact tD); (exact OpD.t rfl))))); dsimp only [setD, z0, z1]) | refine WL.nil ?_ | refine WC.seqK fun Kx hK => ?_ | (refine hK _ _ ?_; clear hK) | (refine Kont.skip ?_; clear hK) | refine WC.region ?_ | (apply WL.opG; (focus (first | (apply SYG.no; first | exact want_notT rfl rfl rfl (by with_reducible rfl) | exact want_notF rfl rfl rfl (by with_reducible rfl)) | (apply SYG.yes; (first | exact want_none rfl | exact want_yes rfl rfl rfl (by with_reducible rfl)); ((first | exact yMove | exact yAssign | exact yLss | exact yAdd | exact yLoad | exact yLen | exact yIndexaddr | exact yPick | fail); all_goals infer_instance)))); dsimp only [setD, z0, z1]) | ((first | refine WL.caseP rfl rfl rfl (fun h => ?_) (fun h => ?_) | refine WL.caseN rfl rfl rfl (fun h => ?_) (fun h => ?_) | refine WL.caseB rfl rfl rfl (fun h => ?_) (fun h => ?_)) <;> (first | (exfalso; first | omega | contradiction) | (dsimp only [z0, z1]))) | (apply WC.condT; (exact oD); (with_reducible rfl)) | (apply WC.condF; (exact oD); (with_reducible rfl)) | (apply WC.condD; (exact oD); (all_goals intro h); (all_goals try (exfalso; first | omega | contradiction))) | (apply WC.condN; (exact oD); (all_goals intro h); (all_goals try (exfalso; first | omega | contradiction))) | (apply WC.condNB; (exact oD); (all_goals intro h); (all_goals try (exfalso; first | omega | contradiction))) | (apply WC.cond; (exact oD); (all_goals intro h); (all_goals try (exfalso; first | omega | contradiction))) | refine WC.skip ?_ | refine WC.ret ?_ | refine WC.exit ?_ | refine WC.block ?_ | refine ThenD.n ?_ | refine ThenD.r ?_ | refine ThenD.x ?_ | refine InBlockD.x ?_ | refine InBlockD.n ?_ | refine InBlockD.r ?_ | refine InBlockD.y (by decide) ?_)); all_goals (first | refine WC.id ?_ | refine WL.id ?_ | refine WDs.id ?_ | ((repeat clear hK); (repeat clear Kx))))
  (first | refine WC.know (t := 0) rfl le_K fun hl0 => ?_ | refine WC.know (t := 0) rfl le_A fun hl0 => ?_ | refine WC.know (t := 0) rfl le_C fun hl0 => ?_); simp only [maxLen] at hl0
  (refine WC.loopU (X := Nat) (fun k => [(5, dI (k : Int)), (4, dA), (6, dA), (7, dA), (8, dA), (9, dA), (10, dA), (11, dA), (12, dA), (13, dA), (14, dA), (15, dA), (16, dA), (17, dA), (18, dA), (19, dA), (20, dA), (21, dA), (22, dA), (23, dA), (24, dA), (25, dA), (26, dA), (27, dA)]) (fun k => []) (fun k => l.length - k) (fun k => k ≤ l.length ∧ coveredC (l.take k) s = false) 0 ?start ?frame0 ?objs0 ?round)
  case start => exact ⟨Nat.zero_le _, rfl⟩
  case frame0 => ((try dsimp only [upds, z0, z1]); repeat (first | exact LeF.nil | refine LeF.cons (by first | with_reducible exact Dat.le_any _ | with_reducible exact Dat.le_refl _ | exact le_ii (by omega) | exact Dat.le_nil | exact Dat.le_nilK (by decide) | assumption | exact Dat.le_refl _ | exact le_eq (by simp)) ?_))
  case objs0 => rfl
  case round =>
    rintro k ⟨h1, h2⟩
    dsimp only [upds, z0, z1]
    ((repeat' (first | (apply WL.opG; (focus (apply SYG.yes; (exact want_none rfl); (first | (apply SY.move <;> (exact oD)) | (apply SY.assign <;> (exact oD)) | (apply SY.load; (exact tD); (exact OpD.t rfl))))); dsimp only [setD, z0, z1]) | refine WL.nil ?_ | refine WC.seqK fun Kx hK => ?_ | (refine hK _ _ ?_; clear hK) | (refine Kont.skip ?_; clear hK) | refine WC.region ?_ | (apply WL.opG; (focus (first | (apply SYG.no; first | exact want_notT rfl rfl rfl (by with_reducible rfl) | exact want_notF rfl rfl rfl (by with_reducible rfl)) | (apply SYG.yes; (first | exact want_none rfl | exact want_yes rfl rfl rfl (by with_reducible rfl)); ((first | (apply SY.call (inside_c _ _) Try.call86; (exact aD)) | exact yMove | exact yAssign | exact yLss | exact yAdd | exact yLoad | exact yLen | exact yIndexaddr | exact yPick | fail); all_goals infer_instance)))); dsimp only [setD, z0, z1]) | ((first | refine WL.caseP rfl rfl rfl (fun h => ?_) (fun h => ?_) | refine WL.caseN rfl rfl rfl (fun h => ?_) (fun h => ?_) | refine WL.caseB rfl rfl rfl (fun h => ?_) (fun h => ?_)) <;> (first | (exfalso; first | omega | contradiction) | (dsimp only [z0, z1]))) | (apply WC.condT; (exact oD); (with_reducible rfl)) | (apply WC.condF; (exact oD); (with_reducible rfl)) | (apply WC.condD; (exact oD); (all_goals intro h); (all_goals try (exfalso; first | omega | contradiction))) | (apply WC.condN; (exact oD); (all_goals intro h); (all_goals try (exfalso; first | omega | contradiction))) | (apply WC.condNB; (exact oD); (all_goals intro h); (all_goals try (exfalso; first | omega | contradiction))) | (apply WC.cond; (exact oD); (all_goals intro h); (all_goals try (exfalso; first | omega | contradiction))) | refine WC.skip ?_ | refine WC.ret ?_ | refine WC.exit ?_ | refine WC.block ?_ | refine ThenD.n ?_ | refine ThenD.r ?_ | refine ThenD.x ?_ | refine InBlockD.x ?_ | refine InBlockD.n ?_ | refine InBlockD.r ?_ | refine InBlockD.y (by decide) ?_)); all_goals (first | refine WC.id ?_ | refine WL.id ?_ | refine WDs.id ?_ | ((repeat clear hK); (repeat clear Kx))))
    · (refine ⟨trivial, _, rfl, ?_⟩; (first | exact fD | refine FinD.i ?_ | refine FinD.b ?_ | refine FinD.rowKE (.head _) ?_ | refine FinD.rowE (.head _) ?_ | refine FinD.nilKE (by decide) ?_ | refine FinD.nilE ?_ | refine FinD.s ?_))
      symm
      unfold coveredC
      rw [List.any_eq_true]
      exact ⟨_, List.getElem_mem (show k < l.length by omega), by rw [h, decide_eq_true (by omega)]; rfl⟩
    · (refine ⟨k + 1, ?_, by first | omega | (simp only; omega), rfl, ?_⟩; rotate_left; ((try dsimp only [upds, z0, z1]); repeat (first | exact LeF.nil | refine LeF.cons (by first | with_reducible exact Dat.le_any _ | with_reducible exact Dat.le_refl _ | exact le_ii (by omega) | exact Dat.le_nil | exact Dat.le_nilK (by decide) | assumption | exact Dat.le_refl _ | exact le_eq (by simp)) ?_)); (try dsimp only))
      refine ⟨by omega, ?_⟩
      rw [coveredC_snoc (by omega), h2, h]
      simp
    · (refine ⟨k + 1, ?_, by first | omega | (simp only; omega), rfl, ?_⟩; rotate_left; ((try dsimp only [upds, z0, z1]); repeat (first | exact LeF.nil | refine LeF.cons (by first | with_reducible exact Dat.le_any _ | with_reducible exact Dat.le_refl _ | exact le_ii (by omega) | exact Dat.le_nil | exact Dat.le_nilK (by decide) | assumption | exact Dat.le_refl _ | exact le_eq (by simp)) ?_)); (try dsimp only))
      refine ⟨by omega, ?_⟩
      rw [coveredC_snoc (by omega), h2, decide_eq_false (by omega)]
      rfl
    · rw [List.take_of_length_le (by omega)] at h2
      (refine ⟨trivial, _, rfl, ?_⟩; (first | exact fD | refine FinD.i ?_ | refine FinD.b ?_ | refine FinD.rowKE (.head _) ?_ | refine FinD.rowE (.head _) ?_ | refine FinD.nilKE (by decide) ?_ | refine FinD.nilE ?_ | refine FinD.s ?_))
      rw [h2]
theorem putC_c (l : Cx) (s : List Vx) (hl : l.length ≤ 3000000) : Fn Try.prog 91 [dS Simps l, dS Verts s] (dS Simps (putC l s)) := by
  (refine Fn.intro1 Try.func91 rfl rfl ?_; simp only [Try.ntmps91, List.length_cons, List.length_nil, Nat.reduceAdd, Nat.reduceSub, List.replicate_succ, List.replicate_zero, List.cons_append, List.nil_append])
  ((repeat' (first | (apply WL.opG; (focus (apply SYG.yes; (exact want_none rfl); (first | (apply SY.move <;> (exact oD)) | (apply SY.assign <;> (exact oD)) | (apply SY.load; (exact tD); (exact OpD.t rfl))))); dsimp only [setD, z0, z1]) | refine WL.nil ?_ | refine WC.seqK fun Kx hK => ?_ | (refine hK _ _ ?_; clear hK) | (refine Kont.skip ?_; clear hK) | refine WC.region ?_ | ((first | apply WL.pushK | apply WL.push1); (exact eD); exact OpD.t rfl; (exact oD); (intro _; first | exact shape_V | exact shape_I | exact shape_B | exact shape_A | exact shape_K); (exact (by simp)); (exact (by simp)); (first | exact ⟨by decide, by decide⟩ | skip); decide; (exact lD); (intro _; dsimp only [setD, z0, z1]); all_goals (try infer_instance)) | ((first | apply WL.appK | apply WL.app1); (exact eD); exact OpD.t rfl; (exact oD); decide; (exact lD); (intro _; dsimp only [setD, z0, z1]); all_goals (try infer_instance)) | ((apply (WL.perm (List.Perm.swap _ _ _)); (first | apply WL.pushK | apply WL.push1); (exact eD); exact OpD.t rfl; (exact oD); (intro _; first | exact shape_V | exact shape_I | exact shape_B | exact shape_A | exact shape_K); (exact (by simp)); (exact (by simp)); (first | exact ⟨by decide, by decide⟩ | skip); decide; (exact lD); (intro _; dsimp only [setD, z0, z1]); all_goals (try infer_instance))) | ((apply (WL.perm (List.Perm.swap _ _ _)); (first | apply WL.appK | apply WL.app1); (exact eD); exact OpD.t rfl; (exact oD); decide; (exact lD); (intro _; dsimp only [setD, z0, z1]); all_goals (try infer_instance))) | (apply WL.opG; (focus (first | (apply SYG.no; first | exact want_notT rfl rfl rfl (by with_reducible rfl) | exact want_notF rfl rfl rfl (by with_reducible rfl)) | (apply SYG.yes; (first | exact want_none rfl | exact want_yes rfl rfl rfl (by with_reducible rfl)); ((first | exact yMove | exact yAssign | exact yLss | exact yEql | exact yNot | exact yAdd | exact yLoad | exact yLen | exact yIndexaddr | exact yBuildslice | exact yPick | fail); all_goals infer_instance)))); dsimp only [setD, z0, z1]) | ((first | refine WL.caseP rfl rfl rfl (fun h => ?_) (fun h => ?_) | refine WL.caseN rfl rfl rfl (fun h => ?_) (fun h => ?_) | refine WL.caseB rfl rfl rfl (fun h => ?_) (fun h => ?_)) <;> (first | (exfalso; first | omega | contradiction) | (dsimp only [z0, z1]))) | (apply WC.condT; (exact oD); (with_reducible rfl)) | (apply WC.condF; (exact oD); (with_reducible rfl)) | (apply WC.condD; (exact oD); (all_goals intro h); (all_goals try (exfalso; first | omega | contradiction))) | (apply WC.condN; (exact oD); (all_goals intro h); (all_goals try (exfalso; first | omega | contradiction))) | (apply WC.condNB; (exact oD); (all_goals intro h); (all_goals try (exfalso; first | omega | contradiction))) | (apply WC.cond; (exact oD); (all_goals intro h); (all_goals try (exfalso; first | omega | contradiction))) | refine WC.skip ?_ | refine WC.ret ?_ | refine WC.exit ?_ | refine WC.block ?_ | refine ThenD.n ?_ | refine ThenD.r ?_ | refine ThenD.x ?_ | refine InBlockD.x ?_ | refine InBlockD.n ?_ | refine InBlockD.r ?_ | refine InBlockD.y (by decide) ?_)); all_goals (first | refine WC.id ?_ | refine WL.id ?_ | refine WDs.id ?_ | ((repeat clear hK); (repeat clear Kx))))
  refine WC.nilRow 25 Verts ?_
  (refine WC.loopU (X := Nat × Bool × Value × Cx) (fun x => [(7, dI (x.1 : Int)), (6, dB x.2.1), (5, dX x.2.2.1), (4, dA), (8, dA), (9, dA), (10, dA), (11, dA), (12, dA), (13, dA), (14, dA), (15, dA), (16, dA), (17, dA), (18, dA), (19, dA), (20, dA), (21, dA), (22, dA), (23, dA), (24, dA), (25, dA), (26, dA), (27, dA), (28, dA), (29, dA), (30, dA), (31, dA), (32, dA), (33, dA), (34, dA), (35, dA), (36, dA), (37, dA), (38, dA), (39, dA), (40, dA)]) (fun x => [hRow x.2.2.1 25 Verts x.2.2.2]) (fun x => l.length - x.1) (fun x => x.1 ≤ l.length ∧ (∀ y ∈ l.take x.1, cmpL s y ≠ 0) ∧ (x.2.1 = false → x.2.2.2 = l.take x.1 ∧ ∀ y ∈ l.take x.1, ¬ cmpL s y < 0) ∧ (x.2.1 = true → x.2.2.2 ++ l.drop x.1 = insC l s)) (0, false, .slice none 0 0, []) ?start ?frame0 ?objs0 ?round)
  case start => exact ⟨Nat.zero_le _, by simp, by simp, by simp⟩
  case frame0 => ((try dsimp only [upds, z0, z1]); repeat (first | exact LeF.nil | refine LeF.cons (by first | with_reducible exact Dat.le_any _ | with_reducible exact Dat.le_refl _ | exact le_ii (by omega) | exact Dat.le_nil | exact Dat.le_nilK (by decide) | assumption | exact Dat.le_refl _ | exact le_eq (by simp)) ?_))
  case objs0 => rfl
  case round =>
    rintro ⟨k, b, u, o⟩ ⟨h1, h2, h3, h4⟩
    simp only at h1 h2 h3 h4
    have hol : o.length ≤ l.length + 1 := by
      cases b with
      | false => rw [(h3 rfl).1, List.length_take]; omega
      | true =>
        have := congrArg List.length (h4 rfl)
        rw [List.length_append, insC_len] at this
        omega
    dsimp only [upds, z0, z1]
    ((repeat' (first | (apply WL.opG; (focus (apply SYG.yes; (exact want_none rfl); (first | (apply SY.move <;> (exact oD)) | (apply SY.assign <;> (exact oD)) | (apply SY.load; (exact tD); (exact OpD.t rfl))))); dsimp only [setD, z0, z1]) | refine WL.nil ?_ | refine WC.seqK fun Kx hK => ?_ | (refine hK _ _ ?_; clear hK) | (refine Kont.skip ?_; clear hK) | refine WC.region ?_ | ((first | apply WL.pushK | apply WL.push1); (exact eD); exact OpD.t rfl; (exact oD); (intro _; first | exact shape_V | exact shape_I | exact shape_B | exact shape_A | exact shape_K); (exact (by simp)); (exact (by simp)); (first | exact ⟨by decide, by decide⟩ | skip); decide; (exact lD); (intro _; dsimp only [setD, z0, z1]); all_goals (try infer_instance)) | ((first | apply WL.appK | apply WL.app1); (exact eD); exact OpD.t rfl; (exact oD); decide; (exact lD); (intro _; dsimp only [setD, z0, z1]); all_goals (try infer_instance)) | ((apply (WL.perm (List.Perm.swap _ _ _)); (first | apply WL.pushK | apply WL.push1); (exact eD); exact OpD.t rfl; (exact oD); (intro _; first | exact shape_V | exact shape_I | exact shape_B | exact shape_A | exact shape_K); (exact (by simp)); (exact (by simp)); (first | exact ⟨by decide, by decide⟩ | skip); decide; (exact lD); (intro _; dsimp only [setD, z0, z1]); all_goals (try infer_instance))) | ((apply (WL.perm (List.Perm.swap _ _ _)); (first | apply WL.appK | apply WL.app1); (exact eD); exact OpD.t rfl; (exact oD); decide; (exact lD); (intro _; dsimp only [setD, z0, z1]); all_goals (try infer_instance))) | (apply WL.opG; (focus (first | (apply SYG.no; first | exact want_notT rfl rfl rfl (by with_reducible rfl) | exact want_notF rfl rfl rfl (by with_reducible rfl)) | (apply SYG.yes; (first | exact want_none rfl | exact want_yes rfl rfl rfl (by with_reducible rfl)); ((first | (apply SY.call (cmpL_c _ _) Try.call92; (exact aD)) | exact yMove | exact yAssign | exact yLss | exact yEql | exact yNot | exact yAdd | exact yLoad | exact yLen | exact yIndexaddr | exact yBuildslice | exact yPick | fail); all_goals infer_instance)))); dsimp only [setD, z0, z1]) | ((first | refine WL.caseP rfl rfl rfl (fun h => ?_) (fun h => ?_) | refine WL.caseN rfl rfl rfl (fun h => ?_) (fun h => ?_) | refine WL.caseB rfl rfl rfl (fun h => ?_) (fun h => ?_)) <;> (first | (exfalso; first | omega | contradiction) | (dsimp only [z0, z1]))) | (apply WC.condT; (exact oD); (with_reducible rfl)) | (apply WC.condF; (exact oD); (with_reducible rfl)) | (apply WC.condD; (exact oD); (all_goals intro h); (all_goals try (exfalso; first | omega | contradiction))) | (apply WC.condN; (exact oD); (all_goals intro h); (all_goals try (exfalso; first | omega | contradiction))) | (apply WC.condNB; (exact oD); (all_goals intro h); (all_goals try (exfalso; first | omega | contradiction))) | (apply WC.cond; (exact oD); (all_goals intro h); (all_goals try (exfalso; first | omega | contradiction))) | refine WC.skip ?_ | refine WC.ret ?_ | refine WC.exit ?_ | refine WC.block ?_ | refine ThenD.n ?_ | refine ThenD.r ?_ | refine ThenD.x ?_ | refine InBlockD.x ?_ | refine InBlockD.n ?_ | refine InBlockD.r ?_ | refine InBlockD.y (by decide) ?_)); all_goals (first | refine WC.id ?_ | refine WL.id ?_ | refine WDs.id ?_ | ((repeat clear hK); (repeat clear Kx))))
    · (refine ⟨trivial, _, rfl, ?_⟩; (first | exact fD | refine FinD.i ?_ | refine FinD.b ?_ | refine FinD.rowKE (.head _) ?_ | refine FinD.rowE (.head _) ?_ | refine FinD.nilKE (by decide) ?_ | refine FinD.nilE ?_ | refine FinD.s ?_))
      have hs : s = l[k] := cmpL_eq.1 h
      rw [show putC l s = l from if_pos (hs ▸ List.getElem_mem (show k < l.length by omega))]
    · have hb : b = false := by cases b <;> simp_all
      subst hb
      have h0 := h3 rfl
      (refine ⟨(k + 1, true, _, o ++ [s] ++ [l[k]]), ?_, by first | omega | (simp only; omega), rfl, ?_⟩; rotate_left; ((try dsimp only [upds, z0, z1]); repeat (first | exact LeF.nil | refine LeF.cons (by first | with_reducible exact Dat.le_any _ | with_reducible exact Dat.le_refl _ | exact le_ii (by omega) | exact Dat.le_nil | exact Dat.le_nilK (by decide) | assumption | exact Dat.le_refl _ | exact le_eq (by simp)) ?_)); (try dsimp only))
      refine ⟨by omega, fun y hy => ?_, (fun e => nomatch e), fun _ => ?_⟩
      · rcases (mem_take_snoc (by omega)).1 hy with h' | rfl
        · exact h2 y h'
        · assumption
      · show o ++ [s] ++ [l[k]] ++ l.drop (k + 1) = insC l s
        rw [insC_cut (by omega) h0.2 (by assumption), h0.1, drop_cons' (show k < l.length by omega)]
        simp
    · have hb : b = false := by cases b <;> simp_all
      subst hb
      have h0 := h3 rfl
      (refine ⟨(k + 1, false, _, o ++ [l[k]]), ?_, by first | omega | (simp only; omega), rfl, ?_⟩; rotate_left; ((try dsimp only [upds, z0, z1]); repeat (first | exact LeF.nil | refine LeF.cons (by first | with_reducible exact Dat.le_any _ | with_reducible exact Dat.le_refl _ | exact le_ii (by omega) | exact Dat.le_nil | exact Dat.le_nilK (by decide) | assumption | exact Dat.le_refl _ | exact le_eq (by simp)) ?_)); (try dsimp only))
      refine ⟨by omega, fun y hy => ?_, fun _ => ⟨?_, fun y hy => ?_⟩, (fun e => nomatch e)⟩
      · rcases (mem_take_snoc (by omega)).1 hy with h' | rfl
        · exact h2 y h'
        · assumption
      · rw [h0.1, take_snoc' (by omega)]
      · rcases (mem_take_snoc (by omega)).1 hy with h' | rfl
        · exact h0.2 y h'
        · assumption
    · have hb : b = true := by cases b <;> simp_all
      subst hb
      have h0 := h4 rfl
      (refine ⟨(k + 1, true, _, o ++ [l[k]]), ?_, by first | omega | (simp only; omega), rfl, ?_⟩; rotate_left; ((try dsimp only [upds, z0, z1]); repeat (first | exact LeF.nil | refine LeF.cons (by first | with_reducible exact Dat.le_any _ | with_reducible exact Dat.le_refl _ | exact le_ii (by omega) | exact Dat.le_nil | exact Dat.le_nilK (by decide) | assumption | exact Dat.le_refl _ | exact le_eq (by simp)) ?_)); (try dsimp only))
      refine ⟨by omega, fun y hy => ?_, (fun e => nomatch e), fun _ => ?_⟩
      · rcases (mem_take_snoc (by omega)).1 hy with h' | rfl
        · exact h2 y h'
        · assumption
      · show o ++ [l[k]] ++ l.drop (k + 1) = insC l s
        rw [← h0, drop_cons' (show k < l.length by omega)]
        simp
    · subst h
      have h0 := h3 rfl
      rw [List.take_of_length_le (by omega)] at h0 h2
      have hs : s ∉ l := fun hs => h2 s hs (cmpL_eq.2 rfl)
      rw [show putC l s = o ++ [s] by unfold putC; rw [if_neg hs, insC_end h0.2, h0.1]]
      (refine ⟨trivial, _, rfl, ?_⟩; (first | exact fD | refine FinD.i ?_ | refine FinD.b ?_ | refine FinD.rowKE (.head _) ?_ | refine FinD.rowE (.head _) ?_ | refine FinD.nilKE (by decide) ?_ | refine FinD.nilE ?_ | refine FinD.s ?_))
    · subst h
      have h0 := h4 rfl
      rw [List.take_of_length_le (by omega)] at h2
      rw [List.drop_eq_nil_of_le (by omega), List.append_nil] at h0
      have hs : s ∉ l := fun hs => h2 s hs (cmpL_eq.2 rfl)
      rw [show putC l s = o by unfold putC; rw [if_neg hs, h0]]
      (refine ⟨trivial, _, rfl, ?_⟩; (first | exact fD | refine FinD.i ?_ | refine FinD.b ?_ | refine FinD.rowKE (.head _) ?_ | refine FinD.rowE (.head _) ?_ | refine FinD.nilKE (by decide) ?_ | refine FinD.nilE ?_ | refine FinD.s ?_))
end Go.Proofs.Ytkedmlandjlogaa
