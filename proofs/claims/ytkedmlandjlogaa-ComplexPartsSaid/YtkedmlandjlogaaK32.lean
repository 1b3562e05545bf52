/-
  Part 32 of the texts that the claims of this seat lean on: walks of the program's functions by contracts over symbolic frames, and plain laws of what they compute. No condition.
-/
import Derived.Test.YtkedmlandjlogaaK28
import Derived.Test.YtkedmlandjlogaaK29
import Derived.Test.YtkedmlandjlogaaK30
import Derived.Test.YtkedmlandjlogaaK31
set_option linter.unusedVariables false
set_option linter.unusedSimpArgs false
set_option linter.unusedSectionVars false
namespace Go.Proofs.Ytkedmlandjlogaa
open Go.RowKit
set_option linter.unusedSimpArgs false

set_option maxHeartbeats 2000000
set_option maxRecDepth 100000
theorem dimC_le {l : Cx} (h : ∀ s ∈ l, s.length ≤ 8) : -1 ≤ dimC l ∧ dimC l ≤ 7 := by
  have go : ∀ (l : Cx) (m : Int), -1 ≤ m → m ≤ 7 → (∀ s ∈ l, s.length ≤ 8) → -1 ≤ l.foldl (fun m s => if m < (s.length : Int) - 1 then (s.length : Int) - 1 else m) m ∧ l.foldl (fun m s => if m < (s.length : Int) - 1 then (s.length : Int) - 1 else m) m ≤ 7 := by
    intro l
    induction l with
    | nil => intro m h1 h2 _; exact ⟨h1, h2⟩
    | cons s l ih =>
      intro m h1 h2 h
      have := h s (by simp)
      refine ih _ ?_ ?_ fun t ht => h t (by simp [ht])
      · dsimp only; split <;> omega
      · dsimp only; split <;> omega
  exact go l (-1) (by decide) (by decide) h
def oneC (l : Cx) (f : List Vx) : Bool := decide ((aroundC l f).length = 1)
def okC (l : Cx) (f : List Vx) : Bool := decide ((aroundC l f).length = 1) || decide ((aroundC l f).length = 2)
def bndC (l : Cx) : Cx × Int := if chkC l ≠ 0 then ([], chkC l) else if dimC l < 1 ∨ sizeP l = false then ([], 15) else if (allC l (dimC l).toNat).all (okC l) = true then limC ((allC l (dimC l).toNat).filter (oneC l)) else ([], 15)
theorem boundary_c (l : Cx) : Fn Try.prog 19 [dS Cpx l] (dT [dS Cpx (bndC l).1, dI (bndC l).2]) := by
  (refine Fn.introC2 tyC Try.func19 rfl rfl ?_; simp only [Try.ntmps19, List.length_cons, List.length_nil, Nat.reduceAdd, Nat.reduceSub, List.replicate_succ, List.replicate_zero, List.cons_append, List.nil_append])
  by_cases h0 : chkC l = 0
  · obtain ⟨g1, _, _, g4⟩ := chkC_good h0
    have g5 := shorts g4
    have g6 := dimC_le g5
    by_cases hd : 1 ≤ dimC l
    · have hk' : (((dimC l).toNat : Nat) : Int) = dimC l := by omega
      have hc : Fn Try.prog 60 [dS Cpx l, dI (dimC l)] (dS Simps (allC l (dimC l).toNat)) := by
        have := all_c l (dimC l).toNat g1 g5 (by omega)
        rwa [hk'] at this
      have hal : (allC l (dimC l).toNat).length ≤ 1048576 := by
        have := allC_len l (dimC l).toNat l.length g5 (Nat.le_refl _)
        rw [List.take_length] at this
        omega
      have e0 : sizeP l = true → bndC l = if (allC l (dimC l).toNat).all (okC l) = true then limC ((allC l (dimC l).toNat).filter (oneC l)) else ([], 15) := fun h => by
        unfold bndC; rw [if_neg (by omega), if_neg (by rw [h]; simp; omega)]
      have e1 : sizeP l = false → bndC l = ([], 15) := fun h => by
        unfold bndC; rw [if_neg (by omega), if_pos (.inr h)]
      revert hc hal e0
      generalize allC l (dimC l).toNat = al
      intro hc hal e0
      ((repeat' (first | ((first | apply WL.opG | apply WD.op); (focus (apply SYG.yes; (exact want_none rfl); (first | (apply SY.move <;> (exact oD)) | (apply SY.assign <;> (exact oD)) | (apply SY.load; (exact tD); (exact OpD.t rfl))))); dsimp only [setD, z0, z1]) | refine WL.nil ?_ | refine WD.nil ?_ | refine WC.seqK fun Kx hK => ?_ | (refine hK _ _ ?_; clear hK) | (refine Kont.skip ?_; clear hK) | refine WC.region ?_ | (apply WC.draw; kernel_rfl; kernel_rfl) | ((first | apply WL.pushK | apply WL.push1); (exact eD); exact OpD.t rfl; (exact oD); (intro _; first | exact shape_V | exact shape_I | exact shape_B | exact shape_A | exact shape_K); (exact (by simp)); (exact (by simp)); (first | exact ⟨by decide, by decide⟩ | skip); decide; (exact lD); (intro _; dsimp only [setD, z0, z1]); all_goals (try infer_instance)) | ((first | apply WL.appK | apply WL.app1); (exact eD); exact OpD.t rfl; (exact oD); decide; (exact lD); (intro _; dsimp only [setD, z0, z1]); all_goals (try infer_instance)) | ((apply (WL.perm (List.Perm.swap _ _ _)); (first | apply WL.pushK | apply WL.push1); (exact eD); exact OpD.t rfl; (exact oD); (intro _; first | exact shape_V | exact shape_I | exact shape_B | exact shape_A | exact shape_K); (exact (by simp)); (exact (by simp)); (first | exact ⟨by decide, by decide⟩ | skip); decide; (exact lD); (intro _; dsimp only [setD, z0, z1]); all_goals (try infer_instance))) | ((apply (WL.perm (List.Perm.swap _ _ _)); (first | apply WL.appK | apply WL.app1); (exact eD); exact OpD.t rfl; (exact oD); decide; (exact lD); (intro _; dsimp only [setD, z0, z1]); all_goals (try infer_instance))) | (apply WL.alloc; (first | exact tzV | exact tzC); (first | exact shape_X rfl | exact shape_XV | exact shape_C0 rfl); (intro _; dsimp only [setD, z0, z1])) | (apply WL.storeF; (exact tD); rfl; (exact oD); (exact hD); dsimp only [setD, z0, z1]) | (apply WL.storeF2; (exact tD); rfl; (exact oD); (exact hD); dsimp only [setD, z0, z1]) | (apply WL.storeF3; (exact tD); rfl; (exact oD); (exact hD); dsimp only [setD, z0, z1]) | ((first | apply WL.opG | apply WD.op); (focus (first | (apply SYG.no; first | exact want_notT rfl rfl rfl (by with_reducible rfl) | exact want_notF rfl rfl rfl (by with_reducible rfl)) | (apply SYG.yes; (first | exact want_none rfl | exact want_yes rfl rfl rfl (by with_reducible rfl)); ((first | (apply SY.call (chk27_c _) Try.call52; (exact aD)) | (apply SY.call (size_c _) Try.call59; (exact aD)) | (apply SY.call (hc) Try.call60; (exact aD)) | exact yMove | exact yAssign | exact yLss | exact yEql | exact yNeq | exact yNot | exact yAdd | exact yLoad | exact yLoadh | exact yLen | exact yIndexaddr | exact yBuild | exact yBuildslice | exact yPick | exact yExtract | exact yBox | fail); all_goals infer_instance)))); dsimp only [setD, z0, z1]) | ((first | refine WL.caseP rfl rfl rfl (fun h => ?_) (fun h => ?_) | refine WL.caseN rfl rfl rfl (fun h => ?_) (fun h => ?_) | refine WL.caseB rfl rfl rfl (fun h => ?_) (fun h => ?_) | refine WD.caseP rfl rfl rfl (fun h => ?_) (fun h => ?_) | refine WD.caseN rfl rfl rfl (fun h => ?_) (fun h => ?_) | refine WD.caseB rfl rfl rfl (fun h => ?_) (fun h => ?_)) <;> (first | (exfalso; first | omega | contradiction) | (dsimp only [z0, z1]))) | (apply WC.condT; (exact oD); (with_reducible rfl)) | (apply WC.condF; (exact oD); (with_reducible rfl)) | (apply WC.condD; (exact oD); (all_goals intro h); (all_goals try (exfalso; first | omega | contradiction))) | (apply WC.condN; (exact oD); (all_goals intro h); (all_goals try (exfalso; first | omega | contradiction))) | (apply WC.condNB; (exact oD); (all_goals intro h); (all_goals try (exfalso; first | omega | contradiction))) | (apply WC.cond; (exact oD); (all_goals intro h); (all_goals try (exfalso; first | omega | contradiction))) | refine WC.skip ?_ | refine WC.ret ?_ | refine WC.exit ?_ | refine WC.block ?_ | refine ThenD.n ?_ | refine ThenD.r ?_ | refine ThenD.x ?_ | refine InBlockD.x ?_ | refine InBlockD.n ?_ | refine InBlockD.r ?_ | refine InBlockD.y (by decide) ?_)); all_goals (first | refine WC.id ?_ | refine WL.id ?_ | refine WDs.id ?_ | ((repeat clear hK); (repeat clear Kx))))
      · rw [e1 h]; (refine ⟨trivial, ⟨_, rfl, ?_⟩, _, rfl, ?_⟩ <;> (first | exact fD | refine FinD.i ?_ | refine FinD.b ?_ | refine FinD.rowKE (.head _) ?_ | refine FinD.rowE (.head _) ?_ | refine FinD.nilKE (by decide) ?_ | refine FinD.nilE ?_ | refine FinD.s ?_))
      · have e2 := e0 h
        clear e0 e1
        rename Nat => b0
        refine WC.nilRow 25 Verts ?_
        (refine WC.loopU (X := Nat × Value × Cx) (fun x => [(9, dI (x.1 : Int)), (8, dX x.2.1), (3, dA), (31, dA), (32, dA), (33, dA), (34, dA), (35, dA), (36, dA), (37, dA), (38, dA), (39, dA), (40, dA), (41, dA), (42, dA), (43, dA), (44, dA), (45, dA), (46, dA), (47, dA), (48, dA), (49, dA), (50, dA), (51, dA), (52, dA), (53, dA), (54, dA), (55, dA)]) (fun x => [hRow x.2.1 25 Verts x.2.2, hCell b0 24 1 true (dX (.agg #[.slice none 0 0]))]) (fun x => al.length - x.1) (fun x => x.1 ≤ al.length ∧ x.2.2 = (al.take x.1).filter (oneC l) ∧ (al.take x.1).all (okC l) = true) (0, .slice none 0 0, []) ?start ?frame0 ?objs0 ?round)
        case start => exact ⟨Nat.zero_le _, by simp, by simp⟩
        case frame0 => ((try dsimp only [upds, z0, z1]); repeat (first | exact LeF.nil | refine LeF.cons (by first | with_reducible exact Dat.le_any _ | with_reducible exact Dat.le_refl _ | exact le_ii (by omega) | exact Dat.le_nil | exact Dat.le_nilK (by decide) | assumption | exact Dat.le_refl _ | exact le_eq (by simp)) ?_))
        case objs0 => rfl
        case round =>
          rintro ⟨i, v, o⟩ ⟨h1, h2, h3⟩
          simp only at h1 h2 h3
          have hol : o.length ≤ 1048576 := by
            have h5 := List.length_filter_le (oneC l) (al.take i)
            rw [List.length_take] at h5
            rw [h2]; omega
          dsimp only [upds, z0, z1]
          ((repeat' (first | ((first | apply WL.opG | apply WD.op); (focus (apply SYG.yes; (exact want_none rfl); (first | (apply SY.move <;> (exact oD)) | (apply SY.assign <;> (exact oD)) | (apply SY.load; (exact tD); (exact OpD.t rfl))))); dsimp only [setD, z0, z1]) | refine WL.nil ?_ | refine WD.nil ?_ | refine WC.seqK fun Kx hK => ?_ | (refine hK _ _ ?_; clear hK) | (refine Kont.skip ?_; clear hK) | refine WC.region ?_ | (apply WC.draw; kernel_rfl; kernel_rfl) | ((first | apply WL.pushK | apply WL.push1); (exact eD); exact OpD.t rfl; (exact oD); (intro _; first | exact shape_V | exact shape_I | exact shape_B | exact shape_A | exact shape_K); (exact (by simp)); (exact (by simp)); (first | exact ⟨by decide, by decide⟩ | skip); decide; (exact lD); (intro _; dsimp only [setD, z0, z1]); all_goals (try infer_instance)) | ((first | apply WL.appK | apply WL.app1); (exact eD); exact OpD.t rfl; (exact oD); decide; (exact lD); (intro _; dsimp only [setD, z0, z1]); all_goals (try infer_instance)) | ((apply (WL.perm (List.Perm.swap _ _ _)); (first | apply WL.pushK | apply WL.push1); (exact eD); exact OpD.t rfl; (exact oD); (intro _; first | exact shape_V | exact shape_I | exact shape_B | exact shape_A | exact shape_K); (exact (by simp)); (exact (by simp)); (first | exact ⟨by decide, by decide⟩ | skip); decide; (exact lD); (intro _; dsimp only [setD, z0, z1]); all_goals (try infer_instance))) | ((apply (WL.perm (List.Perm.swap _ _ _)); (first | apply WL.appK | apply WL.app1); (exact eD); exact OpD.t rfl; (exact oD); decide; (exact lD); (intro _; dsimp only [setD, z0, z1]); all_goals (try infer_instance))) | (apply WL.alloc; (first | exact tzV | exact tzC); (first | exact shape_X rfl | exact shape_XV | exact shape_C0 rfl); (intro _; dsimp only [setD, z0, z1])) | (apply WL.storeF; (exact tD); rfl; (exact oD); (exact hD); dsimp only [setD, z0, z1]) | (apply WL.storeF2; (exact tD); rfl; (exact oD); (exact hD); dsimp only [setD, z0, z1]) | (apply WL.storeF3; (exact tD); rfl; (exact oD); (exact hD); dsimp only [setD, z0, z1]) | ((first | apply WL.opG | apply WD.op); (focus (first | (apply SYG.no; first | exact want_notT rfl rfl rfl (by with_reducible rfl) | exact want_notF rfl rfl rfl (by with_reducible rfl)) | (apply SYG.yes; (first | exact want_none rfl | exact want_yes rfl rfl rfl (by with_reducible rfl)); ((first | (apply SY.call (around_c l _ (Nat.le_trans g1 (by decide))) Try.call44; (exact aD)) | exact yMove | exact yAssign | exact yLss | exact yEql | exact yNeq | exact yNot | exact yAdd | exact yLoad | exact yLoadh | exact yLen | exact yIndexaddr | exact yBuild | exact yBuildslice | exact yPick | exact yExtract | exact yBox | fail); all_goals infer_instance)))); dsimp only [setD, z0, z1]) | ((first | refine WL.caseP rfl rfl rfl (fun h => ?_) (fun h => ?_) | refine WL.caseN rfl rfl rfl (fun h => ?_) (fun h => ?_) | refine WL.caseB rfl rfl rfl (fun h => ?_) (fun h => ?_) | refine WD.caseP rfl rfl rfl (fun h => ?_) (fun h => ?_) | refine WD.caseN rfl rfl rfl (fun h => ?_) (fun h => ?_) | refine WD.caseB rfl rfl rfl (fun h => ?_) (fun h => ?_)) <;> (first | (exfalso; first | omega | contradiction) | (dsimp only [z0, z1]))) | (apply WC.condT; (exact oD); (with_reducible rfl)) | (apply WC.condF; (exact oD); (with_reducible rfl)) | (apply WC.condD; (exact oD); (all_goals intro h); (all_goals try (exfalso; first | omega | contradiction))) | (apply WC.condN; (exact oD); (all_goals intro h); (all_goals try (exfalso; first | omega | contradiction))) | (apply WC.condNB; (exact oD); (all_goals intro h); (all_goals try (exfalso; first | omega | contradiction))) | (apply WC.cond; (exact oD); (all_goals intro h); (all_goals try (exfalso; first | omega | contradiction))) | refine WC.skip ?_ | refine WC.ret ?_ | refine WC.exit ?_ | refine WC.block ?_ | refine ThenD.n ?_ | refine ThenD.r ?_ | refine ThenD.x ?_ | refine InBlockD.x ?_ | refine InBlockD.n ?_ | refine InBlockD.r ?_ | refine InBlockD.y (by decide) ?_)); all_goals (first | refine WC.id ?_ | refine WL.id ?_ | refine WDs.id ?_ | ((repeat clear hK); (repeat clear Kx))))
          · (refine ⟨(i + 1, _, o ++ [al[i]]), ?_, by first | omega | (simp only; omega), rfl, ?_⟩; rotate_left; ((try dsimp only [upds, z0, z1]); repeat (first | exact LeF.nil | refine LeF.cons (by first | with_reducible exact Dat.le_any _ | with_reducible exact Dat.le_refl _ | exact le_ii (by omega) | exact Dat.le_nil | exact Dat.le_nilK (by decide) | assumption | exact Dat.le_refl _ | exact le_eq (by simp)) ?_)); (try dsimp only))
            refine ⟨by omega, ?_, ?_⟩
            · show o ++ [al[i]] = _
              rw [filt_snoc (by omega), if_pos (show oneC l al[i] = true from decide_eq_true (by omega)), ← h2]
            · show (al.take (i + 1)).all (okC l) = true
              rw [take_snoc' (by omega), List.all_append, h3]
              simp [okC]
              omega
          · (refine ⟨(i + 1, v, o), ?_, by first | omega | (simp only; omega), rfl, ?_⟩; rotate_left; ((try dsimp only [upds, z0, z1]); repeat (first | exact LeF.nil | refine LeF.cons (by first | with_reducible exact Dat.le_any _ | with_reducible exact Dat.le_refl _ | exact le_ii (by omega) | exact Dat.le_nil | exact Dat.le_nilK (by decide) | assumption | exact Dat.le_refl _ | exact le_eq (by simp)) ?_)); (try dsimp only))
            refine ⟨by omega, ?_, ?_⟩
            · show o = _
              rw [filt_snoc (by omega), if_neg (by unfold oneC; rw [decide_eq_false (by omega)]; exact Bool.false_ne_true), List.append_nil, ← h2]
            · show (al.take (i + 1)).all (okC l) = true
              rw [take_snoc' (by omega), List.all_append, h3]
              simp [okC]
              omega
          · have e3 : al.all (okC l) = false := by
              rw [List.all_eq_false]
              refine ⟨al[i], List.getElem_mem _, ?_⟩
              simp [okC]
              omega
            rw [e2, e3, if_neg Bool.false_ne_true]
            (refine ⟨trivial, ⟨_, rfl, ?_⟩, _, rfl, ?_⟩ <;> (first | exact fD | refine FinD.i ?_ | refine FinD.b ?_ | refine FinD.rowKE (.head _) ?_ | refine FinD.rowE (.head _) ?_ | refine FinD.nilKE (by decide) ?_ | refine FinD.nilE ?_ | refine FinD.s ?_))
          · rw [List.take_of_length_le (by omega)] at h2 h3
            refine WL.keep1 (s := 56) rfl ?_
            dsimp only [upds, z0, z1]
            ((repeat' (first | ((first | apply WL.opG | apply WD.op); (focus (apply SYG.yes; (exact want_none rfl); (first | (apply SY.move <;> (exact oD)) | (apply SY.assign <;> (exact oD)) | (apply SY.load; (exact tD); (exact OpD.t rfl))))); dsimp only [setD, z0, z1]) | refine WL.nil ?_ | refine WD.nil ?_ | refine WC.seqK fun Kx hK => ?_ | (refine hK _ _ ?_; clear hK) | (refine Kont.skip ?_; clear hK) | refine WC.region ?_ | (apply WC.draw; kernel_rfl; kernel_rfl) | ((first | apply WL.pushK | apply WL.push1); (exact eD); exact OpD.t rfl; (exact oD); (intro _; first | exact shape_V | exact shape_I | exact shape_B | exact shape_A | exact shape_K); (exact (by simp)); (exact (by simp)); (first | exact ⟨by decide, by decide⟩ | skip); decide; (exact lD); (intro _; dsimp only [setD, z0, z1]); all_goals (try infer_instance)) | ((first | apply WL.appK | apply WL.app1); (exact eD); exact OpD.t rfl; (exact oD); decide; (exact lD); (intro _; dsimp only [setD, z0, z1]); all_goals (try infer_instance)) | ((apply (WL.perm (List.Perm.swap _ _ _)); (first | apply WL.pushK | apply WL.push1); (exact eD); exact OpD.t rfl; (exact oD); (intro _; first | exact shape_V | exact shape_I | exact shape_B | exact shape_A | exact shape_K); (exact (by simp)); (exact (by simp)); (first | exact ⟨by decide, by decide⟩ | skip); decide; (exact lD); (intro _; dsimp only [setD, z0, z1]); all_goals (try infer_instance))) | ((apply (WL.perm (List.Perm.swap _ _ _)); (first | apply WL.appK | apply WL.app1); (exact eD); exact OpD.t rfl; (exact oD); decide; (exact lD); (intro _; dsimp only [setD, z0, z1]); all_goals (try infer_instance))) | (apply WL.alloc; (first | exact tzV | exact tzC); (first | exact shape_X rfl | exact shape_XV | exact shape_C0 rfl); (intro _; dsimp only [setD, z0, z1])) | (apply WL.storeF; (exact tD); rfl; (exact oD); (exact hD); dsimp only [setD, z0, z1]) | (apply WL.storeF2; (exact tD); rfl; (exact oD); (exact hD); dsimp only [setD, z0, z1]) | (apply WL.storeF3; (exact tD); rfl; (exact oD); (exact hD); dsimp only [setD, z0, z1]) | ((first | apply WL.opG | apply WD.op); (focus (first | (apply SYG.no; first | exact want_notT rfl rfl rfl (by with_reducible rfl) | exact want_notF rfl rfl rfl (by with_reducible rfl)) | (apply SYG.yes; (first | exact want_none rfl | exact want_yes rfl rfl rfl (by with_reducible rfl)); ((first | (apply SY.call (limited_c o) Try.call61; (exact aD)) | exact yMove | exact yAssign | exact yLss | exact yEql | exact yNeq | exact yNot | exact yAdd | exact yLoad | exact yLoadh | exact yLen | exact yIndexaddr | exact yBuild | exact yBuildslice | exact yPick | exact yExtract | exact yBox | fail); all_goals infer_instance)))); dsimp only [setD, z0, z1]) | ((first | refine WL.caseP rfl rfl rfl (fun h => ?_) (fun h => ?_) | refine WL.caseN rfl rfl rfl (fun h => ?_) (fun h => ?_) | refine WL.caseB rfl rfl rfl (fun h => ?_) (fun h => ?_) | refine WD.caseP rfl rfl rfl (fun h => ?_) (fun h => ?_) | refine WD.caseN rfl rfl rfl (fun h => ?_) (fun h => ?_) | refine WD.caseB rfl rfl rfl (fun h => ?_) (fun h => ?_)) <;> (first | (exfalso; first | omega | contradiction) | (dsimp only [z0, z1]))) | (apply WC.condT; (exact oD); (with_reducible rfl)) | (apply WC.condF; (exact oD); (with_reducible rfl)) | (apply WC.condD; (exact oD); (all_goals intro h); (all_goals try (exfalso; first | omega | contradiction))) | (apply WC.condN; (exact oD); (all_goals intro h); (all_goals try (exfalso; first | omega | contradiction))) | (apply WC.condNB; (exact oD); (all_goals intro h); (all_goals try (exfalso; first | omega | contradiction))) | (apply WC.cond; (exact oD); (all_goals intro h); (all_goals try (exfalso; first | omega | contradiction))) | refine WC.skip ?_ | refine WC.ret ?_ | refine WC.exit ?_ | refine WC.block ?_ | refine ThenD.n ?_ | refine ThenD.r ?_ | refine ThenD.x ?_ | refine InBlockD.x ?_ | refine InBlockD.n ?_ | refine InBlockD.r ?_ | refine InBlockD.y (by decide) ?_)); all_goals (first | refine WC.id ?_ | refine WL.id ?_ | refine WDs.id ?_ | ((repeat clear hK); (repeat clear Kx))))
            rw [e2, if_pos h3]
            subst h2
            (refine ⟨trivial, ⟨_, rfl, ?_⟩, _, rfl, ?_⟩ <;> (first | exact fD | refine FinD.i ?_ | refine FinD.b ?_ | refine FinD.rowKE (.head _) ?_ | refine FinD.rowE (.head _) ?_ | refine FinD.nilKE (by decide) ?_ | refine FinD.nilE ?_ | refine FinD.s ?_))
    · have e : bndC l = ([], 15) := by unfold bndC; rw [if_neg (by omega), if_pos (by omega)]
      ((repeat' (first | ((first | apply WL.opG | apply WD.op); (focus (apply SYG.yes; (exact want_none rfl); (first | (apply SY.move <;> (exact oD)) | (apply SY.assign <;> (exact oD)) | (apply SY.load; (exact tD); (exact OpD.t rfl))))); dsimp only [setD, z0, z1]) | refine WL.nil ?_ | refine WD.nil ?_ | refine WC.seqK fun Kx hK => ?_ | (refine hK _ _ ?_; clear hK) | (refine Kont.skip ?_; clear hK) | refine WC.region ?_ | (apply WC.draw; kernel_rfl; kernel_rfl) | ((first | apply WL.pushK | apply WL.push1); (exact eD); exact OpD.t rfl; (exact oD); (intro _; first | exact shape_V | exact shape_I | exact shape_B | exact shape_A | exact shape_K); (exact (by simp)); (exact (by simp)); (first | exact ⟨by decide, by decide⟩ | skip); decide; (exact lD); (intro _; dsimp only [setD, z0, z1]); all_goals (try infer_instance)) | ((first | apply WL.appK | apply WL.app1); (exact eD); exact OpD.t rfl; (exact oD); decide; (exact lD); (intro _; dsimp only [setD, z0, z1]); all_goals (try infer_instance)) | ((apply (WL.perm (List.Perm.swap _ _ _)); (first | apply WL.pushK | apply WL.push1); (exact eD); exact OpD.t rfl; (exact oD); (intro _; first | exact shape_V | exact shape_I | exact shape_B | exact shape_A | exact shape_K); (exact (by simp)); (exact (by simp)); (first | exact ⟨by decide, by decide⟩ | skip); decide; (exact lD); (intro _; dsimp only [setD, z0, z1]); all_goals (try infer_instance))) | ((apply (WL.perm (List.Perm.swap _ _ _)); (first | apply WL.appK | apply WL.app1); (exact eD); exact OpD.t rfl; (exact oD); decide; (exact lD); (intro _; dsimp only [setD, z0, z1]); all_goals (try infer_instance))) | (apply WL.alloc; (first | exact tzV | exact tzC); (first | exact shape_X rfl | exact shape_XV | exact shape_C0 rfl); (intro _; dsimp only [setD, z0, z1])) | (apply WL.storeF; (exact tD); rfl; (exact oD); (exact hD); dsimp only [setD, z0, z1]) | (apply WL.storeF2; (exact tD); rfl; (exact oD); (exact hD); dsimp only [setD, z0, z1]) | (apply WL.storeF3; (exact tD); rfl; (exact oD); (exact hD); dsimp only [setD, z0, z1]) | ((first | apply WL.opG | apply WD.op); (focus (first | (apply SYG.no; first | exact want_notT rfl rfl rfl (by with_reducible rfl) | exact want_notF rfl rfl rfl (by with_reducible rfl)) | (apply SYG.yes; (first | exact want_none rfl | exact want_yes rfl rfl rfl (by with_reducible rfl)); ((first | (apply SY.call (chk27_c _) Try.call52; (exact aD)) | (apply SY.call (size_c _) Try.call59; (exact aD)) | exact yMove | exact yAssign | exact yLss | exact yEql | exact yNeq | exact yNot | exact yAdd | exact yLoad | exact yLoadh | exact yLen | exact yIndexaddr | exact yBuild | exact yBuildslice | exact yPick | exact yExtract | exact yBox | fail); all_goals infer_instance)))); dsimp only [setD, z0, z1]) | ((first | refine WL.caseP rfl rfl rfl (fun h => ?_) (fun h => ?_) | refine WL.caseN rfl rfl rfl (fun h => ?_) (fun h => ?_) | refine WL.caseB rfl rfl rfl (fun h => ?_) (fun h => ?_) | refine WD.caseP rfl rfl rfl (fun h => ?_) (fun h => ?_) | refine WD.caseN rfl rfl rfl (fun h => ?_) (fun h => ?_) | refine WD.caseB rfl rfl rfl (fun h => ?_) (fun h => ?_)) <;> (first | (exfalso; first | omega | contradiction) | (dsimp only [z0, z1]))) | (apply WC.condT; (exact oD); (with_reducible rfl)) | (apply WC.condF; (exact oD); (with_reducible rfl)) | (apply WC.condD; (exact oD); (all_goals intro h); (all_goals try (exfalso; first | omega | contradiction))) | (apply WC.condN; (exact oD); (all_goals intro h); (all_goals try (exfalso; first | omega | contradiction))) | (apply WC.condNB; (exact oD); (all_goals intro h); (all_goals try (exfalso; first | omega | contradiction))) | (apply WC.cond; (exact oD); (all_goals intro h); (all_goals try (exfalso; first | omega | contradiction))) | refine WC.skip ?_ | refine WC.ret ?_ | refine WC.exit ?_ | refine WC.block ?_ | refine ThenD.n ?_ | refine ThenD.r ?_ | refine ThenD.x ?_ | refine InBlockD.x ?_ | refine InBlockD.n ?_ | refine InBlockD.r ?_ | refine InBlockD.y (by decide) ?_)); all_goals (first | refine WC.id ?_ | refine WL.id ?_ | refine WDs.id ?_ | ((repeat clear hK); (repeat clear Kx))))
      all_goals (rw [e]; (refine ⟨trivial, ⟨_, rfl, ?_⟩, _, rfl, ?_⟩ <;> (first | exact fD | refine FinD.i ?_ | refine FinD.b ?_ | refine FinD.rowKE (.head _) ?_ | refine FinD.rowE (.head _) ?_ | refine FinD.nilKE (by decide) ?_ | refine FinD.nilE ?_ | refine FinD.s ?_)))
  · have e : bndC l = ([], chkC l) := by unfold bndC; rw [if_pos h0]
    ((repeat' (first | ((first | apply WL.opG | apply WD.op); (focus (apply SYG.yes; (exact want_none rfl); (first | (apply SY.move <;> (exact oD)) | (apply SY.assign <;> (exact oD)) | (apply SY.load; (exact tD); (exact OpD.t rfl))))); dsimp only [setD, z0, z1]) | refine WL.nil ?_ | refine WD.nil ?_ | refine WC.seqK fun Kx hK => ?_ | (refine hK _ _ ?_; clear hK) | (refine Kont.skip ?_; clear hK) | refine WC.region ?_ | (apply WC.draw; kernel_rfl; kernel_rfl) | ((first | apply WL.pushK | apply WL.push1); (exact eD); exact OpD.t rfl; (exact oD); (intro _; first | exact shape_V | exact shape_I | exact shape_B | exact shape_A | exact shape_K); (exact (by simp)); (exact (by simp)); (first | exact ⟨by decide, by decide⟩ | skip); decide; (exact lD); (intro _; dsimp only [setD, z0, z1]); all_goals (try infer_instance)) | ((first | apply WL.appK | apply WL.app1); (exact eD); exact OpD.t rfl; (exact oD); decide; (exact lD); (intro _; dsimp only [setD, z0, z1]); all_goals (try infer_instance)) | ((apply (WL.perm (List.Perm.swap _ _ _)); (first | apply WL.pushK | apply WL.push1); (exact eD); exact OpD.t rfl; (exact oD); (intro _; first | exact shape_V | exact shape_I | exact shape_B | exact shape_A | exact shape_K); (exact (by simp)); (exact (by simp)); (first | exact ⟨by decide, by decide⟩ | skip); decide; (exact lD); (intro _; dsimp only [setD, z0, z1]); all_goals (try infer_instance))) | ((apply (WL.perm (List.Perm.swap _ _ _)); (first | apply WL.appK | apply WL.app1); (exact eD); exact OpD.t rfl; (exact oD); decide; (exact lD); (intro _; dsimp only [setD, z0, z1]); all_goals (try infer_instance))) | (apply WL.alloc; (first | exact tzV | exact tzC); (first | exact shape_X rfl | exact shape_XV | exact shape_C0 rfl); (intro _; dsimp only [setD, z0, z1])) | (apply WL.storeF; (exact tD); rfl; (exact oD); (exact hD); dsimp only [setD, z0, z1]) | (apply WL.storeF2; (exact tD); rfl; (exact oD); (exact hD); dsimp only [setD, z0, z1]) | (apply WL.storeF3; (exact tD); rfl; (exact oD); (exact hD); dsimp only [setD, z0, z1]) | ((first | apply WL.opG | apply WD.op); (focus (first | (apply SYG.no; first | exact want_notT rfl rfl rfl (by with_reducible rfl) | exact want_notF rfl rfl rfl (by with_reducible rfl)) | (apply SYG.yes; (first | exact want_none rfl | exact want_yes rfl rfl rfl (by with_reducible rfl)); ((first | (apply SY.call (chk27_c _) Try.call52; (exact aD)) | exact yMove | exact yAssign | exact yLss | exact yEql | exact yNeq | exact yNot | exact yAdd | exact yLoad | exact yLoadh | exact yLen | exact yIndexaddr | exact yBuild | exact yBuildslice | exact yPick | exact yExtract | exact yBox | fail); all_goals infer_instance)))); dsimp only [setD, z0, z1]) | ((first | refine WL.caseP rfl rfl rfl (fun h => ?_) (fun h => ?_) | refine WL.caseN rfl rfl rfl (fun h => ?_) (fun h => ?_) | refine WL.caseB rfl rfl rfl (fun h => ?_) (fun h => ?_) | refine WD.caseP rfl rfl rfl (fun h => ?_) (fun h => ?_) | refine WD.caseN rfl rfl rfl (fun h => ?_) (fun h => ?_) | refine WD.caseB rfl rfl rfl (fun h => ?_) (fun h => ?_)) <;> (first | (exfalso; first | omega | contradiction) | (dsimp only [z0, z1]))) | (apply WC.condT; (exact oD); (with_reducible rfl)) | (apply WC.condF; (exact oD); (with_reducible rfl)) | (apply WC.condD; (exact oD); (all_goals intro h); (all_goals try (exfalso; first | omega | contradiction))) | (apply WC.condN; (exact oD); (all_goals intro h); (all_goals try (exfalso; first | omega | contradiction))) | (apply WC.condNB; (exact oD); (all_goals intro h); (all_goals try (exfalso; first | omega | contradiction))) | (apply WC.cond; (exact oD); (all_goals intro h); (all_goals try (exfalso; first | omega | contradiction))) | refine WC.skip ?_ | refine WC.ret ?_ | refine WC.exit ?_ | refine WC.block ?_ | refine ThenD.n ?_ | refine ThenD.r ?_ | refine ThenD.x ?_ | refine InBlockD.x ?_ | refine InBlockD.n ?_ | refine InBlockD.r ?_ | refine InBlockD.y (by decide) ?_)); all_goals (first | refine WC.id ?_ | refine WL.id ?_ | refine WDs.id ?_ | ((repeat clear hK); (repeat clear Kx))))
    rw [e]; (refine ⟨trivial, ⟨_, rfl, ?_⟩, _, rfl, ?_⟩ <;> (first | exact fD | refine FinD.i ?_ | refine FinD.b ?_ | refine FinD.rowKE (.head _) ?_ | refine FinD.rowE (.head _) ?_ | refine FinD.nilKE (by decide) ?_ | refine FinD.nilE ?_ | refine FinD.s ?_))
end Go.Proofs.Ytkedmlandjlogaa
namespace Go.Proofs.Ytkedmlandjlogaa
theorem good_sub {l l' : Cx} (h : GoodX l) (hs : l'.Sublist l) : GoodX l' := by
  refine ⟨Nat.le_trans hs.length_le h.1, List.Pairwise.sublist hs h.2.1, fun s hm => h.2.2.1 s (hs.subset hm), fun s hm => ?_⟩
  rw [Bool.eq_false_iff]
  intro hc
  obtain ⟨x, hx, hr⟩ := coveredC_iff.1 hc
  have := coveredC_iff.2 ⟨x, hs.subset hx, hr⟩
  rw [h.2.2.2 s (hs.subset hm)] at this
  cases this
theorem GoodX.asc {l : Cx} (h : GoodX l) : ∀ s ∈ l, Asc s := fun s hs => (chkV_zero.1 (h.2.2.1 s hs)).2.2.2
theorem around_eq {l : Cx} {s : List Vx} (h : ∀ f ∈ l, Asc f) (hs : Asc s) : l.filter (faceG s) = aroundC l s := List.filter_congr fun f hf => faceG_inside s f hs (h f hf)
theorem around_good {l : Cx} {s : List Vx} (h : GoodX l) : GoodX (aroundC l s) := good_sub h List.filter_sublist
theorem has_around {l : Cx} {s : List Vx} : hasC' l s = decide (0 < (aroundC l s).length) := by
  unfold hasC' aroundC
  rw [Bool.eq_iff_iff, List.any_eq_true, decide_eq_true_eq, List.length_pos_iff_exists_mem]
  constructor
  · rintro ⟨x, hx, h⟩; exact ⟨x, List.mem_filter.2 ⟨hx, h⟩⟩
  · rintro ⟨x, h⟩; exact ⟨x, (List.mem_filter.1 h).1, (List.mem_filter.1 h).2⟩
theorem max_ext {l l' : Cx} (h : ∀ x, x.length ≠ 0 → (x ∈ l ↔ x ∈ l')) : maxC l = maxC l' := by
  refine ascL_ext (maxC_asc l) (maxC_asc l') fun x => ?_
  rw [maxC_mem, maxC_mem]
  have hcov : ∀ {a b : Cx}, (∀ x, x.length ≠ 0 → x ∈ a → x ∈ b) → coveredC a x = true → coveredC b x = true := fun hab hc => by
    obtain ⟨y, hy, hl, hi⟩ := coveredC_iff.1 hc
    exact coveredC_iff.2 ⟨y, hab y (by omega) hy, hl, hi⟩
  have he : coveredC l x = coveredC l' x := by
    rw [Bool.eq_iff_iff]
    exact ⟨hcov fun x hx => (h x hx).1, hcov fun x hx => (h x hx).2⟩
  unfold topC
  rw [he]
  by_cases hx : x.length = 0
  · simp [hx]
  · rw [h x hx]
theorem max_ne (l : Cx) : maxC (l.filter fun s => decide (0 < s.length)) = maxC l := max_ext fun x hx => by
  rw [List.mem_filter]
  simp; omega
theorem max_each (p : Vx → Bool) (l : Cx) : maxC (eachC p l) = maxC (l.map fun s => s.filter p) := max_ne _
theorem each_good {p : Vx → Bool} {l : Cx} (h : ∀ s ∈ l, chkV s = 0) : ∀ s ∈ eachC p l, chkV s = 0 := fun s hs => by
  unfold eachC at hs
  obtain ⟨h1, h2⟩ := List.mem_filter.1 hs
  obtain ⟨f, hf, rfl⟩ := List.mem_map.1 h1
  exact sub_good (h f hf) List.filter_sublist (ne_nil (by simpa using h2))
theorem most_dim (l : Cx) : mostC l - 1 = dimC l := by
  have go : ∀ (l : Cx) (m : Int), l.foldl (fun m s => if m < (s.length : Int) then (s.length : Int) else m) m - 1 = l.foldl (fun m s => if m < (s.length : Int) - 1 then (s.length : Int) - 1 else m) (m - 1) := by
    intro l
    induction l with
    | nil => intro m; rfl
    | cons s l ih =>
      intro m
      rw [List.foldl_cons, List.foldl_cons, ih]
      congr 1
      split <;> split <;> omega
  exact go l 0
theorem most_max (l : Cx) : (∀ s ∈ l, (s.length : Int) ≤ mostC l) ∧ (mostC l = 0 ∨ ∃ s ∈ l, mostC l = s.length) := by
  have go : ∀ (l : Cx) (m : Int), m ≤ l.foldl (fun m s => if m < (s.length : Int) then (s.length : Int) else m) m ∧ (∀ s ∈ l, (s.length : Int) ≤ l.foldl (fun m s => if m < (s.length : Int) then (s.length : Int) else m) m) ∧
      (l.foldl (fun m s => if m < (s.length : Int) then (s.length : Int) else m) m = m ∨ ∃ s ∈ l, l.foldl (fun m s => if m < (s.length : Int) then (s.length : Int) else m) m = s.length) := by
    intro l
    induction l with
    | nil => intro m; simp
    | cons s l ih =>
      intro m
      rw [List.foldl_cons]
      obtain ⟨h1, h2, h3⟩ := ih (if m < (s.length : Int) then (s.length : Int) else m)
      refine ⟨by split at h1 <;> split <;> omega, fun x hx => ?_, ?_⟩
      · rcases List.mem_cons.1 hx with rfl | hx
        · split at h1 <;> split <;> omega
        · exact h2 x hx
      · rcases h3 with h3 | ⟨x, hx, h3⟩
        · rw [h3]
          split
          · exact .inr ⟨s, by simp, rfl⟩
          · exact .inl rfl
        · exact .inr ⟨x, by simp [hx], h3⟩
  exact ⟨(go l 0).2.1, (go l 0).2.2⟩
theorem least_min (l : Cx) : (∀ s ∈ l, leastC l ≤ (s.length : Int)) ∧ (leastC l = 8 ∨ ∃ s ∈ l, leastC l = s.length) := by
  have go : ∀ (l : Cx) (m : Int), l.foldl (fun m s => if (s.length : Int) < m then (s.length : Int) else m) m ≤ m ∧ (∀ s ∈ l, l.foldl (fun m s => if (s.length : Int) < m then (s.length : Int) else m) m ≤ (s.length : Int)) ∧
      (l.foldl (fun m s => if (s.length : Int) < m then (s.length : Int) else m) m = m ∨ ∃ s ∈ l, l.foldl (fun m s => if (s.length : Int) < m then (s.length : Int) else m) m = s.length) := by
    intro l
    induction l with
    | nil => intro m; simp
    | cons s l ih =>
      intro m
      rw [List.foldl_cons]
      obtain ⟨h1, h2, h3⟩ := ih (if (s.length : Int) < m then (s.length : Int) else m)
      refine ⟨by split at h1 <;> split <;> omega, fun x hx => ?_, ?_⟩
      · rcases List.mem_cons.1 hx with rfl | hx
        · split at h1 <;> split <;> omega
        · exact h2 x hx
      · rcases h3 with h3 | ⟨x, hx, h3⟩
        · rw [h3]
          split
          · exact .inr ⟨s, by simp, rfl⟩
          · exact .inl rfl
        · exact .inr ⟨x, by simp [hx], h3⟩
  exact ⟨(go l 8).2.1, (go l 8).2.2⟩
theorem pureC_iff {l : Cx} (h8 : ∀ s ∈ l, s.length ≠ 0 ∧ s.length ≤ 8) : pureC l = true ↔ ∀ s ∈ l, ∀ t ∈ l, s.length = t.length := by
  obtain ⟨m1, m2⟩ := most_max l
  obtain ⟨n1, n2⟩ := least_min l
  unfold pureC
  simp only [Bool.or_eq_true, decide_eq_true_eq]
  constructor
  · rintro (h | h) s hs t ht
    · have := m1 s hs; have := h8 s hs; omega
    · have := m1 s hs; have := m1 t ht; have := n1 s hs; have := n1 t ht; omega
  · intro h
    rcases m2 with m2 | ⟨s, hs, m2⟩
    · exact .inl m2
    · right
      rcases n2 with n2 | ⟨t, ht, n2⟩
      · have := n1 s hs; have := h8 s hs; omega
      · rw [m2, n2, h s hs t ht]
theorem sizeP_iff {l : Cx} : sizeP l = true ↔ ∀ s ∈ l, ∀ t ∈ l, s.length = t.length := by
  unfold sizeP
  rw [List.all_eq_true]
  simp only [List.mem_range, Bool.or_eq_true, decide_eq_true_eq]
  constructor
  · intro h
    have key : ∀ n, n ≤ l.length → 0 < n → ∀ (h0 : 0 < l.length), dimC (l.take n) = (l[0].length : Int) - 1 ∧ ∀ (i : Nat) (hi : i < l.length), i < n → l[i].length = l[0].length := by
      intro n
      induction n with
      | zero => intro _ h; omega
      | succ n ih =>
        intro hn _ h0
        by_cases hz : n = 0
        · subst hz
          refine ⟨?_, fun i hi hi1 => ?_⟩
          · rw [dimC_snoc (by omega)]
            simp [dimC]; omega
          · have : i = 0 := by omega
            subst this; rfl
        · obtain ⟨h1, h2⟩ := ih (by omega) (by omega) h0
          have h3 := h n (by omega)
          rcases h3 with h3 | h3
          · omega
          · rw [getD_at (by omega), h1] at h3
            refine ⟨?_, fun i hi hi1 => ?_⟩
            · rw [dimC_snoc (by omega), h1, h3, if_neg (by omega)]
            · by_cases hin : i = n
              · subst hin; omega
              · exact h2 i hi (by omega)
    intro s hs t ht
    obtain ⟨i, hi, rfl⟩ := List.getElem_of_mem hs
    obtain ⟨j, hj, rfl⟩ := List.getElem_of_mem ht
    obtain ⟨_, h2⟩ := key l.length (Nat.le_refl _) (by omega) (by omega)
    rw [h2 i hi hi, h2 j hj hj]
  · intro h i hi
    by_cases hz : i = 0
    · exact .inl hz
    · right
      rw [getD_at hi, ← most_dim]
      obtain ⟨m1, m2⟩ := most_max (l.take i)
      have h0 : l[0]'(by omega) ∈ l.take i := by rw [List.mem_take_iff_getElem]; exact ⟨0, by omega, rfl⟩
      rcases m2 with m2 | ⟨t, ht, m2⟩
      · have h1 := m1 _ h0
        have h2 := h l[i] (List.getElem_mem hi) (l[0]'(by omega)) (List.getElem_mem _)
        rw [m2]; omega
      · have h2 := h l[i] (List.getElem_mem hi) t (List.mem_of_mem_take ht)
        rw [m2, h2]
theorem pure_size {l : Cx} (h : ∀ s ∈ l, chkV s = 0) : pureC l = sizeP l := by
  rw [Bool.eq_iff_iff, pureC_iff (fun s hs => by have := chkV_zero.1 (h s hs); omega), sizeP_iff]
end Go.Proofs.Ytkedmlandjlogaa
