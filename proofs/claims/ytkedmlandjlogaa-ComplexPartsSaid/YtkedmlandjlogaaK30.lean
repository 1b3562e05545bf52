/-
  Part 30 of the texts that the claims of this seat lean on: walks of the program's functions by contracts over symbolic frames, and plain laws of what they compute. No condition.
-/
import Derived.Test.YtkedmlandjlogaaK17
import Derived.Test.YtkedmlandjlogaaK27
set_option linter.unusedVariables false
set_option linter.unusedSimpArgs false
set_option linter.unusedSectionVars false
namespace Go.Proofs.Ytkedmlandjlogaa
open Go.RowKit
set_option linter.unusedSimpArgs false

set_option maxHeartbeats 2000000
set_option maxRecDepth 100000
theorem putC_o (u : Value) (l : Cx) (s : List Vx) (hl : l.length ≤ 3000000) : CallC Try.prog 91 [dX u, dS Verts s] [hRow u 25 Verts l] (fun d hp2 => ∃ v, d = dX v ∧ hp2 = [hRow v 25 Verts (putC l s)]) := by
  refine CallC.drops (K := fun d hp2 => ∃ v w ys, d = dX v ∧ hp2.Perm ([hRow w 25 Verts ys] ++ [hRow v 25 Verts (putC l s)])) ?_ (fun d hp2 ⟨v, w, ys, h1, h2⟩ => ⟨_, _, h2, v, h1, rfl⟩)
  (refine CallC.intro Try.func91 rfl rfl (fun hp => ?_); simp only [Try.ntmps91, List.length_cons, List.length_nil, List.length_append, List.length_map, Nat.reduceAdd, Nat.reduceSub, List.replicate_succ, List.replicate_zero, List.cons_append, List.nil_append, List.map_cons, List.map_nil, List.append_assoc])
  ((repeat' (first | (apply WL.opG; (focus (apply SYG.yes; (exact want_none rfl); (first | (apply SY.move <;> (exact oD)) | (apply SY.assign <;> (exact oD)) | (apply SY.load; (exact tD); (exact OpD.t rfl))))); dsimp only [setD, z0, z1]) | refine WL.nil ?_ | refine WC.seqK fun Kx hK => ?_ | (refine hK _ _ ?_; clear hK) | (refine Kont.skip ?_; clear hK) | refine WC.region ?_ | ((first | apply WL.pushK | apply WL.push1); (exact eD); exact OpD.t rfl; (exact oD); (intro _; first | exact shape_V | exact shape_I | exact shape_B | exact shape_A | exact shape_K); (exact (by simp)); (exact (by simp)); (first | exact ⟨by decide, by decide⟩ | skip); decide; (exact lD); (intro _; dsimp only [setD, z0, z1]); all_goals (try infer_instance)) | ((first | apply WL.appK | apply WL.app1); (exact eD); exact OpD.t rfl; (exact oD); decide; (exact lD); (intro _; dsimp only [setD, z0, z1]); all_goals (try infer_instance)) | ((apply (WL.perm (List.Perm.swap _ _ _)); (first | apply WL.pushK | apply WL.push1); (exact eD); exact OpD.t rfl; (exact oD); (intro _; first | exact shape_V | exact shape_I | exact shape_B | exact shape_A | exact shape_K); (exact (by simp)); (exact (by simp)); (first | exact ⟨by decide, by decide⟩ | skip); decide; (exact lD); (intro _; dsimp only [setD, z0, z1]); all_goals (try infer_instance))) | ((apply (WL.perm (List.Perm.swap _ _ _)); (first | apply WL.appK | apply WL.app1); (exact eD); exact OpD.t rfl; (exact oD); decide; (exact lD); (intro _; dsimp only [setD, z0, z1]); all_goals (try infer_instance))) | (apply WL.opG; (focus (first | (apply SYG.no; first | exact want_notT rfl rfl rfl (by with_reducible rfl) | exact want_notF rfl rfl rfl (by with_reducible rfl)) | (apply SYG.yes; (first | exact want_none rfl | exact want_yes rfl rfl rfl (by with_reducible rfl)); ((first | exact yMove | exact yAssign | exact yLss | exact yEql | exact yNot | exact yAdd | exact yLoad | exact yLen | exact yIndexaddr | exact yBuildslice | exact yPick | fail); all_goals infer_instance)))); dsimp only [setD, z0, z1]) | ((first | refine WL.caseP rfl rfl rfl (fun h => ?_) (fun h => ?_) | refine WL.caseN rfl rfl rfl (fun h => ?_) (fun h => ?_) | refine WL.caseB rfl rfl rfl (fun h => ?_) (fun h => ?_)) <;> (first | (exfalso; first | omega | contradiction) | (dsimp only [z0, z1]))) | (apply WC.condT; (exact oD); (with_reducible rfl)) | (apply WC.condF; (exact oD); (with_reducible rfl)) | (apply WC.condD; (exact oD); (all_goals intro h); (all_goals try (exfalso; first | omega | contradiction))) | (apply WC.condN; (exact oD); (all_goals intro h); (all_goals try (exfalso; first | omega | contradiction))) | (apply WC.condNB; (exact oD); (all_goals intro h); (all_goals try (exfalso; first | omega | contradiction))) | (apply WC.cond; (exact oD); (all_goals intro h); (all_goals try (exfalso; first | omega | contradiction))) | refine WC.skip ?_ | refine WC.ret ?_ | refine WC.exit ?_ | refine WC.block ?_ | refine ThenD.n ?_ | refine ThenD.r ?_ | refine ThenD.x ?_ | refine InBlockD.x ?_ | refine InBlockD.n ?_ | refine InBlockD.r ?_ | refine InBlockD.y (by decide) ?_)); all_goals (first | refine WC.id ?_ | refine WL.id ?_ | refine WDs.id ?_ | ((repeat clear hK); (repeat clear Kx))))
  refine WC.nilRow 25 Verts ?_
  (refine WC.loopU (X := Nat × Bool × Value × Cx) (fun x => [(7, dI (x.1 : Int)), (6, dB x.2.1), (5, dX x.2.2.1), (4, dA), (8, dA), (9, dA), (10, dA), (11, dA), (12, dA), (13, dA), (14, dA), (15, dA), (16, dA), (17, dA), (18, dA), (19, dA), (20, dA), (21, dA), (22, dA), (23, dA), (24, dA), (25, dA), (26, dA), (27, dA), (28, dA), (29, dA), (30, dA), (31, dA), (32, dA), (33, dA), (34, dA), (35, dA), (36, dA), (37, dA), (38, dA), (39, dA), (40, dA)]) (fun x => hRow x.2.2.1 25 Verts x.2.2.2 :: hRow u 25 Verts l :: hp) (fun x => l.length - x.1) (fun x => x.1 ≤ l.length ∧ (∀ y ∈ l.take x.1, cmpL s y ≠ 0) ∧ (x.2.1 = false → x.2.2.2 = l.take x.1 ∧ ∀ y ∈ l.take x.1, ¬ cmpL s y < 0) ∧ (x.2.1 = true → x.2.2.2 ++ l.drop x.1 = insC l s)) (0, false, .slice none 0 0, []) ?start ?frame0 ?objs0 ?round)
  case start => exact ⟨Nat.zero_le _, by simp, by simp, by simp⟩
  case frame0 => ((try dsimp only [upds, z0, z1]); repeat (first | exact LeF.nil | refine LeF.cons (by first | with_reducible exact Dat.le_any _ | with_reducible exact Dat.le_refl _ | exact le_ii (by omega) | exact Dat.le_nil | exact Dat.le_nilK (by decide) | assumption | exact Dat.le_refl _ | exact le_eq (by simp)) ?_))
  case objs0 => rfl
  case round =>
    rintro ⟨k, b, v, o⟩ ⟨h1, h2, h3, h4⟩
    simp only at h1 h2 h3 h4
    have hol : o.length ≤ l.length + 1 := by
      cases b with
      | false => rw [(h3 rfl).1, List.length_take]; omega
      | true =>
        have := congrArg List.length (h4 rfl)
        rw [List.length_append, insC_len] at this
        omega
    dsimp only [upds, z0, z1]
    ((repeat' (first | (apply WL.opG; (focus (apply SYG.yes; (exact want_none rfl); (first | (apply SY.move <;> (exact oD)) | (apply SY.assign <;> (exact oD)) | (apply SY.load; (exact tD); (exact OpD.t rfl))))); dsimp only [setD, z0, z1]) | refine WL.nil ?_ | refine WC.seqK fun Kx hK => ?_ | (refine hK _ _ ?_; clear hK) | (refine Kont.skip ?_; clear hK) | refine WC.region ?_ | ((first | apply WL.pushK | apply WL.push1); (exact eD); exact OpD.t rfl; (exact oD); (intro _; first | exact shape_V | exact shape_I | exact shape_B | exact shape_A | exact shape_K); (exact (by simp)); (exact (by simp)); (first | exact ⟨by decide, by decide⟩ | skip); decide; (exact lD); (intro _; dsimp only [setD, z0, z1]); all_goals (try infer_instance)) | ((first | apply WL.appK | apply WL.app1); (exact eD); exact OpD.t rfl; (exact oD); decide; (exact lD); (intro _; dsimp only [setD, z0, z1]); all_goals (try infer_instance)) | ((apply (WL.perm (List.Perm.swap _ _ _)); (first | apply WL.pushK | apply WL.push1); (exact eD); exact OpD.t rfl; (exact oD); (intro _; first | exact shape_V | exact shape_I | exact shape_B | exact shape_A | exact shape_K); (exact (by simp)); (exact (by simp)); (first | exact ⟨by decide, by decide⟩ | skip); decide; (exact lD); (intro _; dsimp only [setD, z0, z1]); all_goals (try infer_instance))) | ((apply (WL.perm (List.Perm.swap _ _ _)); (first | apply WL.appK | apply WL.app1); (exact eD); exact OpD.t rfl; (exact oD); decide; (exact lD); (intro _; dsimp only [setD, z0, z1]); all_goals (try infer_instance))) | (apply WL.opG; (focus (first | (apply SYG.no; first | exact want_notT rfl rfl rfl (by with_reducible rfl) | exact want_notF rfl rfl rfl (by with_reducible rfl)) | (apply SYG.yes; (first | exact want_none rfl | exact want_yes rfl rfl rfl (by with_reducible rfl)); ((first | (apply SY.call (cmpL_c _ _) Try.call92; (exact aD)) | (apply SY.ixR; exact elSi; exact OpD.t rfl; exact .tail _ (.head _); exact OpD.t rfl; rfl; omega) | (apply SY.loadR; exact tySi; exact OpD.t rfl; exact .tail _ (.head _); omega) | exact yMove | exact yAssign | exact yLss | exact yEql | exact yNot | exact yAdd | exact yLoad | exact yLen | exact yIndexaddr | exact yBuildslice | exact yPick | fail); all_goals infer_instance)))); dsimp only [setD, z0, z1]) | ((first | refine WL.caseP rfl rfl rfl (fun h => ?_) (fun h => ?_) | refine WL.caseN rfl rfl rfl (fun h => ?_) (fun h => ?_) | refine WL.caseB rfl rfl rfl (fun h => ?_) (fun h => ?_)) <;> (first | (exfalso; first | omega | contradiction) | (dsimp only [z0, z1]))) | (apply WC.condT; (exact oD); (with_reducible rfl)) | (apply WC.condF; (exact oD); (with_reducible rfl)) | (apply WC.condD; (exact oD); (all_goals intro h); (all_goals try (exfalso; first | omega | contradiction))) | (apply WC.condN; (exact oD); (all_goals intro h); (all_goals try (exfalso; first | omega | contradiction))) | (apply WC.condNB; (exact oD); (all_goals intro h); (all_goals try (exfalso; first | omega | contradiction))) | (apply WC.cond; (exact oD); (all_goals intro h); (all_goals try (exfalso; first | omega | contradiction))) | refine WC.skip ?_ | refine WC.ret ?_ | refine WC.exit ?_ | refine WC.block ?_ | refine ThenD.n ?_ | refine ThenD.r ?_ | refine ThenD.x ?_ | refine InBlockD.x ?_ | refine InBlockD.n ?_ | refine InBlockD.r ?_ | refine InBlockD.y (by decide) ?_)); all_goals (first | refine WC.id ?_ | refine WL.id ?_ | refine WDs.id ?_ | ((repeat clear hK); (repeat clear Kx))))
    · have hs : s = l[k] := cmpL_eq.1 h
      have e : putC l s = l := if_pos (hs ▸ List.getElem_mem (show k < l.length by omega))
      exact ⟨trivial, _, [_, _], rfl, rfl, u, v, o, rfl, by rw [e]⟩
    · have hb : b = false := by cases b <;> simp_all
      subst hb
      have h0 := h3 rfl
      (refine ⟨(k + 1, true, _, o ++ [s] ++ [l[k]]), ?_, by first | omega | (simp only; omega), rfl, ?_⟩; rotate_left; ((try dsimp only [upds, z0, z1]); repeat (first | exact LeF.nil | refine LeF.cons (by first | with_reducible exact Dat.le_any _ | with_reducible exact Dat.le_refl _ | exact le_ii (by omega) | exact Dat.le_nil | exact Dat.le_nilK (by decide) | assumption | exact Dat.le_refl _ | exact le_eq (by simp)) ?_)); (try dsimp only))
      refine ⟨by omega, fun y hy => ?_, (fun e => nomatch e), fun _ => ?_⟩
      · rcases (mem_take_snoc (by omega)).1 hy with h' | rfl
        · exact h2 y h'
        · assumption
      · show o ++ [s] ++ [l[k]] ++ l.drop (k + 1) = insC l s
        rw [insC_cut (by omega) h0.2 (by assumption), h0.1, drop_cons' (show k < l.length by omega)]
        simp
    · have hb : b = false := by cases b <;> simp_all
      subst hb
      have h0 := h3 rfl
      (refine ⟨(k + 1, false, _, o ++ [l[k]]), ?_, by first | omega | (simp only; omega), rfl, ?_⟩; rotate_left; ((try dsimp only [upds, z0, z1]); repeat (first | exact LeF.nil | refine LeF.cons (by first | with_reducible exact Dat.le_any _ | with_reducible exact Dat.le_refl _ | exact le_ii (by omega) | exact Dat.le_nil | exact Dat.le_nilK (by decide) | assumption | exact Dat.le_refl _ | exact le_eq (by simp)) ?_)); (try dsimp only))
      refine ⟨by omega, fun y hy => ?_, fun _ => ⟨?_, fun y hy => ?_⟩, (fun e => nomatch e)⟩
      · rcases (mem_take_snoc (by omega)).1 hy with h' | rfl
        · exact h2 y h'
        · assumption
      · rw [h0.1, take_snoc' (by omega)]
      · rcases (mem_take_snoc (by omega)).1 hy with h' | rfl
        · exact h0.2 y h'
        · assumption
    · have hb : b = true := by cases b <;> simp_all
      subst hb
      have h0 := h4 rfl
      (refine ⟨(k + 1, true, _, o ++ [l[k]]), ?_, by first | omega | (simp only; omega), rfl, ?_⟩; rotate_left; ((try dsimp only [upds, z0, z1]); repeat (first | exact LeF.nil | refine LeF.cons (by first | with_reducible exact Dat.le_any _ | with_reducible exact Dat.le_refl _ | exact le_ii (by omega) | exact Dat.le_nil | exact Dat.le_nilK (by decide) | assumption | exact Dat.le_refl _ | exact le_eq (by simp)) ?_)); (try dsimp only))
      refine ⟨by omega, fun y hy => ?_, (fun e => nomatch e), fun _ => ?_⟩
      · rcases (mem_take_snoc (by omega)).1 hy with h' | rfl
        · exact h2 y h'
        · assumption
      · show o ++ [l[k]] ++ l.drop (k + 1) = insC l s
        rw [← h0, drop_cons' (show k < l.length by omega)]
        simp
    · subst h
      have h0 := h3 rfl
      rw [List.take_of_length_le (by omega)] at h0 h2
      have hs : s ∉ l := fun hs => h2 s hs (cmpL_eq.2 rfl)
      have e : putC l s = o ++ [s] := by unfold putC; rw [if_neg hs, insC_end h0.2, h0.1]
      exact ⟨trivial, _, [_, _], rfl, rfl, _, _, _, rfl, by rw [e]; exact List.Perm.swap _ _ _⟩
    · subst h
      have h0 := h4 rfl
      rw [List.take_of_length_le (by omega)] at h2
      rw [List.drop_eq_nil_of_le (by omega), List.append_nil] at h0
      have hs : s ∉ l := fun hs => h2 s hs (cmpL_eq.2 rfl)
      have e : putC l s = o := by unfold putC; rw [if_neg hs, h0]
      exact ⟨trivial, _, [_, _], rfl, rfl, _, _, _, rfl, by rw [e]; exact List.Perm.swap _ _ _⟩
def stepA (k : Nat) (out : Cx) (f : List Vx) : Cx := if f.length < k then out else (subsV k f).foldl putC out
theorem allC_eq (c : Cx) (k : Nat) : allC c k = c.foldl (stepA k) [] := rfl
theorem allC_snoc {l : Cx} {k i : Nat} (h : i < l.length) : allC (l.take (i + 1)) k = stepA k (allC (l.take i) k) l[i] := by
  rw [allC_eq, allC_eq, take_snoc' h, List.foldl_append]; rfl
theorem stepA_len {k : Nat} {out : Cx} {f : List Vx} (h : f.length ≤ 8) : (stepA k out f).length ≤ out.length + 256 := by
  unfold stepA
  split
  · omega
  · have h1 := foldPut_len (subsV k f) out
    have h2 := Nat.le_trans (subsV_len k f) (Nat.pow_le_pow_right (by decide) h : 2 ^ f.length ≤ 2 ^ 8)
    omega
theorem allC_len : ∀ (l : Cx) (k i : Nat), (∀ f ∈ l, f.length ≤ 8) → i ≤ l.length → (allC (l.take i) k).length ≤ 256 * i
  | l, k, 0, _, _ => by simp [allC]
  | l, k, i + 1, h, hi => by
    rw [allC_snoc (by omega)]
    have h1 := stepA_len (k := k) (out := allC (l.take i) k) (h _ (List.getElem_mem (show i < l.length by omega)))
    have h2 := allC_len l k i h (by omega)
    omega
theorem all_o (l : Cx) (k : Nat) (hl : l.length ≤ 4096) (hs : ∀ f ∈ l, f.length ≤ 8) (hk : k ≤ 100) : CallC Try.prog 60 [dS Cpx l, dI (k : Int)] [] (fun d hp2 => ∃ v, d = dX v ∧ hp2 = [hRow v 25 Verts (allC l k)]) := by
  (refine CallC.intro Try.func60 rfl rfl (fun hp => ?_); simp only [Try.ntmps60, List.length_cons, List.length_nil, List.length_append, List.length_map, Nat.reduceAdd, Nat.reduceSub, List.replicate_succ, List.replicate_zero, List.cons_append, List.nil_append, List.map_cons, List.map_nil, List.append_assoc])
  ((repeat' (first | (apply WL.opG; (focus (apply SYG.yes; (exact want_none rfl); (first | (apply SY.move <;> (exact oD)) | (apply SY.assign <;> (exact oD)) | (apply SY.load; (exact tD); (exact OpD.t rfl))))); dsimp only [setD, z0, z1]) | refine WL.nil ?_ | refine WC.seqK fun Kx hK => ?_ | (refine hK _ _ ?_; clear hK) | (refine Kont.skip ?_; clear hK) | refine WC.region ?_ | (apply WL.opG; (focus (apply SYG.yes; (exact want_none rfl); ((first | exact yMove | exact yAssign | exact yLss | exact yGtr | exact yAdd | exact yLoad | exact yLoadh | exact yLen | exact yIndexaddr | exact yFieldaddr | exact yBox | fail); all_goals infer_instance))); dsimp only [setD, z0, z1]) | (apply WC.condT; (exact oD); (with_reducible rfl)) | (apply WC.condF; (exact oD); (with_reducible rfl)) | (apply WC.condD; (exact oD); (all_goals intro h); (all_goals try (exfalso; first | omega | contradiction))) | (apply WC.condN; (exact oD); (all_goals intro h); (all_goals try (exfalso; first | omega | contradiction))) | (apply WC.condNB; (exact oD); (all_goals intro h); (all_goals try (exfalso; first | omega | contradiction))) | (apply WC.cond; (exact oD); (all_goals intro h); (all_goals try (exfalso; first | omega | contradiction))) | refine WC.skip ?_ | refine WC.ret ?_ | refine WC.exit ?_ | refine WC.block ?_ | refine ThenD.n ?_ | refine ThenD.r ?_ | refine ThenD.x ?_ | refine InBlockD.x ?_ | refine InBlockD.n ?_ | refine InBlockD.r ?_ | refine InBlockD.y (by decide) ?_)); all_goals (first | refine WC.id ?_ | refine WL.id ?_ | refine WDs.id ?_ | ((repeat clear hK); (repeat clear Kx))))
  refine WC.nilRow 25 Verts ?_
  (refine WC.loopU (X := Nat × Value × Cx) (fun x => [(6, dI (x.1 : Int)), (5, dX x.2.1), (7, dA), (8, dA), (9, dA), (10, dA), (11, dA), (12, dA), (13, dA), (14, dA), (15, dA), (16, dA), (17, dA), (18, dA), (19, dA), (20, dA), (21, dA), (22, dA), (23, dA), (24, dA), (25, dA), (26, dA), (27, dA), (28, dA), (29, dA), (30, dA), (31, dA), (32, dA), (33, dA), (34, dA), (35, dA), (36, dA), (37, dA), (38, dA), (39, dA), (40, dA), (41, dA), (42, dA)]) (fun x => hRow x.2.1 25 Verts x.2.2 :: hp) (fun x => l.length - x.1) (fun x => x.1 ≤ l.length ∧ x.2.2 = allC (l.take x.1) k) (0, .slice none 0 0, []) ?start ?frame0 ?objs0 ?round)
  case start => exact ⟨Nat.zero_le _, rfl⟩
  case frame0 => ((try dsimp only [upds, z0, z1]); repeat (first | exact LeF.nil | refine LeF.cons (by first | with_reducible exact Dat.le_any _ | with_reducible exact Dat.le_refl _ | exact le_ii (by omega) | exact Dat.le_nil | exact Dat.le_nilK (by decide) | assumption | exact Dat.le_refl _ | exact le_eq (by simp)) ?_))
  case objs0 => rfl
  case round =>
    rintro ⟨i, v, o⟩ ⟨h1, h2⟩
    simp only at h1 h2
    have hol : o.length ≤ 256 * i := by rw [h2]; exact allC_len l k i hs h1
    dsimp only [upds, z0, z1]
    ((repeat' (first | (apply WL.opG; (focus (apply SYG.yes; (exact want_none rfl); (first | (apply SY.move <;> (exact oD)) | (apply SY.assign <;> (exact oD)) | (apply SY.load; (exact tD); (exact OpD.t rfl))))); dsimp only [setD, z0, z1]) | refine WL.nil ?_ | refine WC.seqK fun Kx hK => ?_ | (refine hK _ _ ?_; clear hK) | (refine Kont.skip ?_; clear hK) | refine WC.region ?_ | (apply WL.opG; (focus (apply SYG.yes; (exact want_none rfl); ((first | (apply SY.call (subs_c _ _ (Nat.le_trans (hs _ (List.getElem_mem _)) (by decide)) hk) Try.call95; (exact aD)) | exact yMove | exact yAssign | exact yLss | exact yGtr | exact yAdd | exact yLoad | exact yLoadh | exact yLen | exact yIndexaddr | exact yFieldaddr | exact yBox | fail); all_goals infer_instance))); dsimp only [setD, z0, z1]) | (apply WC.condT; (exact oD); (with_reducible rfl)) | (apply WC.condF; (exact oD); (with_reducible rfl)) | (apply WC.condD; (exact oD); (all_goals intro h); (all_goals try (exfalso; first | omega | contradiction))) | (apply WC.condN; (exact oD); (all_goals intro h); (all_goals try (exfalso; first | omega | contradiction))) | (apply WC.condNB; (exact oD); (all_goals intro h); (all_goals try (exfalso; first | omega | contradiction))) | (apply WC.cond; (exact oD); (all_goals intro h); (all_goals try (exfalso; first | omega | contradiction))) | refine WC.skip ?_ | refine WC.ret ?_ | refine WC.exit ?_ | refine WC.block ?_ | refine ThenD.n ?_ | refine ThenD.r ?_ | refine ThenD.x ?_ | refine InBlockD.x ?_ | refine InBlockD.n ?_ | refine InBlockD.r ?_ | refine InBlockD.y (by decide) ?_)); all_goals (first | refine WC.id ?_ | refine WL.id ?_ | refine WDs.id ?_ | ((repeat clear hK); (repeat clear Kx))))
    · (refine ⟨(i + 1, v, o), ?_, by first | omega | (simp only; omega), rfl, ?_⟩; rotate_left; ((try dsimp only [upds, z0, z1]); repeat (first | exact LeF.nil | refine LeF.cons (by first | with_reducible exact Dat.le_any _ | with_reducible exact Dat.le_refl _ | exact le_ii (by omega) | exact Dat.le_nil | exact Dat.le_nilK (by decide) | assumption | exact Dat.le_refl _ | exact le_eq (by simp)) ?_)); (try dsimp only))
      refine ⟨by omega, ?_⟩
      show o = _
      rw [allC_snoc (by omega), ← h2]
      exact (if_pos (by omega)).symm
    · have hb : (subsV k l[i]).length ≤ 256 := Nat.le_trans (subsV_len _ _) (Nat.pow_le_pow_right (by decide) (hs _ (List.getElem_mem (show i < l.length by omega))) : 2 ^ l[i].length ≤ 2 ^ 8)
      (refine WC.loopU (X := Nat × Value × Cx) (fun x => [(8, dI (x.1 : Int)), (5, dX x.2.1), (31, dA), (32, dA), (33, dA), (34, dA), (35, dA), (36, dA), (37, dA), (38, dA), (39, dA), (40, dA), (41, dA), (42, dA)]) (fun x => hRow x.2.1 25 Verts x.2.2 :: hp) (fun x => (subsV k l[i]).length - x.1) (fun x => x.1 ≤ (subsV k l[i]).length ∧ x.2.2 = ((subsV k l[i]).take x.1).foldl putC o) (0, v, o) ?start ?frame0 ?objs0 ?round)
      case start => exact ⟨Nat.zero_le _, rfl⟩
      case frame0 => ((try dsimp only [upds, z0, z1]); repeat (first | exact LeF.nil | refine LeF.cons (by first | with_reducible exact Dat.le_any _ | with_reducible exact Dat.le_refl _ | exact le_ii (by omega) | exact Dat.le_nil | exact Dat.le_nilK (by decide) | assumption | exact Dat.le_refl _ | exact le_eq (by simp)) ?_))
      case objs0 => rfl
      case round =>
        rintro ⟨j, v', o'⟩ ⟨h3, h4⟩
        simp only at h3 h4
        have hol' : o'.length ≤ 3000000 := by
          have := foldPut_len ((subsV k l[i]).take j) o
          rw [List.length_take, Nat.min_eq_left h3, ← h4] at this
          omega
        dsimp only [upds, z0, z1]
        ((repeat' (first | (apply WL.opG; (focus (apply SYG.yes; (exact want_none rfl); (first | (apply SY.move <;> (exact oD)) | (apply SY.assign <;> (exact oD)) | (apply SY.load; (exact tD); (exact OpD.t rfl))))); dsimp only [setD, z0, z1]) | refine WL.nil ?_ | refine WC.seqK fun Kx hK => ?_ | (refine hK _ _ ?_; clear hK) | (refine Kont.skip ?_; clear hK) | refine WC.region ?_ |  (refine WL.callC (hp1 := [_]) (caps := []) (putC_o _ _ _ hol') Try.call91 OpD.f (by (exact aD)) ?_; rintro d' hp2 ⟨v2, rfl, rfl⟩; dsimp only [setD, z0, z1, List.cons_append, List.nil_append]) | (apply WL.opG; (focus (apply SYG.yes; (exact want_none rfl); ((first | exact yMove | exact yAssign | exact yLss | exact yGtr | exact yAdd | exact yLoad | exact yLoadh | exact yLen | exact yIndexaddr | exact yFieldaddr | exact yBox | fail); all_goals infer_instance))); dsimp only [setD, z0, z1]) | (apply WC.condT; (exact oD); (with_reducible rfl)) | (apply WC.condF; (exact oD); (with_reducible rfl)) | (apply WC.condD; (exact oD); (all_goals intro h); (all_goals try (exfalso; first | omega | contradiction))) | (apply WC.condN; (exact oD); (all_goals intro h); (all_goals try (exfalso; first | omega | contradiction))) | (apply WC.condNB; (exact oD); (all_goals intro h); (all_goals try (exfalso; first | omega | contradiction))) | (apply WC.cond; (exact oD); (all_goals intro h); (all_goals try (exfalso; first | omega | contradiction))) | refine WC.skip ?_ | refine WC.ret ?_ | refine WC.exit ?_ | refine WC.block ?_ | refine ThenD.n ?_ | refine ThenD.r ?_ | refine ThenD.x ?_ | refine InBlockD.x ?_ | refine InBlockD.n ?_ | refine InBlockD.r ?_ | refine InBlockD.y (by decide) ?_)); all_goals (first | refine WC.id ?_ | refine WL.id ?_ | refine WDs.id ?_ | ((repeat clear hK); (repeat clear Kx))))
        · (refine ⟨(j + 1, _, putC o' (subsV k l[i])[j]), ?_, by first | omega | (simp only; omega), rfl, ?_⟩; rotate_left; ((try dsimp only [upds, z0, z1]); repeat (first | exact LeF.nil | refine LeF.cons (by first | with_reducible exact Dat.le_any _ | with_reducible exact Dat.le_refl _ | exact le_ii (by omega) | exact Dat.le_nil | exact Dat.le_nilK (by decide) | assumption | exact Dat.le_refl _ | exact le_eq (by simp)) ?_)); (try dsimp only))
          refine ⟨by omega, ?_⟩
          show putC o' _ = _
          rw [foldPut_snoc (by omega), ← h4]
        · (refine ⟨(i + 1, v', o'), ?_, by first | omega | (simp only; omega), rfl, ?_⟩; rotate_left; ((try dsimp only [upds, z0, z1]); repeat (first | exact LeF.nil | refine LeF.cons (by first | with_reducible exact Dat.le_any _ | with_reducible exact Dat.le_refl _ | exact le_ii (by omega) | exact Dat.le_nil | exact Dat.le_nilK (by decide) | assumption | exact Dat.le_refl _ | exact le_eq (by simp)) ?_)); (try dsimp only))
          refine ⟨by omega, ?_⟩
          show o' = _
          rw [allC_snoc (by omega), ← h2, h4, List.take_of_length_le (by omega)]
          exact (if_neg (by omega)).symm
    · rw [List.take_of_length_le (by omega)] at h2
      subst h2
      exact ⟨trivial, _, [_], rfl, rfl, _, rfl, rfl⟩
theorem all_c (l : Cx) (k : Nat) (hl : l.length ≤ 4096) (hs : ∀ f ∈ l, f.length ≤ 8) (hk : k ≤ 100) : Fn Try.prog 60 [dS Cpx l, dI (k : Int)] (dS Simps (allC l k)) :=
  Fn.ofC (all_o l k hl hs hk) (by rintro d hp2 ⟨v, rfl, rfl⟩; exact FinD.row (.head _))
def simplC (l : Cx) (k : Int) : Cx × Int := if chkC l ≠ 0 then ([], chkC l) else if k < 1 ∨ 8 < k then ([], 2) else if 4096 < (allC l k.toNat).length then ([], 17) else (allC l k.toNat, 0)
theorem shorts {l : Cx} (h : ∀ s ∈ l, chkV s = 0) : ∀ s ∈ l, s.length ≤ 8 := fun s hs => (chkV_zero.1 (h s hs)).2.1
theorem simplices_c (l : Cx) (k : Int) : Fn Try.prog 21 [dS Cpx l, dI k] (dT [dS Simps (simplC l k).1, dI (simplC l k).2]) := by
  (refine Fn.intro2 Try.func21 rfl rfl ?_; simp only [Try.ntmps21, List.length_cons, List.length_nil, Nat.reduceAdd, Nat.reduceSub, List.replicate_succ, List.replicate_zero, List.cons_append, List.nil_append])
  by_cases h0 : chkC l = 0
  · obtain ⟨g1, _, _, g4⟩ := chkC_good h0
    have g5 := shorts g4
    by_cases hk : 1 ≤ k ∧ k ≤ 8
    · have hk' : ((k.toNat : Nat) : Int) = k := by omega
      have hc : Fn Try.prog 60 [dS Cpx l, dI k] (dS Simps (allC l k.toNat)) := by
        have := all_c l k.toNat g1 g5 (by omega)
        rwa [hk'] at this
      ((repeat' (first | (apply WL.opG; (focus (apply SYG.yes; (exact want_none rfl); (first | (apply SY.move <;> (exact oD)) | (apply SY.assign <;> (exact oD)) | (apply SY.load; (exact tD); (exact OpD.t rfl))))); dsimp only [setD, z0, z1]) | refine WL.nil ?_ | refine WC.seqK fun Kx hK => ?_ | (refine hK _ _ ?_; clear hK) | (refine Kont.skip ?_; clear hK) | refine WC.region ?_ | (apply WL.opG; (focus (first | (apply SYG.no; first | exact want_notT rfl rfl rfl (by with_reducible rfl) | exact want_notF rfl rfl rfl (by with_reducible rfl)) | (apply SYG.yes; (first | exact want_none rfl | exact want_yes rfl rfl rfl (by with_reducible rfl)); ((first | (apply SY.call (chk27_c _) Try.call52; (exact aD)) | (apply SY.call (hc) Try.call60; (exact aD)) | exact yMove | exact yAssign | exact yLss | exact yGtr | exact yNeq | exact yLoad | exact yLoadh | exact yLen | exact yPick | exact yBox | fail); all_goals infer_instance)))); dsimp only [setD, z0, z1]) | ((first | refine WL.caseP rfl rfl rfl (fun h => ?_) (fun h => ?_) | refine WL.caseN rfl rfl rfl (fun h => ?_) (fun h => ?_) | refine WL.caseB rfl rfl rfl (fun h => ?_) (fun h => ?_)) <;> (first | (exfalso; first | omega | contradiction) | (dsimp only [z0, z1]))) | (apply WC.condT; (exact oD); (with_reducible rfl)) | (apply WC.condF; (exact oD); (with_reducible rfl)) | (apply WC.condD; (exact oD); (all_goals intro h); (all_goals try (exfalso; first | omega | contradiction))) | (apply WC.condN; (exact oD); (all_goals intro h); (all_goals try (exfalso; first | omega | contradiction))) | (apply WC.condNB; (exact oD); (all_goals intro h); (all_goals try (exfalso; first | omega | contradiction))) | (apply WC.cond; (exact oD); (all_goals intro h); (all_goals try (exfalso; first | omega | contradiction))) | refine WC.skip ?_ | refine WC.ret ?_ | refine ThenD.n ?_ | refine ThenD.r ?_)); all_goals (first | refine WC.id ?_ | refine WL.id ?_ | refine WDs.id ?_ | ((repeat clear hK); (repeat clear Kx))))
      · unfold simplC; rw [if_neg (by omega), if_neg (by omega), if_pos (by omega)]
        (refine ⟨trivial, ⟨_, rfl, ?_⟩, _, rfl, ?_⟩ <;> (first | exact fD | refine FinD.i ?_ | refine FinD.b ?_ | refine FinD.rowKE (.head _) ?_ | refine FinD.rowE (.head _) ?_ | refine FinD.nilKE (by decide) ?_ | refine FinD.nilE ?_ | refine FinD.s ?_))
      · unfold simplC; rw [if_neg (by omega), if_neg (by omega), if_neg (by omega)]
        (refine ⟨trivial, ⟨_, rfl, ?_⟩, _, rfl, ?_⟩ <;> (first | exact fD | refine FinD.i ?_ | refine FinD.b ?_ | refine FinD.rowKE (.head _) ?_ | refine FinD.rowE (.head _) ?_ | refine FinD.nilKE (by decide) ?_ | refine FinD.nilE ?_ | refine FinD.s ?_))
    · have e : simplC l k = ([], 2) := by unfold simplC; rw [if_neg (by omega), if_pos (by omega)]
      ((repeat' (first | (apply WL.opG; (focus (apply SYG.yes; (exact want_none rfl); (first | (apply SY.move <;> (exact oD)) | (apply SY.assign <;> (exact oD)) | (apply SY.load; (exact tD); (exact OpD.t rfl))))); dsimp only [setD, z0, z1]) | refine WL.nil ?_ | refine WC.seqK fun Kx hK => ?_ | (refine hK _ _ ?_; clear hK) | (refine Kont.skip ?_; clear hK) | refine WC.region ?_ | (apply WL.opG; (focus (first | (apply SYG.no; first | exact want_notT rfl rfl rfl (by with_reducible rfl) | exact want_notF rfl rfl rfl (by with_reducible rfl)) | (apply SYG.yes; (first | exact want_none rfl | exact want_yes rfl rfl rfl (by with_reducible rfl)); ((first | (apply SY.call (chk27_c _) Try.call52; (exact aD)) | exact yMove | exact yAssign | exact yLss | exact yGtr | exact yNeq | exact yLoad | exact yLoadh | exact yLen | exact yPick | exact yBox | fail); all_goals infer_instance)))); dsimp only [setD, z0, z1]) | ((first | refine WL.caseP rfl rfl rfl (fun h => ?_) (fun h => ?_) | refine WL.caseN rfl rfl rfl (fun h => ?_) (fun h => ?_) | refine WL.caseB rfl rfl rfl (fun h => ?_) (fun h => ?_)) <;> (first | (exfalso; first | omega | contradiction) | (dsimp only [z0, z1]))) | (apply WC.condT; (exact oD); (with_reducible rfl)) | (apply WC.condF; (exact oD); (with_reducible rfl)) | (apply WC.condD; (exact oD); (all_goals intro h); (all_goals try (exfalso; first | omega | contradiction))) | (apply WC.condN; (exact oD); (all_goals intro h); (all_goals try (exfalso; first | omega | contradiction))) | (apply WC.condNB; (exact oD); (all_goals intro h); (all_goals try (exfalso; first | omega | contradiction))) | (apply WC.cond; (exact oD); (all_goals intro h); (all_goals try (exfalso; first | omega | contradiction))) | refine WC.skip ?_ | refine WC.ret ?_ | refine ThenD.n ?_ | refine ThenD.r ?_)); all_goals (first | refine WC.id ?_ | refine WL.id ?_ | refine WDs.id ?_ | ((repeat clear hK); (repeat clear Kx))))
      all_goals (rw [e]; (refine ⟨trivial, ⟨_, rfl, ?_⟩, _, rfl, ?_⟩ <;> (first | exact fD | refine FinD.i ?_ | refine FinD.b ?_ | refine FinD.rowKE (.head _) ?_ | refine FinD.rowE (.head _) ?_ | refine FinD.nilKE (by decide) ?_ | refine FinD.nilE ?_ | refine FinD.s ?_)))
  · have e : simplC l k = ([], chkC l) := by unfold simplC; rw [if_pos h0]
    ((repeat' (first | (apply WL.opG; (focus (apply SYG.yes; (exact want_none rfl); (first | (apply SY.move <;> (exact oD)) | (apply SY.assign <;> (exact oD)) | (apply SY.load; (exact tD); (exact OpD.t rfl))))); dsimp only [setD, z0, z1]) | refine WL.nil ?_ | refine WC.seqK fun Kx hK => ?_ | (refine hK _ _ ?_; clear hK) | (refine Kont.skip ?_; clear hK) | refine WC.region ?_ | (apply WL.opG; (focus (first | (apply SYG.no; first | exact want_notT rfl rfl rfl (by with_reducible rfl) | exact want_notF rfl rfl rfl (by with_reducible rfl)) | (apply SYG.yes; (first | exact want_none rfl | exact want_yes rfl rfl rfl (by with_reducible rfl)); ((first | (apply SY.call (chk27_c _) Try.call52; (exact aD)) | exact yMove | exact yAssign | exact yLss | exact yGtr | exact yNeq | exact yLoad | exact yLoadh | exact yLen | exact yPick | exact yBox | fail); all_goals infer_instance)))); dsimp only [setD, z0, z1]) | ((first | refine WL.caseP rfl rfl rfl (fun h => ?_) (fun h => ?_) | refine WL.caseN rfl rfl rfl (fun h => ?_) (fun h => ?_) | refine WL.caseB rfl rfl rfl (fun h => ?_) (fun h => ?_)) <;> (first | (exfalso; first | omega | contradiction) | (dsimp only [z0, z1]))) | (apply WC.condT; (exact oD); (with_reducible rfl)) | (apply WC.condF; (exact oD); (with_reducible rfl)) | (apply WC.condD; (exact oD); (all_goals intro h); (all_goals try (exfalso; first | omega | contradiction))) | (apply WC.condN; (exact oD); (all_goals intro h); (all_goals try (exfalso; first | omega | contradiction))) | (apply WC.condNB; (exact oD); (all_goals intro h); (all_goals try (exfalso; first | omega | contradiction))) | (apply WC.cond; (exact oD); (all_goals intro h); (all_goals try (exfalso; first | omega | contradiction))) | refine WC.skip ?_ | refine WC.ret ?_ | refine ThenD.n ?_ | refine ThenD.r ?_)); all_goals (first | refine WC.id ?_ | refine WL.id ?_ | refine WDs.id ?_ | ((repeat clear hK); (repeat clear Kx))))
    all_goals (rw [e]; (refine ⟨trivial, ⟨_, rfl, ?_⟩, _, rfl, ?_⟩ <;> (first | exact fD | refine FinD.i ?_ | refine FinD.b ?_ | refine FinD.rowKE (.head _) ?_ | refine FinD.rowE (.head _) ?_ | refine FinD.nilKE (by decide) ?_ | refine FinD.nilE ?_ | refine FinD.s ?_)))
theorem tmod2 (k : Nat) : ((k : Int) + 1).tmod 2 = (((k + 1) % 2 : Nat) : Int) := by rw [Int.tmod_eq_emod_of_nonneg (by omega)]; omega
def eulS (l : Cx) : Nat → Int
  | 0 => 0
  | k + 1 => if (k + 1) % 2 = 1 then eulS l k + (allC l (k + 1)).length else eulS l k - (allC l (k + 1)).length
def eulC (l : Cx) : Int × Int := if chkC l ≠ 0 then (0, chkC l) else if (List.range 8).any (fun k => decide (4096 < (allC l (k + 1)).length)) = true then (0, 17) else (eulS l 8, 0)
theorem eulS_le (l : Cx) (h : ∀ k, (allC l k).length ≤ 2000000) : ∀ k, eulS l k ≤ 2000000 * k ∧ -(2000000 * (k : Int)) ≤ eulS l k
  | 0 => by simp [eulS]
  | k + 1 => by
    have h1 := eulS_le l h k
    have h2 := h (k + 1)
    unfold eulS
    split <;> omega
theorem euler_c (l : Cx) : Fn Try.prog 23 [dS Cpx l] (dT [dI (eulC l).1, dI (eulC l).2]) := by
  (refine Fn.intro2 Try.func23 rfl rfl ?_; simp only [Try.ntmps23, List.length_cons, List.length_nil, Nat.reduceAdd, Nat.reduceSub, List.replicate_succ, List.replicate_zero, List.cons_append, List.nil_append])
  by_cases h0 : chkC l = 0
  · obtain ⟨g1, _, _, g4⟩ := chkC_good h0
    have g5 := shorts g4
    have g6 : ∀ k, (allC l k).length ≤ 2000000 := fun k => by
      have := allC_len l k l.length g5 (Nat.le_refl _)
      rw [List.take_length] at this
      omega
    ((repeat' (first | (apply WL.opG; (focus (apply SYG.yes; (exact want_none rfl); (first | (apply SY.move <;> (exact oD)) | (apply SY.assign <;> (exact oD)) | (apply SY.load; (exact tD); (exact OpD.t rfl))))); dsimp only [setD, z0, z1]) | refine WL.nil ?_ | refine WC.seqK fun Kx hK => ?_ | (refine hK _ _ ?_; clear hK) | (refine Kont.skip ?_; clear hK) | refine WC.region ?_ | (apply WL.opG; (focus (apply SYG.yes; (exact want_none rfl); ((first | (apply SY.call (chk27_c _) Try.call52; (exact aD)) | exact yMove | exact yAssign | exact yLeq | exact yGtr | exact yEql | exact yNeq | exact yAdd | exact ySub | exact yRem | exact yLoad | exact yLoadh | exact yLen | exact yBox | fail); all_goals infer_instance))); dsimp only [setD, z0, z1]) | (apply WC.condT; (exact oD); (with_reducible rfl)) | (apply WC.condF; (exact oD); (with_reducible rfl)) | (apply WC.condD; (exact oD); (all_goals intro h); (all_goals try (exfalso; first | omega | contradiction))) | (apply WC.condN; (exact oD); (all_goals intro h); (all_goals try (exfalso; first | omega | contradiction))) | (apply WC.condNB; (exact oD); (all_goals intro h); (all_goals try (exfalso; first | omega | contradiction))) | (apply WC.cond; (exact oD); (all_goals intro h); (all_goals try (exfalso; first | omega | contradiction))) | refine WC.skip ?_ | refine WC.ret ?_ | refine WC.exit ?_ | refine WC.block ?_ | refine ThenD.n ?_ | refine ThenD.r ?_ | refine ThenD.x ?_ | refine InBlockD.x ?_ | refine InBlockD.n ?_ | refine InBlockD.r ?_ | refine InBlockD.y (by decide) ?_)); all_goals (first | refine WC.id ?_ | refine WL.id ?_ | refine WDs.id ?_ | ((repeat clear hK); (repeat clear Kx))))
    (refine WC.loopU (X := Nat × Int) (fun x => [(6, dI ((x.1 : Int) + 1)), (5, dI x.2), (2, dA), (3, dA), (7, dA), (13, dA), (14, dA), (15, dA), (16, dA), (17, dA), (18, dA), (19, dA), (20, dA), (21, dA), (22, dA), (23, dA), (24, dA), (25, dA), (26, dA), (27, dA), (28, dA), (29, dA), (30, dA), (31, dA)]) (fun x => []) (fun x => 8 - x.1) (fun x => x.1 ≤ 8 ∧ x.2 = eulS l x.1 ∧ (List.range x.1).any (fun k => decide (4096 < (allC l (k + 1)).length)) = false) (0, 0) ?start ?frame0 ?objs0 ?round)
    case start => exact ⟨Nat.zero_le _, rfl, rfl⟩
    case frame0 => ((try dsimp only [upds, z0, z1]); repeat (first | exact LeF.nil | refine LeF.cons (by first | with_reducible exact Dat.le_any _ | with_reducible exact Dat.le_refl _ | exact le_ii (by omega) | exact Dat.le_nil | exact Dat.le_nilK (by decide) | assumption | exact Dat.le_refl _ | exact le_eq (by simp)) ?_))
    case objs0 => rfl
    case round =>
      rintro ⟨k, m⟩ ⟨h1, h5, h2⟩
      simp only at h1 h2 h5
      have hc : (k : Int) + 1 ≤ 8 → Fn Try.prog 60 [dS Cpx l, dI ((k : Int) + 1)] (dS Simps (allC l (k + 1))) := fun h => all_c l (k + 1) g1 g5 (by omega)
      have h3 := eulS_le l g6 k
      rw [← h5] at h3
      have h4 := g6 (k + 1)
      dsimp only [upds, z0, z1]
      ((repeat' (first | (apply WL.opG; (focus (apply SYG.yes; (exact want_none rfl); (first | (apply SY.move <;> (exact oD)) | (apply SY.assign <;> (exact oD)) | (apply SY.load; (exact tD); (exact OpD.t rfl))))); dsimp only [setD, z0, z1]) | refine WL.nil ?_ | refine WC.seqK fun Kx hK => ?_ | (refine hK _ _ ?_; clear hK) | (refine Kont.skip ?_; clear hK) | refine WC.region ?_ | (apply WL.opG; (focus (apply SYG.yes; (exact want_none rfl); ((first | (apply SY.call (hc (by assumption)) Try.call60; (exact aD)) | exact yMove | exact yAssign | exact yLeq | exact yGtr | exact yEql | exact yNeq | exact yAdd | exact ySub | exact yRem | exact yLoad | exact yLoadh | exact yLen | exact yBox | fail); all_goals infer_instance))); dsimp only [setD, z0, z1]) | (apply WC.condT; (exact oD); (with_reducible rfl)) | (apply WC.condF; (exact oD); (with_reducible rfl)) | (apply WC.condD; (exact oD); (all_goals intro h); (all_goals try (exfalso; first | omega | contradiction))) | (apply WC.condN; (exact oD); (all_goals intro h); (all_goals try (exfalso; first | omega | contradiction))) | (apply WC.condNB; (exact oD); (all_goals intro h); (all_goals try (exfalso; first | omega | contradiction))) | (apply WC.cond; (exact oD); (all_goals intro h); (all_goals try (exfalso; first | omega | contradiction))) | refine WC.skip ?_ | refine WC.ret ?_ | refine WC.exit ?_ | refine WC.block ?_ | refine ThenD.n ?_ | refine ThenD.r ?_ | refine ThenD.x ?_ | refine InBlockD.x ?_ | refine InBlockD.n ?_ | refine InBlockD.r ?_ | refine InBlockD.y (by decide) ?_)); all_goals (first | refine WC.id ?_ | refine WL.id ?_ | refine WDs.id ?_ | ((repeat clear hK); (repeat clear Kx))))
      · unfold eulC
        rw [if_neg (by omega), if_pos (any_yes (show k < 8 by omega) (decide_eq_true (by omega)))]
        (refine ⟨trivial, ⟨_, rfl, ?_⟩, _, rfl, ?_⟩ <;> (first | exact fD | refine FinD.i ?_ | refine FinD.b ?_ | refine FinD.rowKE (.head _) ?_ | refine FinD.rowE (.head _) ?_ | refine FinD.nilKE (by decide) ?_ | refine FinD.nilE ?_ | refine FinD.s ?_))
      · rw [tmod2] at h
        have h9 : (k + 1) % 2 = 1 := by omega
        (refine ⟨(k + 1, m + (allC l (k + 1)).length), ?_, by first | omega | (simp only; omega), rfl, ?_⟩; rotate_left; ((try dsimp only [upds, z0, z1]); repeat (first | exact LeF.nil | refine LeF.cons (by first | with_reducible exact Dat.le_any _ | with_reducible exact Dat.le_refl _ | exact le_ii (by omega) | exact Dat.le_nil | exact Dat.le_nilK (by decide) | assumption | exact Dat.le_refl _ | exact le_eq (by simp)) ?_)); (try dsimp only))
        refine ⟨by omega, ?_, ?_⟩
        · show _ = eulS l (k + 1)
          unfold eulS
          rw [if_pos h9, h5]
        · rw [any_snoc, h2, decide_eq_false (by omega)]; rfl
      · rw [tmod2] at h
        have h9 : ¬ (k + 1) % 2 = 1 := by omega
        (refine ⟨(k + 1, m - (allC l (k + 1)).length), ?_, by first | omega | (simp only; omega), rfl, ?_⟩; rotate_left; ((try dsimp only [upds, z0, z1]); repeat (first | exact LeF.nil | refine LeF.cons (by first | with_reducible exact Dat.le_any _ | with_reducible exact Dat.le_refl _ | exact le_ii (by omega) | exact Dat.le_nil | exact Dat.le_nilK (by decide) | assumption | exact Dat.le_refl _ | exact le_eq (by simp)) ?_)); (try dsimp only))
        refine ⟨by omega, ?_, ?_⟩
        · show _ = eulS l (k + 1)
          unfold eulS
          rw [if_neg h9, h5]
        · rw [any_snoc, h2, decide_eq_false (by omega)]; rfl
      · have h9 : k = 8 := by omega
        subst h9
        unfold eulC
        rw [if_neg (by omega), h2, if_neg Bool.false_ne_true, ← h5]
        (refine ⟨trivial, ⟨_, rfl, ?_⟩, _, rfl, ?_⟩ <;> (first | exact fD | refine FinD.i ?_ | refine FinD.b ?_ | refine FinD.rowKE (.head _) ?_ | refine FinD.rowE (.head _) ?_ | refine FinD.nilKE (by decide) ?_ | refine FinD.nilE ?_ | refine FinD.s ?_))
  · have e : eulC l = (0, chkC l) := by unfold eulC; rw [if_pos h0]
    ((repeat' (first | (apply WL.opG; (focus (apply SYG.yes; (exact want_none rfl); (first | (apply SY.move <;> (exact oD)) | (apply SY.assign <;> (exact oD)) | (apply SY.load; (exact tD); (exact OpD.t rfl))))); dsimp only [setD, z0, z1]) | refine WL.nil ?_ | refine WC.seqK fun Kx hK => ?_ | (refine hK _ _ ?_; clear hK) | (refine Kont.skip ?_; clear hK) | refine WC.region ?_ | (apply WL.opG; (focus (apply SYG.yes; (exact want_none rfl); ((first | (apply SY.call (chk27_c _) Try.call52; (exact aD)) | exact yMove | exact yAssign | exact yLeq | exact yGtr | exact yEql | exact yNeq | exact yAdd | exact ySub | exact yRem | exact yLoad | exact yLoadh | exact yLen | exact yBox | fail); all_goals infer_instance))); dsimp only [setD, z0, z1]) | (apply WC.condT; (exact oD); (with_reducible rfl)) | (apply WC.condF; (exact oD); (with_reducible rfl)) | (apply WC.condD; (exact oD); (all_goals intro h); (all_goals try (exfalso; first | omega | contradiction))) | (apply WC.condN; (exact oD); (all_goals intro h); (all_goals try (exfalso; first | omega | contradiction))) | (apply WC.condNB; (exact oD); (all_goals intro h); (all_goals try (exfalso; first | omega | contradiction))) | (apply WC.cond; (exact oD); (all_goals intro h); (all_goals try (exfalso; first | omega | contradiction))) | refine WC.skip ?_ | refine WC.ret ?_ | refine WC.exit ?_ | refine WC.block ?_ | refine ThenD.n ?_ | refine ThenD.r ?_ | refine ThenD.x ?_ | refine InBlockD.x ?_ | refine InBlockD.n ?_ | refine InBlockD.r ?_ | refine InBlockD.y (by decide) ?_)); all_goals (first | refine WC.id ?_ | refine WL.id ?_ | refine WDs.id ?_ | ((repeat clear hK); (repeat clear Kx))))
    all_goals (rw [e]; (refine ⟨trivial, ⟨_, rfl, ?_⟩, _, rfl, ?_⟩ <;> (first | exact fD | refine FinD.i ?_ | refine FinD.b ?_ | refine FinD.rowKE (.head _) ?_ | refine FinD.rowE (.head _) ?_ | refine FinD.nilKE (by decide) ?_ | refine FinD.nilE ?_ | refine FinD.s ?_)))
end Go.Proofs.Ytkedmlandjlogaa
