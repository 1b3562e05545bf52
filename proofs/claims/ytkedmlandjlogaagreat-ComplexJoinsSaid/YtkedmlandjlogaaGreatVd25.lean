/-
  Part 25 of the texts that the claims of this seat lean on: walks of the program's functions by contracts over symbolic frames, and plain laws of what they compute. No condition.
-/
import Derived.Test.YtkedmlandjlogaaGreatVd23
import Derived.Test.YtkedmlandjlogaaGreatVd24
set_option linter.unusedVariables false
set_option linter.unusedSimpArgs false
set_option linter.unusedSectionVars false
namespace Go.Proofs.YtkedmlandjlogaaGreat
open Go.RowKit
set_option linter.unusedSimpArgs false

set_option maxHeartbeats 2000000
set_option maxRecDepth 100000
section
variable {P : Program}
def fin3 (t u v : Nat) (r s q : Dat) : Post := fun e fr hp => (match e with | .normal | .ret => True | _ => False) ∧ (∃ d, fr[t]? = some d ∧ FinD hp d r) ∧ (∃ d, fr[u]? = some d ∧ FinD hp d s) ∧ ∃ d, fr[v]? = some d ∧ FinD hp d q
theorem results_tmp3' {fn : Func} {t u v : Tmp} (h : fn.results = #[.tmp t, .tmp u, .tmp v]) (tmps : Array Value) (w : World) : (results fn tmps).run P w = .ok (.tuple #[tmps.getD t undef, tmps.getD u undef, tmps.getD v undef]) w := by
  simp [results, h]
theorem Fn.intro3 {f : FuncId} {fn : Func} {c : Code} {args : List Dat} {r s q : Dat} {t u v : Tmp} (hf : P.funcs[f]? = some fn) (hb : fn.body = some c) (hr : fn.results = #[.tmp t, .tmp u, .tmp v])
    (h : WC P (fin3 t u v r s q) c (args ++ List.replicate (fn.ntmps - args.length) (dX undef)) []) : Fn P f args (dT [r, s, q]) :=
  Fn.intro hf hb (fun e fr hp q => by
    obtain ⟨he, ⟨d, hd, hfin⟩, ⟨d', hd', hfin'⟩, d2, hd2, hfin2⟩ := q
    refine ⟨by cases e <;> simp_all, fun {P0 B w0 w a} hh hf' => ⟨_, results_tmp3' hr _ _, [a.tmps.getD t undef, a.tmps.getD u undef, a.tmps.getD v undef], rfl, rfl, fun i e x he hx => ?_⟩⟩
    match i, he, hx with
    | 0, he, hx => cases he; cases hx; exact hfin.out hh (hf'.rd t d hd)
    | 1, he, hx => cases he; cases hx; exact hfin'.out hh (hf'.rd u d' hd')
    | 2, he, hx => cases he; cases hx; exact hfin2.out hh (hf'.rd v d2 hd2)) h
end
def plC (l : Cx) (s : List Vx) : Int := if chkC l ≠ 0 then chkC l else chkV s
theorem place27_p (l : Cx) (s : List Vx) : Fn Tryz.prog 85 [dS Cpx l, dS Verts s] (dI (plC l s)) := by
  (refine Fn.intro1 Tryz.func85 rfl rfl ?_; simp only [Tryz.ntmps85, List.length_cons, List.length_nil, Nat.reduceAdd, Nat.reduceSub, List.replicate_succ, List.replicate_zero, List.cons_append, List.nil_append])
  ((repeat' (first | (apply WL.opG; (focus (apply SYG.yes; (exact want_none rfl); (first | (apply SY.move <;> (exact oD)) | (apply SY.assign <;> (exact oD)) | (apply SY.load; (exact tD); (exact OpD.t rfl))))); dsimp only [setD, z0, z1]) | refine WL.nil ?_ | refine WC.seqK fun Kx hK => ?_ | (refine hK _ _ ?_; clear hK) | refine WC.region ?_ | (apply WL.opG; (focus (apply SYG.yes; (exact want_none rfl); ((first | (apply SY.call (check_p _) Tryz.call27; (exact aD)) | (apply SY.call (chk_p _) Tryz.call89; (exact aD)) | exact yNeq | exact yBox | fail); all_goals infer_instance))); dsimp only [setD, z0, z1]) | (apply WC.condN; (exact oD); (all_goals intro h); (all_goals try (exfalso; first | omega | contradiction))) | refine WC.skip ?_ | refine WC.ret ?_ | refine ThenD.r ?_)); all_goals (first | refine WC.id ?_ | refine WL.id ?_ | refine WDs.id ?_ | ((repeat clear hK); (repeat clear Kx))))
  all_goals ((refine ⟨trivial, _, rfl, ?_⟩; (first | exact fD | refine FinD.i ?_ | refine FinD.b ?_ | refine FinD.rowKE (.head _) ?_ | refine FinD.rowE (.head _) ?_ | refine FinD.nilKE (by decide) ?_ | refine FinD.nilE ?_ | refine FinD.s ?_)) <;> ((unfold plC; (repeat' split)) <;> (first | rfl | (exfalso; first | contradiction | omega) | (simp_all; done))))
def twoC (a b : Cx) : Int := if chkC a ≠ 0 then chkC a else chkC b
theorem both27_p (a b : Cx) : Fn Tryz.prog 78 [dS Cpx a, dS Cpx b] (dI (twoC a b)) := by
  (refine Fn.intro1 Tryz.func78 rfl rfl ?_; simp only [Tryz.ntmps78, List.length_cons, List.length_nil, Nat.reduceAdd, Nat.reduceSub, List.replicate_succ, List.replicate_zero, List.cons_append, List.nil_append])
  ((repeat' (first | (apply WL.opG; (focus (apply SYG.yes; (exact want_none rfl); (first | (apply SY.move <;> (exact oD)) | (apply SY.assign <;> (exact oD)) | (apply SY.load; (exact tD); (exact OpD.t rfl))))); dsimp only [setD, z0, z1]) | refine WL.nil ?_ | refine WC.seqK fun Kx hK => ?_ | (refine hK _ _ ?_; clear hK) | refine WC.region ?_ | (apply WL.opG; (focus (apply SYG.yes; (exact want_none rfl); ((first | (apply SY.call (check_p _) Tryz.call27; (exact aD)) | exact yNeq | exact yBox | fail); all_goals infer_instance))); dsimp only [setD, z0, z1]) | (apply WC.condN; (exact oD); (all_goals intro h); (all_goals try (exfalso; first | omega | contradiction))) | refine WC.skip ?_ | refine WC.ret ?_ | refine ThenD.r ?_)); all_goals (first | refine WC.id ?_ | refine WL.id ?_ | refine WDs.id ?_ | ((repeat clear hK); (repeat clear Kx))))
  all_goals ((refine ⟨trivial, _, rfl, ?_⟩; (first | exact fD | refine FinD.i ?_ | refine FinD.b ?_ | refine FinD.rowKE (.head _) ?_ | refine FinD.rowE (.head _) ?_ | refine FinD.nilKE (by decide) ?_ | refine FinD.nilE ?_ | refine FinD.s ?_)) <;> ((unfold twoC; (repeat' split)) <;> (first | rfl | (exfalso; first | contradiction | omega) | (simp_all; done))))
theorem plC_good {l : Cx} {s : List Vx} (h : plC l s = 0) : GoodX l ∧ chkV s = 0 := by
  unfold plC at h
  by_cases h1 : chkC l ≠ 0
  · rw [if_pos h1] at h; exact absurd h h1
  · rw [if_neg h1] at h; exact ⟨goodX_iff.1 (by omega), h⟩
theorem GoodX.len {l : Cx} (h : GoodX l) : l.length ≤ 1000000 := Nat.le_trans h.1 (by decide)
theorem GoodX.short {l : Cx} (h : GoodX l) : ∀ s ∈ l, s.length ≤ 8 := fun s hs => len_chk (h.2.2.1 s hs)
theorem around_of {l : Cx} {s : List Vx} (h : plC l s = 0) : l.filter (faceG s) = aroundC l s := around_eq (plC_good h).1.asc (chkV_zero.1 (plC_good h).2).2.2.2
theorem place_of {l : Cx} {s : List Vx} : placeC l s = if plC l s ≠ 0 then plC l s else if hasC' l s = true then 0 else 6 := by
  unfold placeC plC
  by_cases h : chkC l ≠ 0
  · simp [h]
  · simp [h]
theorem dimensionX_p (l : Cx) : Fn Tryz.prog 32 [dS Cpx l] (dT [dI (if chkC l ≠ 0 then 0 else dimC l), dB (if chkC l ≠ 0 then false else sizeP l), dI (chkC l)]) := by
  (refine Fn.intro3 Tryz.func32 rfl rfl ?_; simp only [Tryz.ntmps32, List.length_cons, List.length_nil, Nat.reduceAdd, Nat.reduceSub, List.replicate_succ, List.replicate_zero, List.cons_append, List.nil_append])
  by_cases h0 : chkC l = 0
  · have hg := goodX_iff.1 h0
    have e := pure_size hg.2.2.1
    have hd : Fn Tryz.prog 83 [dS Cpx l] (dT [dI (dimC l), dB (sizeP l)]) := by
      have := dimension_p l (fun s hs => Nat.le_trans (hg.short s hs) (by decide))
      rwa [most_dim, e] at this
    ((repeat' (first | (apply WL.opG; (focus (apply SYG.yes; (exact want_none rfl); (first | (apply SY.move <;> (exact oD)) | (apply SY.assign <;> (exact oD)) | (apply SY.load; (exact tD); (exact OpD.t rfl))))); dsimp only [setD, z0, z1]) | refine WL.nil ?_ | refine WC.seqK fun Kx hK => ?_ | (refine hK _ _ ?_; clear hK) | refine WC.region ?_ | (apply WL.opG; (focus (apply SYG.yes; (exact want_none rfl); ((first | (apply SY.call (check_p _) Tryz.call27; (exact aD)) | (apply SY.call (hd) Tryz.call83; (exact aD)) | exact yNeq | exact yExtract | exact yBox | fail); all_goals infer_instance))); dsimp only [setD, z0, z1]) | (apply WC.condN; (exact oD); (all_goals intro h); (all_goals try (exfalso; first | omega | contradiction))) | refine WC.skip ?_ | refine WC.ret ?_)); all_goals (first | refine WC.id ?_ | refine WL.id ?_ | refine WDs.id ?_ | ((repeat clear hK); (repeat clear Kx))))
    rw [if_neg (by omega), if_neg (by omega)]
    (refine ⟨trivial, ⟨_, rfl, ?_⟩, ⟨_, rfl, ?_⟩, _, rfl, ?_⟩ <;> (first | exact fD | refine FinD.i ?_ | refine FinD.b ?_ | refine FinD.rowKE (.head _) ?_ | refine FinD.rowE (.head _) ?_ | refine FinD.nilKE (by decide) ?_ | refine FinD.nilE ?_ | refine FinD.s ?_))
    exact h0.symm
  · ((repeat' (first | (apply WL.opG; (focus (apply SYG.yes; (exact want_none rfl); (first | (apply SY.move <;> (exact oD)) | (apply SY.assign <;> (exact oD)) | (apply SY.load; (exact tD); (exact OpD.t rfl))))); dsimp only [setD, z0, z1]) | refine WL.nil ?_ | refine WC.seqK fun Kx hK => ?_ | (refine hK _ _ ?_; clear hK) | refine WC.region ?_ | (apply WL.opG; (focus (apply SYG.yes; (exact want_none rfl); ((first | (apply SY.call (check_p _) Tryz.call27; (exact aD)) | exact yNeq | exact yBox | fail); all_goals infer_instance))); dsimp only [setD, z0, z1]) | (apply WC.condN; (exact oD); (all_goals intro h); (all_goals try (exfalso; first | omega | contradiction))) | refine WC.ret ?_ | refine ThenD.r ?_)); all_goals (first | refine WC.id ?_ | refine WL.id ?_ | refine WDs.id ?_ | ((repeat clear hK); (repeat clear Kx))))
    rw [if_pos h0, if_pos h0]
    (refine ⟨trivial, ⟨_, rfl, ?_⟩, ⟨_, rfl, ?_⟩, _, rfl, ?_⟩ <;> (first | exact fD | refine FinD.i ?_ | refine FinD.b ?_ | refine FinD.rowKE (.head _) ?_ | refine FinD.rowE (.head _) ?_ | refine FinD.nilKE (by decide) ?_ | refine FinD.nilE ?_ | refine FinD.s ?_))
def errC : Cx → Int
  | [] => 0
  | s :: l => if chkV s ≠ 0 then chkV s else errC l
theorem errC_drop {l : Cx} {k : Nat} (h : k < l.length) : errC (l.drop k) = if chkV l[k] ≠ 0 then chkV l[k] else errC (l.drop (k + 1)) := by rw [drop_cons' h]; rfl
theorem errC_zero : ∀ {l : Cx}, errC l = 0 → ∀ s ∈ l, chkV s = 0
  | [], _, s, hs => by cases hs
  | x :: l, h, s, hs => by
    unfold errC at h
    by_cases h1 : chkV x ≠ 0
    · rw [if_pos h1] at h; exact absurd h h1
    · rw [if_neg h1] at h
      rcases List.mem_cons.1 hs with rfl | hs
      · omega
      · exact errC_zero h s hs
def ofP (l : Cx) : Cx × Int := if 4096 < l.length then ([], 5) else if errC l ≠ 0 then ([], errC l) else (maxC l, 0)
theorem of27_p (l : Cx) : Fn Tryz.prog 25 [dS Simps l] (dT [dS Cpx (ofP l).1, dI (ofP l).2]) := by
  (refine Fn.introC2 tyC Tryz.func25 rfl rfl ?_; simp only [Tryz.ntmps25, List.length_cons, List.length_nil, Nat.reduceAdd, Nat.reduceSub, List.replicate_succ, List.replicate_zero, List.cons_append, List.nil_append])
  ((repeat' (first | (apply WL.opG; (focus (apply SYG.yes; (exact want_none rfl); (first | (apply SY.move <;> (exact oD)) | (apply SY.assign <;> (exact oD)) | (apply SY.load; (exact tD); (exact OpD.t rfl))))); dsimp only [setD, z0, z1]) | refine WL.nil ?_ | refine WC.seqK fun Kx hK => ?_ | (refine hK _ _ ?_; clear hK) | refine WC.region ?_ | (apply WL.alloc; (first | exact tzV | exact tzC); (first | exact shape_X rfl | exact shape_XV | exact shape_C0 rfl); (intro _; dsimp only [setD, z0, z1])) | (apply WL.storeF; (exact tD); rfl; (exact oD); (exact hD); dsimp only [setD, z0, z1]) | (apply WL.opG; (focus (apply SYG.yes; (exact want_none rfl); ((first | exact yGtr | exact yLen | exact yBuild | fail); all_goals infer_instance))); dsimp only [setD, z0, z1]) | (apply WC.condD; (exact oD); (all_goals intro h); (all_goals try (exfalso; first | omega | contradiction))) | refine WC.skip ?_ | refine WC.ret ?_ | refine WC.block ?_ | refine ThenD.r ?_)); all_goals (first | refine WC.id ?_ | refine WL.id ?_ | refine WDs.id ?_ | ((repeat clear hK); (repeat clear Kx))))
  · have e : ofP l = ([], 5) := by unfold ofP; rw [if_pos (by omega)]
    rw [e]; (refine ⟨trivial, ⟨_, rfl, ?_⟩, _, rfl, ?_⟩ <;> (first | exact fD | refine FinD.i ?_ | refine FinD.b ?_ | refine FinD.rowKE (.head _) ?_ | refine FinD.rowE (.head _) ?_ | refine FinD.nilKE (by decide) ?_ | refine FinD.nilE ?_ | refine FinD.s ?_))
  · rename Nat => b0
    (refine WC.loopU (X := Nat) (fun k => [(13, dI (k : Int)), (3, dA), (5, dA), (6, dA), (14, dA), (15, dA), (16, dA), (17, dA), (18, dA), (19, dA), (20, dA), (21, dA), (22, dA), (23, dA)]) (fun k => [hCell b0 24 1 true (dX (.agg #[.slice none 0 0]))]) (fun k => l.length - k) (fun k => k ≤ l.length ∧ errC l = errC (l.drop k)) 0 ?start ?frame0 ?objs0 ?round)
    case start => exact ⟨Nat.zero_le _, rfl⟩
    case frame0 => ((try dsimp only [upds, z0, z1]); repeat (first | exact LeF.nil | refine LeF.cons (by first | with_reducible exact Dat.le_any _ | with_reducible exact Dat.le_refl _ | exact le_ii (by omega) | exact Dat.le_nil | exact Dat.le_nilK (by decide) | assumption | exact Dat.le_refl _ | exact le_eq (by simp)) ?_))
    case objs0 => rfl
    case round =>
      rintro k ⟨h1, h2⟩
      dsimp only [upds, z0, z1]
      by_cases hz : errC l = 0
      · have hg := errC_zero hz
        have hl : l.length ≤ 1000000 := by omega
        ((repeat' (first | (apply WL.opG; (focus (apply SYG.yes; (exact want_none rfl); (first | (apply SY.move <;> (exact oD)) | (apply SY.assign <;> (exact oD)) | (apply SY.load; (exact tD); (exact OpD.t rfl))))); dsimp only [setD, z0, z1]) | refine WL.nil ?_ | refine WC.seqK fun Kx hK => ?_ | (refine hK _ _ ?_; clear hK) | (refine Kont.skip ?_; clear hK) | refine WC.region ?_ | (apply WL.storeF; (exact tD); rfl; (exact oD); (exact hD); dsimp only [setD, z0, z1]) | (apply WL.opG; (focus (apply SYG.yes; (exact want_none rfl); ((first | (apply SY.call (chk_p _) Tryz.call89; (exact aD)) | (apply SY.call (complexOf_p l hg hl) Tryz.call79; (exact aD)) | exact yLss | exact yNeq | exact yAdd | exact yIndexaddr | exact yBuild | fail); all_goals infer_instance))); dsimp only [setD, z0, z1]) | (apply WC.condD; (exact oD); (all_goals intro h); (all_goals try (exfalso; first | omega | contradiction))) | (apply WC.condN; (exact oD); (all_goals intro h); (all_goals try (exfalso; first | omega | contradiction))) | refine WC.skip ?_ | refine WC.ret ?_ | refine WC.exit ?_ | refine WC.block ?_ | refine ThenD.n ?_ | refine ThenD.r ?_ | refine InBlockD.r ?_)); all_goals (first | refine WC.id ?_ | refine WL.id ?_ | refine WDs.id ?_ | ((repeat clear hK); (repeat clear Kx))))
        · exfalso
          have := hg _ (List.getElem_mem (show k < l.length by omega))
          omega
        · (refine ⟨k + 1, ?_, by first | omega | (simp only; omega), rfl, ?_⟩; rotate_left; ((try dsimp only [upds, z0, z1]); repeat (first | exact LeF.nil | refine LeF.cons (by first | with_reducible exact Dat.le_any _ | with_reducible exact Dat.le_refl _ | exact le_ii (by omega) | exact Dat.le_nil | exact Dat.le_nilK (by decide) | assumption | exact Dat.le_refl _ | exact le_eq (by simp)) ?_)); (try dsimp only))
          refine ⟨by omega, ?_⟩
          rw [h2, errC_drop (by omega), if_neg (by omega)]
        · have e : ofP l = (maxC l, 0) := by unfold ofP; rw [if_neg (by omega), if_neg (by omega)]
          rw [e]; (refine ⟨trivial, ⟨_, rfl, ?_⟩, _, rfl, ?_⟩ <;> (first | exact fD | refine FinD.i ?_ | refine FinD.b ?_ | refine FinD.rowKE (.head _) ?_ | refine FinD.rowE (.head _) ?_ | refine FinD.nilKE (by decide) ?_ | refine FinD.nilE ?_ | refine FinD.s ?_))
      · have hk : k < l.length := by
          rcases Nat.lt_or_ge k l.length with h | h
          · exact h
          · rw [List.drop_of_length_le h] at h2; exact absurd h2 hz
        ((repeat' (first | (apply WL.opG; (focus (apply SYG.yes; (exact want_none rfl); (first | (apply SY.move <;> (exact oD)) | (apply SY.assign <;> (exact oD)) | (apply SY.load; (exact tD); (exact OpD.t rfl))))); dsimp only [setD, z0, z1]) | refine WL.nil ?_ | refine WC.seqK fun Kx hK => ?_ | (refine hK _ _ ?_; clear hK) | refine WC.region ?_ | (apply WL.storeF; (exact tD); rfl; (exact oD); (exact hD); dsimp only [setD, z0, z1]) | (apply WL.opG; (focus (apply SYG.yes; (exact want_none rfl); ((first | (apply SY.call (chk_p _) Tryz.call89; (exact aD)) | exact yLss | exact yNeq | exact yAdd | exact yIndexaddr | exact yBuild | fail); all_goals infer_instance))); dsimp only [setD, z0, z1]) | (apply WC.condD; (exact oD); (all_goals intro h); (all_goals try (exfalso; first | omega | contradiction))) | (apply WC.condN; (exact oD); (all_goals intro h); (all_goals try (exfalso; first | omega | contradiction))) | refine WC.skip ?_ | refine WC.ret ?_ | refine WC.block ?_ | refine ThenD.n ?_ | refine ThenD.r ?_ | refine InBlockD.r ?_)); all_goals (first | refine WC.id ?_ | refine WL.id ?_ | refine WDs.id ?_ | ((repeat clear hK); (repeat clear Kx))))
        · have e : ofP l = ([], errC l) := by unfold ofP; rw [if_neg (by omega), if_pos hz]
          rw [e, h2, errC_drop (by omega), if_pos h]; (refine ⟨trivial, ⟨_, rfl, ?_⟩, _, rfl, ?_⟩ <;> (first | exact fD | refine FinD.i ?_ | refine FinD.b ?_ | refine FinD.rowKE (.head _) ?_ | refine FinD.rowE (.head _) ?_ | refine FinD.nilKE (by decide) ?_ | refine FinD.nilE ?_ | refine FinD.s ?_))
        · (refine ⟨k + 1, ?_, by first | omega | (simp only; omega), rfl, ?_⟩; rotate_left; ((try dsimp only [upds, z0, z1]); repeat (first | exact LeF.nil | refine LeF.cons (by first | with_reducible exact Dat.le_any _ | with_reducible exact Dat.le_refl _ | exact le_ii (by omega) | exact Dat.le_nil | exact Dat.le_nilK (by decide) | assumption | exact Dat.le_refl _ | exact le_eq (by simp)) ?_)); (try dsimp only))
          refine ⟨by omega, ?_⟩
          rw [h2, errC_drop (by omega), if_neg (by omega)]
theorem star27_p (l : Cx) (s : List Vx) : Fn Tryz.prog 39 [dS Cpx l, dS Verts s] (dT [dS Cpx (starC l s).1, dI (starC l s).2]) := by
  (refine Fn.introC2 tyC Tryz.func39 rfl rfl ?_; simp only [Tryz.ntmps39, List.length_cons, List.length_nil, Nat.reduceAdd, Nat.reduceSub, List.replicate_succ, List.replicate_zero, List.cons_append, List.nil_append])
  by_cases h0 : plC l s = 0
  · have hg := (plC_good h0).1
    have ha := around_of h0
    have hpl : placeC l s = if hasC' l s = true then 0 else 6 := by rw [place_of, if_neg (by omega)]
    have har : Fn Tryz.prog 86 [dS Cpx l, dS Verts s] (dS Simps (aroundC l s)) := by
      have := around_p l s hg.len
      rwa [ha] at this
    have hga := around_good (s := s) hg
    ((repeat' (first | (apply WL.opG; (focus (apply SYG.yes; (exact want_none rfl); (first | (apply SY.move <;> (exact oD)) | (apply SY.assign <;> (exact oD)) | (apply SY.load; (exact tD); (exact OpD.t rfl))))); dsimp only [setD, z0, z1]) | refine WL.nil ?_ | refine WC.seqK fun Kx hK => ?_ | (refine hK _ _ ?_; clear hK) | refine WC.region ?_ | (apply WL.alloc; (first | exact tzV | exact tzC); (first | exact shape_X rfl | exact shape_XV | exact shape_C0 rfl); (intro _; dsimp only [setD, z0, z1])) | (apply WL.storeF; (exact tD); rfl; (exact oD); (exact hD); dsimp only [setD, z0, z1]) | (apply WL.opG; (focus (apply SYG.yes; (exact want_none rfl); ((first | (apply SY.call (place27_p _ _) Tryz.call85; (exact aD)) | (apply SY.call (har) Tryz.call86; (exact aD)) | (apply SY.call (complexOf_p _ hga.2.2.1 hga.len) Tryz.call79; (exact aD)) | exact yEql | exact yNeq | exact yLen | exact yBuild | exact yBox | fail); all_goals infer_instance))); dsimp only [setD, z0, z1]) | (apply WC.condD; (exact oD); (all_goals intro h); (all_goals try (exfalso; first | omega | contradiction))) | (apply WC.condN; (exact oD); (all_goals intro h); (all_goals try (exfalso; first | omega | contradiction))) | refine WC.skip ?_ | refine WC.ret ?_ | refine ThenD.r ?_)); all_goals (first | refine WC.id ?_ | refine WL.id ?_ | refine WDs.id ?_ | ((repeat clear hK); (repeat clear Kx))))
    · have e : starC l s = ([], 6) := by
        have hp : placeC l s = 6 := by rw [hpl, has_around, if_neg (by rw [decide_eq_true_eq]; omega)]
        unfold starC
        rw [if_pos (by rw [hp]; decide), hp]
      rw [e]; (refine ⟨trivial, ⟨_, rfl, ?_⟩, _, rfl, ?_⟩ <;> (first | exact fD | refine FinD.i ?_ | refine FinD.b ?_ | refine FinD.rowKE (.head _) ?_ | refine FinD.rowE (.head _) ?_ | refine FinD.nilKE (by decide) ?_ | refine FinD.nilE ?_ | refine FinD.s ?_))
    · have e : starC l s = (aroundC l s, 0) := by
        have hp : placeC l s = 0 := by rw [hpl, has_around, if_pos (by rw [decide_eq_true_eq]; omega)]
        unfold starC
        rw [if_neg (by rw [hp]; decide)]
      rw [e, max_good hga]; (refine ⟨trivial, ⟨_, rfl, ?_⟩, _, rfl, ?_⟩ <;> (first | exact fD | refine FinD.i ?_ | refine FinD.b ?_ | refine FinD.rowKE (.head _) ?_ | refine FinD.rowE (.head _) ?_ | refine FinD.nilKE (by decide) ?_ | refine FinD.nilE ?_ | refine FinD.s ?_))
  · have e : starC l s = ([], plC l s) := by
      unfold starC
      rw [place_of, if_pos h0, if_pos h0]
    ((repeat' (first | (apply WL.opG; (focus (apply SYG.yes; (exact want_none rfl); (first | (apply SY.move <;> (exact oD)) | (apply SY.assign <;> (exact oD)) | (apply SY.load; (exact tD); (exact OpD.t rfl))))); dsimp only [setD, z0, z1]) | refine WL.nil ?_ | refine WC.seqK fun Kx hK => ?_ | (refine hK _ _ ?_; clear hK) | refine WC.region ?_ | (apply WL.alloc; (first | exact tzV | exact tzC); (first | exact shape_X rfl | exact shape_XV | exact shape_C0 rfl); (intro _; dsimp only [setD, z0, z1])) | (apply WL.storeF; (exact tD); rfl; (exact oD); (exact hD); dsimp only [setD, z0, z1]) | (apply WL.opG; (focus (apply SYG.yes; (exact want_none rfl); ((first | (apply SY.call (place27_p _ _) Tryz.call85; (exact aD)) | exact yNeq | exact yBuild | exact yBox | fail); all_goals infer_instance))); dsimp only [setD, z0, z1]) | (apply WC.condN; (exact oD); (all_goals intro h); (all_goals try (exfalso; first | omega | contradiction))) | refine WC.ret ?_ | refine ThenD.r ?_)); all_goals (first | refine WC.id ?_ | refine WL.id ?_ | refine WDs.id ?_ | ((repeat clear hK); (repeat clear Kx))))
    rw [e]; (refine ⟨trivial, ⟨_, rfl, ?_⟩, _, rfl, ?_⟩ <;> (first | exact fD | refine FinD.i ?_ | refine FinD.b ?_ | refine FinD.rowKE (.head _) ?_ | refine FinD.rowE (.head _) ?_ | refine FinD.nilKE (by decide) ?_ | refine FinD.nilE ?_ | refine FinD.s ?_))
theorem link1_p (v : Vx) (s : List Vx) : Fn Tryz.prog 88 ([dS RV v] ++ [dP 1 false (dS Verts s)]) (dB (!decide (v ∈ s))) := by
  show Fn Tryz.prog 88 [dS RV v, dP 1 false (dS Verts s)] _
  (refine Fn.intro1 Tryz.func88 rfl rfl ?_; simp only [Tryz.ntmps88, List.length_cons, List.length_nil, Nat.reduceAdd, Nat.reduceSub, List.replicate_succ, List.replicate_zero, List.cons_append, List.nil_append])
  ((repeat' (first | (apply WL.opG; (focus (apply SYG.yes; (exact want_none rfl); (first | (apply SY.assign <;> (exact oD)) | (apply SY.load; (exact tD); (exact OpD.t rfl))))); dsimp only [setD, z0, z1]) | refine WL.nil ?_ | refine WC.seqK fun Kx hK => ?_ | (refine hK _ _ ?_; clear hK) | refine WC.region ?_ | (apply WL.opG; (focus (apply SYG.yes; (exact want_none rfl); ((first | (apply SY.call (cnt_p _ _) Tryz.call73; (exact aD)) | exact yNot | exact yBox | fail); all_goals infer_instance))); dsimp only [setD, z0, z1]) | refine WC.ret ?_)); all_goals (first | refine WC.id ?_ | refine WL.id ?_ | refine WDs.id ?_ | ((repeat clear hK); (repeat clear Kx))))
  all_goals (refine ⟨trivial, _, rfl, ?_⟩; (first | exact fD | refine FinD.i ?_ | refine FinD.b ?_ | refine FinD.rowKE (.head _) ?_ | refine FinD.rowE (.head _) ?_ | refine FinD.nilKE (by decide) ?_ | refine FinD.nilE ?_ | refine FinD.s ?_))
theorem shared_not (a b : List Vx) : sharedV a b false = a.filter fun v => !decide (v ∈ b) := by
  unfold sharedV
  congr 1
  funext x
  simp
theorem link27_p (l : Cx) (s : List Vx) : Fn Tryz.prog 22 [dS Cpx l, dS Verts s] (dT [dS Cpx (linkC l s).1, dI (linkC l s).2]) := by
  (refine Fn.introC2 tyC Tryz.func22 rfl rfl ?_; simp only [Tryz.ntmps22, List.length_cons, List.length_nil, Nat.reduceAdd, Nat.reduceSub, List.replicate_succ, List.replicate_zero, List.cons_append, List.nil_append])
  by_cases h0 : plC l s = 0
  · have hg := (plC_good h0).1
    have ha := around_of h0
    have hpl : placeC l s = if hasC' l s = true then 0 else 6 := by rw [place_of, if_neg (by omega)]
    have har : Fn Tryz.prog 86 [dS Cpx l, dS Verts s] (dS Simps (aroundC l s)) := by
      have := around_p l s hg.len
      rwa [ha] at this
    have hga := around_good (s := s) hg
    have heg := each_good (p := fun v => !decide (v ∈ s)) hga.2.2.1
    have hel : (eachC (fun v => !decide (v ∈ s)) (aroundC l s)).length ≤ 1000000 := by
      unfold eachC
      have h1 := List.length_filter_le (fun s : List Vx => decide (0 < s.length)) ((aroundC l s).map fun f => f.filter fun v => !decide (v ∈ s))
      rw [List.length_map] at h1
      have := hga.len
      omega
    ((repeat' (first | (apply WL.opG; (focus (apply SYG.yes; (exact want_none rfl); (first | (apply SY.move <;> (exact oD)) | (apply SY.assign <;> (exact oD)) | (apply SY.load; (exact tD); (exact OpD.t rfl))))); dsimp only [setD, z0, z1]) | refine WL.nil ?_ | refine WC.seqK fun Kx hK => ?_ | (refine hK _ _ ?_; clear hK) | refine WC.region ?_ | (apply WL.alloc; (first | exact tzV | exact tzC); (first | exact shape_X rfl | exact shape_XV | exact shape_C0 rfl); (intro _; dsimp only [setD, z0, z1])) | (apply WL.storeF; (exact tD); rfl; (exact oD); (exact hD); dsimp only [setD, z0, z1]) | (apply WL.opG; (focus (apply SYG.yes; (exact want_none rfl); ((first | (apply SY.call (place27_p _ _) Tryz.call85; (exact aD)) | (apply SY.call (har) Tryz.call86; (exact aD)) | (apply SY.makeFun (A := fun v : VxOf (fun _ => True) => [dS RV v.1]) (r := fun v => dB (!decide (v.1 ∈ s))) Tryz.call88 (fun v => link1_p v.1 s) (fun _ => bare_B); (exact aD)) | (apply SY.call (each_p (fun _ => True) (aroundC l s) (fun v => !decide (v ∈ s)) (fun _ _ _ _ => trivial) (fun f hf => Nat.le_trans (hga.short f hf) (by decide)) hga.len) Tryz.call87; (exact aD)) | (apply SY.call (complexOf_p _ heg hel) Tryz.call79; (exact aD)) | exact yEql | exact yNeq | exact yLen | exact yBuild | exact yBox | fail); all_goals infer_instance))); dsimp only [setD, z0, z1]) | (apply WC.condD; (exact oD); (all_goals intro h); (all_goals try (exfalso; first | omega | contradiction))) | (apply WC.condN; (exact oD); (all_goals intro h); (all_goals try (exfalso; first | omega | contradiction))) | refine WC.skip ?_ | refine WC.ret ?_ | refine ThenD.r ?_)); all_goals (first | refine WC.id ?_ | refine WL.id ?_ | refine WDs.id ?_ | ((repeat clear hK); (repeat clear Kx))))
    · have e : linkC l s = ([], 6) := by
        have hp : placeC l s = 6 := by rw [hpl, has_around, if_neg (by rw [decide_eq_true_eq]; omega)]
        unfold linkC
        rw [if_pos (by rw [hp]; decide), hp]
      rw [e]; (refine ⟨trivial, ⟨_, rfl, ?_⟩, _, rfl, ?_⟩ <;> (first | exact fD | refine FinD.i ?_ | refine FinD.b ?_ | refine FinD.rowKE (.head _) ?_ | refine FinD.rowE (.head _) ?_ | refine FinD.nilKE (by decide) ?_ | refine FinD.nilE ?_ | refine FinD.s ?_))
    · have e : linkC l s = (maxC ((aroundC l s).map fun f => sharedV f s false), 0) := by
        have hp : placeC l s = 0 := by rw [hpl, has_around, if_pos (by rw [decide_eq_true_eq]; omega)]
        unfold linkC
        rw [if_neg (by rw [hp]; decide)]
      have e2 : (fun f : List Vx => sharedV f s false) = fun f => f.filter fun v => !decide (v ∈ s) := funext fun f => shared_not f s
      rw [e, e2, ← max_each]; (refine ⟨trivial, ⟨_, rfl, ?_⟩, _, rfl, ?_⟩ <;> (first | exact fD | refine FinD.i ?_ | refine FinD.b ?_ | refine FinD.rowKE (.head _) ?_ | refine FinD.rowE (.head _) ?_ | refine FinD.nilKE (by decide) ?_ | refine FinD.nilE ?_ | refine FinD.s ?_))
  · have e : linkC l s = ([], plC l s) := by
      unfold linkC
      rw [place_of, if_pos h0, if_pos h0]
    ((repeat' (first | (apply WL.opG; (focus (apply SYG.yes; (exact want_none rfl); (first | (apply SY.move <;> (exact oD)) | (apply SY.assign <;> (exact oD)) | (apply SY.load; (exact tD); (exact OpD.t rfl))))); dsimp only [setD, z0, z1]) | refine WL.nil ?_ | refine WC.seqK fun Kx hK => ?_ | (refine hK _ _ ?_; clear hK) | refine WC.region ?_ | (apply WL.alloc; (first | exact tzV | exact tzC); (first | exact shape_X rfl | exact shape_XV | exact shape_C0 rfl); (intro _; dsimp only [setD, z0, z1])) | (apply WL.storeF; (exact tD); rfl; (exact oD); (exact hD); dsimp only [setD, z0, z1]) | (apply WL.opG; (focus (apply SYG.yes; (exact want_none rfl); ((first | (apply SY.call (place27_p _ _) Tryz.call85; (exact aD)) | exact yNeq | exact yBuild | exact yBox | fail); all_goals infer_instance))); dsimp only [setD, z0, z1]) | (apply WC.condN; (exact oD); (all_goals intro h); (all_goals try (exfalso; first | omega | contradiction))) | refine WC.ret ?_ | refine ThenD.r ?_)); all_goals (first | refine WC.id ?_ | refine WL.id ?_ | refine WDs.id ?_ | ((repeat clear hK); (repeat clear Kx))))
    rw [e]; (refine ⟨trivial, ⟨_, rfl, ?_⟩, _, rfl, ?_⟩ <;> (first | exact fD | refine FinD.i ?_ | refine FinD.b ?_ | refine FinD.rowKE (.head _) ?_ | refine FinD.rowE (.head _) ?_ | refine FinD.nilKE (by decide) ?_ | refine FinD.nilE ?_ | refine FinD.s ?_))
end Go.Proofs.YtkedmlandjlogaaGreat
