/- Part 16: walks by contracts, and plain laws. -/
import Derived.Test.YtgppfikidagfpaaGreatDoorVf15
set_option linter.unusedVariables false
set_option linter.unusedSimpArgs false
set_option linter.unusedSectionVars false
namespace Go.Proofs.YtgppfikidagfpaaGreatDoor
open Go.RowKit
set_option maxHeartbeats 2000000

theorem possible_p (x : Vx) : Fn Tryz.prog 129 [dS RV x] (dB (rngV x)) := by
  (refine Fn.intro1 Tryz.func129 rfl rfl ?_; simp only [Tryz.ntmps129, List.length_cons, List.length_nil, Nat.reduceAdd, Nat.reduceSub, List.replicate_succ, List.replicate_zero, List.cons_append, List.nil_append])
  ((repeat' (first | (apply WL.opN; exact yF; dsimp only [setD, z0, z1]) | refine WL.nil ?_ | refine WC.seqK fun Kx hK => ?_ | (refine hK _ _ ?_; clear hK) | refine WC.region ?_ | (apply WL.opG; (focus (first | exact wN | (apply SYG.yes; (exact wY); ((first | exact yLss | exact yLeq | exact yGeq | exact yLoad | exact yFieldaddr | exact yPick | exact yBox | fail); all_goals infer_instance)))); dsimp only [setD, z0, z1]) | ((first | refine WL.caseP rfl rfl rfl (fun h => ?_) (fun h => ?_) | refine WL.caseN rfl rfl rfl (fun h => ?_) (fun h => ?_) | refine WL.caseB rfl rfl rfl (fun h => ?_) (fun h => ?_)) <;> (first | (exfalso; first | omega | contradiction) | (dsimp only [z0, z1]))) | refine WC.ret ?_)); all_goals (first | ((repeat clear hK); (repeat clear Kx))))
  all_goals ((refine ⟨trivial, _, rfl, ?_⟩; refine FinD.b ?_); unfold rngV; simp [*])
theorem nan_p (x : Int) : Fn Tryz.prog 177 [dI x] (dB false) := by
  (refine Fn.intro1 Tryz.func177 rfl rfl ?_; simp only [Tryz.ntmps177, List.length_cons, List.length_nil, Nat.reduceAdd, Nat.reduceSub, List.replicate_succ, List.replicate_zero, List.cons_append, List.nil_append])
  ((repeat' (first | (apply WL.opN; exact yF; dsimp only [setD, z0, z1]) | refine WL.nil ?_ | refine WC.seqK fun Kx hK => ?_ | (refine hK _ _ ?_; clear hK) | refine WC.region ?_ | (apply WL.opN; (focus ((first | exact yNeq | fail); all_goals infer_instance)); dsimp only [setD, z0, z1]) | refine WC.ret ?_)); all_goals (first | ((repeat clear hK); (repeat clear Kx))))
  all_goals ((refine ⟨trivial, _, rfl, ?_⟩; refine FinD.b ?_); simp)
def cmpI (x y : Int) : Int := if x < y then -1 else if y < x then 1 else 0
theorem cmpI_p (x y : Int) : Fn Tryz.prog 155 [dI x, dI y] (dI (cmpI x y)) := by
  (refine Fn.intro1 Tryz.func155 rfl rfl ?_; simp only [Tryz.ntmps155, List.length_cons, List.length_nil, Nat.reduceAdd, Nat.reduceSub, List.replicate_succ, List.replicate_zero, List.cons_append, List.nil_append])
  ((repeat' (first | (apply WL.opN; exact yF; dsimp only [setD, z0, z1]) | refine WL.nil ?_ | refine WC.seqK fun Kx hK => ?_ | (refine hK _ _ ?_; clear hK) | refine WC.region ?_ | (apply WL.opN; (focus ((first | (apply SY.call (nan_p _) Tryz.call177; (exact aD)) | exact yLss | exact yGtr | fail); all_goals infer_instance)); dsimp only [setD, z0, z1]) | (apply WC.condF; (exact oD); (with_reducible rfl)) | (apply WC.condD; (exact oD); all_goals (intro h; try exact xD)) | refine WC.skip ?_ | refine WC.ret ?_ | refine ThenD.r ?_)); all_goals (first | ((repeat clear hK); (repeat clear Kx))))
  all_goals ((refine ⟨trivial, _, rfl, ?_⟩; refine FinD.i ?_); unfold cmpI; simp [*])
  all_goals omega
def orI : List Int → Int
  | [] => 0
  | x :: l => if x = 0 then orI l else x
theorem orI_drop {l : List Int} {k : Nat} (h : k < l.length) : orI (l.drop k) = if l[k] = 0 then orI (l.drop (k + 1)) else l[k] := by
  rw [List.drop_eq_getElem_cons h]; rfl
theorem orI_p (l : List Int) : Fn Tryz.prog 154 [dS Ints l] (dI (orI l)) := by
  (refine Fn.intro1 Tryz.func154 rfl rfl ?_; simp only [Tryz.ntmps154, List.length_cons, List.length_nil, Nat.reduceAdd, Nat.reduceSub, List.replicate_succ, List.replicate_zero, List.cons_append, List.nil_append])
  (repeat' (first | (apply WL.opN; exact yF; dsimp only [setD, z0, z1]) | refine WL.nil ?_ | refine WC.seqK fun Kx hK => ?_ | (refine hK _ _ ?_; clear hK) | refine WC.region ?_ | (apply WL.opN; (focus ((first | exact yLen | fail); all_goals infer_instance)); dsimp only [setD, z0, z1]) | refine WC.block ?_))
  (first | refine WC.know (t := 0) rfl le_K fun hl0 => ?_ | refine WC.know (t := 0) rfl le_A fun hl0 => ?_); simp only [maxLen] at hl0
  (refine WC.loopU (X := Nat) (fun k => [(8, dI (k : Int)), (2, dA), (5, dA), (9, dA), (10, dA), (11, dA), (12, dA), (13, dA), (14, dA), (15, dA), (16, dA)]) (fun k => []) (fun k => l.length - k) (fun k => k ≤ l.length ∧ orI l = orI (l.drop k)) 0 ?start ?frame0 ?objs0 ?round)
  case start => exact ⟨Nat.zero_le _, rfl⟩
  case frame0 => ((try dsimp only [upds, z0, z1]); repeat (first | exact LeF.nil | refine LeF.co (k := ?_)))
  case objs0 => rfl
  case round =>
    rintro k ⟨h1, h2⟩
    dsimp only [upds, z0, z1]
    ((repeat' (first | (apply WL.opN; exact yF; dsimp only [setD, z0, z1]) | refine WL.nil ?_ | refine WC.seqK fun Kx hK => ?_ | (refine hK _ _ ?_; clear hK) | (refine Kont.skip ?_; clear hK) | refine WC.region ?_ | (apply WL.opN; (focus ((first | exact yLss | exact yNeq | exact yAdd | exact yIndexaddr | fail); all_goals infer_instance)); dsimp only [setD, z0, z1]) | (apply WC.condD; (exact oD); all_goals (intro h; try exact xD)) | (apply WC.condN; (exact oD); all_goals (intro h; try exact xD)) | refine WC.skip ?_ | refine WC.ret ?_ | refine WC.exit ?_ | refine WC.block ?_ | refine ThenD.n ?_ | refine ThenD.r ?_ | refine InBlockD.r ?_)); all_goals (first | ((repeat clear hK); (repeat clear Kx))))
    · (refine ⟨trivial, _, rfl, ?_⟩; refine FinD.i ?_)
      rw [h2, orI_drop (by omega), if_neg h]
    · (refine ⟨k + 1, ?_, by first | omega | (simp only; omega), rfl, ?_⟩; rotate_left; ((try dsimp only [upds, z0, z1]); repeat (first | exact LeF.nil | refine LeF.co (k := ?_))); (try dsimp only))
      exact ⟨by omega, by rw [h2, orI_drop (by omega), if_pos h]⟩
    · (refine ⟨trivial, _, rfl, ?_⟩; refine FinD.i ?_)
      rw [h2, List.drop_of_length_le (by omega)]; rfl
theorem orE_p (l : List Int) : Fn Tryz.prog 126 [dS Ints l] (dI (orI l)) := by
  (refine Fn.intro1 Tryz.func126 rfl rfl ?_; simp only [Tryz.ntmps126, List.length_cons, List.length_nil, Nat.reduceAdd, Nat.reduceSub, List.replicate_succ, List.replicate_zero, List.cons_append, List.nil_append])
  (repeat' (first | (apply WL.opN; exact yF; dsimp only [setD, z0, z1]) | refine WL.nil ?_ | refine WC.seqK fun Kx hK => ?_ | (refine hK _ _ ?_; clear hK) | refine WC.region ?_ | (apply WL.opN; (focus ((first | exact yLen | fail); all_goals infer_instance)); dsimp only [setD, z0, z1]) | refine WC.block ?_))
  (first | refine WC.know (t := 0) rfl le_K fun hl0 => ?_ | refine WC.know (t := 0) rfl le_A fun hl0 => ?_); simp only [maxLen] at hl0
  (refine WC.loopU (X := Nat) (fun k => [(8, dI (k : Int)), (2, dA), (5, dA), (9, dA), (10, dA), (11, dA), (12, dA), (13, dA), (14, dA), (15, dA), (16, dA)]) (fun k => []) (fun k => l.length - k) (fun k => k ≤ l.length ∧ orI l = orI (l.drop k)) 0 ?start ?frame0 ?objs0 ?round)
  case start => exact ⟨Nat.zero_le _, rfl⟩
  case frame0 => ((try dsimp only [upds, z0, z1]); repeat (first | exact LeF.nil | refine LeF.co (k := ?_)))
  case objs0 => rfl
  case round =>
    rintro k ⟨h1, h2⟩
    dsimp only [upds, z0, z1]
    ((repeat' (first | (apply WL.opN; exact yF; dsimp only [setD, z0, z1]) | refine WL.nil ?_ | refine WC.seqK fun Kx hK => ?_ | (refine hK _ _ ?_; clear hK) | (refine Kont.skip ?_; clear hK) | refine WC.region ?_ | (apply WL.opN; (focus ((first | exact yLss | exact yNeq | exact yAdd | exact yIndexaddr | fail); all_goals infer_instance)); dsimp only [setD, z0, z1]) | (apply WC.condD; (exact oD); all_goals (intro h; try exact xD)) | (apply WC.condN; (exact oD); all_goals (intro h; try exact xD)) | refine WC.skip ?_ | refine WC.ret ?_ | refine WC.exit ?_ | refine WC.block ?_ | refine ThenD.n ?_ | refine ThenD.r ?_ | refine InBlockD.r ?_)); all_goals (first | ((repeat clear hK); (repeat clear Kx))))
    · (refine ⟨trivial, _, rfl, ?_⟩; refine FinD.i ?_)
      rw [h2, orI_drop (by omega), if_neg h]
    · (refine ⟨k + 1, ?_, by first | omega | (simp only; omega), rfl, ?_⟩; rotate_left; ((try dsimp only [upds, z0, z1]); repeat (first | exact LeF.nil | refine LeF.co (k := ?_))); (try dsimp only))
      exact ⟨by omega, by rw [h2, orI_drop (by omega), if_pos h]⟩
    · (refine ⟨trivial, _, rfl, ?_⟩; refine FinD.i ?_)
      rw [h2, List.drop_of_length_le (by omega)]; rfl
theorem cmpV_or (x y : Vx) : orI [cmpI x.1 y.1, cmpI x.2 y.2] = cmpV x y := by
  unfold cmpV cmpI orI orI orI
  repeat' split
  all_goals first | rfl | omega
theorem order_p (x y : Vx) : Fn Tryz.prog 130 [dS RV x, dS RV y] (dI (cmpV x y)) := by
  (refine Fn.intro1 Tryz.func130 rfl rfl ?_; simp only [Tryz.ntmps130, List.length_cons, List.length_nil, Nat.reduceAdd, Nat.reduceSub, List.replicate_succ, List.replicate_zero, List.cons_append, List.nil_append])
  ((repeat' (first | ((first | apply WL.opN | apply WD.opN); exact yF; dsimp only [setD, z0, z1]) | refine WL.nil ?_ | refine WD.nil ?_ | refine WC.seqK fun Kx hK => ?_ | (refine hK _ _ ?_; clear hK) | refine WC.region ?_ | (apply WC.draw; kernel_rfl; kernel_rfl) | ((first | apply WL.opN | apply WD.opN); (focus ((first | (apply SY.call (cmpI_p _ _) Tryz.call155; (exact aD)) | (apply SY.call (orI_p [_, _]) Tryz.call154; (exact aD)) | exact yFieldaddr | exact yBuildslice | exact yBox | fail); all_goals infer_instance)); dsimp only [setD, z0, z1]) | refine WC.ret ?_)); all_goals (first | ((repeat clear hK); (repeat clear Kx))))
  all_goals ((refine ⟨trivial, _, rfl, ?_⟩; refine FinD.i ?_); exact cmpV_or _ _)
set_option maxHeartbeats 4000000 in
theorem chk_p (s : List Vx) : Fn Tryz.prog 81 [dS Verts s] (dI (chkV s)) := by
  (refine Fn.intro1 Tryz.func81 rfl rfl ?_; simp only [Tryz.ntmps81, List.length_cons, List.length_nil, Nat.reduceAdd, Nat.reduceSub, List.replicate_succ, List.replicate_zero, List.cons_append, List.nil_append])
  ((repeat' (first | ((first | apply WL.opN | apply WD.opN); exact yF; dsimp only [setD, z0, z1]) | refine WL.nil ?_ | refine WC.seqK fun Kx hK => ?_ | (refine hK _ _ ?_; clear hK) | refine WC.region ?_ | ((first | apply WL.opG | apply WD.op); (focus (first | exact wN | (apply SYG.yes; (exact wY); ((first | exact yGtr | exact yEql | exact yLen | fail); all_goals infer_instance)))); dsimp only [setD, z0, z1]) | (apply WC.condD; (exact oD); all_goals (intro h; try exact xD)) | refine WC.skip ?_ | refine WC.ret ?_ | refine WC.block ?_ | refine ThenD.r ?_ | refine InBlockD.r ?_)); all_goals (first | refine WC.id ?_ | ((repeat clear hK); (repeat clear Kx))))
  · (refine ⟨trivial, _, rfl, ?_⟩; refine FinD.i ?_)
    unfold chkV; rw [if_pos (by omega)]
  · (refine ⟨trivial, _, rfl, ?_⟩; refine FinD.i ?_)
    unfold chkV; rw [if_neg (by omega), if_pos (by omega)]
  · rename_i h1 h2
    have hs : chkV s = chkG none s := by unfold chkV; rw [if_neg (by omega), if_neg (by omega)]
    (refine WC.loopU (X := Nat) (fun k => [(15, dI (k : Int)), (2, dA), (3, dA), (4, dA), (16, dA), (17, dA), (18, dA), (19, dA), (20, dA), (21, dA), (22, dA), (23, dA), (24, dA), (25, dA), (26, dA), (27, dA), (28, dA), (29, dA), (30, dA), (31, dA), (32, dA), (33, dA), (34, dA), (35, dA)]) (fun k => []) (fun k => s.length - k) (fun k => k ≤ s.length ∧ chkV s = chkG (s.take k).getLast? (s.drop k)) 0 ?start ?frame0 ?objs0 ?round)
    case start => exact ⟨Nat.zero_le _, by rw [hs]; rfl⟩
    case frame0 => ((try dsimp only [upds, z0, z1]); repeat (first | exact LeF.nil | refine LeF.co (k := ?_)))
    case objs0 => rfl
    case round =>
      rintro k ⟨h3, h4⟩
      dsimp only [upds, z0, z1]
      ((repeat' (first | ((first | apply WL.opN | apply WD.opN); exact yF; dsimp only [setD, z0, z1]) | refine WL.nil ?_ | refine WD.nil ?_ | refine WC.seqK fun Kx hK => ?_ | (refine hK _ _ ?_; clear hK) | (refine Kont.skip ?_; clear hK) | refine WC.region ?_ | (apply WC.draw; kernel_rfl; kernel_rfl) | (apply WL.alloc; (exact tzV); (first | exact shape_X rfl | exact shape_XV); (intro _; dsimp only [setD, z0, z1])) | (apply WL.storeF; (exact tD); rfl; (exact oD); (exact hD); dsimp only [setD, z0, z1]) | ((first | apply WL.opG | apply WD.op); (focus (first | exact wN | (apply SYG.yes; (exact wY); ((first | (apply SY.call (order_p _ _) Tryz.call130; (exact aD)) | (apply SY.call (possible_p _) Tryz.call129; (exact aD)) | (apply SY.ixKJ elV (OpD.t rfl) (OpD.t rfl) (k - 1); omega; omega) | exact yMove | exact yLss | exact yGtr | exact yGeq | exact yNot | exact yAdd | exact ySub | exact yLoad | exact yIndexaddr | exact yPick | fail); all_goals infer_instance)))); dsimp only [setD, z0, z1]) | ((first | refine WL.caseP rfl rfl rfl (fun h => ?_) (fun h => ?_) | refine WL.caseN rfl rfl rfl (fun h => ?_) (fun h => ?_) | refine WL.caseB rfl rfl rfl (fun h => ?_) (fun h => ?_) | refine WD.caseP rfl rfl rfl (fun h => ?_) (fun h => ?_) | refine WD.caseN rfl rfl rfl (fun h => ?_) (fun h => ?_) | refine WD.caseB rfl rfl rfl (fun h => ?_) (fun h => ?_)) <;> (first | (exfalso; first | omega | contradiction) | (dsimp only [z0, z1]))) | (apply WC.condF; (exact oD); (with_reducible rfl)) | (apply WC.condD; (exact oD); all_goals (intro h; try exact xD)) | (apply WC.condNB; (exact oD); all_goals (intro h; try exact xD)) | refine WC.skip ?_ | refine WC.ret ?_ | refine WC.exit ?_ | refine WC.block ?_ | refine ThenD.n ?_ | refine ThenD.r ?_ | refine InBlockD.r ?_)); all_goals (first | ((repeat clear hK); (repeat clear Kx))))
      all_goals try (rw [chkG_drop s k (by omega)] at h4)
      · (refine ⟨trivial, _, rfl, ?_⟩; refine FinD.i ?_)
        rw [h4, if_pos h]
      · (refine ⟨trivial, _, rfl, ?_⟩; refine FinD.i ?_)
        have h5 : rngV s[k] = true := by assumption
        rw [h4, if_neg (by simp [h5]), last_take _ _ (by omega) (by omega), if_pos (by simpa using h)]
      · (refine ⟨k + 1, ?_, by first | omega | (simp only; omega), rfl, ?_⟩; rotate_left; ((try dsimp only [upds, z0, z1]); repeat (first | exact LeF.nil | refine LeF.co (k := ?_))); (try dsimp only))
        refine ⟨by omega, ?_⟩
        have h5 : rngV s[k] = true := by assumption
        rw [h4, if_neg (by simp [h5]), last_take _ _ (by omega) (by omega), if_neg (by simpa using h)]
      · (refine ⟨k + 1, ?_, by first | omega | (simp only; omega), rfl, ?_⟩; rotate_left; ((try dsimp only [upds, z0, z1]); repeat (first | exact LeF.nil | refine LeF.co (k := ?_))); (try dsimp only))
        refine ⟨by omega, ?_⟩
        have h5 : rngV s[k] = true := by assumption
        have h0 : (s.take k).getLast? = none := by
          have : k = 0 := by omega
          rw [this]; rfl
        rw [h4, if_neg (by simp [h5]), h0]
        rfl
      · (refine ⟨trivial, _, rfl, ?_⟩; refine FinD.i ?_)
        rw [h4, List.drop_of_length_le (by omega)]
        rfl
theorem both_p (a b : List Vx) : Fn Tryz.prog 78 [dS Verts a, dS Verts b] (dI (orI [chkV a, chkV b])) := by
  (refine Fn.intro1 Tryz.func78 rfl rfl ?_; simp only [Tryz.ntmps78, List.length_cons, List.length_nil, Nat.reduceAdd, Nat.reduceSub, List.replicate_succ, List.replicate_zero, List.cons_append, List.nil_append])
  ((repeat' (first | (apply WL.opN; exact yF; dsimp only [setD, z0, z1]) | refine WL.nil ?_ | refine WC.seqK fun Kx hK => ?_ | (refine hK _ _ ?_; clear hK) | refine WC.region ?_ | (apply WL.opN; (focus ((first | (apply SY.call (chk_p _) Tryz.call81; (exact aD)) | (apply SY.call (orE_p [_, _]) Tryz.call126; (exact aD)) | exact yBuildslice | fail); all_goals infer_instance)); dsimp only [setD, z0, z1]) | refine WC.ret ?_)); all_goals (first | ((repeat clear hK); (repeat clear Kx))))
  all_goals (refine ⟨trivial, _, rfl, ?_⟩; exact fD)

end Go.Proofs.YtgppfikidagfpaaGreatDoor
namespace Go.Proofs.YtgppfikidagfpaaGreatDoor
open Go.RowKit
set_option maxHeartbeats 2000000

theorem tyF : TyI Tryz.prog 82 1 false := ⟨by kernel_rfl, Tryz.isAgg82⟩
theorem tyFL : TyI Tryz.prog 24 1 false := ⟨by kernel_rfl, Tryz.isAgg24⟩
abbrev dPred (p : Vx → Bool) : Dat := dFun Tryz.prog (fun v => [dS RV v]) (fun v => dB (p v))
def idxG {α : Type} (p : α → Bool) : Nat → List α → Int
  | _, [] => -1
  | k, x :: l => if p x = true then (k : Int) else idxG p (k + 1) l
theorem idxG_drop {α : Type} {p : α → Bool} {l : List α} {k : Nat} (h : k < l.length) : idxG p k (l.drop k) = if p l[k] = true then (k : Int) else idxG p (k + 1) (l.drop (k + 1)) := by
  rw [List.drop_eq_getElem_cons h]; rfl
theorem idxG_iff {α : Type} {p : α → Bool} : ∀ (l : List α) (k : Nat), decide (0 ≤ idxG p k l) = l.any p
  | [], k => by simp [idxG]
  | x :: l, k => by
    unfold idxG
    rw [List.any_cons]
    split
    · rename_i h; rw [h]; simp
    · rename_i h; rw [idxG_iff l]; simp [h]
theorem idx_p (l : List Vx) (v : Vx) : Fn Tryz.prog 29 [dS Verts l, dS RV v] (dI (idxG (fun y => decide (v = y)) 0 l)) := by
  (refine Fn.intro1 Tryz.func29 rfl rfl ?_; simp only [Tryz.ntmps29, List.length_cons, List.length_nil, Nat.reduceAdd, Nat.reduceSub, List.replicate_succ, List.replicate_zero, List.cons_append, List.nil_append])
  (repeat' (first | ((first | apply WL.opN | apply WD.opN); exact yF; dsimp only [setD, z0, z1]) | refine WL.nil ?_ | refine WC.seqK fun Kx hK => ?_ | (refine hK _ _ ?_; clear hK) | refine WC.region ?_ | ((first | apply WL.opN | apply WD.opN); (focus ((first | exact yLen | exact yBox | fail); all_goals infer_instance)); dsimp only [setD, z0, z1]) | refine WC.block ?_))
  (first | refine WC.know (t := 0) rfl le_K fun hl0 => ?_ | refine WC.know (t := 0) rfl le_A fun hl0 => ?_); simp only [maxLen] at hl0
  (refine WC.loopU (X := Nat) (fun k => [(8, dI (k : Int)), (4, dA), (5, dA), (9, dA), (10, dA), (11, dA), (12, dA), (13, dA), (14, dA), (15, dA), (16, dA), (17, dA), (18, dA)]) (fun k => []) (fun k => l.length - k) (fun k => k ≤ l.length ∧ idxG (fun y => decide (v = y)) 0 l = idxG (fun y => decide (v = y)) k (l.drop k)) 0 ?start ?frame0 ?objs0 ?round)
  case start => exact ⟨Nat.zero_le _, rfl⟩
  case frame0 => ((try dsimp only [upds, z0, z1]); repeat (first | exact LeF.nil | refine LeF.co (k := ?_)))
  case objs0 => rfl
  case round =>
    rintro k ⟨h1, h2⟩
    dsimp only [upds, z0, z1]
    ((repeat' (first | ((first | apply WL.opN | apply WD.opN); exact yF; dsimp only [setD, z0, z1]) | refine WL.nil ?_ | refine WD.nil ?_ | refine WC.seqK fun Kx hK => ?_ | (refine hK _ _ ?_; clear hK) | (refine Kont.skip ?_; clear hK) | refine WC.region ?_ | (apply WC.draw; kernel_rfl; kernel_rfl) | ((first | apply WL.opN | apply WD.opN); (focus ((first | exact yLss | exact yEql | exact yAdd | exact yIndexaddr | fail); all_goals infer_instance)); dsimp only [setD, z0, z1]) | (apply WC.condD; (exact oD); all_goals (intro h; try exact xD)) | refine WC.skip ?_ | refine WC.ret ?_ | refine WC.exit ?_ | refine WC.block ?_ | refine ThenD.n ?_ | refine ThenD.r ?_ | refine InBlockD.r ?_)); all_goals (first | ((repeat clear hK); (repeat clear Kx))))
    · (refine ⟨trivial, _, rfl, ?_⟩; refine FinD.i ?_)
      rw [h2, idxG_drop (by omega), if_pos (by simpa using h)]
    · (refine ⟨k + 1, ?_, by first | omega | (simp only; omega), rfl, ?_⟩; rotate_left; ((try dsimp only [upds, z0, z1]); repeat (first | exact LeF.nil | refine LeF.co (k := ?_))); (try dsimp only))
      exact ⟨by omega, by rw [h2, idxG_drop (by omega), if_neg (by simpa using h)]⟩
    · (refine ⟨trivial, _, rfl, ?_⟩; refine FinD.i ?_)
      rw [h2, List.drop_of_length_le (by omega)]; rfl
theorem cnt_p (l : List Vx) (v : Vx) : Fn Tryz.prog 128 [dS Verts l, dS RV v] (dB (decide (v ∈ l))) := by
  (refine Fn.intro1 Tryz.func128 rfl rfl ?_; simp only [Tryz.ntmps128, List.length_cons, List.length_nil, Nat.reduceAdd, Nat.reduceSub, List.replicate_succ, List.replicate_zero, List.cons_append, List.nil_append])
  ((repeat' (first | (apply WL.opN; exact yF; dsimp only [setD, z0, z1]) | refine WL.nil ?_ | refine WC.seqK fun Kx hK => ?_ | (refine hK _ _ ?_; clear hK) | refine WC.region ?_ | (apply WL.opN; (focus ((first | (apply SY.call (idx_p _ _) Tryz.call29; (exact aD)) | exact yGeq | exact yBox | fail); all_goals infer_instance)); dsimp only [setD, z0, z1]) | refine WC.ret ?_)); all_goals (first | ((repeat clear hK); (repeat clear Kx))))
  all_goals ((refine ⟨trivial, _, rfl, ?_⟩; refine FinD.b ?_); rw [idxG_iff])
  all_goals (rw [Bool.eq_iff_iff]; simp)
theorem inV_p (v : Vx) (s : List Vx) : Fn Tryz.prog 127 ([dS RV v] ++ [dP 1 false (dS Verts s)]) (dB (decide (v ∈ s))) := by
  show Fn Tryz.prog 127 [dS RV v, dP 1 false (dS Verts s)] (dB (decide (v ∈ s)))
  (refine Fn.intro1 Tryz.func127 rfl rfl ?_; simp only [Tryz.ntmps127, List.length_cons, List.length_nil, Nat.reduceAdd, Nat.reduceSub, List.replicate_succ, List.replicate_zero, List.cons_append, List.nil_append])
  ((repeat' (first | (apply WL.opN; exact yF; dsimp only [setD, z0, z1]) | refine WL.nil ?_ | refine WC.seqK fun Kx hK => ?_ | (refine hK _ _ ?_; clear hK) | refine WC.region ?_ | (apply WL.opN; (focus ((first | (apply SY.call (cnt_p _ _) Tryz.call128; (exact aD)) | exact yBox | fail); all_goals infer_instance)); dsimp only [setD, z0, z1]) | refine WC.ret ?_)); all_goals (first | ((repeat clear hK); (repeat clear Kx))))
  all_goals (refine ⟨trivial, _, rfl, ?_⟩; exact fD)
theorem in_p (s : List Vx) : Fn Tryz.prog 80 [dS Verts s] (dPred fun v => decide (v ∈ s)) := by
  (refine Fn.intro1 Tryz.func80 rfl rfl ?_; simp only [Tryz.ntmps80, List.length_cons, List.length_nil, Nat.reduceAdd, Nat.reduceSub, List.replicate_succ, List.replicate_zero, List.cons_append, List.nil_append])
  ((repeat' (first | (apply WL.opN; exact yF; dsimp only [setD, z0, z1]) | refine WL.nil ?_ | refine WC.seqK fun Kx hK => ?_ | (refine hK _ _ ?_; clear hK) | refine WC.region ?_ | (apply WL.opN; (focus ((first | (apply SY.makeFun (A := fun v => [dS RV v]) (r := fun v => dB (decide (v ∈ s))) Tryz.call127 (fun v => inV_p v s) (fun _ => bare_B); (exact aD)) | exact yBox | fail); all_goals infer_instance)); dsimp only [setD, z0, z1]) | refine WC.ret ?_)); all_goals (first | ((repeat clear hK); (repeat clear Kx))))
  all_goals (refine ⟨trivial, _, rfl, ?_⟩; exact fD)
end Go.Proofs.YtgppfikidagfpaaGreatDoor
namespace Go.Proofs.YtgppfikidagfpaaGreatDoor
open Go.RowKit
set_option maxHeartbeats 2000000

abbrev dPredOn (s : List Vx) (p : Vx → Bool) : Dat := dFun Tryz.prog (fun v : {v : Vx // v ∈ s} => [dS RV v.1]) (fun v => dB (p v.1))
theorem le_predOn {s : List Vx} {p : Vx → Bool} : (dPred p).le (dPredOn s p) := fun _ _ _ ⟨f, cap, h1, h0, h2⟩ => ⟨f, cap, h1, h0, fun w' hw' x => h2 w' hw' x.1⟩
set_option maxHeartbeats 1000000 in
theorem kept_p (s : List Vx) (p : Vx → Bool) (hl : s.length ≤ 100) : Fn Tryz.prog 79 [dS Verts s, dPredOn s p] (dS Verts (s.filter p)) := by
  (refine Fn.intro1 Tryz.func79 rfl rfl ?_; simp only [Tryz.ntmps79, List.length_cons, List.length_nil, Nat.reduceAdd, Nat.reduceSub, List.replicate_succ, List.replicate_zero, List.cons_append, List.nil_append])
  (repeat' (first | (apply WL.opN; exact yF; dsimp only [setD, z0, z1]) | refine WL.nil ?_ | refine WC.seqK fun Kx hK => ?_ | (refine hK _ _ ?_; clear hK) | refine WC.region ?_ | (apply WL.opN; (focus ((first | exact yLen | fail); all_goals infer_instance)); dsimp only [setD, z0, z1]) | refine WC.block ?_))
  refine WC.nilRowK 52 2 (by decide) RV ?_
  (refine WC.loopU (X := Nat × Value) (fun x => [(5, dX x.2), (10, dI (x.1 : Int)), (7, dA), (11, dA), (12, dA), (13, dA), (14, dA), (15, dA), (16, dA), (17, dA), (18, dA), (19, dA), (20, dA), (21, dA)]) (fun x => [hRowK x.2 52 2 RV ((s.take x.1).filter p)]) (fun x => s.length - x.1) (fun x => x.1 ≤ s.length) (0, .slice none 0 0) ?start ?frame0 ?objs0 ?round)
  case start => simp
  case frame0 => ((try dsimp only [upds, z0, z1]); repeat (first | exact LeF.nil | refine LeF.co (k := ?_)))
  case objs0 => rfl
  case round =>
    rintro ⟨k, u⟩ h1
    dsimp only [upds, z0, z1]
    simp only at h1
    have h2 : ((s.take k).filter p).length ≤ 1000 := Nat.le_trans (List.length_filter_le _ _) (Nat.le_trans (List.length_take_le _ _) (by omega))
    ((repeat' (first | (apply WL.opN; exact yF; dsimp only [setD, z0, z1]) | refine WL.nil ?_ | refine WC.seqK fun Kx hK => ?_ | (refine hK _ _ ?_; clear hK) | (refine Kont.skip ?_; clear hK) | refine WC.region ?_ | ((first | apply WL.pushK | apply WL.push1); (exact eD); exact OpD.t rfl; (exact oD); (intro _; exact hD); (exact (by simp)); (exact (by simp)); (first | exact ⟨by decide, by decide⟩ | skip); decide; (exact lD); (intro _; dsimp only [setD, z0, z1]); all_goals (try infer_instance)) | (apply WL.alloc; (exact tzV); (first | exact shape_X rfl | exact shape_XV); (intro _; dsimp only [setD, z0, z1])) | (apply WL.storeF; (exact tD); rfl; (exact oD); (exact hD); dsimp only [setD, z0, z1]) | (apply WL.opN; (focus ((first | (apply SY.dynF (x := (⟨s[k], List.getElem_mem _⟩ : {v : Vx // v ∈ s})); (exact OpD.t rfl); (exact aD)) | exact yLss | exact yAdd | exact yIndexaddr | fail); all_goals infer_instance)); dsimp only [setD, z0, z1]) | (apply WC.condD; (exact oD); all_goals (intro h; try exact xD)) | (apply WC.cond; (exact oD); all_goals (intro h; try exact xD)) | refine WC.skip ?_ | refine WC.ret ?_ | refine WC.exit ?_ | refine WC.block ?_ | refine ThenD.n ?_)); all_goals (first | ((repeat clear hK); (repeat clear Kx))))
    · (refine ⟨(k + 1, _) , ?_, by first | omega | (simp only; omega), by ((try simp only);  (rw [filter_snoc (by omega), if_pos h])), ?_⟩; rotate_left; ((try dsimp only [upds, z0, z1]); repeat (first | exact LeF.nil | refine LeF.co (k := ?_))); (try dsimp only))
      omega
    · (refine ⟨(k + 1, _) , ?_, by first | omega | (simp only; omega), by ((try simp only);  (rw [filter_snoc (by omega), if_neg (by simp [h]), List.append_nil])), ?_⟩; rotate_left; ((try dsimp only [upds, z0, z1]); repeat (first | exact LeF.nil | refine LeF.co (k := ?_))); (try dsimp only))
      omega
    · (refine ⟨trivial, _, rfl, ?_⟩; refine FinD.rowKE (.head _) ?_)
      rw [List.take_of_length_le (by omega)]
theorem face_p (a b : List Vx) (hl : a.length ≤ 100) : Fn Tryz.prog 30 [dS Verts a, dS Verts b] (dT [dB (if orI [chkV a, chkV b] ≠ 0 then false else decide (((a.filter fun x => decide (x ∈ b)).length : Int) = a.length)), dI (orI [chkV a, chkV b])]) := by
  (refine Fn.intro2 Tryz.func30 rfl rfl ?_; simp only [Tryz.ntmps30, List.length_cons, List.length_nil, Nat.reduceAdd, Nat.reduceSub, List.replicate_succ, List.replicate_zero, List.cons_append, List.nil_append])
  ((repeat' (first | (apply WL.opN; exact yF; dsimp only [setD, z0, z1]) | refine WL.nil ?_ | refine WC.seqK fun Kx hK => ?_ | (refine hK _ _ ?_; clear hK) | refine WC.region ?_ | (apply WL.opN; (focus ((first | (apply SY.call (both_p _ _) Tryz.call78; (exact aD)) | (apply SY.call (in_p _) Tryz.call80; (exact aD)) | (apply SY.call (kept_p _ _ hl) Tryz.call79; (exact aD)) | exact yEql | exact yNeq | exact yLen | fail); all_goals infer_instance)); dsimp only [setD, z0, z1]) | (apply WC.condN; (exact oD); all_goals (intro h; try exact xD)) | refine WC.skip ?_ | refine WC.ret ?_ | refine ThenD.r ?_)); all_goals (first | ((repeat clear hK); (repeat clear Kx))))
  all_goals ((refine ⟨trivial, ⟨_, rfl, ?_⟩, _, rfl, ?_⟩ <;> (first | exact fD | refine FinD.i ?_ | refine FinD.b ?_)) <;> simp_all)
theorem diffV_short : ∀ (s : List Vx), s.length ≤ 1 → diffV s = true
  | [], _ => rfl
  | [_], _ => rfl
  | _ :: _ :: _, h => by simp at h
theorem chrom_p (s : List Vx) : Fn Tryz.prog 116 [dS Verts s] (dT [dB (chromV s).1, dI (chromV s).2]) := by
  (refine Fn.intro2 Tryz.func116 rfl rfl ?_; simp only [Tryz.ntmps116, List.length_cons, List.length_nil, Nat.reduceAdd, Nat.reduceSub, List.replicate_succ, List.replicate_zero, List.cons_append, List.nil_append])
  ((repeat' (first | ((first | apply WL.opN | apply WD.opN); exact yF; dsimp only [setD, z0, z1]) | refine WL.nil ?_ | refine WC.seqK fun Kx hK => ?_ | (refine hK _ _ ?_; clear hK) | refine WC.region ?_ | ((first | apply WL.opN | apply WD.opN); (focus ((first | (apply SY.call (chk_p _) Tryz.call81; (exact aD)) | exact yNeq | fail); all_goals infer_instance)); dsimp only [setD, z0, z1]) | (apply WC.condN; (exact oD); all_goals (intro h; try exact xD)) | refine WC.skip ?_ | refine WC.ret ?_ | refine WC.block ?_ | refine ThenD.r ?_)); all_goals (first | refine WC.id ?_ | ((repeat clear hK); (repeat clear Kx))))
  · (refine ⟨trivial, ⟨_, rfl, ?_⟩, _, rfl, ?_⟩ <;> (first | refine FinD.i ?_ | refine FinD.b ?_)) <;> ((unfold chromV; (repeat' split)) <;> (first | rfl | (exfalso; first | contradiction | omega) | (simp_all; done)))
  · have h0 : chkV s = 0 := by assumption
    (first | refine WC.know (t := 0) rfl le_K fun hl0 => ?_ | refine WC.know (t := 0) rfl le_A fun hl0 => ?_); simp only [maxLen] at hl0
    (refine WC.loopU (X := Nat) (fun k => [(5, dI (k : Int)), (2, dA), (3, dA), (11, dA), (12, dA), (13, dA), (14, dA), (15, dA), (16, dA), (17, dA), (18, dA), (19, dA), (20, dA), (21, dA), (22, dA), (23, dA), (24, dA), (25, dA), (26, dA), (27, dA), (28, dA)]) (fun k => []) (fun k => s.length - k) (fun k => 1 ≤ k ∧ diffV s = diffV (s.drop (k - 1))) 1 ?start ?frame0 ?objs0 ?round)
    case start => exact ⟨Nat.le_refl _, rfl⟩
    case frame0 => ((try dsimp only [upds, z0, z1]); repeat (first | exact LeF.nil | refine LeF.co (k := ?_)))
    case objs0 => rfl
    case round =>
      rintro k ⟨h1, h2⟩
      dsimp only [upds, z0, z1]
      ((repeat' (first | ((first | apply WL.opN | apply WD.opN); exact yF; dsimp only [setD, z0, z1]) | refine WL.nil ?_ | refine WD.nil ?_ | refine WC.seqK fun Kx hK => ?_ | (refine hK _ _ ?_; clear hK) | (refine Kont.skip ?_; clear hK) | refine WC.region ?_ | (apply WC.draw; kernel_rfl; kernel_rfl) | ((first | apply WL.opN | apply WD.opN); (focus ((first | (apply SY.ixKJ elV (OpD.t rfl) (OpD.t rfl) (k - 1); omega; omega) | exact yLss | exact yEql | exact yAdd | exact ySub | exact yLen | exact yIndexaddr | exact yFieldaddr | fail); all_goals infer_instance)); dsimp only [setD, z0, z1]) | (apply WC.condD; (exact oD); all_goals (intro h; try exact xD)) | refine WC.skip ?_ | refine WC.ret ?_ | refine WC.exit ?_ | refine WC.block ?_ | refine ThenD.n ?_ | refine ThenD.r ?_ | refine InBlockD.r ?_)); all_goals (first | ((repeat clear hK); (repeat clear Kx))))
      · rw [diffV_step h1 (by omega), if_pos h] at h2
        (refine ⟨trivial, ⟨_, rfl, ?_⟩, _, rfl, ?_⟩ <;> (first | refine FinD.i ?_ | refine FinD.b ?_)) <;> ((unfold chromV; (repeat' split)) <;> (first | rfl | (exfalso; first | contradiction | omega) | (simp_all; done)))
      · rw [diffV_step h1 (by omega), if_neg h] at h2
        (refine ⟨k + 1, ?_, by first | omega | (simp only; omega), rfl, ?_⟩; rotate_left; ((try dsimp only [upds, z0, z1]); repeat (first | exact LeF.nil | refine LeF.co (k := ?_))); (try dsimp only))
        exact ⟨by omega, h2⟩
      · rw [diffV_short (s.drop (k - 1)) (by rw [List.length_drop]; omega)] at h2
        (refine ⟨trivial, ⟨_, rfl, ?_⟩, _, rfl, ?_⟩ <;> (first | refine FinD.i ?_ | refine FinD.b ?_)) <;> ((unfold chromV; (repeat' split)) <;> (first | rfl | (exfalso; first | contradiction | omega) | (simp_all; done)))
end Go.Proofs.YtgppfikidagfpaaGreatDoor
namespace Go.Proofs.YtgppfikidagfpaaGreatDoor
open Go.RowKit
def subB (s : Nat) : List Nat := ((List.range s).map (· + 1)).filter fun b => decide (b &&& s = b)
def ordN : Nat → Nat → List (List Nat)
  | 0, _ => [[]]
  | k + 1, s => if s = 0 then [[]] else (subB s).flatMap fun b => (ordN k (s - b)).map (b :: ·)
def ordP (s : Nat) : List (List Nat) := ordN 6 s
def nextB (s x : Nat) : Nat := ((List.range 32).find? fun y => decide (x < y) && decide (y &&& s = y)).getD 0
theorem andnot_sub : ∀ s b : Fin 32, b.val &&& s.val = b.val → iandnot (s.val : Int) (b.val : Int) = ((s.val - b.val : Nat) : Int) ∧ b.val ≤ s.val := by decide +kernel
theorem next_iand : ∀ s x : Fin 32, x.val &&& s.val = x.val → x.val ≠ s.val → iand ((x.val : Int) - (s.val : Int)) (s.val : Int) = (nextB s.val x.val : Nat) := by decide +kernel
theorem first_iand : ∀ s : Fin 32, iand (0 - (s.val : Int)) (s.val : Int) = (nextB s.val 0 : Nat) ∨ s.val = 0 := by decide +kernel
theorem next_is : ∀ s x : Fin 32, x.val &&& s.val = x.val → x.val ≠ s.val → x.val < nextB s.val x.val ∧ nextB s.val x.val ≤ s.val ∧ nextB s.val x.val &&& s.val = nextB s.val x.val := by decide +kernel
def fromB (s x : Nat) : List Nat := (subB s).filter fun y => decide (x ≤ y)
theorem from_first : ∀ s : Fin 32, s.val ≠ 0 → fromB s.val (nextB s.val 0) = subB s.val := by decide +kernel
theorem from_next : ∀ s x : Fin 32, x.val ≠ 0 → x.val &&& s.val = x.val → x.val ≠ s.val → fromB s.val x.val = x.val :: fromB s.val (nextB s.val x.val) := by decide +kernel
theorem from_last : ∀ s : Fin 32, s.val ≠ 0 → fromB s.val s.val = [s.val] := by decide +kernel
theorem sub_mem {s b : Nat} : b ∈ subB s ↔ 0 < b ∧ b ≤ s ∧ b &&& s = b := by
  unfold subB
  rw [List.mem_filter, List.mem_map, decide_eq_true_eq]
  constructor
  · rintro ⟨⟨a, ha, rfl⟩, h⟩
    rw [List.mem_range] at ha
    exact ⟨by omega, by omega, h⟩
  · rintro ⟨h1, h2, h3⟩
    exact ⟨⟨b - 1, by rw [List.mem_range]; omega, by omega⟩, h3⟩
theorem ordN_zero : ∀ k, ordN k 0 = [[]]
  | 0 => rfl
  | k + 1 => if_pos rfl
theorem ordN_succ {k s : Nat} (h : s ≠ 0) : ordN (k + 1) s = (subB s).flatMap fun b => (ordN k (s - b)).map (b :: ·) := if_neg h
end Go.Proofs.YtgppfikidagfpaaGreatDoor
namespace Go.Proofs.YtgppfikidagfpaaGreatDoor
def snapB : List Nat → Nat → Nat → Nat
  | [], _, m => m
  | b :: l, i, m => if (b >>> i) &&& 1 = 1 then m ||| b else snapB l i (m ||| b)
def placeB (s : List Vx) (bl : List Nat) : List Vx := s.zipIdx.map fun p => (p.1.1, ((snapB bl p.2 0 : Nat) : Int))
def atB (s : List Vx) (m : Nat) : List Vx := (s.zipIdx.filter fun p => decide ((m >>> p.2) &&& 1 = 1)).map (·.1)
theorem placeB_len (s : List Vx) (bl : List Nat) : (placeB s bl).length = s.length := by simp [placeB]
end Go.Proofs.YtgppfikidagfpaaGreatDoor
namespace Go.Proofs.YtgppfikidagfpaaGreatDoor
def labB (n : Nat) (bl : List Nat) : List Nat := (List.range n).map fun i => snapB bl i 0
def bitB (m i : Nat) : Bool := decide ((m >>> i) &&& 1 = 1)
def goodB (n : Nat) (l : List Nat) : Bool :=
  (List.range n).all fun i => bitB (l.getD i 0) i && decide (1 ≤ l.getD i 0) && decide (l.getD i 0 < 2 ^ n) &&
    (List.range n).all fun k => (decide (l.getD i 0 &&& l.getD k 0 = l.getD i 0) || decide (l.getD k 0 &&& l.getD i 0 = l.getD k 0)) &&
      (!bitB (l.getD k 0) i || decide (l.getD i 0 &&& l.getD k 0 = l.getD i 0)) && (!decide (i < k) || bitB (l.getD i 0) k || bitB (l.getD k 0) i)
theorem snap_good : ∀ n, 1 ≤ n → n ≤ 4 → ((ordP (2 ^ n - 1)).all fun bl => goodB n (labB n bl)) = true := by
  intro n h1 h4
  have : n = 1 ∨ n = 2 ∨ n = 3 ∨ n = 4 := by omega
  rcases this with rfl | rfl | rfl | rfl <;> decide +kernel
end Go.Proofs.YtgppfikidagfpaaGreatDoor
namespace Go.Proofs.YtgppfikidagfpaaGreatDoor
def divP : List Int → Int → Bool
  | [], rest => decide (rest = 0)
  | b :: l, rest => if b ≤ 0 ∨ iand b rest ≠ b then false else divP l (iandnot rest b)
def divR : List Int → Nat → Int → Bool
  | [], n, all => decide (all = ((2 ^ n - 1 : Nat) : Int))
  | b :: l, n, all => if b < 1 ∨ ((2 ^ n : Nat) : Int) ≤ b ∨ iand all b ≠ 0 then false else divR l n (ior all b)
theorem iand_le (b : Int) {r : Nat} (hr : r < 9223372036854775808) : iand b (r : Int) ≤ (r : Int) := by
  have h : (BitVec.ofInt 64 b &&& BitVec.ofInt 64 (r : Int)).toNat ≤ r := by
    rw [BitVec.toNat_and, bv_cast hr]
    exact Nat.and_le_right
  unfold iand
  rw [wrap_cast (by omega)]
  omega
theorem rest_next {n all rest b : Nat} (h1 : all ||| rest = 2 ^ n - 1) (h2 : all &&& rest = 0) (hb : b &&& rest = b) : (all ||| b) ||| (rest ^^^ (rest &&& b)) = 2 ^ n - 1 ∧ (all ||| b) &&& (rest ^^^ (rest &&& b)) = 0 := by
  have e : ∀ i, (b.testBit i && rest.testBit i) = b.testBit i := fun i => by rw [← Nat.testBit_and, hb]
  have dis : ∀ i, (all.testBit i && rest.testBit i) = false := fun i => by rw [← Nat.testBit_and, h2, Nat.zero_testBit]
  constructor
  · rw [← h1]
    apply Nat.eq_of_testBit_eq
    intro i
    simp only [Nat.testBit_or, Nat.testBit_xor, Nat.testBit_and]
    have k1 := e i
    cases ha : all.testBit i <;> cases hr : rest.testBit i <;> cases hbi : b.testBit i <;> simp_all
  · apply Nat.eq_of_testBit_eq
    intro i
    simp only [Nat.testBit_or, Nat.testBit_xor, Nat.testBit_and, Nat.zero_testBit]
    have k1 := e i
    have k2 := dis i
    cases ha : all.testBit i <;> cases hr : rest.testBit i <;> cases hbi : b.testBit i <;> simp_all
theorem div_go {n : Nat} (hn : n ≤ 62) : ∀ (l : List Int) (all rest : Nat), all ||| rest = 2 ^ n - 1 → all &&& rest = 0 → divR l n (all : Int) = divP l (rest : Int)
  | [], all, rest, h1, h2 => by
    show decide _ = decide _
    have hz : all = 2 ^ n - 1 ↔ rest = 0 := by
      constructor
      · intro h
        have : all &&& rest = rest := by
          rw [h]
          have hr : rest ≤ 2 ^ n - 1 := by rw [← h1]; exact Nat.right_le_or
          rw [Nat.and_comm, Nat.and_two_pow_sub_one_eq_mod]
          exact Nat.mod_eq_of_lt (by have := Nat.two_pow_pos n; omega)
        rw [← this]; exact h2
      · intro h
        rw [h, Nat.or_zero] at h1
        exact h1
    exact decide_eq_decide.2 ⟨fun q => by have := hz.1 (by omega); omega, fun q => by have := hz.2 (by omega); omega⟩
  | b :: l, all, rest, h1, h2 => by
    have hp : 2 ^ n ≤ 2 ^ 62 := Nat.pow_le_pow_right (by decide) hn
    have hpos := Nat.two_pow_pos n
    have ha : all ≤ 2 ^ n - 1 := by rw [← h1]; exact Nat.left_le_or
    have hr : rest ≤ 2 ^ n - 1 := by rw [← h1]; exact Nat.right_le_or
    have h62 : (2 : Nat) ^ 62 = 4611686018427387904 := by decide
    unfold divR divP
    by_cases hb0 : b < 1
    · rw [if_pos (.inl hb0), if_pos (.inl (by omega))]
    by_cases hbn : ((2 ^ n : Nat) : Int) ≤ b
    · have := iand_le b (r := rest) (by omega)
      rw [if_pos (.inr (.inl hbn)), if_pos (.inr (by omega))]
    obtain ⟨k, rfl⟩ : ∃ k : Nat, b = (k : Int) := ⟨b.toNat, by omega⟩
    have hk : k < 2 ^ n := by omega
    rw [iand_cast (by omega) (by omega), iand_cast (by omega) (by omega)]
    have hm := mask_rest h1 h2 hk
    by_cases hc : k &&& rest = k
    · have hz := hm.1 hc
      rw [if_neg (by rintro (h | h | h); exact hb0 h; exact hbn h; exact h (by rw [hz]; rfl)), if_neg (by rintro (h | h); omega; exact h (by rw [hc]))]
      rw [ior_cast (by omega) (by omega), iandnot_cast (by omega) (by omega)]
      obtain ⟨g1, g2⟩ := rest_next h1 h2 hc
      exact div_go hn l _ _ g1 g2
    · rw [if_pos (.inr (.inr fun q => hc (hm.2 (Int.ofNat.inj q)))), if_pos (.inr fun q => hc (Int.ofNat.inj q))]
theorem div_same {n : Nat} (hn : n ≤ 62) (l : List Int) : divR l n 0 = divP l ((2 ^ n - 1 : Nat) : Int) := div_go hn l 0 (2 ^ n - 1) (Nat.zero_or _) (Nat.zero_and _)
end Go.Proofs.YtgppfikidagfpaaGreatDoor
