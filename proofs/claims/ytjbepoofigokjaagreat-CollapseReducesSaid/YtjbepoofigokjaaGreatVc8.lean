/-
  Part 8 of the texts that the claims of this seat lean on: walks of the program's functions by contracts over symbolic frames, and plain laws of what they compute. No condition.
-/
import Derived.Test.YtjbepoofigokjaaGreatVc6
import Derived.Test.YtjbepoofigokjaaGreatVc7
set_option linter.unusedVariables false
set_option linter.unusedSimpArgs false
set_option linter.unusedSectionVars false
namespace Go.Proofs.YtjbepoofigokjaaGreat
open Go.RowKit
set_option maxHeartbeats 2000000

theorem cmpV_c (x y : Vx) : Fn Tryz.prog 96 [dS RV x, dS RV y] (dI (cmpV x y)) := by
  (refine Fn.intro1 Tryz.func96 rfl rfl ?_; simp only [Tryz.ntmps96, List.length_cons, List.length_nil, Nat.reduceAdd, Nat.reduceSub, List.replicate_succ, List.replicate_zero, List.cons_append, List.nil_append])
  ((repeat' (first | (apply WL.opN; exact yF; dsimp only [setD, z0, z1]) | refine WL.nil ?_ | refine WC.seqK fun Kx hK => ?_ | (refine hK _ _ ?_; clear hK) | refine WC.region ?_ | (apply WL.opN; (focus ((first | exact yLss | exact yGtr | exact yFieldaddr | exact yBox | fail); all_goals infer_instance)); dsimp only [setD, z0, z1]) | (apply WC.condD; (exact oD); all_goals (intro h; try exact xD)) | refine WC.skip ?_ | refine WC.ret ?_ | refine WC.block ?_ | refine ThenD.r ?_ | refine InBlockD.r ?_)); all_goals (first | ((repeat clear hK); (repeat clear Kx))))
  all_goals ((refine ⟨trivial, _, rfl, ?_⟩; refine FinD.i ?_); unfold cmpV; simp [*])
theorem rngV_c (x : Vx) : Fn Tryz.prog 95 [dS RV x] (dB (rngV x)) := by
  (refine Fn.intro1 Tryz.func95 rfl rfl ?_; simp only [Tryz.ntmps95, List.length_cons, List.length_nil, Nat.reduceAdd, Nat.reduceSub, List.replicate_succ, List.replicate_zero, List.cons_append, List.nil_append])
  ((repeat' (first | (apply WL.opN; exact yF; dsimp only [setD, z0, z1]) | refine WL.nil ?_ | refine WC.seqK fun Kx hK => ?_ | (refine hK _ _ ?_; clear hK) | refine WC.region ?_ | (apply WL.opG; (focus (first | exact wN | (apply SYG.yes; (exact wY); ((first | exact yLss | exact yLeq | exact yGeq | exact yLoad | exact yFieldaddr | exact yPick | exact yBox | fail); all_goals infer_instance)))); dsimp only [setD, z0, z1]) | ((first | refine WL.caseP rfl rfl rfl (fun h => ?_) (fun h => ?_) | refine WL.caseN rfl rfl rfl (fun h => ?_) (fun h => ?_) | refine WL.caseB rfl rfl rfl (fun h => ?_) (fun h => ?_)) <;> (first | (exfalso; first | omega | contradiction) | (dsimp only [z0, z1]))) | refine WC.ret ?_)); all_goals (first | ((repeat clear hK); (repeat clear Kx))))
  all_goals ((refine ⟨trivial, _, rfl, ?_⟩; refine FinD.b ?_); unfold rngV; simp [*])
theorem few_c (s : List Vx) : Fn Tryz.prog 16 [dS Verts s] (dB (decide ((s.length : Int) ≤ 10))) := by
  (refine Fn.intro1 Tryz.func16 rfl rfl ?_; simp only [Tryz.ntmps16, List.length_cons, List.length_nil, Nat.reduceAdd, Nat.reduceSub, List.replicate_succ, List.replicate_zero, List.cons_append, List.nil_append])
  ((repeat' (first | (apply WL.opN; exact yF; dsimp only [setD, z0, z1]) | refine WL.nil ?_ | refine WC.seqK fun Kx hK => ?_ | (refine hK _ _ ?_; clear hK) | refine WC.region ?_ | (apply WL.opN; (focus ((first | exact yLeq | exact yLen | fail); all_goals infer_instance)); dsimp only [setD, z0, z1]) | refine WC.ret ?_)); all_goals (first | ((repeat clear hK); (repeat clear Kx))))
  all_goals (refine ⟨trivial, _, rfl, ?_⟩; exact fD)
set_option maxHeartbeats 4000000 in
theorem cmpL_c (a b : List Vx) : Fn Tryz.prog 81 [dS Verts a, dS Verts b] (dI (cmpL a b)) := by
  (refine Fn.intro1 Tryz.func81 rfl rfl ?_; simp only [Tryz.ntmps81, List.length_cons, List.length_nil, Nat.reduceAdd, Nat.reduceSub, List.replicate_succ, List.replicate_zero, List.cons_append, List.nil_append])
  (repeat' (first | ((first | apply WL.opN | apply WD.opN); exact yF; dsimp only [setD, z0, z1]) | refine WL.nil ?_ | refine WC.seqK fun Kx hK => ?_ | (refine hK _ _ ?_; clear hK) | refine WC.region ?_ | refine WC.block ?_))
  (first | refine WC.know (t := 0) rfl le_K fun hl0 => ?_ | refine WC.know (t := 0) rfl le_A fun hl0 => ?_); simp only [maxLen] at hl0
  (first | refine WC.know (t := 1) rfl le_K fun hl1 => ?_ | refine WC.know (t := 1) rfl le_A fun hl1 => ?_); simp only [maxLen] at hl1
  (refine WC.loopU (X := Nat) (fun k => [(5, dI (k : Int)), (4, dA), (6, dA), (7, dA), (8, dA), (9, dA), (10, dA), (11, dA), (12, dA), (13, dA), (14, dA), (15, dA), (16, dA), (17, dA), (18, dA), (19, dA), (20, dA), (21, dA), (22, dA), (23, dA), (24, dA), (25, dA), (26, dA), (27, dA), (28, dA), (29, dA), (30, dA)]) (fun k => []) (fun k => a.length - k) (fun k => k ≤ a.length ∧ k ≤ b.length ∧ cmpL a b = cmpL (a.drop k) (b.drop k)) 0 ?start ?frame0 ?objs0 ?round)
  case start => exact ⟨Nat.zero_le _, Nat.zero_le _, rfl⟩
  case frame0 => ((try dsimp only [upds, z0, z1]); repeat (first | exact LeF.nil | refine LeF.co (k := ?_)))
  case objs0 => rfl
  case round =>
    rintro k ⟨h1, h2, h3⟩
    dsimp only [upds, z0, z1]
    ((repeat' (first | ((first | apply WL.opN | apply WD.opN); exact yF; dsimp only [setD, z0, z1]) | refine WL.nil ?_ | refine WD.nil ?_ | refine WC.seqK fun Kx hK => ?_ | (refine hK _ _ ?_; clear hK) | (refine Kont.skip ?_; clear hK) | refine WC.region ?_ | (apply WC.draw; kernel_rfl; kernel_rfl) | ((first | apply WL.opG | apply WD.op); (focus (first | exact wN | (apply SYG.yes; (exact wY); ((first | (apply SY.call (cmpV_c _ _) Tryz.call96; (exact aD)) | exact yMove | exact yLss | exact yGtr | exact yNeq | exact yAdd | exact yLen | exact yIndexaddr | exact yPick | fail); all_goals infer_instance)))); dsimp only [setD, z0, z1]) | ((first | refine WL.caseP rfl rfl rfl (fun h => ?_) (fun h => ?_) | refine WL.caseN rfl rfl rfl (fun h => ?_) (fun h => ?_) | refine WL.caseB rfl rfl rfl (fun h => ?_) (fun h => ?_) | refine WD.caseP rfl rfl rfl (fun h => ?_) (fun h => ?_) | refine WD.caseN rfl rfl rfl (fun h => ?_) (fun h => ?_) | refine WD.caseB rfl rfl rfl (fun h => ?_) (fun h => ?_)) <;> (first | (exfalso; first | omega | contradiction) | (dsimp only [z0, z1]))) | (apply WC.condF; (exact oD); (with_reducible rfl)) | (apply WC.condD; (exact oD); all_goals (intro h; try exact xD)) | (apply WC.condN; (exact oD); all_goals (intro h; try exact xD)) | refine WC.skip ?_ | refine WC.ret ?_ | refine WC.exit ?_ | refine WC.block ?_ | refine ThenD.n ?_ | refine ThenD.r ?_ | refine InBlockD.r ?_)); all_goals (first | ((repeat clear hK); (repeat clear Kx))))
    all_goals first
      | ((refine ⟨k + 1, ?_, by first | omega | (simp only; omega), rfl, ?_⟩; rotate_left; ((try dsimp only [upds, z0, z1]); repeat (first | exact LeF.nil | refine LeF.co (k := ?_))); (try dsimp only)); exact ⟨by omega, by omega, h3.trans (cmpL_step (by omega) (by omega) (by assumption))⟩)
      | ((refine ⟨trivial, _, rfl, ?_⟩; refine FinD.i ?_); rw [h3, cmpL_drop]; repeat' split) <;> first | rfl | contradiction | omega
theorem same_c (a b : List Vx) : Fn Tryz.prog 86 [dS Verts a, dS Verts b] (dB (decide (cmpL a b = 0))) := by
  (refine Fn.intro1 Tryz.func86 rfl rfl ?_; simp only [Tryz.ntmps86, List.length_cons, List.length_nil, Nat.reduceAdd, Nat.reduceSub, List.replicate_succ, List.replicate_zero, List.cons_append, List.nil_append])
  ((repeat' (first | (apply WL.opN; exact yF; dsimp only [setD, z0, z1]) | refine WL.nil ?_ | refine WC.seqK fun Kx hK => ?_ | (refine hK _ _ ?_; clear hK) | refine WC.region ?_ | (apply WL.opN; (focus ((first | (apply SY.call (cmpL_c _ _) Tryz.call81; (exact aD)) | exact yEql | fail); all_goals infer_instance)); dsimp only [setD, z0, z1]) | refine WC.ret ?_)); all_goals (first | ((repeat clear hK); (repeat clear Kx))))
  all_goals (refine ⟨trivial, _, rfl, ?_⟩; exact fD)
theorem has_c (s : List Vx) (v : Vx) : Fn Tryz.prog 122 [dS Verts s, dS RV v] (dB (decide (v ∈ s))) := by
  (refine Fn.intro1 Tryz.func122 rfl rfl ?_; simp only [Tryz.ntmps122, List.length_cons, List.length_nil, Nat.reduceAdd, Nat.reduceSub, List.replicate_succ, List.replicate_zero, List.cons_append, List.nil_append])
  (repeat' (first | ((first | apply WL.opN | apply WD.opN); exact yF; dsimp only [setD, z0, z1]) | refine WL.nil ?_ | refine WC.seqK fun Kx hK => ?_ | (refine hK _ _ ?_; clear hK) | refine WC.region ?_ | ((first | apply WL.opN | apply WD.opN); (focus ((first | exact yBox | fail); all_goals infer_instance)); dsimp only [setD, z0, z1]) | refine WC.block ?_))
  (first | refine WC.know (t := 0) rfl le_K fun hl0 => ?_ | refine WC.know (t := 0) rfl le_A fun hl0 => ?_); simp only [maxLen] at hl0
  (refine WC.loopU (X := Nat) (fun k => [(5, dI (k : Int)), (4, dA), (6, dA), (7, dA), (8, dA), (9, dA), (10, dA), (11, dA), (12, dA), (13, dA), (14, dA), (15, dA), (16, dA), (17, dA)]) (fun k => []) (fun k => s.length - k) (fun k => k ≤ s.length ∧ v ∉ s.take k) 0 ?start ?frame0 ?objs0 ?round)
  case start => simp
  case frame0 => ((try dsimp only [upds, z0, z1]); repeat (first | exact LeF.nil | refine LeF.co (k := ?_)))
  case objs0 => rfl
  case round =>
    rintro k ⟨h1, h2⟩
    dsimp only [upds, z0, z1]
    ((repeat' (first | ((first | apply WL.opN | apply WD.opN); exact yF; dsimp only [setD, z0, z1]) | refine WL.nil ?_ | refine WD.nil ?_ | refine WC.seqK fun Kx hK => ?_ | (refine hK _ _ ?_; clear hK) | (refine Kont.skip ?_; clear hK) | refine WC.region ?_ | (apply WC.draw; kernel_rfl; kernel_rfl) | ((first | apply WL.opN | apply WD.opN); (focus ((first | exact yLss | exact yEql | exact yAdd | exact yLen | exact yIndexaddr | fail); all_goals infer_instance)); dsimp only [setD, z0, z1]) | (apply WC.condD; (exact oD); all_goals (intro h; try exact xD)) | refine WC.skip ?_ | refine WC.ret ?_ | refine WC.exit ?_ | refine WC.block ?_ | refine ThenD.n ?_ | refine ThenD.r ?_ | refine InBlockD.r ?_)); all_goals (first | ((repeat clear hK); (repeat clear Kx))))
    · (refine ⟨trivial, _, rfl, ?_⟩; refine FinD.b ?_)
      rename_i h
      rw [← h]; simp
    · (refine ⟨k + 1, ?_, by first | omega | (simp only; omega), rfl, ?_⟩; rotate_left; ((try dsimp only [upds, z0, z1]); repeat (first | exact LeF.nil | refine LeF.co (k := ?_))); (try dsimp only))
      rename_i h
      exact ⟨by omega, fun hm => by rcases (mem_take_snoc (by omega)).1 hm with h' | h'; exact h2 h'; exact h h'.symm⟩
    · (refine ⟨trivial, _, rfl, ?_⟩; refine FinD.b ?_)
      rw [List.take_of_length_le (by omega)] at h2
      simp [h2]
set_option maxHeartbeats 4000000 in
theorem chk_c (s : List Vx) : Fn Tryz.prog 50 [dS Verts s] (dI (chkV s)) := by
  (refine Fn.intro1 Tryz.func50 rfl rfl ?_; simp only [Tryz.ntmps50, List.length_cons, List.length_nil, Nat.reduceAdd, Nat.reduceSub, List.replicate_succ, List.replicate_zero, List.cons_append, List.nil_append])
  ((repeat' (first | ((first | apply WL.opN | apply WD.opN); exact yF; dsimp only [setD, z0, z1]) | refine WL.nil ?_ | refine WC.seqK fun Kx hK => ?_ | (refine hK _ _ ?_; clear hK) | refine WC.region ?_ | ((first | apply WL.opG | apply WD.op); (focus (first | exact wN | (apply SYG.yes; (exact wY); ((first | exact yGtr | exact yEql | exact yLen | fail); all_goals infer_instance)))); dsimp only [setD, z0, z1]) | (apply WC.condD; (exact oD); all_goals (intro h; try exact xD)) | refine WC.skip ?_ | refine WC.ret ?_ | refine WC.block ?_ | refine ThenD.r ?_ | refine InBlockD.r ?_)); all_goals (first | refine WC.id ?_ | ((repeat clear hK); (repeat clear Kx))))
  · (refine ⟨trivial, _, rfl, ?_⟩; refine FinD.i ?_)
    unfold chkV; rw [if_pos (by omega)]
  · (refine ⟨trivial, _, rfl, ?_⟩; refine FinD.i ?_)
    unfold chkV; rw [if_neg (by omega), if_pos (by omega)]
  · rename_i h1 h2
    have hs : chkV s = chkG none s := by unfold chkV; rw [if_neg (by omega), if_neg (by omega)]
    (refine WC.loopU (X := Nat) (fun k => [(3, dI (k : Int)), (2, dA), (12, dA), (13, dA), (14, dA), (15, dA), (16, dA), (17, dA), (18, dA), (19, dA), (20, dA), (21, dA), (22, dA), (23, dA), (24, dA), (25, dA), (26, dA), (27, dA), (28, dA), (29, dA), (30, dA), (31, dA), (32, dA), (33, dA), (34, dA), (35, dA), (36, dA), (37, dA), (38, dA)]) (fun k => []) (fun k => s.length - k) (fun k => k ≤ s.length ∧ chkV s = chkG (s.take k).getLast? (s.drop k)) 0 ?start ?frame0 ?objs0 ?round)
    case start => exact ⟨Nat.zero_le _, by rw [hs]; rfl⟩
    case frame0 => ((try dsimp only [upds, z0, z1]); repeat (first | exact LeF.nil | refine LeF.co (k := ?_)))
    case objs0 => rfl
    case round =>
      rintro k ⟨h3, h4⟩
      dsimp only [upds, z0, z1]
      ((repeat' (first | ((first | apply WL.opN | apply WD.opN); exact yF; dsimp only [setD, z0, z1]) | refine WL.nil ?_ | refine WD.nil ?_ | refine WC.seqK fun Kx hK => ?_ | (refine hK _ _ ?_; clear hK) | (refine Kont.skip ?_; clear hK) | refine WC.region ?_ | (apply WC.draw; kernel_rfl; kernel_rfl) | ((first | apply WL.opG | apply WD.op); (focus (first | exact wN | (apply SYG.yes; (exact wY); ((first | (apply SY.call (cmpV_c _ _) Tryz.call96; (exact aD)) | (apply SY.call (rngV_c _) Tryz.call95; (exact aD)) | (apply SY.ixKJ elV (OpD.t rfl) (OpD.t rfl) (k - 1); omega; omega) | exact yMove | exact yLss | exact yGtr | exact yGeq | exact yNot | exact yAdd | exact ySub | exact yLoad | exact yLen | exact yIndexaddr | exact yPick | fail); all_goals infer_instance)))); dsimp only [setD, z0, z1]) | ((first | refine WL.caseP rfl rfl rfl (fun h => ?_) (fun h => ?_) | refine WL.caseN rfl rfl rfl (fun h => ?_) (fun h => ?_) | refine WL.caseB rfl rfl rfl (fun h => ?_) (fun h => ?_) | refine WD.caseP rfl rfl rfl (fun h => ?_) (fun h => ?_) | refine WD.caseN rfl rfl rfl (fun h => ?_) (fun h => ?_) | refine WD.caseB rfl rfl rfl (fun h => ?_) (fun h => ?_)) <;> (first | (exfalso; first | omega | contradiction) | (dsimp only [z0, z1]))) | (apply WC.condF; (exact oD); (with_reducible rfl)) | (apply WC.condD; (exact oD); all_goals (intro h; try exact xD)) | (apply WC.condNB; (exact oD); all_goals (intro h; try exact xD)) | refine WC.skip ?_ | refine WC.ret ?_ | refine WC.exit ?_ | refine WC.block ?_ | refine ThenD.n ?_ | refine ThenD.r ?_ | refine InBlockD.r ?_)); all_goals (first | ((repeat clear hK); (repeat clear Kx))))
      all_goals try (rw [chkG_drop s k (by omega)] at h4)
      · (refine ⟨trivial, _, rfl, ?_⟩; refine FinD.i ?_)
        rw [h4, if_pos h]
      · (refine ⟨trivial, _, rfl, ?_⟩; refine FinD.i ?_)
        have h5 : rngV s[k] = true := by assumption
        rw [h4, if_neg (by simp [h5]), last_take _ _ (by omega) (by omega), if_pos (by simpa using h)]
      · (refine ⟨k + 1, ?_, by first | omega | (simp only; omega), rfl, ?_⟩; rotate_left; ((try dsimp only [upds, z0, z1]); repeat (first | exact LeF.nil | refine LeF.co (k := ?_))); (try dsimp only))
        refine ⟨by omega, ?_⟩
        have h5 : rngV s[k] = true := by assumption
        rw [h4, if_neg (by simp [h5]), last_take _ _ (by omega) (by omega), if_neg (by simpa using h)]
      · (refine ⟨k + 1, ?_, by first | omega | (simp only; omega), rfl, ?_⟩; rotate_left; ((try dsimp only [upds, z0, z1]); repeat (first | exact LeF.nil | refine LeF.co (k := ?_))); (try dsimp only))
        refine ⟨by omega, ?_⟩
        have h5 : rngV s[k] = true := by assumption
        have h0 : (s.take k).getLast? = none := by
          have : k = 0 := by omega
          rw [this]; rfl
        rw [h4, if_neg (by simp [h5]), h0]
        rfl
      · (refine ⟨trivial, _, rfl, ?_⟩; refine FinD.i ?_)
        rw [h4, List.drop_of_length_le (by omega)]
        rfl
end Go.Proofs.YtjbepoofigokjaaGreat
namespace Go.Proofs.YtjbepoofigokjaaGreat
open Go.RowKit
set_option maxHeartbeats 2000000

theorem inside_c (a b : List Vx) : Fn Tryz.prog 82 [dS Verts a, dS Verts b] (dB (insideV a b)) := by
  (refine Fn.intro1 Tryz.func82 rfl rfl ?_; simp only [Tryz.ntmps82, List.length_cons, List.length_nil, Nat.reduceAdd, Nat.reduceSub, List.replicate_succ, List.replicate_zero, List.cons_append, List.nil_append])
  (repeat' (first | (apply WL.opN; exact yF; dsimp only [setD, z0, z1]) | refine WL.nil ?_ | refine WC.seqK fun Kx hK => ?_ | (refine hK _ _ ?_; clear hK) | refine WC.region ?_ | refine WC.block ?_))
  (first | refine WC.know (t := 0) rfl le_K fun hl0 => ?_ | refine WC.know (t := 0) rfl le_A fun hl0 => ?_); simp only [maxLen] at hl0
  (refine WC.loopU (X := Nat) (fun k => [(5, dI (k : Int)), (4, dA), (6, dA), (7, dA), (8, dA), (9, dA), (10, dA), (11, dA), (12, dA), (13, dA), (14, dA), (15, dA), (16, dA), (17, dA), (18, dA)]) (fun k => []) (fun k => a.length - k) (fun k => k ≤ a.length ∧ (a.take k).all (fun x => decide (x ∈ b)) = true) 0 ?start ?frame0 ?objs0 ?round)
  case start => simp
  case frame0 => ((try dsimp only [upds, z0, z1]); repeat (first | exact LeF.nil | refine LeF.co (k := ?_)))
  case objs0 => rfl
  case round =>
    rintro k ⟨h1, h2⟩
    dsimp only [upds, z0, z1]
    ((repeat' (first | (apply WL.opN; exact yF; dsimp only [setD, z0, z1]) | refine WL.nil ?_ | refine WC.seqK fun Kx hK => ?_ | (refine hK _ _ ?_; clear hK) | (refine Kont.skip ?_; clear hK) | refine WC.region ?_ | (apply WL.opN; (focus ((first | (apply SY.call (has_c _ _) Tryz.call122; (exact aD)) | exact yLss | exact yNot | exact yAdd | exact yLen | exact yIndexaddr | fail); all_goals infer_instance)); dsimp only [setD, z0, z1]) | (apply WC.condD; (exact oD); all_goals (intro h; try exact xD)) | (apply WC.condN; (exact oD); all_goals (intro h; try exact xD)) | refine WC.skip ?_ | refine WC.ret ?_ | refine WC.exit ?_ | refine WC.block ?_ | refine ThenD.n ?_ | refine ThenD.r ?_ | refine InBlockD.r ?_)); all_goals (first | ((repeat clear hK); (repeat clear Kx))))
    · (refine ⟨trivial, _, rfl, ?_⟩; refine FinD.b ?_)
      unfold insideV
      symm
      rw [List.all_eq_false]
      exact ⟨a[k], List.getElem_mem _, by simpa using h⟩
    · (refine ⟨k + 1, ?_, by first | omega | (simp only; omega), rfl, ?_⟩; rotate_left; ((try dsimp only [upds, z0, z1]); repeat (first | exact LeF.nil | refine LeF.co (k := ?_))); (try dsimp only))
      exact ⟨by omega, by rw [all_snoc (by omega), h2]; simpa using h⟩
    · (refine ⟨trivial, _, rfl, ?_⟩; refine FinD.b ?_)
      rw [List.take_of_length_le (by omega)] at h2
      exact h2.symm
theorem shared_c (a b : List Vx) (p : Bool) (ha : a.length ≤ 1000) : Fn Tryz.prog 133 [dS Verts a, dS Verts b, dB p] (dS Verts (sharedV a b p)) := by
  (refine Fn.intro1 Tryz.func133 rfl rfl ?_; simp only [Tryz.ntmps133, List.length_cons, List.length_nil, Nat.reduceAdd, Nat.reduceSub, List.replicate_succ, List.replicate_zero, List.cons_append, List.nil_append])
  (repeat' (first | (apply WL.opN; exact yF; dsimp only [setD, z0, z1]) | refine WL.nil ?_ | refine WC.seqK fun Kx hK => ?_ | (refine hK _ _ ?_; clear hK) | refine WC.region ?_ | refine WC.block ?_))
  refine WC.nilRowK 63 2 (by decide) RV ?_
  (refine WC.loopU (X := Nat × Value) (fun x => [(7, dX x.2), (8, dI (x.1 : Int)), (9, dA), (10, dA), (11, dA), (12, dA), (13, dA), (14, dA), (15, dA), (16, dA), (17, dA), (18, dA), (19, dA), (20, dA), (21, dA), (22, dA), (23, dA), (24, dA), (25, dA), (26, dA), (27, dA), (28, dA), (29, dA)]) (fun x => [hRowK x.2 63 2 RV (sharedV (a.take x.1) b p)]) (fun x => a.length - x.1) (fun x => x.1 ≤ a.length) (0, .slice none 0 0) ?start ?frame0 ?objs0 ?round)
  case start => simp
  case frame0 => ((try dsimp only [upds, z0, z1]); repeat (first | exact LeF.nil | refine LeF.co (k := ?_)))
  case objs0 => rfl
  case round =>
    rintro ⟨k, u⟩ h1
    dsimp only [upds, z0, z1]
    simp only at h1
    have h2 : (sharedV (a.take k) b p).length ≤ 1000 := Nat.le_trans (List.length_filter_le _ _) (Nat.le_trans (List.length_take_le _ _) (by omega))
    ((repeat' (first | (apply WL.opN; exact yF; dsimp only [setD, z0, z1]) | refine WL.nil ?_ | refine WC.seqK fun Kx hK => ?_ | (refine hK _ _ ?_; clear hK) | (refine Kont.skip ?_; clear hK) | refine WC.region ?_ | ((first | apply WL.pushK | apply WL.push1); (exact eD); exact OpD.t rfl; (exact oD); (intro _; exact hD); (exact (by simp)); (exact (by simp)); (first | exact ⟨by decide, by decide⟩ | skip); decide; (exact lD); (intro _; dsimp only [setD, z0, z1]); all_goals (try infer_instance)) | (apply WL.opN; (focus ((first | (apply SY.call (has_c _ _) Tryz.call122; (exact aD)) | exact yLss | exact yEql | exact yAdd | exact yLen | exact yIndexaddr | fail); all_goals infer_instance)); dsimp only [setD, z0, z1]) | (apply WC.condD; (exact oD); all_goals (intro h; try exact xD)) | refine WC.skip ?_ | refine WC.ret ?_ | refine WC.exit ?_ | refine WC.block ?_ | refine ThenD.n ?_)); all_goals (first | ((repeat clear hK); (repeat clear Kx))))
    · (refine ⟨(k + 1, _) , ?_, by first | omega | (simp only; omega), by ((try simp only);  (rw [sharedV_snoc (by omega), if_pos (by simpa using h)])), ?_⟩; rotate_left; ((try dsimp only [upds, z0, z1]); repeat (first | exact LeF.nil | refine LeF.co (k := ?_))); (try dsimp only))
      omega
    · (refine ⟨(k + 1, _) , ?_, by first | omega | (simp only; omega), by ((try simp only);  (rw [sharedV_snoc (by omega), if_neg (by simpa using h), List.append_nil])), ?_⟩; rotate_left; ((try dsimp only [upds, z0, z1]); repeat (first | exact LeF.nil | refine LeF.co (k := ?_))); (try dsimp only))
      omega
    · (refine ⟨trivial, _, rfl, ?_⟩; refine FinD.rowKE (.head _) ?_)
      rw [List.take_of_length_le (by omega)]
set_option maxHeartbeats 4000000 in
theorem sameAll_c (l m : List (List Vx)) : Fn Tryz.prog 53 [dS Simps l, dS Simps m] (dB (decide (l = m))) := by
  (refine Fn.intro1 Tryz.func53 rfl rfl ?_; simp only [Tryz.ntmps53, List.length_cons, List.length_nil, Nat.reduceAdd, Nat.reduceSub, List.replicate_succ, List.replicate_zero, List.cons_append, List.nil_append])
  ((repeat' (first | ((first | apply WL.opN | apply WD.opN); exact yF; dsimp only [setD, z0, z1]) | refine WL.nil ?_ | refine WC.seqK fun Kx hK => ?_ | (refine hK _ _ ?_; clear hK) | refine WC.region ?_ | ((first | apply WL.opN | apply WD.opN); (focus ((first | exact yNeq | exact yLen | fail); all_goals infer_instance)); dsimp only [setD, z0, z1]) | (apply WC.condN; (exact oD); all_goals (intro h; try exact xD)) | refine WC.skip ?_ | refine WC.ret ?_ | refine WC.block ?_ | refine ThenD.r ?_)); all_goals (first | refine WC.id ?_ | ((repeat clear hK); (repeat clear Kx))))
  · (refine ⟨trivial, _, rfl, ?_⟩; refine FinD.b ?_)
    have : l ≠ m := fun e => h (by rw [e])
    simp [this]
  · have hl : l.length = m.length := by omega
    (first | refine WC.know (t := 0) rfl le_K fun hl0 => ?_ | refine WC.know (t := 0) rfl le_A fun hl0 => ?_); simp only [maxLen] at hl0
    (refine WC.loopU (X := Nat) (fun k => [(5, dI (k : Int)), (4, dA), (11, dA), (12, dA), (13, dA), (14, dA), (15, dA), (16, dA), (17, dA), (18, dA), (19, dA), (20, dA), (21, dA), (22, dA), (23, dA), (24, dA), (25, dA), (26, dA)]) (fun k => []) (fun k => l.length - k) (fun k => k ≤ l.length ∧ l.take k = m.take k) 0 ?start ?frame0 ?objs0 ?round)
    case start => simp
    case frame0 => ((try dsimp only [upds, z0, z1]); repeat (first | exact LeF.nil | refine LeF.co (k := ?_)))
    case objs0 => rfl
    case round =>
      rintro k ⟨h1, h2⟩
      dsimp only [upds, z0, z1]
      ((repeat' (first | ((first | apply WL.opN | apply WD.opN); exact yF; dsimp only [setD, z0, z1]) | refine WL.nil ?_ | refine WD.nil ?_ | refine WC.seqK fun Kx hK => ?_ | (refine hK _ _ ?_; clear hK) | (refine Kont.skip ?_; clear hK) | refine WC.region ?_ | (apply WC.draw; kernel_rfl; kernel_rfl) | ((first | apply WL.opN | apply WD.opN); (focus ((first | (apply SY.call (same_c _ _) Tryz.call86; (exact aD)) | exact yLss | exact yNot | exact yAdd | exact yLen | exact yIndexaddr | fail); all_goals infer_instance)); dsimp only [setD, z0, z1]) | (apply WC.condD; (exact oD); all_goals (intro h; try exact xD)) | (apply WC.condN; (exact oD); all_goals (intro h; try exact xD)) | refine WC.skip ?_ | refine WC.ret ?_ | refine WC.exit ?_ | refine WC.block ?_ | refine ThenD.n ?_ | refine ThenD.r ?_ | refine InBlockD.r ?_)); all_goals (first | ((repeat clear hK); (repeat clear Kx))))
      · (refine ⟨trivial, _, rfl, ?_⟩; refine FinD.b ?_)
        have : l ≠ m := fun e => h (cmpL_eq.2 (by simp [e]))
        simp [this]
      · (refine ⟨k + 1, ?_, by first | omega | (simp only; omega), rfl, ?_⟩; rotate_left; ((try dsimp only [upds, z0, z1]); repeat (first | exact LeF.nil | refine LeF.co (k := ?_))); (try dsimp only))
        exact ⟨by omega, by rw [take_snoc' (by omega), take_snoc' (by omega), h2, cmpL_eq.1 h]⟩
      · (refine ⟨trivial, _, rfl, ?_⟩; refine FinD.b ?_)
        rw [List.take_of_length_le (by omega), List.take_of_length_le (by omega)] at h2
        simp [h2]
end Go.Proofs.YtjbepoofigokjaaGreat
namespace Go.Proofs.YtjbepoofigokjaaGreat
open Go.RowKit
set_option maxHeartbeats 2000000

set_option maxHeartbeats 4000000 in
theorem subs_c : ∀ (k : Nat) (s : List Vx), s.length ≤ 10 → k ≤ 100 → Fn Tryz.prog 83 [dS Verts s, dI (k : Int)] (dS Simps (subsV k s))
  | 0, s, hs, _ => by
    (refine Fn.intro1 Tryz.func83 rfl rfl ?_; simp only [Tryz.ntmps83, List.length_cons, List.length_nil, Nat.reduceAdd, Nat.reduceSub, List.replicate_succ, List.replicate_zero, List.cons_append, List.nil_append])
    ((repeat' (first | ((first | apply WL.opN | apply WD.opN); exact yF; dsimp only [setD, z0, z1]) | refine WL.nil ?_ | refine WC.seqK fun Kx hK => ?_ | (refine hK _ _ ?_; clear hK) | refine WC.region ?_ | ((first | apply WL.opN | apply WD.opN); (focus ((first | (refine SY.build1' (R := ArrK 2 RV) (els := [[]]) elSi (ElsD.cons ⟨Dat.le_nilK (by decide)⟩ ElsD.nil) rfl rfl (fun _ => shape_K) (by simp)) | exact yEql | fail); all_goals infer_instance)); dsimp only [setD, z0, z1]) | (apply WC.condD; (exact oD); all_goals (intro h; try exact xD)) | refine WC.ret ?_ | refine ThenD.r ?_)); all_goals (first | ((repeat clear hK); (repeat clear Kx))))
    (refine ⟨trivial, _, rfl, ?_⟩; refine FinD.s ?_)
    simp [subsV]
  | k + 1, s, hs, hk => by
    have ih := subs_c k
    (refine Fn.intro1 Tryz.func83 rfl rfl ?_; simp only [Tryz.ntmps83, List.length_cons, List.length_nil, Nat.reduceAdd, Nat.reduceSub, List.replicate_succ, List.replicate_zero, List.cons_append, List.nil_append])
    (repeat' (first | ((first | apply WL.opN | apply WD.opN); exact yF; dsimp only [setD, z0, z1]) | refine WL.nil ?_ | refine WC.seqK fun Kx hK => ?_ | (refine hK _ _ ?_; clear hK) | refine WC.region ?_ | ((first | apply WL.opN | apply WD.opN); (focus ((first | exact yEql | fail); all_goals infer_instance)); dsimp only [setD, z0, z1]) | (apply WC.condD; (exact oD); all_goals (intro h; try exact xD)) | refine WC.skip ?_ | refine WC.block ?_))
    refine WC.nilRow 34 (ArrK 2 RV) ?_
    (refine WC.loopU (X := Nat × Value × List (List Vx)) (fun x => [(5, dX x.2.1), (6, dI (x.1 : Int)), (7, dA), (8, dA), (12, dA), (13, dA), (14, dA), (15, dA), (16, dA), (17, dA), (18, dA), (19, dA), (20, dA), (21, dA), (22, dA), (23, dA), (24, dA), (25, dA), (26, dA), (27, dA), (28, dA), (29, dA), (30, dA), (31, dA), (32, dA), (33, dA), (34, dA), (35, dA), (36, dA), (37, dA), (38, dA), (39, dA), (40, dA), (41, dA), (42, dA), (43, dA), (44, dA), (45, dA)]) (fun x => [hRow x.2.1 34 (ArrK 2 RV) x.2.2]) (fun x => s.length - x.1) (fun x => x.1 ≤ s.length ∧ x.2.2 ++ subsV (k + 1) (s.drop x.1) = subsV (k + 1) s) (0, .slice none 0 0, []) ?start ?frame0 ?objs0 ?round)
    case start => simp
    case frame0 => ((try dsimp only [upds, z0, z1]); repeat (first | exact LeF.nil | refine LeF.co (k := ?_)))
    case objs0 => rfl
    case round =>
      rintro ⟨i, u, o⟩ ⟨h1, h2⟩
      dsimp only [upds, z0, z1]
      simp only at h1 h2
      have hd : (s.drop (i + 1)).length ≤ 10 := by rw [List.length_drop]; omega
      have ih' := ih (s.drop (i + 1)) hd (by omega)
      ((repeat' (first | ((first | apply WL.opN | apply WD.opN); exact yF; dsimp only [setD, z0, z1]) | refine WL.nil ?_ | refine WC.seqK fun Kx hK => ?_ | (refine hK _ _ ?_; clear hK) | (refine Kont.skip ?_; clear hK) | refine WC.region ?_ | ((first | apply WL.opN | apply WD.opN); (focus ((first | (apply SY.call (ih') Tryz.call83; (exact aD)) | (apply SY.fromK elV (OpD.t rfl) (OpD.t rfl) (i + 1); omega; omega) | exact yLeq | exact yAdd | exact ySub | exact yLen | fail); all_goals infer_instance)); dsimp only [setD, z0, z1]) | (apply WC.condD; (exact oD); all_goals (intro h; try exact xD)) | refine WC.skip ?_ | refine WC.ret ?_ | refine WC.exit ?_ | refine WC.block ?_)); all_goals (first | refine WC.id ?_ | ((repeat clear hK); (repeat clear Kx))))
      · have hi : i < s.length := by omega
        have hr : ∀ x ∈ subsV k (s.drop (i + 1)), x.length = k := subsV_el _ _
        rw [subsV_drop k s i hi] at h2
        have hb : (subsV (k + 1) s).length ≤ 1024 := Nat.le_trans (subsV_len _ _) (Nat.pow_le_pow_right (by decide) hs : 2 ^ s.length ≤ 2 ^ 10)
        have hrl : (subsV k (s.drop (i + 1))).length ≤ 1024 := Nat.le_trans (subsV_len _ _) (Nat.pow_le_pow_right (by decide) hd : 2 ^ (s.drop (i + 1)).length ≤ 2 ^ 10)
        generalize hrest : subsV k (s.drop (i + 1)) = rest at *
        (refine WC.loopU (X := Nat × Value × List (List Vx)) (fun x => [(5, dX x.2.1), (8, dI (x.1 : Int)), (27, dA), (28, dA), (29, dA), (30, dA), (31, dA), (32, dA), (33, dA), (34, dA), (35, dA), (36, dA), (37, dA), (38, dA), (39, dA), (40, dA), (41, dA), (42, dA), (43, dA), (44, dA), (45, dA)]) (fun x => [hRow x.2.1 34 (ArrK 2 RV) x.2.2]) (fun x => rest.length - x.1) (fun x => x.1 ≤ rest.length ∧ x.2.2 ++ ((rest.drop x.1).map (s[i] :: ·) ++ subsV (k + 1) (s.drop (i + 1))) = subsV (k + 1) s) (0, u, o) ?start ?frame0 ?objs0 ?round)
        case start => exact ⟨Nat.zero_le _, by simpa using h2⟩
        case frame0 => ((try dsimp only [upds, z0, z1]); repeat (first | exact LeF.nil | refine LeF.co (k := ?_)))
        case objs0 => rfl
        case round =>
          rintro ⟨j, u', o'⟩ ⟨h3, h4⟩
          dsimp only [upds, z0, z1]
          simp only at h3 h4
          have ho : o'.length ≤ 1024 := by rw [← h4] at hb; simp at hb; omega
          ((repeat' (first |  (apply WC.drawTail 12; kernel_rfl; kernel_rfl; simp only [List.take_succ_cons, List.take_zero, List.drop_succ_cons, List.drop_zero]) | ((first | apply WL.opN | apply WD.opN); exact yF; dsimp only [setD, z0, z1]) | refine WL.nil ?_ | refine WD.nil ?_ | refine WC.seqK fun Kx hK => ?_ | (refine hK _ _ ?_; clear hK) | (refine Kont.skip ?_; clear hK) | refine WC.region ?_ | ((first | apply WL.appK | apply WL.app1); (exact eD); exact OpD.t rfl; (exact oD); decide; (exact lD); (intro _; dsimp only [setD, z0, z1]); all_goals (try infer_instance)) | ((first | apply WL.opN | apply WD.opN); (focus ((first | (apply SY.fullE; exact elV; ((try simp only [List.map_cons, List.map_nil]); (repeat (first | exact ElsD.nl | (apply ElsD.cn; (first | exact OpD.t rfl | exact OpD.i | exact OpD.b))))); rfl; rfl; decide; (intro _; exact shape_V); (exact (by simp))) | (apply SY.appFullK; exact elV; exact OpD.t rfl; exact OpD.t rfl; decide; (have := hr _ (List.getElem_mem (by omega : j < rest.length)); simp; omega)) | exact yLss | exact yAdd | exact yLen | exact yIndexaddr | exact yBuildslice | fail); all_goals infer_instance)); dsimp only [setD, z0, z1]) | (apply WC.condD; (exact oD); all_goals (intro h; try exact xD)) | refine WC.skip ?_ | refine WC.exit ?_ | refine WC.block ?_ | refine ThenD.n ?_)); all_goals (first | ((repeat clear hK); (repeat clear Kx))))
          · have hj : j < rest.length := by omega
            (refine ⟨(j + 1, _, _), ?_, by first | omega | (simp only; omega), rfl, ?_⟩; rotate_left; ((try dsimp only [upds, z0, z1]); repeat (first | exact LeF.nil | refine LeF.co (k := ?_))); (try dsimp only))
            refine ⟨by omega, ?_⟩
            rw [← h4, drop_cons' hj]; simp only [List.map_cons, List.append_assoc, List.cons_append, List.nil_append]
          · rw [List.drop_of_length_le (by omega)] at h4
            (refine ⟨(i + 1, _, _), ?_, by first | omega | (simp only; omega), rfl, ?_⟩; rotate_left; ((try dsimp only [upds, z0, z1]); repeat (first | exact LeF.nil | refine LeF.co (k := ?_))); (try dsimp only))
            exact ⟨by omega, by simpa using h4⟩
      · (refine ⟨trivial, _, rfl, ?_⟩; refine FinD.rowE (.head _) ?_)
        rw [← h2, subsV_short _ _ (by rw [List.length_drop]; omega)]; simp

end Go.Proofs.YtjbepoofigokjaaGreat
namespace Go.Proofs.YtjbepoofigokjaaGreat
open Go.RowKit
set_option maxHeartbeats 2000000

set_option maxHeartbeats 4000000 in
theorem cmpF_p (a b : List Vx) : Fn Tryz.prog 105 [dS Verts a, dS Verts b, dFun Tryz.prog (fun x : Vx × Vx => [dS RV x.1, dS RV x.2]) (fun x => dI (cmpV x.1 x.2))] (dI (cmpL a b)) := by
  (refine Fn.intro1 Tryz.func105 rfl rfl ?_; simp only [Tryz.ntmps105, List.length_cons, List.length_nil, Nat.reduceAdd, Nat.reduceSub, List.replicate_succ, List.replicate_zero, List.cons_append, List.nil_append])
  (repeat' (first | (apply WL.opN; exact yF; dsimp only [setD, z0, z1]) | refine WL.nil ?_ | refine WC.seqK fun Kx hK => ?_ | (refine hK _ _ ?_; clear hK) | refine WC.region ?_ | (apply WL.opN; (focus ((first | exact yLen | fail); all_goals infer_instance)); dsimp only [setD, z0, z1]) | refine WC.block ?_))
  (first | refine WC.know (t := 0) rfl le_K fun hl0 => ?_ | refine WC.know (t := 0) rfl le_A fun hl0 => ?_); simp only [maxLen] at hl0
  (first | refine WC.know (t := 1) rfl le_K fun hl1 => ?_ | refine WC.know (t := 1) rfl le_A fun hl1 => ?_); simp only [maxLen] at hl1
  (refine WC.loopU (X := Nat) (fun k => [(13, dI (k : Int)), (6, dA), (7, dA), (8, dA), (9, dA), (10, dA), (14, dA), (15, dA), (16, dA), (17, dA), (18, dA), (19, dA), (20, dA), (21, dA), (22, dA), (23, dA), (24, dA), (25, dA), (26, dA), (27, dA), (28, dA), (29, dA), (30, dA), (31, dA), (32, dA), (33, dA)]) (fun k => []) (fun k => a.length - k) (fun k => k ≤ a.length ∧ k ≤ b.length ∧ cmpL a b = cmpL (a.drop k) (b.drop k)) 0 ?start ?frame0 ?objs0 ?round)
  case start => exact ⟨Nat.zero_le _, Nat.zero_le _, rfl⟩
  case frame0 => ((try dsimp only [upds, z0, z1]); repeat (first | exact LeF.nil | refine LeF.co (k := ?_)))
  case objs0 => rfl
  case round =>
    rintro k ⟨h1, h2, h3⟩
    dsimp only [upds, z0, z1]
    ((repeat' (first | (apply WL.opN; exact yF; dsimp only [setD, z0, z1]) | refine WL.nil ?_ | refine WC.seqK fun Kx hK => ?_ | (refine hK _ _ ?_; clear hK) | (refine Kont.skip ?_; clear hK) | refine WC.region ?_ | (apply WL.alloc; (exact tzV); (first | exact shape_X rfl | exact shape_XV); (intro _; dsimp only [setD, z0, z1])) | (apply WL.storeF; (exact tD); rfl; (exact oD); (exact hD); dsimp only [setD, z0, z1]) | (apply WL.opN; (focus ((first | (apply SY.dynF (x := ((a[k], b[k]) : Vx × Vx)); (exact OpD.t rfl); (exact aD)) | exact yLss | exact yGeq | exact yNeq | exact yAdd | exact yLen | exact yIndexaddr | fail); all_goals infer_instance)); dsimp only [setD, z0, z1]) | (apply WC.condD; (exact oD); all_goals (intro h; try exact xD)) | (apply WC.condN; (exact oD); all_goals (intro h; try exact xD)) | refine WC.skip ?_ | refine WC.ret ?_ | refine WC.exit ?_ | refine WC.block ?_ | refine ThenD.n ?_ | refine ThenD.r ?_ | refine InBlockD.r ?_)); all_goals (first | ((repeat clear hK); (repeat clear Kx))))
    all_goals first
      | ((refine ⟨k + 1, ?_, by first | omega | (simp only; omega), rfl, ?_⟩; rotate_left; ((try dsimp only [upds, z0, z1]); repeat (first | exact LeF.nil | refine LeF.co (k := ?_))); (try dsimp only)); exact ⟨by omega, by omega, h3.trans (cmpL_step (by omega) (by omega) (by assumption))⟩)
      | ((refine ⟨trivial, _, rfl, ?_⟩; refine FinD.i ?_); rw [h3, cmpL_drop]; repeat' split) <;> first | rfl | contradiction | omega
theorem cmpL_p (a b : List Vx) : Fn Tryz.prog 66 [dS Verts a, dS Verts b] (dI (cmpL a b)) := by
  (refine Fn.intro1 Tryz.func66 rfl rfl ?_; simp only [Tryz.ntmps66, List.length_cons, List.length_nil, Nat.reduceAdd, Nat.reduceSub, List.replicate_succ, List.replicate_zero, List.cons_append, List.nil_append])
  ((repeat' (first | (apply WL.opN; exact yF; dsimp only [setD, z0, z1]) | refine WL.nil ?_ | refine WC.seqK fun Kx hK => ?_ | (refine hK _ _ ?_; clear hK) | refine WC.region ?_ | (apply WL.opN; (focus ((first | (apply SY.call (cmpF_p _ _) Tryz.call105; (exact aD)) | fail); all_goals infer_instance)); dsimp only [setD, z0, z1]) | refine WC.ret ?_)); all_goals (first | ((repeat clear hK); (repeat clear Kx))))
  all_goals (refine ⟨trivial, _, rfl, ?_⟩; exact fD)
theorem eqV_p (a b : List Vx) : Fn Tryz.prog 104 [dS Verts a, dS Verts b] (dB (decide (a = b))) := by
  (refine Fn.intro1 Tryz.func104 rfl rfl ?_; simp only [Tryz.ntmps104, List.length_cons, List.length_nil, Nat.reduceAdd, Nat.reduceSub, List.replicate_succ, List.replicate_zero, List.cons_append, List.nil_append])
  ((repeat' (first | ((first | apply WL.opN | apply WD.opN); exact yF; dsimp only [setD, z0, z1]) | refine WL.nil ?_ | refine WC.seqK fun Kx hK => ?_ | (refine hK _ _ ?_; clear hK) | refine WC.region ?_ | ((first | apply WL.opN | apply WD.opN); (focus ((first | exact yNeq | exact yLen | fail); all_goals infer_instance)); dsimp only [setD, z0, z1]) | (apply WC.condN; (exact oD); all_goals (intro h; try exact xD)) | refine WC.skip ?_ | refine WC.ret ?_ | refine WC.block ?_ | refine ThenD.r ?_)); all_goals (first | refine WC.id ?_ | ((repeat clear hK); (repeat clear Kx))))
  · (refine ⟨trivial, _, rfl, ?_⟩; refine FinD.b ?_)
    have : a ≠ b := fun e => h (by rw [e])
    simp [this]
  · have h0 := h
    (first | refine WC.know (t := 0) rfl le_K fun hl0 => ?_ | refine WC.know (t := 0) rfl le_A fun hl0 => ?_); simp only [maxLen] at hl0
    have h0' : a.length = b.length := by omega
    (refine WC.loopU (X := Nat) (fun k => [(13, dI (k : Int)), (4, dA), (5, dA), (14, dA), (15, dA), (16, dA), (17, dA), (18, dA), (19, dA), (20, dA), (21, dA), (22, dA), (23, dA), (24, dA), (25, dA)]) (fun k => []) (fun k => a.length - k) (fun k => k ≤ a.length ∧ a.take k = b.take k) 0 ?start ?frame0 ?objs0 ?round)
    case start => simp
    case frame0 => ((try dsimp only [upds, z0, z1]); repeat (first | exact LeF.nil | refine LeF.co (k := ?_)))
    case objs0 => rfl
    case round =>
      rintro k ⟨h1, h2⟩
      dsimp only [upds, z0, z1]
      ((repeat' (first | ((first | apply WL.opN | apply WD.opN); exact yF; dsimp only [setD, z0, z1]) | refine WL.nil ?_ | refine WD.nil ?_ | refine WC.seqK fun Kx hK => ?_ | (refine hK _ _ ?_; clear hK) | (refine Kont.skip ?_; clear hK) | refine WC.region ?_ | (apply WC.draw; kernel_rfl; kernel_rfl) | ((first | apply WL.opN | apply WD.opN); (focus ((first | exact yLss | exact yNeq | exact yAdd | exact yIndexaddr | fail); all_goals infer_instance)); dsimp only [setD, z0, z1]) | (apply WC.condD; (exact oD); all_goals (intro h; try exact xD)) | (apply WC.condN; (exact oD); all_goals (intro h; try exact xD)) | refine WC.skip ?_ | refine WC.ret ?_ | refine WC.exit ?_ | refine WC.block ?_ | refine ThenD.n ?_ | refine ThenD.r ?_ | refine InBlockD.r ?_)); all_goals (first | ((repeat clear hK); (repeat clear Kx))))
      · (refine ⟨trivial, _, rfl, ?_⟩; refine FinD.b ?_)
        have : a ≠ b := fun e => h (by subst e; rfl)
        simp [this]
      · (refine ⟨k + 1, ?_, by first | omega | (simp only; omega), rfl, ?_⟩; rotate_left; ((try dsimp only [upds, z0, z1]); repeat (first | exact LeF.nil | refine LeF.co (k := ?_))); (try dsimp only))
        exact ⟨by omega, by rw [take_snoc' (by omega), take_snoc' (by omega), h2, h]⟩
      · rw [List.take_of_length_le (by omega), List.take_of_length_le (by omega)] at h2
        (refine ⟨trivial, _, rfl, ?_⟩; refine FinD.b ?_)
        simp [h2]
end Go.Proofs.YtjbepoofigokjaaGreat
