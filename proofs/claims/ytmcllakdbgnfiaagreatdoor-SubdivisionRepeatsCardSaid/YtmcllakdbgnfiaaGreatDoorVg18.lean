/- Part 18: walks by contracts, and plain laws. -/
import Derived.Test.YtmcllakdbgnfiaaGreatDoorVg16
set_option linter.unusedVariables false
set_option linter.unusedSimpArgs false
set_option linter.unusedSectionVars false
set_option maxRecDepth 100000
set_option maxHeartbeats 4000000
namespace Go.Proofs.YtmcllakdbgnfiaaGreatDoor
section
open Go.RowKit

theorem cmpV_c (x y : Vx) : Fn Tryz.prog 97 [dS RV x, dS RV y] (dI (ZAX x y)) := by
 (refine ZE Tryz.func97 rfl rfl ?_; simp only [Tryz.ntmps97, List.length_cons, List.length_nil, Nat.reduceAdd, Nat.reduceSub, List.replicate_succ, List.replicate_zero, List.cons_append, List.nil_append])
 ((repeat' (first | (apply WL.opN; exact yF; dsimp only [ZB, z0, z1]) | refine WL.nil ?_ | refine ZA fun Kx hK => ?_ | (refine hK _ _ ?_; clear hK) | refine WC.region ?_ | (apply WL.opN; (focus ((first | exact ZBu | exact yGtr | exact Zx | exact yBox | fail); all_goals infer_instance)); dsimp only [ZB, z0, z1]) | (apply ZC; (exact oD); all_goals (intro h; try exact xD)) | refine WC.skip ?_ | refine WC.ret ?_ | refine WC.block ?_ | refine ThenD.r ?_ | refine InBlockD.r ?_)); all_goals (first | ((repeat clear hK); (repeat clear Kx))))
 all_goals ((refine ⟨trivial, _, rfl, ?_⟩; refine FinD.i ?_); unfold ZAX; simp [*])
theorem rngV_c (x : Vx) : Fn Tryz.prog 104 [dS RV x] (dB (rngV x)) := by
 (refine ZE Tryz.func104 rfl rfl ?_; simp only [Tryz.ntmps104, List.length_cons, List.length_nil, Nat.reduceAdd, Nat.reduceSub, List.replicate_succ, List.replicate_zero, List.cons_append, List.nil_append])
 ((repeat' (first | (apply WL.opN; exact yF; dsimp only [ZB, z0, z1]) | refine WL.nil ?_ | refine ZA fun Kx hK => ?_ | (refine hK _ _ ?_; clear hK) | refine WC.region ?_ | (apply ZJ; (focus (first | exact wN | (apply ZG; (exact wY); ((first | exact ZBu | exact yLeq | exact yGeq | exact yLoad | exact Zx | exact yPick | exact yBox | fail); all_goals infer_instance)))); dsimp only [ZB, z0, z1]) | ((first | refine Zd rfl rfl rfl (fun h => ?_) (fun h => ?_) | refine Zc rfl rfl rfl (fun h => ?_) (fun h => ?_) | refine ZY rfl rfl rfl (fun h => ?_) (fun h => ?_)) <;> (first | (exfalso; first | omega | contradiction) | (dsimp only [z0, z1]))) | refine WC.ret ?_)); all_goals (first | ((repeat clear hK); (repeat clear Kx))))
 all_goals ((refine ⟨trivial, _, rfl, ?_⟩; refine FinD.b ?_); unfold rngV; simp [*])
set_option maxHeartbeats 4000000 in
theorem cmpL_c (a b : List Vx) : Fn Tryz.prog 57 [dS ZF a, dS ZF b] (dI (ZAc a b)) := by
 (refine ZE Tryz.func57 rfl rfl ?_; simp only [Tryz.ntmps57, List.length_cons, List.length_nil, Nat.reduceAdd, Nat.reduceSub, List.replicate_succ, List.replicate_zero, List.cons_append, List.nil_append])
 (repeat' (first | ((first | apply WL.opN | apply WD.opN); exact yF; dsimp only [ZB, z0, z1]) | refine WL.nil ?_ | refine ZA fun Kx hK => ?_ | (refine hK _ _ ?_; clear hK) | refine WC.region ?_ | refine WC.block ?_))
 (first | refine ZR (t := 0) rfl le_K fun hl0 => ?_ | refine ZR (t := 0) rfl le_A fun hl0 => ?_); simp only [maxLen] at hl0
 (first | refine ZR (t := 1) rfl le_K fun hl1 => ?_ | refine ZR (t := 1) rfl le_A fun hl1 => ?_); simp only [maxLen] at hl1
 (refine WC.loopU (X := Nat) (fun k => [(5, dI (k : Int)), (4, dA), (6, dA), (7, dA), (8, dA), (9, dA), (10, dA), (11, dA), (12, dA), (13, dA), (14, dA), (15, dA), (16, dA), (17, dA), (18, dA), (19, dA), (20, dA), (21, dA), (22, dA), (23, dA), (24, dA), (25, dA), (26, dA), (27, dA), (28, dA), (29, dA), (30, dA)]) (fun k => []) (fun k => a.length - k) (fun k => k <= a.length /\ k <= b.length /\ ZAc a b = ZAc (a.drop k) (b.drop k)) 0 ?start ?frame0 ?objs0 ?round)
 case start => exact ⟨Nat.zero_le _, Nat.zero_le _, rfl⟩
 case frame0 => ((try dsimp only [ZL, z0, z1]); repeat (first | exact LeF.nil | refine ZD (k := ?_)))
 case objs0 => rfl
 case round =>
  rintro k ⟨h1, h2, h3⟩
  dsimp only [ZL, z0, z1]
  ((repeat' (first | ((first | apply WL.opN | apply WD.opN); exact yF; dsimp only [ZB, z0, z1]) | refine WL.nil ?_ | refine WD.nil ?_ | refine ZA fun Kx hK => ?_ | (refine hK _ _ ?_; clear hK) | (refine Kont.skip ?_; clear hK) | refine WC.region ?_ | (apply WC.draw; kernel_rfl; kernel_rfl) | ((first | apply ZJ | apply WD.op); (focus (first | exact wN | (apply ZG; (exact wY); ((first | (apply SY.call (cmpV_c _ _) Tryz.call97; (exact aD)) | exact yMove | exact ZBu | exact yGtr | exact yNeq | exact yAdd | exact ZBV | exact ZT | exact yPick | fail); all_goals infer_instance)))); dsimp only [ZB, z0, z1]) | ((first | refine Zd rfl rfl rfl (fun h => ?_) (fun h => ?_) | refine Zc rfl rfl rfl (fun h => ?_) (fun h => ?_) | refine ZY rfl rfl rfl (fun h => ?_) (fun h => ?_) | refine ZAf rfl rfl rfl (fun h => ?_) (fun h => ?_) | refine ZAh rfl rfl rfl (fun h => ?_) (fun h => ?_) | refine ZAD rfl rfl rfl (fun h => ?_) (fun h => ?_)) <;> (first | (exfalso; first | omega | contradiction) | (dsimp only [z0, z1]))) | (apply Zr; (exact oD); (with_reducible rfl)) | (apply ZC; (exact oD); all_goals (intro h; try exact xD)) | (apply ZH; (exact oD); all_goals (intro h; try exact xD)) | refine WC.skip ?_ | refine WC.ret ?_ | refine WC.exit ?_ | refine WC.block ?_ | refine ThenD.n ?_ | refine ThenD.r ?_ | refine InBlockD.r ?_)); all_goals (first | ((repeat clear hK); (repeat clear Kx))))
  all_goals first
   | ((refine ⟨k + 1, ?_, by first | omega | (simp only; omega), rfl, ?_⟩; rotate_left; ((try dsimp only [ZL, z0, z1]); repeat (first | exact LeF.nil | refine ZD (k := ?_))); (try dsimp only)); exact ⟨by omega, by omega, h3.trans (cmpL_step (by omega) (by omega) (by assumption))⟩)
   | ((refine ⟨trivial, _, rfl, ?_⟩; refine FinD.i ?_); rw [h3, cmpL_drop]; repeat' split) <;> first | rfl | contradiction | omega
theorem same_c (a b : List Vx) : Fn Tryz.prog 32 [dS ZF a, dS ZF b] (dB (decide (ZAc a b = 0))) := by
 (refine ZE Tryz.func32 rfl rfl ?_; simp only [Tryz.ntmps32, List.length_cons, List.length_nil, Nat.reduceAdd, Nat.reduceSub, List.replicate_succ, List.replicate_zero, List.cons_append, List.nil_append])
 ((repeat' (first | (apply WL.opN; exact yF; dsimp only [ZB, z0, z1]) | refine WL.nil ?_ | refine ZA fun Kx hK => ?_ | (refine hK _ _ ?_; clear hK) | refine WC.region ?_ | (apply WL.opN; (focus ((first | (apply SY.call (cmpL_c _ _) Tryz.call57; (exact aD)) | exact yEql | fail); all_goals infer_instance)); dsimp only [ZB, z0, z1]) | refine WC.ret ?_)); all_goals (first | ((repeat clear hK); (repeat clear Kx))))
 all_goals (refine ⟨trivial, _, rfl, ?_⟩; exact fD)
theorem has_c (s : List Vx) (v : Vx) : Fn Tryz.prog 95 [dS ZF s, dS RV v] (dB (decide (v ∈ s))) := by
 (refine ZE Tryz.func95 rfl rfl ?_; simp only [Tryz.ntmps95, List.length_cons, List.length_nil, Nat.reduceAdd, Nat.reduceSub, List.replicate_succ, List.replicate_zero, List.cons_append, List.nil_append])
 (repeat' (first | ((first | apply WL.opN | apply WD.opN); exact yF; dsimp only [ZB, z0, z1]) | refine WL.nil ?_ | refine ZA fun Kx hK => ?_ | (refine hK _ _ ?_; clear hK) | refine WC.region ?_ | ((first | apply WL.opN | apply WD.opN); (focus ((first | exact yBox | fail); all_goals infer_instance)); dsimp only [ZB, z0, z1]) | refine WC.block ?_))
 (first | refine ZR (t := 0) rfl le_K fun hl0 => ?_ | refine ZR (t := 0) rfl le_A fun hl0 => ?_); simp only [maxLen] at hl0
 (refine WC.loopU (X := Nat) (fun k => [(5, dI (k : Int)), (4, dA), (6, dA), (7, dA), (8, dA), (9, dA), (10, dA), (11, dA), (12, dA), (13, dA), (14, dA), (15, dA), (16, dA), (17, dA)]) (fun k => []) (fun k => s.length - k) (fun k => k <= s.length /\ v ∉ s.take k) 0 ?start ?frame0 ?objs0 ?round)
 case start => simp
 case frame0 => ((try dsimp only [ZL, z0, z1]); repeat (first | exact LeF.nil | refine ZD (k := ?_)))
 case objs0 => rfl
 case round =>
  rintro k ⟨h1, h2⟩
  dsimp only [ZL, z0, z1]
  ((repeat' (first | ((first | apply WL.opN | apply WD.opN); exact yF; dsimp only [ZB, z0, z1]) | refine WL.nil ?_ | refine WD.nil ?_ | refine ZA fun Kx hK => ?_ | (refine hK _ _ ?_; clear hK) | (refine Kont.skip ?_; clear hK) | refine WC.region ?_ | (apply WC.draw; kernel_rfl; kernel_rfl) | ((first | apply WL.opN | apply WD.opN); (focus ((first | exact ZBu | exact yEql | exact yAdd | exact ZBV | exact ZT | fail); all_goals infer_instance)); dsimp only [ZB, z0, z1]) | (apply ZC; (exact oD); all_goals (intro h; try exact xD)) | refine WC.skip ?_ | refine WC.ret ?_ | refine WC.exit ?_ | refine WC.block ?_ | refine ThenD.n ?_ | refine ThenD.r ?_ | refine InBlockD.r ?_)); all_goals (first | ((repeat clear hK); (repeat clear Kx))))
  ·(refine ⟨trivial, _, rfl, ?_⟩; refine FinD.b ?_)
   rename_i h
   rw [<- h]; simp
  ·(refine ⟨k + 1, ?_, by first | omega | (simp only; omega), rfl, ?_⟩; rotate_left; ((try dsimp only [ZL, z0, z1]); repeat (first | exact LeF.nil | refine ZD (k := ?_))); (try dsimp only))
   rename_i h
   exact ⟨by omega, fun hm => by rcases (ZA5 (by omega)).1 hm with h' | h'; exact h2 h'; exact h h'.symm⟩
  ·(refine ⟨trivial, _, rfl, ?_⟩; refine FinD.b ?_)
   rw [List.take_of_length_le (by omega)] at h2
   simp [h2]
set_option maxHeartbeats 4000000 in
theorem chk_c (s : List Vx) : Fn Tryz.prog 56 [dS ZF s] (dI (Zn s)) := by
 (refine ZE Tryz.func56 rfl rfl ?_; simp only [Tryz.ntmps56, List.length_cons, List.length_nil, Nat.reduceAdd, Nat.reduceSub, List.replicate_succ, List.replicate_zero, List.cons_append, List.nil_append])
 ((repeat' (first | ((first | apply WL.opN | apply WD.opN); exact yF; dsimp only [ZB, z0, z1]) | refine WL.nil ?_ | refine ZA fun Kx hK => ?_ | (refine hK _ _ ?_; clear hK) | refine WC.region ?_ | ((first | apply ZJ | apply WD.op); (focus (first | exact wN | (apply ZG; (exact wY); ((first | exact yGtr | exact yEql | exact ZBV | fail); all_goals infer_instance)))); dsimp only [ZB, z0, z1]) | (apply ZC; (exact oD); all_goals (intro h; try exact xD)) | refine WC.skip ?_ | refine WC.ret ?_ | refine WC.block ?_ | refine ThenD.r ?_ | refine InBlockD.r ?_)); all_goals (first | refine WC.id ?_ | ((repeat clear hK); (repeat clear Kx))))
 ·(refine ⟨trivial, _, rfl, ?_⟩; refine FinD.i ?_)
  unfold Zn; rw [if_pos (by omega)]
 ·(refine ⟨trivial, _, rfl, ?_⟩; refine FinD.i ?_)
  unfold Zn; rw [if_neg (by omega), if_pos (by omega)]
 ·rename_i h1 h2
  have hs : Zn s = chkG none s := by unfold Zn; rw [if_neg (by omega), if_neg (by omega)]
  (refine WC.loopU (X := Nat) (fun k => [(3, dI (k : Int)), (2, dA), (12, dA), (13, dA), (14, dA), (15, dA), (16, dA), (17, dA), (18, dA), (19, dA), (20, dA), (21, dA), (22, dA), (23, dA), (24, dA), (25, dA), (26, dA), (27, dA), (28, dA), (29, dA), (30, dA), (31, dA), (32, dA), (33, dA), (34, dA), (35, dA), (36, dA), (37, dA), (38, dA)]) (fun k => []) (fun k => s.length - k) (fun k => k <= s.length /\ Zn s = chkG (s.take k).getLast? (s.drop k)) 0 ?start ?frame0 ?objs0 ?round)
  case start => exact ⟨Nat.zero_le _, by rw [hs]; rfl⟩
  case frame0 => ((try dsimp only [ZL, z0, z1]); repeat (first | exact LeF.nil | refine ZD (k := ?_)))
  case objs0 => rfl
  case round =>
   rintro k ⟨h3, h4⟩
   dsimp only [ZL, z0, z1]
   ((repeat' (first | ((first | apply WL.opN | apply WD.opN); exact yF; dsimp only [ZB, z0, z1]) | refine WL.nil ?_ | refine WD.nil ?_ | refine ZA fun Kx hK => ?_ | (refine hK _ _ ?_; clear hK) | (refine Kont.skip ?_; clear hK) | refine WC.region ?_ | (apply WC.draw; kernel_rfl; kernel_rfl) | ((first | apply ZJ | apply WD.op); (focus (first | exact wN | (apply ZG; (exact wY); ((first | (apply SY.call (cmpV_c _ _) Tryz.call97; (exact aD)) | (apply SY.call (rngV_c _) Tryz.call104; (exact aD)) | (apply SY.ixKJ elV (OpD.t rfl) (OpD.t rfl) (k - 1); omega; omega) | exact yMove | exact ZBu | exact yGtr | exact yGeq | exact yNot | exact yAdd | exact ySub | exact yLoad | exact ZBV | exact ZT | exact yPick | fail); all_goals infer_instance)))); dsimp only [ZB, z0, z1]) | ((first | refine Zd rfl rfl rfl (fun h => ?_) (fun h => ?_) | refine Zc rfl rfl rfl (fun h => ?_) (fun h => ?_) | refine ZY rfl rfl rfl (fun h => ?_) (fun h => ?_) | refine ZAf rfl rfl rfl (fun h => ?_) (fun h => ?_) | refine ZAh rfl rfl rfl (fun h => ?_) (fun h => ?_) | refine ZAD rfl rfl rfl (fun h => ?_) (fun h => ?_)) <;> (first | (exfalso; first | omega | contradiction) | (dsimp only [z0, z1]))) | (apply Zr; (exact oD); (with_reducible rfl)) | (apply ZC; (exact oD); all_goals (intro h; try exact xD)) | (apply Zk; (exact oD); all_goals (intro h; try exact xD)) | refine WC.skip ?_ | refine WC.ret ?_ | refine WC.exit ?_ | refine WC.block ?_ | refine ThenD.n ?_ | refine ThenD.r ?_ | refine InBlockD.r ?_)); all_goals (first | ((repeat clear hK); (repeat clear Kx))))
   all_goals try (rw [chkG_drop s k (by omega)] at h4)
   ·(refine ⟨trivial, _, rfl, ?_⟩; refine FinD.i ?_)
    rw [h4, if_pos h]
   ·(refine ⟨trivial, _, rfl, ?_⟩; refine FinD.i ?_)
    have h5 : rngV s[k] = true := by assumption
    rw [h4, if_neg (by simp [h5]), last_take _ _ (by omega) (by omega), if_pos (by simpa using h)]
   ·(refine ⟨k + 1, ?_, by first | omega | (simp only; omega), rfl, ?_⟩; rotate_left; ((try dsimp only [ZL, z0, z1]); repeat (first | exact LeF.nil | refine ZD (k := ?_))); (try dsimp only))
    refine ⟨by omega, ?_⟩
    have h5 : rngV s[k] = true := by assumption
    rw [h4, if_neg (by simp [h5]), last_take _ _ (by omega) (by omega), if_neg (by simpa using h)]
   ·(refine ⟨k + 1, ?_, by first | omega | (simp only; omega), rfl, ?_⟩; rotate_left; ((try dsimp only [ZL, z0, z1]); repeat (first | exact LeF.nil | refine ZD (k := ?_))); (try dsimp only))
    refine ⟨by omega, ?_⟩
    have h5 : rngV s[k] = true := by assumption
    have h0 : (s.take k).getLast? = none := by
     have : k = 0 := by omega
     rw [this]; rfl
    rw [h4, if_neg (by simp [h5]), h0]
    rfl
   ·(refine ⟨trivial, _, rfl, ?_⟩; refine FinD.i ?_)
    rw [h4, List.drop_of_length_le (by omega)]
    rfl
end
section
open Go.RowKit

theorem inside_c (a b : List Vx) : Fn Tryz.prog 58 [dS ZF a, dS ZF b] (dB (ZAm a b)) := by
 (refine ZE Tryz.func58 rfl rfl ?_; simp only [Tryz.ntmps58, List.length_cons, List.length_nil, Nat.reduceAdd, Nat.reduceSub, List.replicate_succ, List.replicate_zero, List.cons_append, List.nil_append])
 (repeat' (first | (apply WL.opN; exact yF; dsimp only [ZB, z0, z1]) | refine WL.nil ?_ | refine ZA fun Kx hK => ?_ | (refine hK _ _ ?_; clear hK) | refine WC.region ?_ | refine WC.block ?_))
 (first | refine ZR (t := 0) rfl le_K fun hl0 => ?_ | refine ZR (t := 0) rfl le_A fun hl0 => ?_); simp only [maxLen] at hl0
 (refine WC.loopU (X := Nat) (fun k => [(5, dI (k : Int)), (4, dA), (6, dA), (7, dA), (8, dA), (9, dA), (10, dA), (11, dA), (12, dA), (13, dA), (14, dA), (15, dA), (16, dA), (17, dA), (18, dA)]) (fun k => []) (fun k => a.length - k) (fun k => k <= a.length /\ (a.take k).all (fun x => decide (x ∈ b)) = true) 0 ?start ?frame0 ?objs0 ?round)
 case start => simp
 case frame0 => ((try dsimp only [ZL, z0, z1]); repeat (first | exact LeF.nil | refine ZD (k := ?_)))
 case objs0 => rfl
 case round =>
  rintro k ⟨h1, h2⟩
  dsimp only [ZL, z0, z1]
  ((repeat' (first | (apply WL.opN; exact yF; dsimp only [ZB, z0, z1]) | refine WL.nil ?_ | refine ZA fun Kx hK => ?_ | (refine hK _ _ ?_; clear hK) | (refine Kont.skip ?_; clear hK) | refine WC.region ?_ | (apply WL.opN; (focus ((first | (apply SY.call (has_c _ _) Tryz.call95; (exact aD)) | exact ZBu | exact yNot | exact yAdd | exact ZBV | exact ZT | fail); all_goals infer_instance)); dsimp only [ZB, z0, z1]) | (apply ZC; (exact oD); all_goals (intro h; try exact xD)) | (apply ZH; (exact oD); all_goals (intro h; try exact xD)) | refine WC.skip ?_ | refine WC.ret ?_ | refine WC.exit ?_ | refine WC.block ?_ | refine ThenD.n ?_ | refine ThenD.r ?_ | refine InBlockD.r ?_)); all_goals (first | ((repeat clear hK); (repeat clear Kx))))
  ·(refine ⟨trivial, _, rfl, ?_⟩; refine FinD.b ?_)
   unfold ZAm
   symm
   rw [List.all_eq_false]
   exact ⟨a[k], List.getElem_mem _, by simpa using h⟩
  ·(refine ⟨k + 1, ?_, by first | omega | (simp only; omega), rfl, ?_⟩; rotate_left; ((try dsimp only [ZL, z0, z1]); repeat (first | exact LeF.nil | refine ZD (k := ?_))); (try dsimp only))
   exact ⟨by omega, by rw [all_snoc (by omega), h2]; simpa using h⟩
  ·(refine ⟨trivial, _, rfl, ?_⟩; refine FinD.b ?_)
   rw [List.take_of_length_le (by omega)] at h2
   exact h2.symm
set_option maxHeartbeats 4000000 in
theorem sameAll_c (l m : List (List Vx)) : Fn Tryz.prog 33 [dS Zq l, dS Zq m] (dB (decide (l = m))) := by
 (refine ZE Tryz.func33 rfl rfl ?_; simp only [Tryz.ntmps33, List.length_cons, List.length_nil, Nat.reduceAdd, Nat.reduceSub, List.replicate_succ, List.replicate_zero, List.cons_append, List.nil_append])
 ((repeat' (first | ((first | apply WL.opN | apply WD.opN); exact yF; dsimp only [ZB, z0, z1]) | refine WL.nil ?_ | refine ZA fun Kx hK => ?_ | (refine hK _ _ ?_; clear hK) | refine WC.region ?_ | ((first | apply WL.opN | apply WD.opN); (focus ((first | exact yNeq | exact ZBV | fail); all_goals infer_instance)); dsimp only [ZB, z0, z1]) | (apply ZH; (exact oD); all_goals (intro h; try exact xD)) | refine WC.skip ?_ | refine WC.ret ?_ | refine WC.block ?_ | refine ThenD.r ?_)); all_goals (first | refine WC.id ?_ | ((repeat clear hK); (repeat clear Kx))))
 ·(refine ⟨trivial, _, rfl, ?_⟩; refine FinD.b ?_)
  have : l ≠ m := fun e => h (by rw [e])
  simp [this]
 ·have hl : l.length = m.length := by omega
  (first | refine ZR (t := 0) rfl le_K fun hl0 => ?_ | refine ZR (t := 0) rfl le_A fun hl0 => ?_); simp only [maxLen] at hl0
  (refine WC.loopU (X := Nat) (fun k => [(5, dI (k : Int)), (4, dA), (11, dA), (12, dA), (13, dA), (14, dA), (15, dA), (16, dA), (17, dA), (18, dA), (19, dA), (20, dA), (21, dA), (22, dA), (23, dA), (24, dA), (25, dA), (26, dA)]) (fun k => []) (fun k => l.length - k) (fun k => k <= l.length /\ l.take k = m.take k) 0 ?start ?frame0 ?objs0 ?round)
  case start => simp
  case frame0 => ((try dsimp only [ZL, z0, z1]); repeat (first | exact LeF.nil | refine ZD (k := ?_)))
  case objs0 => rfl
  case round =>
   rintro k ⟨h1, h2⟩
   dsimp only [ZL, z0, z1]
   ((repeat' (first | ((first | apply WL.opN | apply WD.opN); exact yF; dsimp only [ZB, z0, z1]) | refine WL.nil ?_ | refine WD.nil ?_ | refine ZA fun Kx hK => ?_ | (refine hK _ _ ?_; clear hK) | (refine Kont.skip ?_; clear hK) | refine WC.region ?_ | (apply WC.draw; kernel_rfl; kernel_rfl) | ((first | apply WL.opN | apply WD.opN); (focus ((first | (apply SY.call (same_c _ _) Tryz.call32; (exact aD)) | exact ZBu | exact yNot | exact yAdd | exact ZBV | exact ZT | fail); all_goals infer_instance)); dsimp only [ZB, z0, z1]) | (apply ZC; (exact oD); all_goals (intro h; try exact xD)) | (apply ZH; (exact oD); all_goals (intro h; try exact xD)) | refine WC.skip ?_ | refine WC.ret ?_ | refine WC.exit ?_ | refine WC.block ?_ | refine ThenD.n ?_ | refine ThenD.r ?_ | refine InBlockD.r ?_)); all_goals (first | ((repeat clear hK); (repeat clear Kx))))
   ·(refine ⟨trivial, _, rfl, ?_⟩; refine FinD.b ?_)
    have : l ≠ m := fun e => h (cmpL_eq.2 (by simp [e]))
    simp [this]
   ·(refine ⟨k + 1, ?_, by first | omega | (simp only; omega), rfl, ?_⟩; rotate_left; ((try dsimp only [ZL, z0, z1]); repeat (first | exact LeF.nil | refine ZD (k := ?_))); (try dsimp only))
    exact ⟨by omega, by rw [ZQ (by omega), ZQ (by omega), h2, cmpL_eq.1 h]⟩
   ·(refine ⟨trivial, _, rfl, ?_⟩; refine FinD.b ?_)
    rw [List.take_of_length_le (by omega), List.take_of_length_le (by omega)] at h2
    simp [h2]
end
section
open Go.RowKit

set_option maxHeartbeats 4000000 in
theorem cmpF_p (a b : List Vx) : Fn Tryz.prog 119 [dS ZF a, dS ZF b, dFun Tryz.prog (fun x : Vx × Vx => [dS RV x.1, dS RV x.2]) (fun x => dI (ZAX x.1 x.2))] (dI (ZAc a b)) := by
 (refine ZE Tryz.func119 rfl rfl ?_; simp only [Tryz.ntmps119, List.length_cons, List.length_nil, Nat.reduceAdd, Nat.reduceSub, List.replicate_succ, List.replicate_zero, List.cons_append, List.nil_append])
 (repeat' (first | (apply WL.opN; exact yF; dsimp only [ZB, z0, z1]) | refine WL.nil ?_ | refine ZA fun Kx hK => ?_ | (refine hK _ _ ?_; clear hK) | refine WC.region ?_ | (apply WL.opN; (focus ((first | exact ZBV | fail); all_goals infer_instance)); dsimp only [ZB, z0, z1]) | refine WC.block ?_))
 (first | refine ZR (t := 0) rfl le_K fun hl0 => ?_ | refine ZR (t := 0) rfl le_A fun hl0 => ?_); simp only [maxLen] at hl0
 (first | refine ZR (t := 1) rfl le_K fun hl1 => ?_ | refine ZR (t := 1) rfl le_A fun hl1 => ?_); simp only [maxLen] at hl1
 (refine WC.loopU (X := Nat) (fun k => [(13, dI (k : Int)), (6, dA), (7, dA), (8, dA), (9, dA), (10, dA), (14, dA), (15, dA), (16, dA), (17, dA), (18, dA), (19, dA), (20, dA), (21, dA), (22, dA), (23, dA), (24, dA), (25, dA), (26, dA), (27, dA), (28, dA), (29, dA), (30, dA), (31, dA), (32, dA), (33, dA)]) (fun k => []) (fun k => a.length - k) (fun k => k <= a.length /\ k <= b.length /\ ZAc a b = ZAc (a.drop k) (b.drop k)) 0 ?start ?frame0 ?objs0 ?round)
 case start => exact ⟨Nat.zero_le _, Nat.zero_le _, rfl⟩
 case frame0 => ((try dsimp only [ZL, z0, z1]); repeat (first | exact LeF.nil | refine ZD (k := ?_)))
 case objs0 => rfl
 case round =>
  rintro k ⟨h1, h2, h3⟩
  dsimp only [ZL, z0, z1]
  ((repeat' (first | (apply WL.opN; exact yF; dsimp only [ZB, z0, z1]) | refine WL.nil ?_ | refine ZA fun Kx hK => ?_ | (refine hK _ _ ?_; clear hK) | (refine Kont.skip ?_; clear hK) | refine WC.region ?_ | (apply WL.alloc; (exact tzV); (first | exact ZW rfl | exact Zs); (intro _; dsimp only [ZB, z0, z1])) | (apply WL.storeF; (exact tD); rfl; (exact oD); (exact hD); dsimp only [ZB, z0, z1]) | (apply WL.opN; (focus ((first | (apply ZCX (x := ((a[k], b[k]) : Vx × Vx)); (exact OpD.t rfl); (exact aD)) | exact ZBu | exact yGeq | exact yNeq | exact yAdd | exact ZBV | exact ZT | fail); all_goals infer_instance)); dsimp only [ZB, z0, z1]) | (apply ZC; (exact oD); all_goals (intro h; try exact xD)) | (apply ZH; (exact oD); all_goals (intro h; try exact xD)) | refine WC.skip ?_ | refine WC.ret ?_ | refine WC.exit ?_ | refine WC.block ?_ | refine ThenD.n ?_ | refine ThenD.r ?_ | refine InBlockD.r ?_)); all_goals (first | ((repeat clear hK); (repeat clear Kx))))
  all_goals first
   | ((refine ⟨k + 1, ?_, by first | omega | (simp only; omega), rfl, ?_⟩; rotate_left; ((try dsimp only [ZL, z0, z1]); repeat (first | exact LeF.nil | refine ZD (k := ?_))); (try dsimp only)); exact ⟨by omega, by omega, h3.trans (cmpL_step (by omega) (by omega) (by assumption))⟩)
   | ((refine ⟨trivial, _, rfl, ?_⟩; refine FinD.i ?_); rw [h3, cmpL_drop]; repeat' split) <;> first | rfl | contradiction | omega
theorem cmpL_p (a b : List Vx) : Fn Tryz.prog 81 [dS ZF a, dS ZF b] (dI (ZAc a b)) := by
 (refine ZE Tryz.func81 rfl rfl ?_; simp only [Tryz.ntmps81, List.length_cons, List.length_nil, Nat.reduceAdd, Nat.reduceSub, List.replicate_succ, List.replicate_zero, List.cons_append, List.nil_append])
 ((repeat' (first | (apply WL.opN; exact yF; dsimp only [ZB, z0, z1]) | refine WL.nil ?_ | refine ZA fun Kx hK => ?_ | (refine hK _ _ ?_; clear hK) | refine WC.region ?_ | (apply WL.opN; (focus ((first | (apply SY.call (cmpF_p _ _) Tryz.call119; (exact aD)) | fail); all_goals infer_instance)); dsimp only [ZB, z0, z1]) | refine WC.ret ?_)); all_goals (first | ((repeat clear hK); (repeat clear Kx))))
 all_goals (refine ⟨trivial, _, rfl, ?_⟩; exact fD)
theorem eqV_p (a b : List Vx) : Fn Tryz.prog 59 [dS ZF a, dS ZF b] (dB (decide (a = b))) := by
 (refine ZE Tryz.func59 rfl rfl ?_; simp only [Tryz.ntmps59, List.length_cons, List.length_nil, Nat.reduceAdd, Nat.reduceSub, List.replicate_succ, List.replicate_zero, List.cons_append, List.nil_append])
 ((repeat' (first | ((first | apply WL.opN | apply WD.opN); exact yF; dsimp only [ZB, z0, z1]) | refine WL.nil ?_ | refine ZA fun Kx hK => ?_ | (refine hK _ _ ?_; clear hK) | refine WC.region ?_ | ((first | apply WL.opN | apply WD.opN); (focus ((first | exact yNeq | exact ZBV | fail); all_goals infer_instance)); dsimp only [ZB, z0, z1]) | (apply ZH; (exact oD); all_goals (intro h; try exact xD)) | refine WC.skip ?_ | refine WC.ret ?_ | refine WC.block ?_ | refine ThenD.r ?_)); all_goals (first | refine WC.id ?_ | ((repeat clear hK); (repeat clear Kx))))
 ·(refine ⟨trivial, _, rfl, ?_⟩; refine FinD.b ?_)
  have : a ≠ b := fun e => h (by rw [e])
  simp [this]
 ·have h0 := h
  (first | refine ZR (t := 0) rfl le_K fun hl0 => ?_ | refine ZR (t := 0) rfl le_A fun hl0 => ?_); simp only [maxLen] at hl0
  have h0' : a.length = b.length := by omega
  (refine WC.loopU (X := Nat) (fun k => [(13, dI (k : Int)), (4, dA), (5, dA), (14, dA), (15, dA), (16, dA), (17, dA), (18, dA), (19, dA), (20, dA), (21, dA), (22, dA), (23, dA), (24, dA), (25, dA)]) (fun k => []) (fun k => a.length - k) (fun k => k <= a.length /\ a.take k = b.take k) 0 ?start ?frame0 ?objs0 ?round)
  case start => simp
  case frame0 => ((try dsimp only [ZL, z0, z1]); repeat (first | exact LeF.nil | refine ZD (k := ?_)))
  case objs0 => rfl
  case round =>
   rintro k ⟨h1, h2⟩
   dsimp only [ZL, z0, z1]
   ((repeat' (first | ((first | apply WL.opN | apply WD.opN); exact yF; dsimp only [ZB, z0, z1]) | refine WL.nil ?_ | refine WD.nil ?_ | refine ZA fun Kx hK => ?_ | (refine hK _ _ ?_; clear hK) | (refine Kont.skip ?_; clear hK) | refine WC.region ?_ | (apply WC.draw; kernel_rfl; kernel_rfl) | ((first | apply WL.opN | apply WD.opN); (focus ((first | exact ZBu | exact yNeq | exact yAdd | exact ZT | fail); all_goals infer_instance)); dsimp only [ZB, z0, z1]) | (apply ZC; (exact oD); all_goals (intro h; try exact xD)) | (apply ZH; (exact oD); all_goals (intro h; try exact xD)) | refine WC.skip ?_ | refine WC.ret ?_ | refine WC.exit ?_ | refine WC.block ?_ | refine ThenD.n ?_ | refine ThenD.r ?_ | refine InBlockD.r ?_)); all_goals (first | ((repeat clear hK); (repeat clear Kx))))
   ·(refine ⟨trivial, _, rfl, ?_⟩; refine FinD.b ?_)
    have : a ≠ b := fun e => h (by subst e; rfl)
    simp [this]
   ·(refine ⟨k + 1, ?_, by first | omega | (simp only; omega), rfl, ?_⟩; rotate_left; ((try dsimp only [ZL, z0, z1]); repeat (first | exact LeF.nil | refine ZD (k := ?_))); (try dsimp only))
    exact ⟨by omega, by rw [ZQ (by omega), ZQ (by omega), h2, h]⟩
   ·rw [List.take_of_length_le (by omega), List.take_of_length_le (by omega)] at h2
    (refine ⟨trivial, _, rfl, ?_⟩; refine FinD.b ?_)
    simp [h2]
end
section
def SortV (xs : List Vx) : Prop := xs.Pairwise fun a b => ¬ ZAX b a < 0
def GoodC (xs : List Vx) (m : Nat) (zs : List Vx) : Prop := Asc zs /\ (∀ v, v ∈ zs ↔ v ∈ xs.take m) /\ zs.getLast? = xs[m - 1]?
theorem asc_last {zs : List Vx} {l : Vx} (h : Asc zs) (hl : zs.getLast? = some l) : ∀ a ∈ zs, a = l \/ ZAX a l < 0 := by
 obtain ⟨ys, rfl⟩ := List.getLast?_eq_some_iff.1 hl
 intro a ha
 rcases List.mem_append.1 ha with ha | ha
 ·exact .inr ((List.pairwise_append.1 h).2.2 a ha l (by simp))
 ·exact .inl (by simpa using ha)
theorem good_start {xs : List Vx} (h : 1 <= xs.length) : GoodC xs 1 (xs.take 1) := by
 match xs, h with
 | x :: l, _ => exact ⟨by simp [Asc], fun v => Iff.rfl, by simp⟩
theorem good_push {xs zs : List Vx} {m : Nat} (hs : SortV xs) (h : GoodC xs m zs) (h1 : 1 <= m) (h2 : m < xs.length) (hne : xs[m] ≠ xs[m - 1]'(by omega)) : GoodC xs (m + 1) (zs ++ [xs[m]]) := by
 obtain ⟨ha, hm, hl⟩ := h
 rw [List.getElem?_eq_getElem (by omega : m - 1 < xs.length)] at hl
 have hlt : ZAX (xs[m - 1]'(by omega)) xs[m] < 0 := by
  have h3 := (List.pairwise_iff_getElem.1 hs) (m - 1) m (by omega) h2 (by omega)
  rcases ZBA (xs[m - 1]'(by omega)) xs[m] with k | k | k
  ·omega
  ·omega
  ·exact absurd k.2.2.symm hne
 refine ⟨List.pairwise_append.2 ⟨ha, by simp, fun a haz b hb => ?_⟩, fun v => ?_, by simp [h2]⟩
 ·have hb' : b = xs[m] := by simpa using hb
  subst hb'
  rcases asc_last ha hl a haz with rfl | h4
  ·exact hlt
  ·exact ZBD h4 hlt
 ·rw [List.mem_append, hm, ZA5 h2]; simp
theorem good_skip {xs zs : List Vx} {m : Nat} (h : GoodC xs m zs) (h1 : 1 <= m) (h2 : m < xs.length) (he : xs[m] = xs[m - 1]'(by omega)) : GoodC xs (m + 1) zs := by
 obtain ⟨ha, hm, hl⟩ := h
 refine ⟨ha, fun v => ?_, ?_⟩
 ·rw [hm, ZA5 h2]
  refine ⟨.inl, fun h => h.elim id fun h => ?_⟩
  rw [h, he, List.mem_take_iff_getElem]
  exact ⟨m - 1, by omega, rfl⟩
 ·rw [hl, Nat.add_sub_cancel, List.getElem?_eq_getElem h2, List.getElem?_eq_getElem (by omega), he]
theorem good_end {xs zs : List Vx} {m : Nat} (h : GoodC xs m zs) (h2 : xs.length <= m) : Asc zs /\ ∀ v, v ∈ zs ↔ v ∈ xs := ⟨h.1, fun v => by rw [h.2.1, List.take_of_length_le h2]⟩
end
end Go.Proofs.YtmcllakdbgnfiaaGreatDoor
