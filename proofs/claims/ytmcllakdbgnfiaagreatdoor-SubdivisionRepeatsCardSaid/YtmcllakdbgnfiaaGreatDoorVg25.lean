/- Part 25: walks by contracts, and plain laws. -/
import Derived.Test.YtmcllakdbgnfiaaGreatDoorVg24
set_option linter.unusedVariables false
set_option linter.unusedSimpArgs false
set_option linter.unusedSectionVars false
set_option maxRecDepth 100000
set_option maxHeartbeats 4000000
namespace Go.Proofs.YtmcllakdbgnfiaaGreatDoor
section
theorem ZCL : ∀ (k : Nat) (s x : List Vx), x ∈ ZX k s ↔ x.Sublist s /\ x.length = k
 | 0, s, x => by
  have : ZX 0 s = [[]] := by unfold ZX; rfl
  rw [this, List.mem_singleton]
  constructor
  ·rintro rfl; exact ⟨List.nil_sublist _, rfl⟩
  ·rintro ⟨_, h⟩; exact List.eq_nil_of_length_eq_zero h
 | k + 1, [], x => by
  simp only [ZX, List.not_mem_nil, List.sublist_nil, false_iff]
  rintro ⟨rfl, h⟩; simp at h
 | k + 1, v :: s, x => by
  unfold ZX
  rw [List.mem_append, List.mem_map, ZCL (k + 1) s x]
  constructor
  ·rintro (⟨y, hy, rfl⟩ | ⟨h1, h2⟩)
   ·obtain ⟨h1, h2⟩ := (ZCL k s y).1 hy
    exact ⟨h1.cons_cons v, by simp [h2]⟩
   ·exact ⟨h1.cons v, h2⟩
  ·rintro ⟨h1, h2⟩
   rcases List.sublist_cons_iff.1 h1 with h | ⟨y, rfl, h⟩
   ·exact .inr ⟨h, h2⟩
   ·exact .inl ⟨y, (ZCL k s y).2 ⟨h, by simpa using h2⟩, rfl⟩
theorem subsV_zero (s : List Vx) : (ZX 0 s).length = 1 := by unfold ZX; rfl
theorem subsV_next (k : Nat) (v : Vx) (s : List Vx) : (ZX (k + 1) (v :: s)).length = (ZX k s).length + (ZX (k + 1) s).length := by
 conv => lhs; unfold ZX
 rw [List.length_append, List.length_map]
theorem face_good {a s : List Vx} {k : Nat} (hs : Zn s = 0) (hk : 0 < k) (h : a ∈ ZX k s) : Zn a = 0 /\ a.Sublist s /\ a.length = k := by
 obtain ⟨h1, h2⟩ := (ZCL _ _ _).1 h
 exact ⟨sub_good hs h1 (ne_nil (by omega)), h1, h2⟩
theorem facesV_good {s : List Vx} (hs : Zn s = 0) {k : Nat} (h1 : 0 < k) (h2 : k <= s.length) : facesV s k = (ZX k s, 0) := by
 unfold facesV
 rw [if_neg (by simp [hs]), if_neg (by omega)]
 simp
end
section
open Go.RowKit

def twI (l : Cx) (i k : Nat) : Bool := decide (i ≠ k) && ZAm (l.getD i []) (l.getD k [])
theorem any_snoc {n : Nat} {p : Nat -> Bool} : (List.range (n + 1)).any p = ((List.range n).any p || p n) := by rw [List.range_succ, List.any_append]; simp
theorem any_yes {n k : Nat} {p : Nat -> Bool} (hk : k < n) (h : p k = true) : (List.range n).any p = true := List.any_eq_true.2 ⟨k, List.mem_range.2 hk, h⟩
theorem ZCR {l : Cx} {k : Nat} (h : k < l.length) : l.getD k [] = l[k] := by simp [List.getD, h]
theorem chk27_c (l : Cx) : Fn Tryz.prog 16 [dS Cpx l] (dI (ZAn l)) := by
 (refine ZE Tryz.func16 rfl rfl ?_; simp only [Tryz.ntmps16, List.length_cons, List.length_nil, Nat.reduceAdd, Nat.reduceSub, List.replicate_succ, List.replicate_zero, List.cons_append, List.nil_append])
 ((repeat' (first | ((first | apply WL.opN | apply WD.opN); exact yF; dsimp only [ZB, z0, z1]) | refine WL.nil ?_ | refine ZA fun Kx hK => ?_ | (refine hK _ _ ?_; clear hK) | refine WC.region ?_ | ((first | apply ZJ | apply WD.op); (focus (first | exact wN | (apply ZG; (exact wY); ((first | exact yGtr | exact ZBV | exact Zx | exact yBox | fail); all_goals infer_instance)))); dsimp only [ZB, z0, z1]) | (apply ZC; (exact oD); all_goals (intro h; try exact xD)) | refine WC.skip ?_ | refine WC.ret ?_ | refine WC.block ?_ | refine ThenD.r ?_)); all_goals (first | refine WC.id ?_ | ((repeat clear hK); (repeat clear Kx))))
 ·(refine ⟨trivial, _, rfl, ?_⟩; refine FinD.i ?_)
  unfold ZAn; rw [if_pos (by omega)]
 ·have hs : ZAn l = if chkO none l ≠ 0 then chkO none l else if twiceC l = true then 7 else 0 := by unfold ZAn; rw [if_neg (by omega)]
  (refine WC.loopU (X := Nat) (fun k => [(4, dI (k : Int)), (2, dA), (5, dA), (13, dA), (14, dA), (15, dA), (16, dA), (17, dA), (18, dA), (19, dA), (20, dA), (21, dA), (22, dA), (23, dA), (24, dA), (25, dA), (26, dA), (27, dA), (28, dA), (29, dA), (30, dA), (31, dA), (32, dA), (33, dA), (34, dA), (35, dA), (36, dA), (37, dA), (38, dA), (39, dA), (40, dA), (41, dA)]) (fun k => []) (fun k => l.length - k) (fun k => k <= l.length /\ chkO none l = chkO (l.take k).getLast? (l.drop k)) 0 ?start ?frame0 ?objs0 ?round)
  case start => exact ⟨Nat.zero_le _, rfl⟩
  case frame0 => ((try dsimp only [ZL, z0, z1]); repeat (first | exact LeF.nil | refine ZD (k := ?_)))
  case objs0 => rfl
  case round =>
   rintro k ⟨h3, h4⟩
   dsimp only [ZL, z0, z1]
   ((repeat' (first | ((first | apply WL.opN | apply WD.opN); exact yF; dsimp only [ZB, z0, z1]) | refine WL.nil ?_ | refine WD.nil ?_ | refine ZA fun Kx hK => ?_ | (refine hK _ _ ?_; clear hK) | (refine Kont.skip ?_; clear hK) | refine WC.region ?_ | (apply WC.draw; kernel_rfl; kernel_rfl) | ((first | apply ZJ | apply WD.op); (focus (first | exact wN | (apply ZG; (exact wY); ((first | (apply SY.call (cmpL_c _ _) Tryz.call57; (exact aD)) | (apply SY.call (chk_c _) Tryz.call56; (exact aD)) | (apply SY.ixJ elSi (OpD.t rfl) (OpD.t rfl) (k - 1); omega; omega) | exact yMove | exact ZBu | exact yGtr | exact yGeq | exact yNeq | exact yAdd | exact ySub | exact yLoad | exact ZBV | exact ZT | exact yPick | fail); all_goals infer_instance)))); dsimp only [ZB, z0, z1]) | ((first | refine Zd rfl rfl rfl (fun h => ?_) (fun h => ?_) | refine Zc rfl rfl rfl (fun h => ?_) (fun h => ?_) | refine ZY rfl rfl rfl (fun h => ?_) (fun h => ?_) | refine ZAf rfl rfl rfl (fun h => ?_) (fun h => ?_) | refine ZAh rfl rfl rfl (fun h => ?_) (fun h => ?_) | refine ZAD rfl rfl rfl (fun h => ?_) (fun h => ?_)) <;> (first | (exfalso; first | omega | contradiction) | (dsimp only [z0, z1]))) | (apply Zr; (exact oD); (with_reducible rfl)) | (apply ZC; (exact oD); all_goals (intro h; try exact xD)) | (apply ZH; (exact oD); all_goals (intro h; try exact xD)) | refine WC.skip ?_ | refine WC.ret ?_ | refine WC.exit ?_ | refine WC.block ?_ | refine ThenD.n ?_ | refine ThenD.r ?_ | refine InBlockD.r ?_)); all_goals (first | refine WC.id ?_ | ((repeat clear hK); (repeat clear Kx))))
   all_goals try (rw [chkO_drop l k (by omega)] at h4)
   ·(refine ⟨trivial, _, rfl, ?_⟩; refine FinD.i ?_)
    rw [hs, h4, if_pos h, if_pos h]
   ·(refine ⟨trivial, _, rfl, ?_⟩; refine FinD.i ?_)
    have h5 : ¬ Zn l[k] ≠ 0 := by omega
    rw [if_neg h5, lastC_take _ _ (by omega) (by omega), if_pos (by simpa using h)] at h4
    rw [hs, h4]; rfl
   ·(refine ⟨k + 1, ?_, by first | omega | (simp only; omega), rfl, ?_⟩; rotate_left; ((try dsimp only [ZL, z0, z1]); repeat (first | exact LeF.nil | refine ZD (k := ?_))); (try dsimp only))
    refine ⟨by omega, ?_⟩
    have h5 : ¬ Zn l[k] ≠ 0 := by omega
    rw [h4, if_neg h5, lastC_take _ _ (by omega) (by omega), if_neg (by simpa using h)]
   ·(refine ⟨k + 1, ?_, by first | omega | (simp only; omega), rfl, ?_⟩; rotate_left; ((try dsimp only [ZL, z0, z1]); repeat (first | exact LeF.nil | refine ZD (k := ?_))); (try dsimp only))
    refine ⟨by omega, ?_⟩
    have h5 : ¬ Zn l[k] ≠ 0 := by omega
    have h0 : (l.take k).getLast? = none := by
     have : k = 0 := by omega
     rw [this]; rfl
    rw [h4, if_neg h5, h0]
    rfl
   ·rw [List.drop_of_length_le (by omega)] at h4
    have h4' : chkO none l = 0 := h4
    have hs' : ZAn l = if twiceC l = true then 7 else 0 := by rw [hs, if_neg (by omega)]
    clear hs h4
    (refine WC.loopU (X := Nat) (fun i => [(6, dI (i : Int)), (2, dA), (7, dA), (42, dA), (43, dA), (44, dA), (45, dA), (46, dA), (47, dA), (48, dA), (49, dA), (50, dA), (51, dA), (52, dA), (53, dA), (54, dA), (55, dA), (56, dA), (57, dA), (58, dA), (59, dA), (60, dA), (61, dA), (62, dA), (63, dA), (64, dA), (65, dA), (66, dA), (67, dA)]) (fun i => []) (fun i => l.length - i) (fun i => i <= l.length /\ (List.range i).any (fun i => (List.range l.length).any (twI l i)) = false) 0 ?start ?frame0 ?objs0 ?round)
    case start => exact ⟨Nat.zero_le _, rfl⟩
    case frame0 => ((try dsimp only [ZL, z0, z1]); repeat (first | exact LeF.nil | refine ZD (k := ?_)))
    case objs0 => rfl
    case round =>
     rintro i ⟨h5, h6⟩
     dsimp only [ZL, z0, z1]
     ((repeat' (first | ((first | apply WL.opN | apply WD.opN); exact yF; dsimp only [ZB, z0, z1]) | refine WL.nil ?_ | refine ZA fun Kx hK => ?_ | (refine hK _ _ ?_; clear hK) | (refine Kont.skip ?_; clear hK) | refine WC.region ?_ | ((first | apply ZJ | apply WD.op); (focus (first | exact wN | (apply ZG; (exact wY); ((first | exact ZBu | exact ZBV | fail); all_goals infer_instance)))); dsimp only [ZB, z0, z1]) | (apply ZC; (exact oD); all_goals (intro h; try exact xD)) | refine WC.skip ?_ | refine WC.ret ?_ | refine WC.exit ?_ | refine WC.block ?_)); all_goals (first | refine WC.id ?_ | ((repeat clear hK); (repeat clear Kx))))
     ·(refine WC.loopU (X := Nat) (fun j => [(7, dI (j : Int)), (2, dA), (48, dA), (49, dA), (50, dA), (51, dA), (52, dA), (53, dA), (54, dA), (55, dA), (56, dA), (57, dA), (58, dA), (59, dA), (60, dA), (61, dA), (62, dA), (63, dA), (64, dA), (65, dA), (66, dA), (67, dA)]) (fun j => []) (fun j => l.length - j) (fun j => j <= l.length /\ (List.range j).any (twI l i) = false) 0 ?start ?frame0 ?objs0 ?round)
      case start => exact ⟨Nat.zero_le _, rfl⟩
      case frame0 => ((try dsimp only [ZL, z0, z1]); repeat (first | exact LeF.nil | refine ZD (k := ?_)))
      case objs0 => rfl
      case round =>
       rintro j ⟨h7, h8⟩
       dsimp only [ZL, z0, z1]
       ((repeat' (first | ((first | apply WL.opN | apply WD.opN); exact yF; dsimp only [ZB, z0, z1]) | refine WL.nil ?_ | refine WD.nil ?_ | refine ZA fun Kx hK => ?_ | (refine hK _ _ ?_; clear hK) | (refine Kont.skip ?_; clear hK) | refine WC.region ?_ | (apply WC.draw; kernel_rfl; kernel_rfl) | ((first | apply ZJ | apply WD.op); (focus (first | exact wN | (apply ZG; (exact wY); ((first | (apply SY.call (inside_c _ _) Tryz.call58; (exact aD)) | exact yMove | exact ZBu | exact yNeq | exact yAdd | exact yLoad | exact ZBV | exact ZT | exact yPick | fail); all_goals infer_instance)))); dsimp only [ZB, z0, z1]) | ((first | refine Zd rfl rfl rfl (fun h => ?_) (fun h => ?_) | refine Zc rfl rfl rfl (fun h => ?_) (fun h => ?_) | refine ZY rfl rfl rfl (fun h => ?_) (fun h => ?_) | refine ZAf rfl rfl rfl (fun h => ?_) (fun h => ?_) | refine ZAh rfl rfl rfl (fun h => ?_) (fun h => ?_) | refine ZAD rfl rfl rfl (fun h => ?_) (fun h => ?_)) <;> (first | (exfalso; first | omega | contradiction) | (dsimp only [z0, z1]))) | (apply Zr; (exact oD); (with_reducible rfl)) | (apply ZC; (exact oD); all_goals (intro h; try exact xD)) | (apply WC.cond; (exact oD); all_goals (intro h; try exact xD)) | refine WC.skip ?_ | refine WC.ret ?_ | refine WC.exit ?_ | refine WC.block ?_ | refine ThenD.n ?_ | refine ThenD.r ?_ | refine InBlockD.r ?_)); all_goals (first | ((repeat clear hK); (repeat clear Kx))))
       ·(refine ⟨trivial, _, rfl, ?_⟩; refine FinD.i ?_)
        have e : twI l i j = true := by
         unfold twI
         rw [ZCR (by omega), ZCR (by omega), h, decide_eq_true (by omega)]; rfl
        rw [hs', if_pos (show twiceC l = true from any_yes (k := i) (by omega) (any_yes (k := j) (by omega) e))]
       ·(refine ⟨j + 1, ?_, by first | omega | (simp only; omega), rfl, ?_⟩; rotate_left; ((try dsimp only [ZL, z0, z1]); repeat (first | exact LeF.nil | refine ZD (k := ?_))); (try dsimp only))
        refine ⟨by omega, ?_⟩
        rw [any_snoc, h8]
        unfold twI
        rw [ZCR (by omega), ZCR (by omega), h, Bool.and_false]; rfl
       ·(refine ⟨j + 1, ?_, by first | omega | (simp only; omega), rfl, ?_⟩; rotate_left; ((try dsimp only [ZL, z0, z1]); repeat (first | exact LeF.nil | refine ZD (k := ?_))); (try dsimp only))
        refine ⟨by omega, ?_⟩
        rw [any_snoc, h8]
        unfold twI
        rw [decide_eq_false (by omega)]; rfl
       ·rw [show j = l.length by omega] at h8
        (refine ⟨i + 1, ?_, by first | omega | (simp only; omega), rfl, ?_⟩; rotate_left; ((try dsimp only [ZL, z0, z1]); repeat (first | exact LeF.nil | refine ZD (k := ?_))); (try dsimp only))
        refine ⟨by omega, ?_⟩
        rw [any_snoc, h6, h8]; rfl
     ·rw [show i = l.length by omega] at h6
      (refine ⟨trivial, _, rfl, ?_⟩; refine FinD.i ?_)
      have e : twiceC l = false := h6
      rw [hs', e]; rfl
def dimC (l : Cx) : Int := l.foldl (fun m s => if m < (s.length : Int) - 1 then (s.length : Int) - 1 else m) (-1)
def sizeP (l : Cx) : Bool := (List.range l.length).all fun i => decide (i = 0) || decide (((l.getD i []).length : Int) - 1 = dimC (l.take i))
theorem ZCB {l : Cx} {k : Nat} (h : k < l.length) : dimC (l.take (k + 1)) = if dimC (l.take k) < (l[k].length : Int) - 1 then (l[k].length : Int) - 1 else dimC (l.take k) := by
 unfold dimC; rw [ZQ h, List.foldl_append]; rfl
theorem size_c (l : Cx) : Fn Tryz.prog 25 [dS Cpx l] (dT [dI (dimC l), dB (sizeP l)]) := by
 (refine ZAa Tryz.func25 rfl rfl ?_; simp only [Tryz.ntmps25, List.length_cons, List.length_nil, Nat.reduceAdd, Nat.reduceSub, List.replicate_succ, List.replicate_zero, List.cons_append, List.nil_append])
 (repeat' (first | (apply WL.opN; exact yF; dsimp only [ZB, z0, z1]) | refine WL.nil ?_ | refine ZA fun Kx hK => ?_ | (refine hK _ _ ?_; clear hK) | refine WC.region ?_ | (apply ZJ; (focus (first | exact wN | (apply ZG; (exact wY); ((first | exact yBox | fail); all_goals infer_instance)))); dsimp only [ZB, z0, z1]) | refine WC.block ?_))
 (first | refine ZR (t := 0) rfl le_K fun hl0 => ?_ | refine ZR (t := 0) rfl le_A fun hl0 => ?_ | refine ZR (t := 0) rfl le_C fun hl0 => ?_); simp only [maxLen] at hl0
 (refine WC.loopU (X := Nat × Int × Bool) (fun x => [(6, dI (x.1 : Int)), (4, dI x.2.1), (5, dB x.2.2), (7, dA), (8, dA), (9, dA), (10, dA), (11, dA), (12, dA), (13, dA), (14, dA), (15, dA), (16, dA), (17, dA), (18, dA), (19, dA), (20, dA), (21, dA), (22, dA), (23, dA), (24, dA), (25, dA), (26, dA), (27, dA), (28, dA), (29, dA), (30, dA), (31, dA), (32, dA), (33, dA), (34, dA), (35, dA)]) (fun x => []) (fun x => l.length - x.1) (fun x => x.1 <= l.length /\ x.2.1 = dimC (l.take x.1) /\ x.2.2 = (List.range x.1).all fun i => decide (i = 0) || decide (((l.getD i []).length : Int) - 1 = dimC (l.take i))) (0, -1, true) ?start ?frame0 ?objs0 ?round)
 case start => exact ⟨Nat.zero_le _, rfl, rfl⟩
 case frame0 => ((try dsimp only [ZL, z0, z1]); repeat (first | exact LeF.nil | refine ZD (k := ?_)))
 case objs0 => rfl
 case round =>
  rintro ⟨k, m, q⟩ ⟨h1, h2, h3⟩
  simp only at h1 h2 h3
  dsimp only [ZL, z0, z1]
  ((repeat' (first | (apply WL.opN; exact yF; dsimp only [ZB, z0, z1]) | refine WL.nil ?_ | refine ZA fun Kx hK => ?_ | (refine hK _ _ ?_; clear hK) | (refine Kont.skip ?_; clear hK) | refine WC.region ?_ | (apply ZJ; (focus (first | exact wN | (apply ZG; (exact wY); ((first | exact ZBu | exact ZBV | exact ZT | exact Zx | fail); all_goals infer_instance)))); dsimp only [ZB, z0, z1]) | (apply ZC; (exact oD); all_goals (intro h; try exact xD)) | refine WC.skip ?_ | refine WC.ret ?_ | refine WC.exit ?_ | refine WC.block ?_)); all_goals (first | refine WL.id ?_ | ((repeat clear hK); (repeat clear Kx))))
  ·refine WL.know (t := 19) rfl le_K fun h9 => ?_
   simp only [maxLen] at h9
   have e9 : (l.getD k []).length = l[k].length := by rw [ZCR (by omega)]
   have st : ∀ (q' : Bool), q' = (q && (decide (k = 0) || decide (((l[k].length : Nat) : Int) - 1 = m))) -> q' = (List.range (k + 1)).all fun i => decide (i = 0) || decide (((l.getD i []).length : Int) - 1 = dimC (l.take i)) := fun q' hq => by
    rw [hq, h3, List.range_succ, List.all_append, h2, <- e9]
    simp
   clear h3
   ((repeat' (first | (apply WL.opN; exact yF; dsimp only [ZB, z0, z1]) | refine WL.nil ?_ | refine ZA fun Kx hK => ?_ | (refine hK _ _ ?_; clear hK) | refine WC.region ?_ |  (apply ZJ; (focus (apply SYG.no; exact want_undef rfl rfl rfl)); dsimp only [ZB, z0, z1]) | (apply ZJ; (focus (first | exact wN | (apply ZG; (exact wY); ((first | exact yMove | exact yGtr | exact yEql | exact yAdd | exact ySub | exact yPick | fail); all_goals infer_instance)))); dsimp only [ZB, z0, z1]) | ((first | refine Zd rfl rfl rfl (fun h => ?_) (fun h => ?_) | refine Zc rfl rfl rfl (fun h => ?_) (fun h => ?_) | refine ZY rfl rfl rfl (fun h => ?_) (fun h => ?_)) <;> (first | (exfalso; first | omega | contradiction) | (dsimp only [z0, z1]))) | (apply ZC; (exact oD); all_goals (intro h; try exact xD)) | refine WC.skip ?_ | refine ThenD.n ?_)); all_goals (first | ((repeat clear hK); (repeat clear Kx))))
   ·(refine ⟨(k + 1, (l[k].length : Int) - 1, true), ?_, by first | omega | (simp only; omega), rfl, ?_⟩; rotate_left; ((try dsimp only [ZL, z0, z1]); repeat (first | exact LeF.nil | refine ZD (k := ?_))); (try dsimp only))
    refine ⟨by omega, ?_, st _ ?_⟩
    ·rw [ZCB (by omega), <- h2, if_pos (by assumption)]
    ·simp_all
   ·(refine ⟨(k + 1, m, true), ?_, by first | omega | (simp only; omega), rfl, ?_⟩; rotate_left; ((try dsimp only [ZL, z0, z1]); repeat (first | exact LeF.nil | refine ZD (k := ?_))); (try dsimp only))
    refine ⟨by omega, ?_, st _ ?_⟩
    ·rw [ZCB (by omega), <- h2, if_neg (by assumption)]
    ·simp_all
   ·(refine ⟨(k + 1, (l[k].length : Int) - 1, decide ((l[k].length : Int) - 1 = m)), ?_, by first | omega | (simp only; omega), rfl, ?_⟩; rotate_left; ((try dsimp only [ZL, z0, z1]); repeat (first | exact LeF.nil | refine ZD (k := ?_))); (try dsimp only))
    refine ⟨by omega, ?_, st _ ?_⟩
    ·rw [ZCB (by omega), <- h2, if_pos (by assumption)]
    ·simp_all
   ·(refine ⟨(k + 1, m, decide ((l[k].length : Int) - 1 = m)), ?_, by first | omega | (simp only; omega), rfl, ?_⟩; rotate_left; ((try dsimp only [ZL, z0, z1]); repeat (first | exact LeF.nil | refine ZD (k := ?_))); (try dsimp only))
    refine ⟨by omega, ?_, st _ ?_⟩
    ·rw [ZCB (by omega), <- h2, if_neg (by assumption)]
    ·simp_all
   ·(refine ⟨(k + 1, (l[k].length : Int) - 1, false), ?_, by first | omega | (simp only; omega), rfl, ?_⟩; rotate_left; ((try dsimp only [ZL, z0, z1]); repeat (first | exact LeF.nil | refine ZD (k := ?_))); (try dsimp only))
    refine ⟨by omega, ?_, st _ ?_⟩
    ·rw [ZCB (by omega), <- h2, if_pos (by assumption)]
    ·simp_all
   ·(refine ⟨(k + 1, m, false), ?_, by first | omega | (simp only; omega), rfl, ?_⟩; rotate_left; ((try dsimp only [ZL, z0, z1]); repeat (first | exact LeF.nil | refine ZD (k := ?_))); (try dsimp only))
    refine ⟨by omega, ?_, st _ ?_⟩
    ·rw [ZCB (by omega), <- h2, if_neg (by assumption)]
    ·simp_all
  ·rw [show k = l.length by omega, List.take_length] at h2
   rw [show k = l.length by omega] at h3
   subst h2 h3
   (refine ⟨trivial, ⟨_, rfl, ?_⟩, _, rfl, ?_⟩ <;> exact fD)
theorem chkO_all : ∀ (l : Cx) (p : Option (List Vx)), chkO p l = 0 -> ∀ s ∈ l, Zn s = 0
 | [], _, _, s, hs => by simp at hs
 | x :: l, p, h, s, hs => by
  unfold chkO at h
  by_cases h1 : Zn x ≠ 0
  ·rw [if_pos h1] at h; exact absurd h h1
  ·rw [if_neg h1] at h
   rcases List.mem_cons.1 hs with rfl | hs
   ·omega
   ·refine chkO_all l (some x) ?_ s hs
    revert h
    split
    ·intro h; omega
    ·exact id
theorem chkC_good {l : Cx} (h : ZAn l = 0) : l.length <= 4096 /\ chkO none l = 0 /\ twiceC l = false /\ ∀ s ∈ l, Zn s = 0 := by
 unfold ZAn at h
 by_cases h1 : 4096 < l.length
 ·rw [if_pos h1] at h; omega
 rw [if_neg h1] at h
 by_cases h2 : chkO none l ≠ 0
 ·rw [if_pos h2] at h; exact absurd h h2
 rw [if_neg h2] at h
 refine ⟨by omega, by omega, ?_, chkO_all l none (by omega)⟩
 cases h3 : twiceC l with
 | false => rfl
 | true => rw [h3, if_pos rfl] at h; omega
end
section
theorem chkO_asc : ∀ (l : Cx) (p : Option (List Vx)), chkO p l = 0 -> AscL l /\ (∀ u, p = some u -> ∀ s ∈ l, ZAc u s < 0) /\ ∀ s ∈ l, Zn s = 0
 | [], p, _ => ⟨by simp [AscL], by simp, by simp⟩
 | s :: l, p, h => by
  unfold chkO at h
  by_cases h1 : Zn s ≠ 0
  ·rw [if_pos h1] at h; exact absurd h h1
  rw [if_neg h1] at h
  have key : chkO (some s) l = 0 /\ ∀ u, p = some u -> ZAc u s < 0 := by
   cases p with
   | none => exact ⟨by simpa using h, fun u hu => by cases hu⟩
   | some u =>
    by_cases h2 : 0 <= ZAc u s
    ·simp only [h2, decide_true, if_true] at h
     exact absurd h (by decide)
    ·simp only [h2, decide_false, Bool.false_eq_true, if_false] at h
     exact ⟨h, fun u' hu => by cases hu; omega⟩
  obtain ⟨h3, h4, h5⟩ := chkO_asc l (some s) key.1
  have h6 := h4 s rfl
  refine ⟨List.pairwise_cons.2 ⟨h6, h3⟩, fun u hu x hx => ?_, fun x hx => ?_⟩
  ·have h7 := key.2 u hu
   rcases List.mem_cons.1 hx with rfl | hx
   ·exact h7
   ·exact ZCe h7 (h6 x hx)
  ·rcases List.mem_cons.1 hx with rfl | hx
   ·omega
   ·exact h5 x hx
theorem chkO_of : ∀ (l : Cx) (p : Option (List Vx)), AscL l -> (∀ u, p = some u -> ∀ s ∈ l, ZAc u s < 0) -> (∀ s ∈ l, Zn s = 0) -> chkO p l = 0
 | [], p, _, _, _ => rfl
 | s :: l, p, ha, hp, hc => by
  unfold chkO
  rw [if_neg (by have := hc s (by simp); omega), if_neg ?_]
  ·unfold AscL at ha
   rw [List.pairwise_cons] at ha
   exact chkO_of l (some s) ha.2 (fun u hu x hx => by cases hu; exact ha.1 x hx) fun x hx => hc x (by simp [hx])
  ·cases p with
   | none => simp
   | some u =>
    have := hp u rfl s (by simp)
    simp only [decide_eq_true_eq]; omega
theorem inside_lt {a b : List Vx} (ha : Asc a) (hb : Asc b) (h : ZAm a b = true) (hne : a ≠ b) : a.length < b.length := by
 have hsub : ∀ x ∈ a, x ∈ b := fun x hx => by
  have := List.all_eq_true.1 h x hx
  simpa using this
 have e : sharedV b a true = a := ZCa (asc_shared hb) ha fun x => by
  rw [mem_shared]
  constructor
  ·intro ⟨_, h⟩; simpa using h
  ·intro hx; exact ⟨hsub x hx, by simpa using hx⟩
 have hs : a.Sublist b := by rw [<- e]; exact shared_sub
 rcases Nat.lt_or_ge a.length b.length with h1 | h1
 ·exact h1
 ·exact absurd (hs.eq_of_length_le h1) hne
theorem twice_any {l : Cx} (ha : AscL l) (hc : ∀ s ∈ l, Zn s = 0) : twiceC l = l.any fun s => Z8 l s := by
 have asc : ∀ s ∈ l, Asc s := fun s hs => (ZM.1 (hc s hs)).2.2.2
 rw [Bool.eq_iff_iff]
 unfold twiceC
 simp only [List.any_eq_true, List.mem_range, Bool.and_eq_true, decide_eq_true_eq, ZAQ]
 constructor
 ·rintro ⟨i, hi, k, hk, hne, h⟩
  rw [ZCR hi, ZCR hk] at h
  have hmi := List.getElem_mem hi
  have hmk := List.getElem_mem hk
  refine ⟨l[i], hmi, l[k], hmk, inside_lt (asc _ hmi) (asc _ hmk) h fun e => ?_, h⟩
  have hp := List.pairwise_iff_getElem.1 ha.nodup
  rcases Nat.lt_or_gt_of_ne hne with h1 | h1
  ·exact hp i k hi hk h1 e
  ·exact hp k i hk hi h1 e.symm
 ·rintro ⟨s, hs, x, hx, hlt, h⟩
  obtain ⟨i, hi, rfl⟩ := List.getElem_of_mem hs
  obtain ⟨k, hk, rfl⟩ := List.getElem_of_mem hx
  exact ⟨i, hi, k, hk, fun e => by subst e; omega, by rw [ZCR hi, ZCR hk]; exact h⟩
def GoodX (l : Cx) : Prop := l.length <= 4096 /\ AscL l /\ (∀ s ∈ l, Zn s = 0) /\ ∀ s ∈ l, Z8 l s = false
theorem Zg {l : Cx} : ZAn l = 0 ↔ GoodX l := by
 unfold GoodX
 constructor
 ·intro h
  obtain ⟨h1, h2, h3, h4⟩ := chkC_good h
  obtain ⟨h5, _, h6⟩ := chkO_asc l none h2
  rw [twice_any h5 h6, List.any_eq_false] at h3
  exact ⟨h1, h5, h6, fun s hs => by simpa using h3 s hs⟩
 ·rintro ⟨h1, h2, h3, h4⟩
  unfold ZAn
  have h5 : chkO none l = 0 := chkO_of l none h2 (fun u hu => by cases hu) h3
  have h6 : twiceC l = false := by
   rw [twice_any h2 h3, List.any_eq_false]
   exact fun s hs => by simp [h4 s hs]
  rw [if_neg (by omega), if_neg (by omega), if_neg (by simp [h6])]
theorem good_max {l : Cx} (hc : ∀ s ∈ l, s.length ≠ 0 -> Zn s = 0) (hl : (maxC l).length <= 4096) : GoodX (maxC l) := by
 refine ⟨hl, maxC_asc l, fun s hs => ?_, fun s hs => ?_⟩
 ·obtain ⟨h1, h2⟩ := ZCc.1 hs
  unfold topC at h2
  simp only [Bool.and_eq_true, decide_eq_true_eq] at h2
  exact hc s h1 (by omega)
 ·obtain ⟨h1, h2⟩ := ZCc.1 hs
  unfold topC at h2
  simp only [Bool.and_eq_true, decide_eq_true_eq, Bool.not_eq_true'] at h2
  rw [Bool.eq_false_iff]
  intro hcv
  obtain ⟨x, hx, hr⟩ := ZAQ.1 hcv
  have := ZAQ.2 ⟨x, (ZCc.1 hx).1, hr⟩
  rw [h2.2] at this
  cases this
theorem max_good {l : Cx} (h : GoodX l) : maxC l = l := by
 rw [<- maxC_eq (zs := l) (fun s hs => by have := ZM.1 (h.2.2.1 s hs); omega) h.2.1 fun u => Iff.rfl]
 rw [List.filter_eq_self]
 intro s hs; simp [h.2.2.2 s hs]
theorem allC_mem : ∀ {l : Cx} {k : Nat} {x : List Vx}, x ∈ ZBr l k ↔ ∃ f ∈ l, x ∈ ZX k f := by
 have go : ∀ (l out : Cx) (k : Nat) (x : List Vx), x ∈ l.foldl (fun out f => if f.length < k then out else (ZX k f).foldl putC out) out ↔ x ∈ out \/ ∃ f ∈ l, x ∈ ZX k f := by
  intro l
  induction l with
  | nil => intro out k x; simp
  | cons f l ih =>
   intro out k x
   rw [List.foldl_cons, ih]
   have e : x ∈ (if f.length < k then out else (ZX k f).foldl putC out) ↔ x ∈ out \/ x ∈ ZX k f := by
    split
    ·rename_i h; rw [ZBE k f h]; simp
    ·rw [foldPut_mem]; exact or_comm
   rw [e]
   constructor
   ·rintro ((h | h) | ⟨g, hg, h⟩)
    ·exact .inl h
    ·exact .inr ⟨f, by simp, h⟩
    ·exact .inr ⟨g, by simp [hg], h⟩
   ·rintro (h | ⟨g, hg, h⟩)
    ·exact .inl (.inl h)
    ·rcases List.mem_cons.1 hg with rfl | hg
     ·exact .inl (.inr h)
     ·exact .inr ⟨g, hg, h⟩
 intro l k x
 unfold ZBr
 rw [go]; simp
theorem allC_asc (l : Cx) (k : Nat) : AscL (ZBr l k) := by
 have go : ∀ (l out : Cx), AscL out -> AscL (l.foldl (fun out f => if f.length < k then out else (ZX k f).foldl putC out) out) := by
  intro l
  induction l with
  | nil => intro out h; exact h
  | cons f l ih =>
   intro out h
   rw [List.foldl_cons]
   refine ih _ ?_
   split
   ·exact h
   ·exact foldPut_asc h
 exact go l [] (by simp [AscL])
def newC (out : Cx) (l : Cx) : Cx := l.foldl (fun out f => if f ∈ out then out else out ++ [f]) out
def facC (l : Cx) (k : Nat) : Cx := l.foldl (fun out f => if f.length < k then out else newC out (ZX k f)) []
theorem newC_snoc {out l : Cx} {j : Nat} (h : j < l.length) : newC out (l.take (j + 1)) = if l[j] ∈ newC out (l.take j) then newC out (l.take j) else newC out (l.take j) ++ [l[j]] := by
 unfold newC; rw [ZQ h, List.foldl_append]; rfl
theorem newC_mem : ∀ {l out : Cx} {x : List Vx}, x ∈ newC out l ↔ x ∈ out \/ x ∈ l
 | [], out, x => by simp [newC]
 | f :: l, out, x => by
  show x ∈ newC (if f ∈ out then out else out ++ [f]) l ↔ _
  rw [newC_mem (l := l)]
  split
  ·rename_i h
   rw [List.mem_cons]
   constructor
   ·rintro (h1 | h1)
    ·exact .inl h1
    ·exact .inr (.inr h1)
   ·rintro (h1 | h1 | h1)
    ·exact .inl h1
    ·rw [h1]; exact .inl h
    ·exact .inr h1
  ·rw [List.mem_append, List.mem_singleton, List.mem_cons, or_assoc]
theorem newC_nodup : ∀ {l out : Cx}, out.Nodup -> (newC out l).Nodup
 | [], out, h => h
 | f :: l, out, h => by
  show (newC (if f ∈ out then out else out ++ [f]) l).Nodup
  refine newC_nodup (l := l) ?_
  split
  ·exact h
  ·rename_i hf
   rw [List.nodup_append]
   exact ⟨h, by simp, fun a ha b hb => by rw [List.mem_singleton.1 hb]; exact fun e => hf (e ▸ ha)⟩
theorem newC_len (l out : Cx) : out.length <= (newC out l).length /\ (newC out l).length <= out.length + l.length := by
 induction l generalizing out with
 | nil => simp [newC]
 | cons f l ih =>
  have h := ih (if f ∈ out then out else out ++ [f])
  have e : newC out (f :: l) = newC (if f ∈ out then out else out ++ [f]) l := rfl
  rw [e]
  split at h <;> (simp only [List.length_append, List.length_cons, List.length_nil] at h ⊢; rename_i hf; first | rw [if_pos hf] | rw [if_neg hf]) <;> omega
theorem facC_snoc {l : Cx} {k i : Nat} (h : i < l.length) : facC (l.take (i + 1)) k = if l[i].length < k then facC (l.take i) k else newC (facC (l.take i) k) (ZX k l[i]) := by
 unfold facC; rw [ZQ h, List.foldl_append]; rfl
theorem facC_inv (l : Cx) (k : Nat) : ∀ n, n <= l.length -> (facC (l.take n) k).Nodup /\ ∀ x, x ∈ facC (l.take n) k ↔ x ∈ ZBr (l.take n) k
 | 0, _ => by simp [facC, ZBr]
 | n + 1, hn => by
  obtain ⟨h1, h2⟩ := facC_inv l k n (by omega)
  have h3 : ∀ x, x ∈ ZBr (l.take (n + 1)) k ↔ x ∈ ZBr (l.take n) k \/ x ∈ ZX k l[n] := fun x => by
   rw [allC_mem, allC_mem, ZQ (by omega)]
   constructor
   ·rintro ⟨f, hf, hx⟩
    rcases List.mem_append.1 hf with hf | hf
    ·exact .inl ⟨f, hf, hx⟩
    ·rw [List.mem_singleton.1 hf] at hx; exact .inr hx
   ·rintro (⟨f, hf, hx⟩ | hx)
    ·exact ⟨f, List.mem_append.2 (.inl hf), hx⟩
    ·exact ⟨l[n], List.mem_append.2 (.inr (List.mem_singleton.2 rfl)), hx⟩
  rw [facC_snoc (by omega)]
  split
  ·rename_i hs
   refine ⟨h1, fun x => ?_⟩
   rw [h3, h2, ZBE k _ hs]; simp
  ·refine ⟨newC_nodup h1, fun x => ?_⟩
   rw [h3, newC_mem, h2]
theorem facC_len (l : Cx) (k n : Nat) (hn : n <= l.length) : (facC (l.take n) k).length = (ZBr (l.take n) k).length := by
 obtain ⟨h1, h2⟩ := facC_inv l k n hn
 exact ((List.perm_ext_iff_of_nodup h1 (allC_asc _ k).nodup).2 h2).length_eq
theorem facC_mono {l : Cx} {k n : Nat} (hn : n <= l.length) : (facC (l.take n) k).length <= (ZBr l k).length := by
 obtain ⟨h1, h2⟩ := facC_inv l k n hn
 have hsub : ∀ x ∈ facC (l.take n) k, x ∈ ZBr l k := fun x hx => by
  obtain ⟨f, hf, hx⟩ := allC_mem.1 ((h2 x).1 hx)
  exact allC_mem.2 ⟨f, List.mem_of_mem_take hf, hx⟩
 have hp : (facC (l.take n) k).Perm ((ZBr l k).filter fun x => decide (x ∈ facC (l.take n) k)) :=
  (List.perm_ext_iff_of_nodup h1 ((allC_asc l k).nodup.filter _)).2 fun x => by
   rw [List.mem_filter, decide_eq_true_eq]
   exact ⟨fun hx => ⟨hsub x hx, hx⟩, fun hx => hx.2⟩
 rw [hp.length_eq]
 exact List.length_filter_le _ _
theorem sorted_all {l ys : Cx} {k : Nat} (hp : ys.Perm (facC l k)) (hs : SortL ys) : ys = ZBr l k := by
 have h := facC_inv l k l.length (Nat.le_refl _)
 rw [List.take_length] at h
 refine ascL_ext ?_ (allC_asc l k) fun x => by rw [hp.mem_iff]; exact h.2 x
 have hn : ys.Nodup := hp.nodup_iff.2 h.1
 refine List.Pairwise.imp₂ (fun a b h1 h2 => ?_) hs hn
 rcases cmpL_cases a b with h3 | h3 | h3
 ·exact h3
 ·exact absurd h3 h1
 ·exact absurd h3 h2
end
section
open Go.RowKit

def stepA (k : Nat) (out : Cx) (f : List Vx) : Cx := if f.length < k then out else (ZX k f).foldl putC out
theorem allC_eq (c : Cx) (k : Nat) : ZBr c k = c.foldl (stepA k) [] := rfl
theorem allC_snoc {l : Cx} {k i : Nat} (h : i < l.length) : ZBr (l.take (i + 1)) k = stepA k (ZBr (l.take i) k) l[i] := by
 rw [allC_eq, allC_eq, ZQ h, List.foldl_append]; rfl
theorem stepA_len {k : Nat} {out : Cx} {f : List Vx} (h : f.length <= 8) : (stepA k out f).length <= out.length + 256 := by
 unfold stepA
 split
 ·omega
 ·have h1 := foldPut_len (ZX k f) out
  have h2 := Nat.le_trans (ZBj k f) (Nat.pow_le_pow_right (by decide) h : 2 ^ f.length <= 2 ^ 8)
  omega
theorem allC_len : ∀ (l : Cx) (k i : Nat), (∀ f ∈ l, f.length <= 8) -> i <= l.length -> (ZBr (l.take i) k).length <= 256 * i
 | l, k, 0, _, _ => by simp [ZBr]
 | l, k, i + 1, h, hi => by
  rw [allC_snoc (by omega)]
  have h1 := stepA_len (k := k) (out := ZBr (l.take i) k) (h _ (List.getElem_mem (show i < l.length by omega)))
  have h2 := allC_len l k i h (by omega)
  omega
theorem tmod2 (k : Nat) : ((k : Int) + 1).tmod 2 = (((k + 1) % 2 : Nat) : Int) := by rw [Int.tmod_eq_emod_of_nonneg (by omega)]; omega
def eulS (l : Cx) : Nat -> Int
 | 0 => 0
 | k + 1 => if (k + 1) % 2 = 1 then eulS l k + (ZBr l (k + 1)).length else eulS l k - (ZBr l (k + 1)).length
def eulC (l : Cx) : Int × Int := if ZAn l ≠ 0 then (0, ZAn l) else if (List.range 8).any (fun k => decide (4096 < (ZBr l (k + 1)).length)) = true then (0, 17) else (eulS l 8, 0)
theorem eulS_le (l : Cx) (h : ∀ k, (ZBr l k).length <= 2000000) : ∀ k, eulS l k <= 2000000 * k /\ -(2000000 * (k : Int)) <= eulS l k
 | 0 => by simp [eulS]
 | k + 1 => by
  have h1 := eulS_le l h k
  have h2 := h (k + 1)
  unfold eulS
  split <;> omega
end
section
theorem GoodX.asc {l : Cx} (h : GoodX l) : ∀ s ∈ l, Asc s := fun s hs => (ZM.1 (h.2.2.1 s hs)).2.2.2
theorem around_eq {l : Cx} {s : List Vx} (h : ∀ f ∈ l, Asc f) (hs : Asc s) : l.filter (ZBO s) = aroundC l s := List.filter_congr fun f hf => ZB0 s f hs (h f hf)
theorem has_around {l : Cx} {s : List Vx} : hasC' l s = decide (0 < (aroundC l s).length) := by
 unfold hasC' aroundC
 rw [Bool.eq_iff_iff, List.any_eq_true, decide_eq_true_eq, List.length_pos_iff_exists_mem]
 constructor
 ·rintro ⟨x, hx, h⟩; exact ⟨x, List.mem_filter.2 ⟨hx, h⟩⟩
 ·rintro ⟨x, h⟩; exact ⟨x, (List.mem_filter.1 h).1, (List.mem_filter.1 h).2⟩
end
section
abbrev CntM := List (List Vx × Int)
def fcsC (l : Cx) (d : Nat) : Cx := (l.map (ZX d)).flatten
theorem fcsC_mem {l : Cx} {d : Nat} {f : List Vx} : f ∈ fcsC l d ↔ f ∈ ZBr l d := by
 unfold fcsC
 rw [List.mem_flatten, allC_mem]
 constructor
 ·rintro ⟨x, hx, hf⟩
  obtain ⟨s, hs, rfl⟩ := List.mem_map.1 hx
  exact ⟨s, hs, hf⟩
 ·rintro ⟨s, hs, hf⟩
  exact ⟨_, List.mem_map_of_mem hs, hf⟩
end
section
theorem cmp_color {a b : Vx} (h : a.1 < b.1) : ZAX a b < 0 := by
 unfold ZAX
 rw [if_pos h]; decide
def AscC (s : List Vx) : Prop := s.Pairwise fun a b => a.1 < b.1
theorem ascC_asc {s : List Vx} (h : AscC s) : Asc s := List.Pairwise.imp (fun h => cmp_color h) h
theorem asc_color {a b : Vx} (h : ZAX a b < 0) : a.1 <= b.1 := by
 unfold ZAX at h
 split at h
 ·omega
 ·split at h
  ·omega
  ·omega
theorem ascC_of : ∀ {s : List Vx}, Asc s -> Zy s = true -> AscC s
 | [], _, _ => List.Pairwise.nil
 | [a], _, _ => List.pairwise_singleton _ _
 | a :: b :: s, h, hd => by
  have h0 := List.pairwise_cons.1 h
  have h1 := asc_color (h0.1 b (by simp))
  have hab : a.1 ≠ b.1 /\ Zy (b :: s) = true := by
   unfold Zy at hd
   simpa using hd
  have hr : AscC (b :: s) := ascC_of h0.2 hab.2
  refine List.pairwise_cons.2 ⟨fun x hx => ?_, hr⟩
  rcases List.mem_cons.1 hx with rfl | hx
  ·have := hab.1; omega
  ·have h2 := (List.pairwise_cons.1 hr).1 x hx
   have := hab.1; omega
theorem place_color (s : List Vx) (bl : List Nat) : (ZAy s bl).map (·.1) = s.map (·.1) := by
 unfold ZAy
 rw [List.map_map]
 have e : ((fun x : Vx => x.1) ∘ fun p : Vx × Nat => (p.1.1, ((ZB3 bl p.2 0 : Nat) : Int))) = (fun v : Vx => v.1) ∘ Prod.fst := rfl
 rw [e, <- List.map_map, List.zipIdx_map_fst]
theorem place_asc {s : List Vx} (h : AscC s) (bl : List Nat) : Asc (ZAy s bl) := by
 refine ascC_asc ?_
 have h1 : ((ZAy s bl).map (·.1)).Pairwise (· < ·) := by
  rw [place_color]
  exact List.pairwise_map.2 h
 exact List.pairwise_map.1 h1
theorem place_chk {s : List Vx} (hs : Zn s = 0) (hd : Zy s = true) {bl : List Nat} (hb : ∀ i, i < s.length -> ZB3 bl i 0 <= 1048576) : Zn (ZAy s bl) = 0 := by
 obtain ⟨h1, h2, h3, h4⟩ := ZM.1 hs
 refine ZM.2 ⟨by rw [Zj]; exact h1, by rw [Zj]; exact h2, fun v hv => ?_, place_asc (ascC_of h4 hd) bl⟩
 unfold ZAy at hv
 obtain ⟨p, hp, rfl⟩ := List.mem_map.1 hv
 obtain ⟨q, i⟩ := p
 have hi := List.mem_zipIdx hp
 have hq : q ∈ s := by
  have := hi.2.2
  rw [this]
  exact List.getElem_mem _
 have hr := h3 q hq
 have hl := hb i (by omega)
 unfold rngV at hr ⊢
 simp only [Bool.and_eq_true, decide_eq_true_eq] at hr ⊢
 exact ⟨⟨hr.1.1, by omega⟩, by omega⟩
end
section
def ZCO (s : List Vx) : Cx := (ZBw (2 ^ s.length - 1)).map (ZAy s)
def carB (s : List Vx) (v : Vx) : List Vx := atB s v.2.toNat
abbrev Sub := Cx × List Vx × Cx
def subP (s : List Vx) : Sub × Int :=
 if Zn s ≠ 0 then (([], [], []), Zn s) else if Zy s = false then (([], [], []), 3) else if 5 < s.length then (([], [], []), 5)
 else ((maxC (ZCO s), ZBF [] (ZCO s).flatten, (ZBF [] (ZCO s).flatten).map (carB s)), 0)
theorem facB_len {s : List Vx} {t : List Vx} (h : t ∈ ZCO s) : t.length = s.length := by
 unfold ZCO at h
 obtain ⟨bl, _, rfl⟩ := List.mem_map.1 h
 exact Zj s bl
end
end Go.Proofs.YtmcllakdbgnfiaaGreatDoor
