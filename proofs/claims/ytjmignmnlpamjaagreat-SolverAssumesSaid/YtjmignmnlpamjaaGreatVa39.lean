/- Part 39: walks by contracts, and plain laws. -/
import Derived.Test.YtjmignmnlpamjaaGreatVa38
set_option linter.unusedVariables false
set_option linter.unusedSimpArgs false
set_option linter.unusedSectionVars false
set_option maxRecDepth 100000
set_option maxHeartbeats 4000000
namespace Go.Proofs.YtjmignmnlpamjaaGreat
section
open Go.RowKit
theorem ZDb (q : Nat) : upI (q + 1) = upI q ++ [(q : Int)] := by simp [upI, List.range_succ]
theorem ZOJ (q : Nat) (t : List Int) : ZCZ (upI (q + 1) ++ t) q = upI q ++ t := by
 have h1 : (upI q).length = q := by simp [upI]
 unfold ZCZ
 rw [ZDb, List.append_assoc, List.take_append_of_le_length (by omega), List.take_of_length_le (by omega), List.drop_append, List.drop_of_length_le (by omega), h1, show q + 1 - q = 1 by omega]
 rfl
theorem ZNJ (q : Nat) (t : List Int) (h : ∀ y ∈ t, (q : Int) < y) : (upI (q + 1) ++ t).filter (fun y => decide (y ≠ (q : Int))) = upI q ++ t := by
 rw [ZDb, List.filter_append, List.filter_append]
 have h1 : (upI q).filter (fun y => decide (y ≠ (q : Int))) = upI q := List.filter_eq_self.2 fun y hy => decide_eq_true (by have := ZHy hy; omega)
 have h2 : t.filter (fun y => decide (y ≠ (q : Int))) = t := List.filter_eq_self.2 fun y hy => decide_eq_true (by have := h y hy; omega)
 rw [h1, h2]
 simp
theorem ZNk {V : Nat} (hV : V ≤ 4096) {l : List (List Int)} (hw : WfL V l) : (Zu (V + 1) l []).isSome = !ZB8 V l := by
 have h := ZDv hV hw (a := []) (n := V + 1) ⟨(fun x hx => by cases hx), (fun x hx => by cases hx)⟩ (by
  unfold ZGR
  exact Nat.lt_succ_of_le (Nat.le_trans (List.length_filter_le _ _) (by simp)))
 unfold ZB8
 cases hs : (Zu (V + 1) l []).isSome with
 | true =>
  obtain ⟨m, hm, _⟩ := h.1 hs
  cases hl : ZB6 V l [] with
  | nil => rw [hl] at hm; cases hm
  | cons x t => rfl
 | false =>
  cases hl : ZB6 V l [] with
  | nil => rfl
  | cons m t =>
   have := h.2 ⟨m, by rw [hl]; simp, fun x hx => by cases hx⟩
   rw [hs] at this; cases this
set_option maxHeartbeats 8000000 in
theorem ZK0 (V : Nat) (hV : V ≤ 14) (l : List (List Int)) (hw : WfL V l) (hll : l.length ≤ 32768) : Fn Tryz.prog 13 [dS Rows l, dS ZW []] (dB (!ZB8 V l)) := by
 have h := ZE0 V hV l hw hll [] (Asn.nil V)
 rwa [ZNk (by omega) hw] at h
set_option maxHeartbeats 16000000 in
theorem ZKt (V : Nat) (hV : V ≤ 14) (l : List (List Int)) (hck : ZQ (V : Int) l = 0) : Fn Tryz.prog 17 [dS Cls ((V : Int), l)] (dT [dS ZW (if ZB8 V l = true then ZCW V l else []), dI (if ZB8 V l = true then 0 else 6)]) := by
 obtain ⟨_, _, hll, hcl⟩ := Zc hck
 have hw : WfL V l := (Zs (by omega)).1 hcl
 have h1 := ZCx (V : Int) l
 rw [hck] at h1
 have hs := ZK0 V hV l hw hll
 cases hu : ZB8 V l with
 | false =>
  rw [hu] at hs
  (refine ZAM Tryz.func17 rfl rfl ?_; simp only [Tryz.ntmps17, List.length_cons, List.length_nil, Nat.reduceAdd, Nat.reduceSub, List.replicate_succ, List.replicate_zero, List.cons_append, List.nil_append])
  ((repeat' (first | (apply WL.opN; exact yF; dsimp only [ZB, z0, z1]) | refine WL.nil ?_ | refine ZA fun Kx hK => ?_ | (refine hK _ _ ?_; clear hK) | refine WC.region ?_ | (apply WL.opN; (focus ((first | (apply SY.call (h1) Tryz.call29; (exact aD)) | (apply SY.call hs Tryz.call13; exact ArgsD.cons (OpD.t rfl) (ArgsD.cons ⟨ZD⟩ ArgsD.nil)) | ((first | apply SY.move | apply SY.assign | apply SY.lss | apply SY.geq | apply SY.neq | apply SY.not) <;> (exact oD)) | (apply ZT clT; exact OpD.t rfl) | (apply ZU clT; exact OpD.t rfl) | (apply SY.box; (exact oD); (exact hD)) | fail); all_goals infer_instance)); dsimp only [ZB, z0, z1]) | (apply ZO; (exact oD); all_goals (intro h; try exact xD)) | (apply ZL; (exact oD); all_goals (intro h; try exact xD)) | refine WC.skip ?_ | refine WC.ret ?_ | refine ThenD.r ?_)); all_goals (first | ((repeat clear hK); (repeat clear Kx))))
  all_goals try (exfalso; first | contradiction | omega)
  (refine ⟨trivial, ⟨_, rfl, ?_⟩, _, rfl, ?_⟩ <;> exact fD) <;> rfl
 | true =>
  rw [hu] at hs
  (refine ZAM Tryz.func17 rfl rfl ?_; simp only [Tryz.ntmps17, List.length_cons, List.length_nil, Nat.reduceAdd, Nat.reduceSub, List.replicate_succ, List.replicate_zero, List.cons_append, List.nil_append])
  refine ZAH 3 RI ?_
  (repeat' (first | (apply WL.opN; exact yF; dsimp only [ZB, z0, z1]) | refine WL.nil ?_ | refine ZA fun Kx hK => ?_ | (refine hK _ _ ?_; clear hK) | refine WC.region ?_ | (apply WL.opN; (focus ((first | (apply SY.call (h1) Tryz.call29; (exact aD)) | (apply SY.call hs Tryz.call13; exact ArgsD.cons (OpD.t rfl) (ArgsD.cons ⟨ZD⟩ ArgsD.nil)) | ((first | apply SY.move | apply SY.assign | apply SY.lss | apply SY.geq | apply SY.neq | apply SY.not) <;> (exact oD)) | (apply ZT clT; exact OpD.t rfl) | (apply ZU clT; exact OpD.t rfl) | (apply SY.box; (exact oD); (exact hD)) | fail); all_goals infer_instance)); dsimp only [ZB, z0, z1]) | (apply ZO; (exact oD); all_goals (intro h; try exact xD)) | (apply ZL; (exact oD); all_goals (intro h; try exact xD)) | refine WC.skip ?_ | refine WC.block ?_))
  all_goals try (exfalso; first | contradiction | omega)
  (refine ZP (X := Nat × Value) (fun x => [(6, dI (x.1 : Int)), (5, dX x.2), (18, dA), (19, dA), (20, dA), (21, dA), (22, dA), (23, dA), (24, dA), (25, dA), (26, dA), (27, dA), (28, dA)]) (fun x => ([ZS x.2 3 RI (upI x.1)])) (fun x => l.length - x.1) (fun x => x.1 ≤ l.length) (0, ZCX) ?start ?frame0 ?objs0 ?round)
  case start => exact Nat.zero_le _
  case frame0 => ((try dsimp only [ZX, z0, z1]); repeat (first | exact LeF.nil | refine ZG (k := ?_)))
  case objs0 => rfl
  case round =>
   rintro ⟨i, vo⟩ hi
   simp only at hi
   dsimp only [ZX, z0, z1]
   by_cases hil : i < l.length
   ·have hlti : (i : Int) < (l.length : Int) := by omega
    have et := ZDb i
    have hln := ZBk i
    have h8 : ((upI i).length + 1) * 8 ≤ 140737488355328 := by omega
    ((repeat' (first | (apply WL.opN; exact yF; dsimp only [ZB, z0, z1]) | refine WL.nil ?_ | refine ZA fun Kx hK => ?_ | (refine hK _ _ ?_; clear hK) | refine WC.region ?_ | ((first | apply WL.pushK | apply ZAS); (exact eD); exact OpD.t rfl; (exact oD); (intro _; exact hD); (exact (by simp)); (exact (by simp)); (first | exact ⟨by decide, by decide⟩ | skip); decide; (exact lD); (intro _; dsimp only [ZB, z0, z1]); all_goals (try infer_instance)) | (apply WL.opN; (focus ((first | ((first | apply SY.move | apply SY.assign | apply SY.lss | apply SY.geq | apply SY.neq | apply SY.not) <;> (exact oD)) | ((first | apply SY.add | apply SY.sub) <;> first | exact oD | omega) | (apply SY.len; (exact oD); (exact nD); (exact uD)) | (apply ZT clT; exact OpD.t rfl) | (apply ZU clT; exact OpD.t rfl) | fail); all_goals infer_instance)); dsimp only [ZB, z0, z1]) | (apply ZC; (exact oD); all_goals (intro h; try exact xD)) | refine WC.skip ?_ | refine WC.block ?_ | refine ThenD.n ?_)); all_goals (first | ((repeat clear hK); (repeat clear Kx))))
    all_goals try (exfalso; first | contradiction | omega)
    rw [<- et]
    (refine ⟨(i + 1, _), ?_, by first | omega | (simp only; omega), rfl, ?_⟩; rotate_left; ((try dsimp only [ZX, z0, z1]); repeat (first | exact LeF.nil | refine ZG (k := ?_))); (try dsimp only))
    omega
   ·have hlti : ¬ (i : Int) < (l.length : Int) := by omega
    obtain rfl : i = l.length := by omega
    (repeat' (first |  (refine WC.only 11 (Halt.go ?_)) | (apply WL.opN; exact yF; dsimp only [ZB, z0, z1]) | refine WL.nil ?_ | refine ZA fun Kx hK => ?_ | (refine hK _ _ ?_; clear hK) | (refine Kont.skip ?_; clear hK) | refine WC.region ?_ | (apply WL.opN; (focus ((first | ((first | apply SY.move | apply SY.assign | apply SY.lss | apply SY.geq | apply SY.neq | apply SY.not) <;> (exact oD)) | (apply SY.len; (exact oD); (exact nD); (exact uD)) | (apply ZT clT; exact OpD.t rfl) | (apply ZU clT; exact OpD.t rfl) | fail); all_goals infer_instance)); dsimp only [ZB, z0, z1]) | (apply ZC; (exact oD); all_goals (intro h; try exact xD)) | refine WC.exit ?_))
    all_goals try (exfalso; first | contradiction | omega)
    refine ⟨ZA2 (s := 5) rfl ?_⟩
    dsimp only [z0, z1]
    (repeat' (first | (apply WL.opN; exact yF; dsimp only [ZB, z0, z1]) | refine WL.nil ?_ | (refine hK _ _ ?_; clear hK) | refine WC.region ?_ | (apply WL.opN; (focus ((first | ((first | apply SY.add | apply SY.sub) <;> first | exact oD | omega) | (apply SY.len; (exact oD); (exact nD); (exact uD)) | (apply ZT clT; exact OpD.t rfl) | (apply ZU clT; exact OpD.t rfl) | fail); all_goals infer_instance)); dsimp only [ZB, z0, z1]) | refine WC.block ?_))
    all_goals try (exfalso; first | contradiction | omega)
    (refine ZP (X := Nat × List Int) (fun x => [(7, dI ((x.1 : Int) - 1)), (5, dS ZW (upI x.1 ++ x.2)), (8, dA), (9, dA), (33, dA), (34, dA), (35, dA), (36, dA), (37, dA), (38, dA), (39, dA), (40, dA), (41, dA), (42, dA), (43, dA), (44, dA), (45, dA), (46, dA), (47, dA), (48, dA), (49, dA), (50, dA), (51, dA), (52, dA), (53, dA), (54, dA), (55, dA), (56, dA), (57, dA), (58, dA), (59, dA), (60, dA), (61, dA), (62, dA)]) (fun x => ([])) (fun x => x.1) (fun x => x.1 + x.2.length ≤ l.length /\ (∀ y ∈ x.2, (x.1 : Int) ≤ y /\ y < (l.length : Int)) /\ ZHm (fun ks => ZB8 V (Ze l ks)) x.1 (upI x.1 ++ x.2) = ZCW V l) (l.length, []) ?start ?frame0 ?objs0 ?round)
    case start => exact ⟨by simp, (fun y hy => by cases hy), by rw [List.append_nil]; rfl⟩
    case frame0 => simp only [List.append_nil]; ((try dsimp only [ZX, z0, z1]); repeat (first | exact LeF.nil | refine ZG (k := ?_)))
    case objs0 => rfl
    case round =>
     rintro ⟨p, t⟩ ⟨q1, q2, q3⟩
     simp only at q1 q2 q3
     dsimp only [ZX, z0, z1]
     rcases Nat.eq_zero_or_pos p with rfl | hp0
     ·have hge : ¬ ((0 : Nat) : Int) - 1 ≥ 0 := by omega
      have q5 : upI 0 ++ t = ZCW V l := q3
      rw [q5]
      ((repeat' (first | (apply WL.opN; exact yF; dsimp only [ZB, z0, z1]) | refine WL.nil ?_ | refine ZA fun Kx hK => ?_ | (refine hK _ _ ?_; clear hK) | (refine Kont.skip ?_; clear hK) | refine WC.region ?_ | (apply WL.opN; (focus ((first | ((first | apply SY.move | apply SY.assign | apply SY.lss | apply SY.geq | apply SY.neq | apply SY.not) <;> (exact oD)) | fail); all_goals infer_instance)); dsimp only [ZB, z0, z1]) | (apply ZC; (exact oD); all_goals (intro h; try exact xD)) | refine WC.ret ?_ | refine WC.exit ?_)); all_goals (first | ((repeat clear hK); (repeat clear Kx))))
      all_goals try (exfalso; first | contradiction | omega)
      (refine ⟨trivial, ⟨_, rfl, ?_⟩, _, rfl, ?_⟩ <;> exact fD) <;> rfl
     ·obtain ⟨q, rfl⟩ : ∃ q, p = q + 1 := ⟨p - 1, by omega⟩
      have hqi : ((q + 1 : Nat) : Int) - 1 = (q : Int) := by omega
      rw [hqi]
      have hge : (q : Int) ≥ 0 := by omega
      have hlu : (upI (q + 1)).length = q + 1 := ZBk _
      have hkl : (upI (q + 1) ++ t).length ≤ l.length := by rw [List.length_append, hlu]; omega
      have hft := ZNJ q t fun y hy => by have := (q2 y hy).1; omega
      have hrm := ZOJ q t
      have hst : ZHm (fun ks => ZB8 V (Ze l ks)) q (if ZB8 V (Ze l (upI q ++ t)) = true then upI q ++ t else upI (q + 1) ++ t) = ZCW V l := by
       rw [<- q3, <- hrm]; rfl
      obtain ⟨ks, hks⟩ : ∃ ks, upI (q + 1) ++ t = ks := ⟨_, rfl⟩
      rw [hks] at hkl hft
      rw [hks]
      refine ZAH 3 RI ?_
      (repeat' (first | (apply WL.opN; exact yF; dsimp only [ZB, z0, z1]) | refine WL.nil ?_ | refine ZA fun Kx hK => ?_ | (refine hK _ _ ?_; clear hK) | refine WC.region ?_ | (apply WL.opN; (focus ((first | ((first | apply SY.move | apply SY.assign | apply SY.lss | apply SY.geq | apply SY.neq | apply SY.not) <;> (exact oD)) | fail); all_goals infer_instance)); dsimp only [ZB, z0, z1]) | (apply ZC; (exact oD); all_goals (intro h; try exact xD)) | refine WC.skip ?_ | refine WC.block ?_))
      all_goals try (exfalso; first | contradiction | omega)
      (refine ZP (X := Nat × Value) (fun x => [(9, dI (x.1 : Int)), (8, dX x.2), (37, dA), (38, dA), (39, dA), (40, dA), (41, dA), (42, dA), (43, dA), (44, dA), (45, dA), (46, dA), (47, dA), (48, dA), (49, dA), (50, dA), (51, dA), (52, dA), (53, dA), (54, dA), (55, dA)]) (fun x => ([ZS x.2 3 RI ((ks.take x.1).filter fun y => decide (y ≠ (q : Int)))])) (fun x => ks.length - x.1) (fun x => x.1 ≤ ks.length) (0, ZCX) ?start ?frame0 ?objs0 ?round)
      case start => exact Nat.zero_le _
      case frame0 => ((try dsimp only [ZX, z0, z1]); repeat (first | exact LeF.nil | refine ZG (k := ?_)))
      case objs0 => rfl
      case round =>
       rintro ⟨j, vo⟩ hj
       simp only at hj
       dsimp only [ZX, z0, z1]
       by_cases hjl : j < ks.length
       ·have hltj : (j : Int) < (ks.length : Int) := by omega
        obtain ⟨y, hy⟩ : ∃ y, ks[j] = y := ⟨_, rfl⟩
        have hln : ((ks.take j).filter fun y => decide (y ≠ (q : Int))).length ≤ 32768 := Nat.le_trans (List.length_filter_le _ _) (by rw [List.length_take]; omega)
        have h8 : (((ks.take j).filter fun y => decide (y ≠ (q : Int))).length + 1) * 8 ≤ 140737488355328 := by omega
        by_cases hyq : y ≠ (q : Int)
        ·have et : (ks.take (j + 1)).filter (fun y => decide (y ≠ (q : Int))) = (ks.take j).filter (fun y => decide (y ≠ (q : Int))) ++ [y] := by
          rw [List.take_succ_eq_append_getElem hjl, List.filter_append, hy, List.filter_cons, if_pos (decide_eq_true hyq), List.filter_nil]
         ((repeat' (first | (apply WL.opN; exact yF; dsimp only [ZB, z0, z1]) | refine WL.nil ?_ | refine ZA fun Kx hK => ?_ | (refine hK _ _ ?_; clear hK) | refine WC.region ?_ | ((first | apply WL.pushK | apply ZAS); (exact eD); exact OpD.t rfl; (exact oD); (intro _; exact hD); (exact (by simp)); (exact (by simp)); (first | exact ⟨by decide, by decide⟩ | skip); decide; (exact lD); (intro _; dsimp only [ZB, z0, z1]); all_goals (try infer_instance)) | (apply WL.opN; (focus ((first | (refine Z0 (R := RI) (_gR := inferInstance) elI hjl hy (OpD.t rfl) (OpD.t rfl)) | ((first | apply SY.move | apply SY.assign | apply SY.lss | apply SY.geq | apply SY.neq | apply SY.not) <;> (exact oD)) | ((first | apply SY.add | apply SY.sub) <;> first | exact oD | omega) | (apply SY.len; (exact oD); (exact nD); (exact uD)) | fail); all_goals infer_instance)); dsimp only [ZB, z0, z1]) | (apply ZC; (exact oD); all_goals (intro h; try exact xD)) | (apply ZO; (exact oD); all_goals (intro h; try exact xD)) | refine WC.skip ?_ | refine WC.block ?_ | refine ThenD.n ?_)); all_goals (first | ((repeat clear hK); (repeat clear Kx))))
         all_goals try (exfalso; first | contradiction | omega)
         rw [<- et]
         (refine ⟨(j + 1, _), ?_, by first | omega | (simp only; omega), rfl, ?_⟩; rotate_left; ((try dsimp only [ZX, z0, z1]); repeat (first | exact LeF.nil | refine ZG (k := ?_))); (try dsimp only))
         omega
        ·have et : (ks.take (j + 1)).filter (fun y => decide (y ≠ (q : Int))) = (ks.take j).filter (fun y => decide (y ≠ (q : Int))) := by
          rw [List.take_succ_eq_append_getElem hjl, List.filter_append, hy, List.filter_cons, if_neg (by simpa using hyq), List.filter_nil, List.append_nil]
         ((repeat' (first | (apply WL.opN; exact yF; dsimp only [ZB, z0, z1]) | refine WL.nil ?_ | refine ZA fun Kx hK => ?_ | (refine hK _ _ ?_; clear hK) | refine WC.region ?_ | (apply WL.opN; (focus ((first | (refine Z0 (R := RI) (_gR := inferInstance) elI hjl hy (OpD.t rfl) (OpD.t rfl)) | ((first | apply SY.move | apply SY.assign | apply SY.lss | apply SY.geq | apply SY.neq | apply SY.not) <;> (exact oD)) | ((first | apply SY.add | apply SY.sub) <;> first | exact oD | omega) | (apply SY.len; (exact oD); (exact nD); (exact uD)) | fail); all_goals infer_instance)); dsimp only [ZB, z0, z1]) | (apply ZC; (exact oD); all_goals (intro h; try exact xD)) | (apply ZO; (exact oD); all_goals (intro h; try exact xD)) | refine WC.skip ?_ | refine WC.block ?_ | refine ThenD.n ?_)); all_goals (first | ((repeat clear hK); (repeat clear Kx))))
         all_goals try (exfalso; first | contradiction | omega)
         rw [<- et]
         (refine ⟨(j + 1, _), ?_, by first | omega | (simp only; omega), rfl, ?_⟩; rotate_left; ((try dsimp only [ZX, z0, z1]); repeat (first | exact LeF.nil | refine ZG (k := ?_))); (try dsimp only))
         omega
       ·have hltj : ¬ (j : Int) < (ks.length : Int) := by omega
        obtain rfl : j = ks.length := by omega
        rw [List.take_length, hft]
        have hkr : ∀ k ∈ upI q ++ t, 0 ≤ k /\ k < (l.length : Int) := fun k hk => by
         rcases List.mem_append.1 hk with hk | hk
         ·have := ZHy hk; omega
         ·have := q2 k hk; omega
        have hkn : (upI q ++ t).length ≤ 32768 := by rw [List.length_append, ZBk]; omega
        have hch := ZHn l (upI q ++ t) hkr hkn
        have hs2 := ZK0 V hV (Ze l (upI q ++ t)) (fun d hd => hw d (ZEf hkr d hd)) (by rw [ZBN]; omega)
        (repeat' (first |  (refine WC.only 20 (Halt.go ?_)) | (apply WL.opN; exact yF; dsimp only [ZB, z0, z1]) | refine WL.nil ?_ | refine ZA fun Kx hK => ?_ | (refine hK _ _ ?_; clear hK) | (refine Kont.skip ?_; clear hK) | refine WC.region ?_ | (apply WL.opN; (focus ((first | ((first | apply SY.move | apply SY.assign | apply SY.lss | apply SY.geq | apply SY.neq | apply SY.not) <;> (exact oD)) | (apply SY.len; (exact oD); (exact nD); (exact uD)) | fail); all_goals infer_instance)); dsimp only [ZB, z0, z1]) | (apply ZC; (exact oD); all_goals (intro h; try exact xD)) | refine WC.exit ?_))
        all_goals try (exfalso; first | contradiction | omega)
        refine ⟨ZA2 (s := 8) rfl ?_⟩
        dsimp only [z0, z1]
        cases hx : ZB8 V (Ze l (upI q ++ t)) with
        | true =>
         rw [hx] at hs2
         rw [if_pos hx] at hst
         ((repeat' (first | (apply WL.opN; exact yF; dsimp only [ZB, z0, z1]) | refine WL.nil ?_ | (refine hK _ _ ?_; clear hK) | refine WC.region ?_ | (apply WL.opN; (focus ((first | (apply SY.call (hch) Tryz.call46; (exact aD)) | (apply SY.call hs2 Tryz.call13; exact ArgsD.cons (OpD.t rfl) (ArgsD.cons ⟨ZD⟩ ArgsD.nil)) | ((first | apply SY.move | apply SY.assign | apply SY.lss | apply SY.geq | apply SY.neq | apply SY.not) <;> (exact oD)) | ((first | apply SY.add | apply SY.sub) <;> first | exact oD | omega) | (apply ZT clT; exact OpD.t rfl) | (apply ZU clT; exact OpD.t rfl) | fail); all_goals infer_instance)); dsimp only [ZB, z0, z1]) | (apply ZL; (exact oD); all_goals (intro h; try exact xD)) | refine ThenD.n ?_)); all_goals (first | ((repeat clear hK); (repeat clear Kx))))
         all_goals try (exfalso; first | contradiction | omega)
         (refine ⟨(q, t), ?_, by first | omega | (simp only; omega), rfl, ?_⟩; rotate_left; ((try dsimp only [ZX, z0, z1]); repeat (first | exact LeF.nil | refine ZG (k := ?_))); (try dsimp only))
         exact ⟨by omega, fun y hy => by have := q2 y hy; omega, hst⟩
        | false =>
         rw [hx] at hs2
         rw [if_neg (by rw [hx]; decide), ZDb, List.append_assoc] at hst
         have hks2 : ks = upI q ++ ((q : Int) :: t) := by rw [<- hks, ZDb, List.append_assoc]; rfl
         ((repeat' (first | (apply WL.opN; exact yF; dsimp only [ZB, z0, z1]) | refine WL.nil ?_ | (refine hK _ _ ?_; clear hK) | refine WC.region ?_ | (apply WL.opN; (focus ((first | (apply SY.call (hch) Tryz.call46; (exact aD)) | (apply SY.call hs2 Tryz.call13; exact ArgsD.cons (OpD.t rfl) (ArgsD.cons ⟨ZD⟩ ArgsD.nil)) | ((first | apply SY.move | apply SY.assign | apply SY.lss | apply SY.geq | apply SY.neq | apply SY.not) <;> (exact oD)) | ((first | apply SY.add | apply SY.sub) <;> first | exact oD | omega) | (apply ZT clT; exact OpD.t rfl) | (apply ZU clT; exact OpD.t rfl) | fail); all_goals infer_instance)); dsimp only [ZB, z0, z1]) | (apply ZL; (exact oD); all_goals (intro h; try exact xD)) | refine WC.skip ?_ | refine ThenD.n ?_)); all_goals (first | ((repeat clear hK); (repeat clear Kx))))
         all_goals try (exfalso; first | contradiction | omega)
         rw [hks2]
         (refine ⟨(q, (q : Int) :: t), ?_, by first | omega | (simp only; omega), rfl, ?_⟩; rotate_left; ((try dsimp only [ZX, z0, z1]); repeat (first | exact LeF.nil | refine ZG (k := ?_))); (try dsimp only))
         exact ⟨by rw [List.length_cons]; omega, fun y hy => by
          rcases List.mem_cons.1 hy with rfl | hy
          ·omega
          ·have := q2 y hy; omega, hst⟩
end
section
open Go.RowKit
theorem ZM4 {V : Nat} {c : List Int} (hc : WfC V c) : Asn V (c.map fun x => -x) := ⟨fun x hx => by
  obtain ⟨y, y1, rfl⟩ := List.mem_map.1 hx
  have := hc.rng y y1
  omega, by
  rw [List.pairwise_map]
  exact hc.inc.imp fun h => by omega⟩
theorem ZI3 {c : List Int} {i : Nat} (h : i < c.length) : (c.take (i + 1)).map (fun x => -x) = (c.take i).map (fun x => -x) ++ [-(c[i])] := by
 rw [List.take_succ_eq_append_getElem h, List.map_append]; rfl
set_option maxHeartbeats 8000000 in
theorem ZG1 (V : Nat) (hV : V ≤ 14) (l : List (List Int)) (c : List Int) (hck : ZQ (V : Int) l = 0) (hc : WfC V c) (hsm : ZFH l + c.length ≤ 500000) : Fn Tryz.prog 15 [dS Cls ((V : Int), l), dS ZW c] (dT [dB (!(Zu (V + 1) l (c.map fun x => -x)).isSome), dI 0]) := by
 obtain ⟨_, _, hll, hcl⟩ := Zc hck
 have hw : WfL V l := (Zs (by omega)).1 hcl
 have h1 := ZED (V : Int) l c fun _ _ => hsm
 have hcc : ZR (V : Int) none c = 0 := (ZAX (by omega)).2 hc
 have e1 : Za (V : Int) l c = (ZAi l c, 0) := by unfold Za; rw [if_neg (by simp [hck]), if_neg (by simp [hcc])]
 rw [e1] at h1
 have hcn : c.length ≤ V := S43.trail_len hc.rng (hc.inc.imp fun h => by omega)
 have hs := ZE0 V hV l hw hll _ (ZM4 hc)
 generalize ZAi l c = fb at h1
 (refine ZAM Tryz.func15 rfl rfl ?_; simp only [Tryz.ntmps15, List.length_cons, List.length_nil, Nat.reduceAdd, Nat.reduceSub, List.replicate_succ, List.replicate_zero, List.cons_append, List.nil_append])
 refine ZAH 3 RI ?_
 (repeat' (first | (apply WL.opN; exact yF; dsimp only [ZB, z0, z1]) | refine WL.nil ?_ | refine ZA fun Kx hK => ?_ | (refine hK _ _ ?_; clear hK) | refine WC.region ?_ | (apply WL.opN; (focus ((first | (apply SY.call (h1) Tryz.call41; (exact aD)) | ((first | apply SY.move | apply SY.assign | apply SY.lss | apply SY.neq | apply SY.not) <;> (exact oD)) | (apply SY.extract; (exact oD); rfl) | (apply SY.box; (exact oD); (exact hD)) | fail); all_goals infer_instance)); dsimp only [ZB, z0, z1]) | (apply ZO; (exact oD); all_goals (intro h; try exact xD)) | refine WC.skip ?_ | refine WC.block ?_))
 all_goals try (exfalso; first | contradiction | omega)
 (refine ZP (X := Nat × Value) (fun x => [(9, dI (x.1 : Int)), (8, dX x.2), (19, dA), (20, dA), (21, dA), (22, dA), (23, dA), (24, dA), (25, dA), (26, dA), (27, dA), (28, dA), (29, dA), (30, dA), (31, dA), (32, dA)]) (fun x => ([ZS x.2 3 RI ((c.take x.1).map fun y => -y)])) (fun x => c.length - x.1) (fun x => x.1 ≤ c.length) (0, ZCX) ?start ?frame0 ?objs0 ?round)
 case start => exact Nat.zero_le _
 case frame0 => ((try dsimp only [ZX, z0, z1]); repeat (first | exact LeF.nil | refine ZG (k := ?_)))
 case objs0 => rfl
 case round =>
  rintro ⟨i, vo⟩ hi
  simp only at hi
  dsimp only [ZX, z0, z1]
  by_cases hil : i < c.length
  ·have hlti : (i : Int) < (c.length : Int) := by omega
   obtain ⟨x, hx⟩ : ∃ x, c[i] = x := ⟨_, rfl⟩
   have hxr := hc.rng x (by rw [<- hx]; exact List.getElem_mem hil)
   have et := ZI3 (c := c) hil
   rw [hx] at et
   have hcln : ((c.take i).map fun y => -y).length = i := by simp; omega
   have h8 : (((c.take i).map fun y => -y).length + 1) * 8 ≤ 140737488355328 := by omega
   ((repeat' (first | (apply WL.opN; exact yF; dsimp only [ZB, z0, z1]) | refine WL.nil ?_ | refine ZA fun Kx hK => ?_ | (refine hK _ _ ?_; clear hK) | refine WC.region ?_ | ((first | apply WL.pushK | apply ZAS); (exact eD); exact OpD.t rfl; (exact oD); (intro _; exact hD); (exact (by simp)); (exact (by simp)); (first | exact ⟨by decide, by decide⟩ | skip); decide; (exact lD); (intro _; dsimp only [ZB, z0, z1]); all_goals (try infer_instance)) | (apply WL.opN; (focus ((first | (refine Z0 (R := RI) (_gR := inferInstance) elI hil hx (OpD.t rfl) (OpD.t rfl)) | (exact SY.neg (OpD.t rfl) (by omega)) | ((first | apply SY.move | apply SY.assign | apply SY.lss | apply SY.neq | apply SY.not) <;> (exact oD)) | ((first | apply SY.add) <;> first | exact oD | omega) | (apply SY.len; (exact oD); (exact nD); (exact uD)) | fail); all_goals infer_instance)); dsimp only [ZB, z0, z1]) | (apply ZC; (exact oD); all_goals (intro h; try exact xD)) | refine WC.skip ?_ | refine WC.block ?_ | refine ThenD.n ?_)); all_goals (first | ((repeat clear hK); (repeat clear Kx))))
   all_goals try (exfalso; first | contradiction | omega)
   rw [<- et]
   (refine ⟨(i + 1, _), ?_, by first | omega | (simp only; omega), rfl, ?_⟩; rotate_left; ((try dsimp only [ZX, z0, z1]); repeat (first | exact LeF.nil | refine ZG (k := ?_))); (try dsimp only))
   omega
  ·have hlti : ¬ (i : Int) < (c.length : Int) := by omega
   obtain rfl : i = c.length := by omega
   rw [List.take_length]
   (repeat' (first |  (refine WC.only 9 (Halt.go ?_)) | (apply WL.opN; exact yF; dsimp only [ZB, z0, z1]) | refine WL.nil ?_ | refine ZA fun Kx hK => ?_ | (refine hK _ _ ?_; clear hK) | (refine Kont.skip ?_; clear hK) | refine WC.region ?_ | (apply WL.opN; (focus ((first | ((first | apply SY.move | apply SY.assign | apply SY.lss | apply SY.neq | apply SY.not) <;> (exact oD)) | (apply SY.len; (exact oD); (exact nD); (exact uD)) | fail); all_goals infer_instance)); dsimp only [ZB, z0, z1]) | (apply ZC; (exact oD); all_goals (intro h; try exact xD)) | refine WC.exit ?_))
   all_goals try (exfalso; first | contradiction | omega)
   refine ⟨ZA2 (s := 8) rfl ?_⟩
   dsimp only [z0, z1]
   ((repeat' (first | (apply WL.opN; exact yF; dsimp only [ZB, z0, z1]) | refine WL.nil ?_ | (refine hK _ _ ?_; clear hK) | refine WC.region ?_ | (apply WL.opN; (focus ((first | (apply SY.call (hs) Tryz.call13; (exact aD)) | ((first | apply SY.move | apply SY.assign | apply SY.lss | apply SY.neq | apply SY.not) <;> (exact oD)) | (apply ZT clT; exact OpD.t rfl) | (apply ZU clT; exact OpD.t rfl) | fail); all_goals infer_instance)); dsimp only [ZB, z0, z1]) | refine WC.ret ?_)); all_goals (first | ((repeat clear hK); (repeat clear Kx))))
   all_goals try (exfalso; first | contradiction | omega)
   (refine ⟨trivial, ⟨_, rfl, ?_⟩, _, rfl, ?_⟩ <;> exact fD)
end
section
open Go.RowKit
theorem ZGs {V : Int} {l : List (List Int)} {c : List Int} (h : (Za V l c).2 ≠ 0) : (Za V l c).1 = false := by
 unfold Za at h ⊢
 by_cases h1 : ZQ V l ≠ 0
 ·rw [if_pos h1]
 ·rw [if_neg h1] at h ⊢
  by_cases h2 : ZR V none c ≠ 0
  ·rw [if_pos h2]
  ·rw [if_neg h2] at h; exact absurd rfl h
theorem ZDU {V : Int} {l : List (List Int)} {c : List Int} (h : (Za V l c).2 = 0) : ZQ V l = 0 /\ ZR V none c = 0 := by
 unfold Za at h
 by_cases h1 : ZQ V l ≠ 0
 ·rw [if_pos h1] at h; exact absurd h h1
 ·rw [if_neg h1] at h
  by_cases h2 : ZR V none c ≠ 0
  ·rw [if_pos h2] at h; exact absurd h h2
  ·exact ⟨Classical.not_not.1 h1, Classical.not_not.1 h2⟩
set_option maxHeartbeats 8000000 in
theorem ZHf (V : Int) (l : List (List Int)) (c : List Int) (hr : IRR l) (he : (Za V l c).2 ≠ 0) : Fn Tryz.prog 14 [dS Cls (V, l), dS ZW c] (dT [dB false, dI (Za V l c).2]) := by
 have h1 := ZEp V l c hr
 rw [ZGs he] at h1
 generalize (Za V l c).2 = q at h1 he ⊢
 (refine ZAM Tryz.func14 rfl rfl ?_; simp only [Tryz.ntmps14, List.length_cons, List.length_nil, Nat.reduceAdd, Nat.reduceSub, List.replicate_succ, List.replicate_zero, List.cons_append, List.nil_append])
 ((repeat' (first | (apply WL.opN; exact yF; dsimp only [ZB, z0, z1]) | refine WL.nil ?_ | refine ZA fun Kx hK => ?_ | (refine hK _ _ ?_; clear hK) | refine WC.region ?_ | (apply ZJ; (focus (first | exact wN | (apply SYG.yes; (exact wY); ((first | (apply SY.call (h1) Tryz.call40; (exact aD)) | ((first | apply SY.move | apply SY.assign | apply SY.lss | apply SY.eql | apply SY.neq) <;> (exact oD)) | (apply Zp; (exact oD); (with_reducible rfl); (exact oD)) | (apply SY.extract; (exact oD); rfl) | (apply SY.box; (exact oD); (exact hD)) | fail); all_goals infer_instance)))); dsimp only [ZB, z0, z1]) | (apply ZO; (exact oD); all_goals (intro h; try exact xD)) | refine WC.ret ?_ | refine ThenD.r ?_)); all_goals (first | ((repeat clear hK); (repeat clear Kx))))
 all_goals try (exfalso; first | contradiction | omega)
 (refine ⟨trivial, ⟨_, rfl, ?_⟩, _, rfl, ?_⟩ <;> exact fD)
set_option maxHeartbeats 8000000 in
theorem ZG2 (V : Int) (l : List (List Int)) (c : List Int) (he : (Za V l c).2 ≠ 0) : Fn Tryz.prog 15 [dS Cls (V, l), dS ZW c] (dT [dB false, dI (Za V l c).2]) := by
 have h1 := ZED V l c fun q1 q2 => absurd (by unfold Za; rw [if_neg (by simp [q1]), if_neg (by simp [q2])]) he
 generalize (Za V l c).1 = b at h1
 generalize (Za V l c).2 = q at h1 he ⊢
 (refine ZAM Tryz.func15 rfl rfl ?_; simp only [Tryz.ntmps15, List.length_cons, List.length_nil, Nat.reduceAdd, Nat.reduceSub, List.replicate_succ, List.replicate_zero, List.cons_append, List.nil_append])
 ((repeat' (first | (apply WL.opN; exact yF; dsimp only [ZB, z0, z1]) | refine WL.nil ?_ | refine ZA fun Kx hK => ?_ | (refine hK _ _ ?_; clear hK) | refine WC.region ?_ | (apply WL.opN; (focus ((first | (apply SY.call (h1) Tryz.call41; (exact aD)) | ((first | apply SY.move | apply SY.assign | apply SY.lss | apply SY.neq | apply SY.not) <;> (exact oD)) | (apply SY.extract; (exact oD); rfl) | (apply SY.box; (exact oD); (exact hD)) | fail); all_goals infer_instance)); dsimp only [ZB, z0, z1]) | (apply ZO; (exact oD); all_goals (intro h; try exact xD)) | refine WC.ret ?_ | refine ThenD.r ?_)); all_goals (first | ((repeat clear hK); (repeat clear Kx))))
 all_goals try (exfalso; first | contradiction | omega)
 (refine ⟨trivial, ⟨_, rfl, ?_⟩, _, rfl, ?_⟩ <;> exact fD)
set_option maxHeartbeats 8000000 in
theorem ZJ9 (V : Int) (l : List (List Int)) (hr : IRR l) (he : ZQ V l ≠ 0) : Fn Tryz.prog 16 [dS Cls (V, l)] (dT [dS ZW [], dI (ZQ V l)]) := by
 have h1 := ZBT V l hr
 generalize ZQ V l = q at h1 he ⊢
 (refine ZAM Tryz.func16 rfl rfl ?_; simp only [Tryz.ntmps16, List.length_cons, List.length_nil, Nat.reduceAdd, Nat.reduceSub, List.replicate_succ, List.replicate_zero, List.cons_append, List.nil_append])
 ((repeat' (first | (apply WL.opN; exact yF; dsimp only [ZB, z0, z1]) | refine WL.nil ?_ | refine ZA fun Kx hK => ?_ | (refine hK _ _ ?_; clear hK) | refine WC.region ?_ | (apply WL.opN; (focus ((first | (apply SY.call (h1) Tryz.call42; (exact aD)) | ((first | apply SY.move | apply SY.assign | apply SY.lss | apply SY.geq | apply SY.eql | apply SY.neq) <;> (exact oD)) | (apply SY.box; (exact oD); (exact hD)) | fail); all_goals infer_instance)); dsimp only [ZB, z0, z1]) | (apply ZO; (exact oD); all_goals (intro h; try exact xD)) | refine WC.ret ?_ | refine ThenD.r ?_)); all_goals (first | ((repeat clear hK); (repeat clear Kx))))
 all_goals try (exfalso; first | contradiction | omega)
 (refine ⟨trivial, ⟨_, rfl, ?_⟩, _, rfl, ?_⟩ <;> exact fD)
set_option maxHeartbeats 8000000 in
theorem ZKu (V : Int) (l : List (List Int)) (he : ZQ V l ≠ 0) : Fn Tryz.prog 17 [dS Cls (V, l)] (dT [dS ZW [], dI (ZQ V l)]) := by
 have h1 := ZCx V l
 generalize ZQ V l = q at h1 he ⊢
 (refine ZAM Tryz.func17 rfl rfl ?_; simp only [Tryz.ntmps17, List.length_cons, List.length_nil, Nat.reduceAdd, Nat.reduceSub, List.replicate_succ, List.replicate_zero, List.cons_append, List.nil_append])
 ((repeat' (first | (apply WL.opN; exact yF; dsimp only [ZB, z0, z1]) | refine WL.nil ?_ | refine ZA fun Kx hK => ?_ | (refine hK _ _ ?_; clear hK) | refine WC.region ?_ | (apply WL.opN; (focus ((first | (apply SY.call (h1) Tryz.call29; (exact aD)) | ((first | apply SY.move | apply SY.assign | apply SY.lss | apply SY.geq | apply SY.neq | apply SY.not) <;> (exact oD)) | (apply SY.box; (exact oD); (exact hD)) | fail); all_goals infer_instance)); dsimp only [ZB, z0, z1]) | (apply ZO; (exact oD); all_goals (intro h; try exact xD)) | refine WC.ret ?_ | refine ThenD.r ?_)); all_goals (first | ((repeat clear hK); (repeat clear Kx))))
 all_goals try (exfalso; first | contradiction | omega)
 (refine ⟨trivial, ⟨_, rfl, ?_⟩, _, rfl, ?_⟩ <;> exact fD)
end
section
open Go.RowKit
theorem ZJL {V : Nat} (hV : V ≤ 4096) {l : List (List Int)} (hw : WfL V l) {c : List Int} (hc : WfC V c) : (!(Zu (V + 1) l (c.map fun x => -x)).isSome) = (ZB6 V l []).all fun m => Zx c m := by
 have hL : Lits V (c.map fun x => -x) := ⟨fun x hx => by
   obtain ⟨y, y1, rfl⟩ := List.mem_map.1 hx
   have := hc.rng y y1
   omega, fun x hx q => by
   obtain ⟨y, y1, rfl⟩ := List.mem_map.1 hx
   obtain ⟨z, z1, hz⟩ := List.mem_map.1 q
   have hzy : z = -y := by omega
   have hry := hc.rng y y1
   obtain ⟨i, hi⟩ := List.mem_iff_getElem?.1 y1
   obtain ⟨j, hj⟩ := List.mem_iff_getElem?.1 z1
   obtain ⟨hi1, hi2⟩ := List.getElem?_eq_some_iff.1 hi
   obtain ⟨hj1, hj2⟩ := List.getElem?_eq_some_iff.1 hj
   rcases Nat.lt_trichotomy i j with hij | rfl | hij
   ·have := List.pairwise_iff_getElem.1 hc.inc i j hi1 hj1 hij
    rw [hi2, hj2] at this; omega
   ·rw [hi2] at hj2; omega
   ·have := List.pairwise_iff_getElem.1 hc.inc j i hj1 hi1 hij
    rw [hi2, hj2] at this; omega⟩
 have h := ZDv hV hw hL (n := V + 1) (by
  unfold ZGR
  exact Nat.lt_succ_of_le (Nat.le_trans (List.length_filter_le _ _) (by simp)))
 cases hs : (Zu (V + 1) l (c.map fun x => -x)).isSome with
 | true =>
  obtain ⟨m, hm, hx⟩ := h.1 hs
  symm
  rw [show (!true) = false from rfl, List.all_eq_false]
  refine ⟨m, hm, fun ht => ?_⟩
  obtain ⟨x, x1, x2⟩ := Zn.1 ht
  exact (ZCL hm).1 x x2 (hx (-x) (List.mem_map.2 ⟨x, x1, rfl⟩))
 | false =>
  symm
  rw [show (!false) = true from rfl, List.all_eq_true]
  intro m hm
  by_cases ht : Zx c m = true
  ·exact ht
  ·exfalso
   have := h.2 ⟨m, hm, fun x hx => by
    obtain ⟨y, y1, rfl⟩ := List.mem_map.1 hx
    have hr := hc.rng y y1
    rcases (ZCL hm).2.1 y hr.1 hr.2 with q | q
    ·exact absurd (Zn.2 ⟨y, y1, q⟩) ht
    ·exact q⟩
   rw [hs] at this; cases this
end
end Go.Proofs.YtjmignmnlpamjaaGreat
