/- Part 38: walks by contracts, and plain laws. -/
import Derived.Test.YtmcllakdbgnfiaaGreatDoorVg37
set_option linter.unusedVariables false
set_option linter.unusedSimpArgs false
set_option linter.unusedSectionVars false
set_option maxRecDepth 100000
set_option maxHeartbeats 4000000
namespace Go.Proofs.YtmcllakdbgnfiaaGreatDoor
section
open Go.RowKit
section
variable {P : Program} {ops : Array Oper} {hp : List HObj} {fr : List Dat} {dst : Option Tmp} {ty : TypeId} {ps : String} {af : Array Edge} {g : Option (Nat × Bool)} {x : Operand}
theorem ZCZ {i : Operand} {t e : TypeId} {z : Value} {bytes : Nat} (E : ElT P t e 1 z bytes false) {α : Type} {R : Rel α} {_gR : Good R} {xs : List α} {k : Nat} {v : α} (hk : k < xs.length) (hv : xs[k] = v) (hx : OpD fr x (dS (Arr R) xs)) (hi : OpD fr i (dI (k : Int))) : SY P ops hp { dst := dst, op := .indexAddr t x i, type := ty, pos := ps, after := af, guard := g } fr (dP 1 false (dS R v)) := hv ▸ SY.ix E hx hi hk
end

theorem cat_take {V : List Vx} {C : Cx} {s : List Vx} {k : Nat} (h : k < s.length) : (s.take (k + 1)).foldl (catS V C) [] = catS V C ((s.take k).foldl (catS V C) []) s[k] := by
 rw [ZQ h, List.foldl_append]; rfl
theorem union29_p (F : Cx) (V : List Vx) (C : Cx) (s : List Vx) (hl : C.length = V.length) (hc : ∀ c ∈ C, c.length <= 8) (hs : s.length <= 10) : Fn Tryz.prog 53 [dS SubR (F, V, C), dS ZF s] (dS ZF (unP V C s)) := by
 have hn := fun k => cat_len V C hc (s.take k) []
 (refine ZE Tryz.func53 rfl rfl ?_; simp only [Tryz.ntmps53, List.length_cons, List.length_nil, Nat.reduceAdd, Nat.reduceSub, List.replicate_succ, List.replicate_zero, List.cons_append, List.nil_append])
 (repeat' (first | (apply WL.opN; exact yF; dsimp only [ZB, z0, z1]) | refine WL.nil ?_ | refine ZA fun Kx hK => ?_ | (refine hK _ _ ?_; clear hK) | refine WC.region ?_ | (apply WL.opN; (focus ((first | (exact SY.box (OpD.t rfl) Z9) | (apply SY.len; (exact oD); (exact nD); (exact uD)) | fail); all_goals infer_instance)); dsimp only [ZB, z0, z1]) | refine WC.block ?_))
 refine ZBh 45 2 (by decide) RV ?_
 (refine WC.loopU (X := Nat × Value) (fun x => [(5, dX x.2), (13, dI (x.1 : Int)), (7, dA), (8, dA), (14, dA), (15, dA), (16, dA), (17, dA), (18, dA), (19, dA), (20, dA), (21, dA), (22, dA), (23, dA), (24, dA), (25, dA), (26, dA), (27, dA), (28, dA), (29, dA), (30, dA)]) (fun x => [ZS x.2 45 2 RV ((s.take x.1).foldl (catS V C) [])]) (fun x => s.length - x.1) (fun x => x.1 <= s.length) (0, .slice none 0 0) ?start ?frame0 ?objs0 ?round)
 case start => simp
 case frame0 => ((try dsimp only [ZL, z0, z1]); repeat (first | exact LeF.nil | refine ZD (k := ?_)))
 case objs0 => rfl
 case round =>
  rintro ⟨k, u⟩ h1
  dsimp only [ZL, z0, z1]
  simp only at h1
  have hk8 := hn k
  rw [List.length_take, List.length_nil] at hk8
  by_cases hk : k < s.length
  ·have c1 : Fn Tryz.prog 100 [dS ZF V, dS RV s[k]] (dI (pos29 V s[k])) := idx_p _ _
   by_cases hp : 0 <= pos29 V s[k]
   ·obtain ⟨j, e, hj, _⟩ := pos_spec hp
    have hjC : j < C.length := by omega
    have hc8 := hc _ (List.getElem_mem hjC)
    have es : catS V C ((s.take k).foldl (catS V C) []) s[k] = (s.take k).foldl (catS V C) [] ++ C[j] := by
     unfold catS; rw [if_pos hp, e, Int.toNat_natCast, List.getElem?_eq_getElem hjC, Option.getD_some]
    rw [e] at c1
    ((repeat' (first | (apply WL.opN; exact yF; dsimp only [ZB, z0, z1]) | refine WL.nil ?_ | refine ZA fun Kx hK => ?_ | (refine hK _ _ ?_; clear hK) | refine WC.region ?_ | ((first | apply WL.appK | apply WL.app1); (exact eD); exact OpD.t rfl; (exact oD); decide; (exact lD); (intro _; dsimp only [ZB, z0, z1]); all_goals (try infer_instance)) | (apply WL.alloc; (first | exact tzV | exact tzC); (first | exact ZW rfl | exact Zs | exact Zi rfl); (intro _; dsimp only [ZB, z0, z1])) | (apply WL.storeF; (exact tD); rfl; (exact oD); (exact hD); dsimp only [ZB, z0, z1]) | (apply WL.opN; (focus ((first | (exact ZBU ZBY (OpD.t rfl) ZBz rfl rfl) | (apply SY.call (c1) Tryz.call100; (exact aD)) | (refine ZCZ (R := ZF) (_gR := inferInstance) elSi hjC rfl (OpD.t rfl) (OpD.t rfl)) | ((first | apply SY.move | apply SY.assign | apply SY.lss | apply SY.geq | apply SY.neq) <;> (exact oD)) | ((first | apply SY.add) <;> first | exact oD | omega) | (apply ZA3; (exact eD); (exact oD); (exact oD); exact kD) | fail); all_goals infer_instance)); dsimp only [ZB, z0, z1]) | (apply ZC; (exact oD); all_goals (intro h; try exact xD)) | refine WC.skip ?_ | refine WC.block ?_ | refine ThenD.n ?_)); all_goals (first | ((repeat clear hK); (repeat clear Kx))))
    all_goals try (exfalso; omega)
    (refine ⟨(k + 1, _) , ?_, by first | omega | (simp only; omega), by ((try simp only);  (rw [cat_take hk, es])), ?_⟩; rotate_left; ((try dsimp only [ZL, z0, z1]); repeat (first | exact LeF.nil | refine ZD (k := ?_))); (try dsimp only))
    omega
   ·((repeat' (first | (apply WL.opN; exact yF; dsimp only [ZB, z0, z1]) | refine WL.nil ?_ | refine ZA fun Kx hK => ?_ | (refine hK _ _ ?_; clear hK) | refine WC.region ?_ | (apply WL.alloc; (first | exact tzV | exact tzC); (first | exact ZW rfl | exact Zs | exact Zi rfl); (intro _; dsimp only [ZB, z0, z1])) | (apply WL.storeF; (exact tD); rfl; (exact oD); (exact hD); dsimp only [ZB, z0, z1]) | (apply WL.opN; (focus ((first | (exact ZBU ZBY (OpD.t rfl) ZBz rfl rfl) | (apply SY.call (c1) Tryz.call100; (exact aD)) | ((first | apply SY.move | apply SY.assign | apply SY.lss | apply SY.geq | apply SY.neq) <;> (exact oD)) | ((first | apply SY.add) <;> first | exact oD | omega) | (apply ZA3; (exact eD); (exact oD); (exact oD); exact kD) | fail); all_goals infer_instance)); dsimp only [ZB, z0, z1]) | (apply ZC; (exact oD); all_goals (intro h; try exact xD)) | refine WC.skip ?_ | refine WC.block ?_ | refine ThenD.n ?_)); all_goals (first | ((repeat clear hK); (repeat clear Kx))))
    all_goals try (exfalso; omega)
    (refine ⟨(k + 1, _) , ?_, by first | omega | (simp only; omega), by ((try simp only);  (rw [cat_take hk, show catS V C ((s.take k).foldl (catS V C) []) s[k] = _ from if_neg hp])), ?_⟩; rotate_left; ((try dsimp only [ZL, z0, z1]); repeat (first | exact LeF.nil | refine ZD (k := ?_))); (try dsimp only))
    omega
  ·(repeat' (first | (apply WL.opN; exact yF; dsimp only [ZB, z0, z1]) | refine WL.nil ?_ | refine ZA fun Kx hK => ?_ | (refine hK _ _ ?_; clear hK) | (refine Kont.skip ?_; clear hK) | refine WC.region ?_ | (apply WL.opN; (focus ((first | ((first | apply SY.move | apply SY.assign | apply SY.lss | apply SY.geq | apply SY.neq) <;> (exact oD)) | fail); all_goals infer_instance)); dsimp only [ZB, z0, z1]) | (apply ZC; (exact oD); all_goals (intro h; try exact xD)) | refine WC.exit ?_))
   all_goals try (exfalso; omega)
   rw [List.take_of_length_le (by omega), show s.foldl (catS V C) [] = catP V C s from rfl]
   have hq := hn s.length
   rw [List.take_of_length_le (Nat.le_refl _), List.length_nil, show s.foldl (catS V C) [] = catP V C s from rfl] at hq
   refine WL.keepK (s := 32) rfl ?_
   dsimp only [z0, z1]
   have c2 := of_p (catP V C s) (by omega)
   have c3 : unP V C s = if (ofV (catP V C s)).2 ≠ 0 then [] else (ofV (catP V C s)).1 := rfl
   generalize ofV (catP V C s) = O at *
   ((repeat' (first | (apply WL.opN; exact yF; dsimp only [ZB, z0, z1]) | refine WL.nil ?_ | refine ZA fun Kx hK => ?_ | (refine hK _ _ ?_; clear hK) | refine WC.region ?_ | (apply WL.opN; (focus ((first | (apply SY.call (c2) Tryz.call101; (exact aD)) | ((first | apply SY.move | apply SY.assign | apply SY.lss | apply SY.geq | apply SY.neq) <;> (exact oD)) | (apply SY.extract; (exact oD); rfl) | fail); all_goals infer_instance)); dsimp only [ZB, z0, z1]) | (apply ZH; (exact oD); all_goals (intro h; try exact xD)) | refine WC.skip ?_ | refine WC.ret ?_ | refine ThenD.r ?_)); all_goals (first | ((repeat clear hK); (repeat clear Kx))))
   ·rw [c3, if_pos (by omega)]; (refine ⟨trivial, _, rfl, ?_⟩; exact fD)
   ·rw [c3, if_neg (by omega)]; (refine ⟨trivial, _, rfl, ?_⟩; exact fD)
theorem okP_p (c : Cx) (V : List Vx) (C : Cx) (f : List Vx) : okP c V C f = true ↔ (contC c (unP V C f)).2 = 0 /\ (contC c (unP V C f)).1 = true := by unfold okP; simp
theorem carE_drop {c C : Cx} {k : Nat} (h : k < C.length) : carE c (C.drop k) = if Zn C[k] ≠ 0 then Zn C[k] else if hasC' c C[k] = false then 6 else carE c (C.drop (k + 1)) := by
 rw [List.drop_eq_getElem_cons h]; rfl
theorem contC_good {c : Cx} (h : ZAn c = 0) (s : List Vx) : contC c s = if Zn s ≠ 0 then (false, Zn s) else (hasC' c s, 0) := by
 unfold contC plC
 rw [if_neg (show ¬ ZAn c ≠ 0 by omega)]
theorem chk29_car {p : List Vx -> Bool} {c F : Cx} {V : List Vx} {C : Cx} (h1 : ZAn c = 0) (h2 : ZAn F = 0) (h3 : V = ZB9 F /\ C.length = V.length) {n : Int} (h4 : carE c C = n) (h5 : n ≠ 0) : chk29 p c F V C = n := by
 unfold chk29
 rw [if_neg (by omega), if_neg (by omega), if_neg (not_not_intro h3), if_pos (by omega), h4]
theorem chk29_end {p : List Vx -> Bool} {c F : Cx} {V : List Vx} {C : Cx} (h1 : ZAn c = 0) (h2 : ZAn F = 0) (h3 : V = ZB9 F /\ C.length = V.length) (h4 : carE c C = 0) : chk29 p c F V C = if F.all p = true then 0 else 22 := by
 unfold chk29
 rw [if_neg (by omega), if_neg (by omega), if_neg (not_not_intro h3), if_neg (by omega)]
theorem all_drop {α : Type} {p : α -> Bool} {l : List α} {k : Nat} (h : k < l.length) : (l.drop k).all p = (p l[k] && (l.drop (k + 1)).all p) := by
 rw [List.drop_eq_getElem_cons h]; rfl
theorem chk29_f (c F : Cx) (V : List Vx) (C : Cx) (hF : ZAn F = 0 -> F.flatten.length <= 1000) (hC : C.length <= 100) : Fn Tryz.prog 18 [dS Cpx c, dS SubR (F, V, C)] (dI (chk29 (okP c V C) c F V C)) := by
 (refine ZE Tryz.func18 rfl rfl ?_; simp only [Tryz.ntmps18, List.length_cons, List.length_nil, Nat.reduceAdd, Nat.reduceSub, List.replicate_succ, List.replicate_zero, List.cons_append, List.nil_append])
 have c1 := check_p c
 have c2 := vertices27_f F hF
 by_cases h1 : ZAn c ≠ 0
 ·rw [show chk29 (okP c V C) c F V C = ZAn c from if_pos h1]
  ((repeat' (first | ((first | apply WL.opN | apply WD.opN); exact yF; dsimp only [ZB, z0, z1]) | refine WL.nil ?_ | refine ZA fun Kx hK => ?_ | (refine hK _ _ ?_; clear hK) | refine WC.region ?_ | ((first | apply ZJ | apply WD.op); (focus (first | exact wN | (apply ZG; (exact wY); ((first | (exact SY.box (OpD.t rfl) Z9) | (apply SY.call (c1) Tryz.call42; (exact aD)) | ((first | apply SY.move | apply SY.assign | apply SY.lss | apply SY.neq | apply SY.not) <;> (exact oD)) | (apply SY.box; (exact oD); (exact hD)) | fail); all_goals infer_instance)))); dsimp only [ZB, z0, z1]) | (apply ZH; (exact oD); all_goals (intro h; try exact xD)) | refine WC.ret ?_ | refine ThenD.r ?_)); all_goals (first | ((repeat clear hK); (repeat clear Kx))))
  all_goals try (exfalso; omega)
  (refine ⟨trivial, _, rfl, ?_⟩; exact fD)
 have h1' : ZAn c = 0 := by omega
 by_cases h2 : ZAn F ≠ 0
 ·rw [show chk29 (okP c V C) c F V C = ZAn F by unfold chk29; rw [if_neg h1, if_pos h2]]
  rw [show vrtP F = ([], ZAn F) from if_pos h2] at c2
  ((repeat' (first | ((first | apply WL.opN | apply WD.opN); exact yF; dsimp only [ZB, z0, z1]) | refine WL.nil ?_ | refine ZA fun Kx hK => ?_ | (refine hK _ _ ?_; clear hK) | refine WC.region ?_ | ((first | apply ZJ | apply WD.op); (focus (first | exact wN | (apply ZG; (exact wY); ((first | (exact SY.box (OpD.t rfl) Z9) | (exact ZBU ZBY (OpD.t rfl) ZBz rfl rfl) | (exact ZAz tyC (OpD.t rfl)) | (apply SY.call (c1) Tryz.call42; (exact aD)) | (apply SY.call (c2) Tryz.call51; (exact aD)) | ((first | apply SY.move | apply SY.assign | apply SY.lss | apply SY.neq | apply SY.not) <;> (exact oD)) | (apply SY.extract; (exact oD); rfl) | (apply SY.box; (exact oD); (exact hD)) | fail); all_goals infer_instance)))); dsimp only [ZB, z0, z1]) | (apply ZH; (exact oD); all_goals (intro h; try exact xD)) | refine WC.skip ?_ | refine WC.ret ?_ | refine ThenD.r ?_)); all_goals (first | ((repeat clear hK); (repeat clear Kx))))
  all_goals try (exfalso; omega)
  (refine ⟨trivial, _, rfl, ?_⟩; exact fD)
 have h2' : ZAn F = 0 := by omega
 have hFl : F.length <= 4096 := (Zg.1 h2').1
 rw [show vrtP F = (ZB9 F, 0) from if_neg h2] at c2
 have c3 := eqV_p (ZB9 F) V
 by_cases h3 : V = ZB9 F /\ C.length = V.length
 ·rw [decide_eq_true h3.1.symm] at c3
  have hsh := (Zg.1 h2').short
  have h34 := h3.2
  have h3' := h3
  clear h3
  (repeat' (first | ((first | apply WL.opN | apply WD.opN); exact yF; dsimp only [ZB, z0, z1]) | refine WL.nil ?_ | refine ZA fun Kx hK => ?_ | (refine hK _ _ ?_; clear hK) | refine WC.region ?_ | ((first | apply ZJ | apply WD.op); (focus (first | exact wN | (apply ZG; (exact wY); ((first | (exact SY.box (OpD.t rfl) Z9) | (exact ZBU ZBY (OpD.t rfl) ZBz rfl rfl) | (exact ZAz tyC (OpD.t rfl)) | (exact ZBS (OpD.t rfl)) | (apply SY.call (c1) Tryz.call42; (exact aD)) | (apply SY.call (c2) Tryz.call51; (exact aD)) | (apply SY.call (c3) Tryz.call59; (exact aD)) | ((first | apply SY.move | apply SY.assign | apply SY.lss | apply SY.neq | apply SY.not) <;> (exact oD)) | (apply SY.load; (exact tD); (exact oD)) | (apply SY.len; (exact oD); (exact nD); (exact uD)) | (apply Z6; (exact oD); (with_reducible rfl); (exact oD)) | (apply SY.extract; (exact oD); rfl) | (apply SY.box; (exact oD); (exact hD)) | fail); all_goals infer_instance)))); dsimp only [ZB, z0, z1]) | (apply ZH; (exact oD); all_goals (intro h; try exact xD)) | refine WC.skip ?_ | refine WC.block ?_))
  all_goals try (exfalso; omega)
  (refine WC.loopU (X := Nat) (fun k => [(47, dI (k : Int)), (4, dA), (9, dA), (10, dA), (11, dA), (48, dA), (49, dA), (50, dA), (51, dA), (52, dA), (53, dA), (54, dA), (55, dA), (56, dA), (57, dA), (58, dA), (59, dA), (60, dA), (61, dA), (62, dA)]) (fun k => []) (fun k => C.length - k) (fun k => k <= C.length /\ carE c C = carE c (C.drop k)) 0 ?start ?frame0 ?objs0 ?round)
  case start => exact ⟨Nat.zero_le _, rfl⟩
  case frame0 => ((try dsimp only [ZL, z0, z1]); repeat (first | exact LeF.nil | refine ZD (k := ?_)))
  case objs0 => rfl
  case round =>
   rintro k ⟨k1, k2⟩
   dsimp only [ZL, z0, z1]
   by_cases hk : k < C.length
   ·rw [carE_drop hk] at k2
    have c4 := contains27_p c C[k]
    rw [contC_good h1'] at c4
    by_cases q1 : Zn C[k] ≠ 0
    ·rw [if_pos q1] at k2 c4
     rw [chk29_car h1' h2' h3' k2 q1]
     ((repeat' (first | ((first | apply WL.opN | apply WD.opN); exact yF; dsimp only [ZB, z0, z1]) | refine WL.nil ?_ | refine ZA fun Kx hK => ?_ | (refine hK _ _ ?_; clear hK) | refine WC.region ?_ | ((first | apply ZJ | apply WD.op); (focus (first | exact wN | (apply ZG; (exact wY); ((first | (refine ZCZ (R := ZF) (_gR := inferInstance) elSi hk rfl (OpD.t rfl) (OpD.t rfl)) | (apply SY.call (c4) Tryz.call60; (exact aD)) | ((first | apply SY.move | apply SY.assign | apply SY.lss | apply SY.neq | apply SY.not) <;> (exact oD)) | (apply SY.extract; (exact oD); rfl) | fail); all_goals infer_instance)))); dsimp only [ZB, z0, z1]) | (apply ZC; (exact oD); all_goals (intro h; try exact xD)) | (apply ZH; (exact oD); all_goals (intro h; try exact xD)) | refine WC.skip ?_ | refine WC.ret ?_ | refine WC.block ?_ | refine ThenD.r ?_ | refine InBlockD.r ?_)); all_goals (first | ((repeat clear hK); (repeat clear Kx))))
     all_goals try (exfalso; omega)
     (refine ⟨trivial, _, rfl, ?_⟩; exact fD)
    ·rw [if_neg q1] at k2 c4
     by_cases q2 : hasC' c C[k] = true
     ·rw [if_neg (by rw [q2]; decide)] at k2
      rw [q2] at c4
      ((repeat' (first | ((first | apply WL.opN | apply WD.opN); exact yF; dsimp only [ZB, z0, z1]) | refine WL.nil ?_ | refine ZA fun Kx hK => ?_ | (refine hK _ _ ?_; clear hK) | refine WC.region ?_ | ((first | apply ZJ | apply WD.op); (focus (first | exact wN | (apply ZG; (exact wY); ((first | (refine ZCZ (R := ZF) (_gR := inferInstance) elSi hk rfl (OpD.t rfl) (OpD.t rfl)) | (exact ZBS (OpD.t rfl)) | (apply SY.call (c4) Tryz.call60; (exact aD)) | ((first | apply SY.move | apply SY.assign | apply SY.lss | apply SY.neq | apply SY.not) <;> (exact oD)) | ((first | apply SY.add) <;> first | exact oD | omega) | (apply SY.extract; (exact oD); rfl) | fail); all_goals infer_instance)))); dsimp only [ZB, z0, z1]) | (apply Zr; (exact oD); (with_reducible rfl)) | (apply ZC; (exact oD); all_goals (intro h; try exact xD)) | (apply ZH; (exact oD); all_goals (intro h; try exact xD)) | refine WC.skip ?_ | refine WC.block ?_ | refine ThenD.n ?_)); all_goals (first | ((repeat clear hK); (repeat clear Kx))))
      all_goals try (exfalso; omega)
      (refine ⟨k + 1, ?_, by first | omega | (simp only; omega), rfl, ?_⟩; rotate_left; ((try dsimp only [ZL, z0, z1]); repeat (first | exact LeF.nil | refine ZD (k := ?_))); (try dsimp only))
      exact ⟨by omega, k2⟩
     ·have q3 : hasC' c C[k] = false := by simpa using q2
      rw [if_pos q3] at k2
      rw [q3] at c4
      rw [chk29_car h1' h2' h3' k2 (by decide)]
      ((repeat' (first | ((first | apply WL.opN | apply WD.opN); exact yF; dsimp only [ZB, z0, z1]) | refine WL.nil ?_ | refine ZA fun Kx hK => ?_ | (refine hK _ _ ?_; clear hK) | refine WC.region ?_ | ((first | apply ZJ | apply WD.op); (focus (first | exact wN | (apply ZG; (exact wY); ((first | (refine ZCZ (R := ZF) (_gR := inferInstance) elSi hk rfl (OpD.t rfl) (OpD.t rfl)) | (apply SY.call (c4) Tryz.call60; (exact aD)) | ((first | apply SY.move | apply SY.assign | apply SY.lss | apply SY.neq | apply SY.not) <;> (exact oD)) | (apply SY.extract; (exact oD); rfl) | fail); all_goals infer_instance)))); dsimp only [ZB, z0, z1]) | (apply ZC; (exact oD); all_goals (intro h; try exact xD)) | (apply ZH; (exact oD); all_goals (intro h; try exact xD)) | (apply Zk; (exact oD); all_goals (intro h; try exact xD)) | refine WC.skip ?_ | refine WC.ret ?_ | refine WC.block ?_ | refine ThenD.r ?_ | refine InBlockD.r ?_)); all_goals (first | ((repeat clear hK); (repeat clear Kx))))
      all_goals try (exfalso; omega)
      (refine ⟨trivial, _, rfl, ?_⟩; exact fD)
   ·rw [List.drop_of_length_le (by omega)] at k2
    have hC8 : ∀ s ∈ C, s.length <= 8 := fun s hs => (ZM.1 (carE_zero (show carE c C = 0 from k2) s hs).1).2.1
    have hend := chk29_end (p := okP c V C) h1' h2' h3' k2
    clear k2 c1 c2 c3
    (repeat' (first | ((first | apply WL.opN | apply WD.opN); exact yF; dsimp only [ZB, z0, z1]) | refine WL.nil ?_ | refine ZA fun Kx hK => ?_ | (refine hK _ _ ?_; clear hK) | (refine Kont.skip ?_; clear hK) | refine WC.region ?_ | ((first | apply ZJ | apply WD.op); (focus (first | exact wN | (apply ZG; (exact wY); ((first | (exact ZBU ZBY (OpD.t rfl) ZBz rfl rfl) | (exact SY.fldD strCx (Nat.le_refl 1) (OpD.t rfl)) | ((first | apply SY.move | apply SY.assign | apply SY.lss | apply SY.neq | apply SY.not) <;> (exact oD)) | (apply SY.len; (exact oD); (exact nD); (exact uD)) | fail); all_goals infer_instance)))); dsimp only [ZB, z0, z1]) | (apply ZC; (exact oD); all_goals (intro h; try exact xD)) | refine WC.exit ?_ | refine WC.block ?_))
    all_goals try (exfalso; omega)
    (refine WC.loopU (X := Nat) (fun j => [(67, dI (j : Int)), (4, dA), (13, dA), (14, dA), (15, dA), (68, dA), (69, dA), (70, dA), (71, dA), (72, dA), (73, dA), (74, dA), (75, dA), (76, dA), (77, dA), (78, dA), (79, dA), (80, dA), (81, dA), (82, dA), (83, dA), (84, dA), (85, dA)]) (fun j => []) (fun j => F.length - j) (fun j => j <= F.length /\ F.all (okP c V C) = (F.drop j).all (okP c V C)) 0 ?start ?frame0 ?objs0 ?round)
    case start => exact ⟨Nat.zero_le _, rfl⟩
    case frame0 => ((try dsimp only [ZL, z0, z1]); repeat (first | exact LeF.nil | refine ZD (k := ?_)))
    case objs0 => rfl
    case round =>
     rintro j ⟨j1, j2⟩
     dsimp only [ZL, z0, z1]
     by_cases hj : j < F.length
     ·have c5 := union29_p F V C F[j] h34 hC8 (by have := hsh _ (List.getElem_mem hj); omega)
      have c6 := contains27_p c (unP V C F[j])
      have hok := okP_p c V C F[j]
      rw [all_drop hj] at j2
      generalize contC c (unP V C F[j]) = O at *
      by_cases q : okP c V C F[j] = true
      ·rw [q, Bool.true_and] at j2
       obtain ⟨o1, o2⟩ := hok.1 q
       rw [o1, o2] at c6
       ((repeat' (first | ((first | apply WL.opN | apply WD.opN); exact yF; dsimp only [ZB, z0, z1]) | refine WL.nil ?_ | refine WD.nil ?_ | refine ZA fun Kx hK => ?_ | (refine hK _ _ ?_; clear hK) | refine WC.region ?_ | (apply WC.draw; kernel_rfl; kernel_rfl) | ((first | apply ZJ | apply WD.op); (focus (first | exact wN | (apply ZG; (exact wY); ((first | (refine ZCZ (R := ZF) (_gR := inferInstance) elSi hj rfl (OpD.t rfl) (OpD.t rfl)) | (apply SY.load; exact ZB8; exact OpD.t rfl) | (exact ZBS (OpD.t rfl)) | (apply SY.call (c5) Tryz.call53; (exact aD)) | (apply SY.call (c6) Tryz.call60; (exact aD)) | ((first | apply SY.move | apply SY.assign | apply SY.lss | apply SY.neq | apply SY.not) <;> (exact oD)) | ((first | apply SY.add) <;> first | exact oD | omega) | (apply Z6; (exact oD); (with_reducible rfl); (exact oD)) | (apply SY.extract; (exact oD); rfl) | fail); all_goals infer_instance)))); dsimp only [ZB, z0, z1]) | ((first | refine Zd rfl rfl rfl (fun h => ?_) (fun h => ?_) | refine Zc rfl rfl rfl (fun h => ?_) (fun h => ?_) | refine ZY rfl rfl rfl (fun h => ?_) (fun h => ?_) | refine ZAf rfl rfl rfl (fun h => ?_) (fun h => ?_) | refine ZAh rfl rfl rfl (fun h => ?_) (fun h => ?_) | refine ZAD rfl rfl rfl (fun h => ?_) (fun h => ?_)) <;> (first | (exfalso; first | omega | contradiction) | (dsimp only [z0, z1]))) | (apply Zr; (exact oD); (with_reducible rfl)) | (apply ZC; (exact oD); all_goals (intro h; try exact xD)) | refine WC.skip ?_ | refine WC.block ?_ | refine ThenD.n ?_)); all_goals (first | ((repeat clear hK); (repeat clear Kx))))
       all_goals try (exfalso; omega)
       (refine ⟨j + 1, ?_, by first | omega | (simp only; omega), rfl, ?_⟩; rotate_left; ((try dsimp only [ZL, z0, z1]); repeat (first | exact LeF.nil | refine ZD (k := ?_))); (try dsimp only))
       exact ⟨by omega, j2⟩
      ·have q0 : okP c V C F[j] = false := by simpa using q
       rw [q0, Bool.false_and] at j2
       have hE : chk29 (okP c V C) c F V C = 22 := by rw [hend, if_neg (by rw [j2]; decide)]
       rw [hE]
       have hno := mt hok.2 q
       clear hok
       ((repeat' (first | ((first | apply WL.opN | apply WD.opN); exact yF; dsimp only [ZB, z0, z1]) | refine WL.nil ?_ | refine WD.nil ?_ | refine ZA fun Kx hK => ?_ | (refine hK _ _ ?_; clear hK) | refine WC.region ?_ | (apply WC.draw; kernel_rfl; kernel_rfl) | ((first | apply ZJ | apply WD.op); (focus (first | exact wN | (apply ZG; (exact wY); ((first | (refine ZCZ (R := ZF) (_gR := inferInstance) elSi hj rfl (OpD.t rfl) (OpD.t rfl)) | (apply SY.load; exact ZB8; exact OpD.t rfl) | (apply SY.call (c5) Tryz.call53; (exact aD)) | (apply SY.call (c6) Tryz.call60; (exact aD)) | ((first | apply SY.move | apply SY.assign | apply SY.lss | apply SY.neq | apply SY.not) <;> (exact oD)) | ((first | apply SY.add) <;> first | exact oD | omega) | (apply ZAJ; (exact oD); (with_reducible rfl); (exact oD)) | (apply Z6; (exact oD); (with_reducible rfl); (exact oD)) | (apply SY.extract; (exact oD); rfl) | fail); all_goals infer_instance)))); dsimp only [ZB, z0, z1]) | ((first | refine Zd rfl rfl rfl (fun h => ?_) (fun h => ?_) | refine Zc rfl rfl rfl (fun h => ?_) (fun h => ?_) | refine ZY rfl rfl rfl (fun h => ?_) (fun h => ?_) | refine ZAf rfl rfl rfl (fun h => ?_) (fun h => ?_) | refine ZAh rfl rfl rfl (fun h => ?_) (fun h => ?_) | refine ZAD rfl rfl rfl (fun h => ?_) (fun h => ?_)) <;> (first | (exfalso; first | omega | contradiction) | (dsimp only [z0, z1]))) | (apply ZBG; (exact oD); (with_reducible rfl)) | (apply ZC; (exact oD); all_goals (intro h; try exact xD)) | (apply Zk; (exact oD); all_goals (intro h; try exact xD)) | refine WC.skip ?_ | refine WC.ret ?_ | refine WC.block ?_ | refine ThenD.n ?_ | refine ThenD.r ?_ | refine InBlockD.r ?_)); all_goals (first | ((repeat clear hK); (repeat clear Kx))))
       all_goals first | ((refine ⟨trivial, _, rfl, ?_⟩; exact fD); done) | (exfalso; exact hno ⟨by omega, by simp_all⟩)
     ·rw [List.drop_of_length_le (by omega)] at j2
      have hE : chk29 (okP c V C) c F V C = 0 := by rw [hend, if_pos (by rw [j2]; rfl)]
      ((repeat' (first | ((first | apply WL.opN | apply WD.opN); exact yF; dsimp only [ZB, z0, z1]) | refine WL.nil ?_ | refine ZA fun Kx hK => ?_ | (refine hK _ _ ?_; clear hK) | (refine Kont.skip ?_; clear hK) | refine WC.region ?_ | ((first | apply ZJ | apply WD.op); (focus (first | exact wN | (apply ZG; (exact wY); ((first | ((first | apply SY.move | apply SY.assign | apply SY.lss | apply SY.neq | apply SY.not) <;> (exact oD)) | fail); all_goals infer_instance)))); dsimp only [ZB, z0, z1]) | (apply ZC; (exact oD); all_goals (intro h; try exact xD)) | refine WC.ret ?_ | refine WC.exit ?_)); all_goals (first | ((repeat clear hK); (repeat clear Kx))))
      all_goals try (exfalso; omega)
      (refine ⟨trivial, _, rfl, ?_⟩; refine FinD.i ?_)
      exact hE.symm
 ·rw [show chk29 (okP c V C) c F V C = 15 by unfold chk29; rw [if_neg h1, if_neg h2, if_pos h3]]
  ((repeat' (first | ((first | apply WL.opN | apply WD.opN); exact yF; dsimp only [ZB, z0, z1]) | refine WL.nil ?_ | refine ZA fun Kx hK => ?_ | (refine hK _ _ ?_; clear hK) | refine WC.region ?_ | ((first | apply ZJ | apply WD.op); (focus (first | exact wN | (apply ZG; (exact wY); ((first | (exact SY.box (OpD.t rfl) Z9) | (exact ZBU ZBY (OpD.t rfl) ZBz rfl rfl) | (exact ZAz tyC (OpD.t rfl)) | (apply SY.call (c1) Tryz.call42; (exact aD)) | (apply SY.call (c2) Tryz.call51; (exact aD)) | (apply SY.call (c3) Tryz.call59; (exact aD)) | ((first | apply SY.move | apply SY.assign | apply SY.lss | apply SY.neq | apply SY.not) <;> (exact oD)) | (apply SY.load; (exact tD); (exact oD)) | (apply SY.len; (exact oD); (exact nD); (exact uD)) | (apply ZAJ; (exact oD); (with_reducible rfl); (exact oD)) | (apply Z6; (exact oD); (with_reducible rfl); (exact oD)) | (apply SY.extract; (exact oD); rfl) | (apply SY.box; (exact oD); (exact hD)) | fail); all_goals infer_instance)))); dsimp only [ZB, z0, z1]) | ((first | refine Zd rfl rfl rfl (fun h => ?_) (fun h => ?_) | refine Zc rfl rfl rfl (fun h => ?_) (fun h => ?_) | refine ZY rfl rfl rfl (fun h => ?_) (fun h => ?_) | refine ZAf rfl rfl rfl (fun h => ?_) (fun h => ?_) | refine ZAh rfl rfl rfl (fun h => ?_) (fun h => ?_) | refine ZAD rfl rfl rfl (fun h => ?_) (fun h => ?_)) <;> (first | (exfalso; first | omega | contradiction) | (dsimp only [z0, z1]))) | (apply ZBG; (exact oD); (with_reducible rfl)) | (apply ZH; (exact oD); all_goals (intro h; try exact xD)) | refine WC.skip ?_ | refine WC.ret ?_ | refine WC.block ?_ | refine ThenD.r ?_)); all_goals (first | refine WC.id ?_ | ((repeat clear hK); (repeat clear Kx))))
  all_goals first | ((refine ⟨trivial, _, rfl, ?_⟩; exact fD); done) | (exfalso; exact h3 ⟨Eq.symm (by assumption), by omega⟩)
theorem chk29_p (c F : Cx) (V : List Vx) (C : Cx) (hF : F.length <= 100) (hC : C.length <= 100) : Fn Tryz.prog 18 [dS Cpx c, dS SubR (F, V, C)] (dI (chk29 (okP c V C) c F V C)) := chk29_f c F V C (fun h0 => by have := flat_len (Zg.1 h0).short; omega) hC
end
section
open Go.RowKit

theorem same29_c (F : Cx) (V : List Vx) (C : Cx) : Fn Tryz.prog 11 [dS SubR (F, V, C), dS SubR (F, V, C)] (dB true) := by
 have c1 : Fn Tryz.prog 17 [dS Cpx F, dS Cpx F] (dB true) := by
  have := sameC_c F F
  rwa [decide_eq_true rfl] at this
 have c2 : Fn Tryz.prog 32 [dS ZF V, dS ZF V] (dB true) := by
  have := same_c V V
  rwa [decide_eq_true (cmpL_eq.2 rfl)] at this
 have c3 : Fn Tryz.prog 33 [dS Zq C, dS Zq C] (dB true) := by
  have := sameAll_c C C
  rwa [decide_eq_true rfl] at this
 (refine ZE Tryz.func11 rfl rfl ?_; simp only [Tryz.ntmps11, List.length_cons, List.length_nil, Nat.reduceAdd, Nat.reduceSub, List.replicate_succ, List.replicate_zero, List.cons_append, List.nil_append])
 ((repeat' (first | (apply WL.opN; exact yF; dsimp only [ZB, z0, z1]) | refine WL.nil ?_ | refine ZA fun Kx hK => ?_ | (refine hK _ _ ?_; clear hK) | refine WC.region ?_ | (apply ZJ; (focus (first | exact wN | (apply ZG; (exact wY); ((first | (exact SY.box (OpD.t rfl) Z9) | (exact ZBU ZBY (OpD.t rfl) ZBz rfl rfl) | (exact ZAz tyC (OpD.t rfl)) | (apply SY.call (c1) Tryz.call17; (exact aD)) | (apply SY.call (c2) Tryz.call32; (exact aD)) | (apply SY.call (c3) Tryz.call33; (exact aD)) | (apply SY.load; (exact tD); (exact oD)) | (apply ZAJ; (exact oD); (with_reducible rfl); (exact oD)) | fail); all_goals infer_instance)))); dsimp only [ZB, z0, z1]) | refine WC.ret ?_)); all_goals (first | ((repeat clear hK); (repeat clear Kx))))
 all_goals (refine ⟨trivial, _, rfl, ?_⟩; exact fD)
end
section
open Go.RowKit
section
variable {P : Program} {ops : Array Oper} {hp : List HObj} {fr : List Dat} {o : Oper}
theorem SW.perm {hp' : List HObj} {β : Type} {H : β -> List HObj} {D : β -> Dat} (hp1 : hp.Perm hp') (h : SW P ops hp' H D o fr) : SW P ops hp H D o fr := ⟨h.guard, fun {P0 B w0 w a} hh ho K Q hk => by
 obtain ⟨hh', hI⟩ := hh.perm hp1
 exact h.out hh' ⟨ho.1, fun t ht d hd => d.weak (ho.2 t ht d hd) fun k => (hI k).1⟩ K Q fun x v w' hx hrd hd => hk x v w' hx (fun d u hu => hrd d u (d.weak hu fun k => (hI k).1)) hd⟩
end

end
section
open Go.RowKit
section
variable {P : Program} {Q : Z1} {fr : List Dat} {hp : List HObj}
theorem WC.weakS {c : Code} {b : Nat} {T : TypeId} {ds ds' : List Dat} (hl : ds.length = ds'.length) (hle : ∀ (k : Nat) (d d' : Dat), ds[k]? = some d -> ds'[k]? = some d' -> d.le d') (h : WC P Q c fr (Zm b T ds' :: hp)) : WC P Q c fr (Zm b T ds :: hp) := WC.of fun P0 B w0 w a hh hf => by
 have hgr : w.grownBy w (Zm b T ds).blk := ⟨rfl, rfl, rfl, Nat.le_refl _, fun _ _ _ => rfl⟩
 obtain ⟨cs, c1, c2, c3, c4⟩ := hh.ok (Zm b T ds) (by simp)
 have hok : (Zm b T ds').ok (fun j => Imm P0 B (Zm b T ds :: hp) j /\ j < w.heap.size) w := ⟨cs, c1, by omega, c3, fun j c e hc he => by
  have hj : j < ds.length := by have := (List.getElem?_eq_some_iff.1 he).1; omega
  exact e.bound (hle j ds[j] e (List.getElem?_eq_getElem hj) he _ _ _ (c4 j c ds[j] hc (List.getElem?_eq_getElem hj)))⟩
 exact h.on (hh.write hgr (.inl rfl) hok) (hf.mono fun d u hd => ZI (o := Zm b T ds) (o' := Zm b T ds') hgr (.inl rfl) hd)
end

end
end Go.Proofs.YtmcllakdbgnfiaaGreatDoor
