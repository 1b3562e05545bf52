/- Part 40: walks by contracts, and plain laws. -/
import Derived.Test.YtjmignmnlpamjaaGreatVa39
set_option linter.unusedVariables false
set_option linter.unusedSimpArgs false
set_option linter.unusedSectionVars false
set_option maxRecDepth 100000
set_option maxHeartbeats 4000000
namespace Go.Proofs.YtjmignmnlpamjaaGreat
section
open Go.RowKit
theorem ZGk (a b : List Int) : Fn Tryz.prog 18 [dS ZW a, dS ZW b] (dB (decide (a = b))) := by
 (refine Zb Tryz.func18 rfl rfl ?_; simp only [Tryz.ntmps18, List.length_cons, List.length_nil, Nat.reduceAdd, Nat.reduceSub, List.replicate_succ, List.replicate_zero, List.cons_append, List.nil_append])
 by_cases hl : a.length = b.length
 ·have hlI : ¬ (a.length : Int) ≠ (b.length : Int) := by omega
  (repeat' (first | ((first | apply WL.opN | apply WD.opN); exact yF; dsimp only [ZB, z0, z1]) | refine WL.nil ?_ | refine ZA fun Kx hK => ?_ | (refine hK _ _ ?_; clear hK) | refine WC.region ?_ | ((first | apply WL.opN | apply WD.opN); (focus ((first | ((first | apply SY.move | apply SY.assign | apply SY.lss | apply SY.neq) <;> (exact oD)) | (apply SY.len; (exact oD); (exact nD); (exact uD)) | fail); all_goals infer_instance)); dsimp only [ZB, z0, z1]) | (apply ZO; (exact oD); all_goals (intro h; try exact xD)) | refine WC.skip ?_ | refine WC.block ?_))
  all_goals try (exfalso; first | contradiction | omega)
  (first | refine ZCb (t := 0) rfl le_K fun hl0 => ?_ | refine ZCb (t := 0) rfl le_A fun hl0 => ?_); simp only [maxLen] at hl0
  (refine ZP (X := Nat) (fun k => [(13, dI (k : Int)), (4, dA), (5, dA), (14, dA), (15, dA), (16, dA), (17, dA), (18, dA), (19, dA), (20, dA), (21, dA), (22, dA), (23, dA), (24, dA), (25, dA)]) (fun k => []) (fun k => a.length - k) (fun k => k ≤ a.length /\ ∀ j (hj : j < k) (h1 : j < a.length) (h2 : j < b.length), a[j] = b[j]) 0 ?start ?frame0 ?objs0 ?round)
  case start => exact ⟨Nat.zero_le _, fun j hj => absurd hj (Nat.not_lt_zero j)⟩
  case frame0 => ((try dsimp only [ZX, z0, z1]); repeat (first | exact LeF.nil | refine ZG (k := ?_)))
  case objs0 => rfl
  case round =>
   rintro k ⟨h1, h2⟩
   dsimp only [ZX, z0, z1]
   by_cases hk : k < a.length
   ·have hlt : (k : Int) < (a.length : Int) := by omega
    have hkb : k < b.length := by omega
    by_cases he : a[k] = b[k]
    ·have heI : ¬ a[k] ≠ b[k] := fun h => h he
     ((repeat' (first | ((first | apply WL.opN | apply WD.opN); exact yF; dsimp only [ZB, z0, z1]) | refine WL.nil ?_ | refine WD.nil ?_ | refine ZA fun Kx hK => ?_ | (refine hK _ _ ?_; clear hK) | refine WC.region ?_ | (apply WC.draw; kernel_rfl; kernel_rfl) | ((first | apply WL.opN | apply WD.opN); (focus ((first | (refine ZAy (R := RI) (_gR := inferInstance) (k := k) elI (OpD.t rfl) (OpD.t rfl) (by omega)) | ((first | apply SY.move | apply SY.assign | apply SY.lss | apply SY.neq) <;> (exact oD)) | ((first | apply SY.add) <;> first | exact oD | omega) | fail); all_goals infer_instance)); dsimp only [ZB, z0, z1]) | (apply ZC; (exact oD); all_goals (intro h; try exact xD)) | (apply ZO; (exact oD); all_goals (intro h; try exact xD)) | refine WC.skip ?_ | refine WC.block ?_ | refine ThenD.n ?_)); all_goals (first | ((repeat clear hK); (repeat clear Kx))))
     all_goals try (exfalso; first | contradiction | omega)
     (refine ⟨k + 1, ?_, by first | omega | (simp only; omega), rfl, ?_⟩; rotate_left; ((try dsimp only [ZX, z0, z1]); repeat (first | exact LeF.nil | refine ZG (k := ?_))); (try dsimp only))
     refine ⟨by omega, fun j hj h3 h4 => ?_⟩
     rcases (by omega : j < k \/ j = k) with h5 | rfl
     ·exact h2 j h5 h3 h4
     ·exact he
    ·((repeat' (first | ((first | apply WL.opN | apply WD.opN); exact yF; dsimp only [ZB, z0, z1]) | refine WL.nil ?_ | refine WD.nil ?_ | refine ZA fun Kx hK => ?_ | (refine hK _ _ ?_; clear hK) | refine WC.region ?_ | (apply WC.draw; kernel_rfl; kernel_rfl) | ((first | apply WL.opN | apply WD.opN); (focus ((first | (refine ZAy (R := RI) (_gR := inferInstance) (k := k) elI (OpD.t rfl) (OpD.t rfl) (by omega)) | ((first | apply SY.move | apply SY.assign | apply SY.lss | apply SY.neq) <;> (exact oD)) | fail); all_goals infer_instance)); dsimp only [ZB, z0, z1]) | (apply ZC; (exact oD); all_goals (intro h; try exact xD)) | (apply ZO; (exact oD); all_goals (intro h; try exact xD)) | refine WC.skip ?_ | refine WC.ret ?_ | refine WC.block ?_ | refine ThenD.r ?_ | refine InBlockD.r ?_)); all_goals (first | ((repeat clear hK); (repeat clear Kx))))
     all_goals try (exfalso; first | contradiction | omega)
     (refine ⟨trivial, _, rfl, ?_⟩; refine FinD.b ?_)
     symm; rw [decide_eq_false_iff_not]; intro e; subst e; exact he rfl
   ·have hlt : ¬ (k : Int) < (a.length : Int) := by omega
    ((repeat' (first | ((first | apply WL.opN | apply WD.opN); exact yF; dsimp only [ZB, z0, z1]) | refine WL.nil ?_ | refine ZA fun Kx hK => ?_ | (refine hK _ _ ?_; clear hK) | (refine Kont.skip ?_; clear hK) | refine WC.region ?_ | ((first | apply WL.opN | apply WD.opN); (focus ((first | ((first | apply SY.move | apply SY.assign | apply SY.lss | apply SY.neq) <;> (exact oD)) | fail); all_goals infer_instance)); dsimp only [ZB, z0, z1]) | (apply ZC; (exact oD); all_goals (intro h; try exact xD)) | refine WC.ret ?_ | refine WC.exit ?_)); all_goals (first | ((repeat clear hK); (repeat clear Kx))))
    all_goals try (exfalso; first | contradiction | omega)
    (refine ⟨trivial, _, rfl, ?_⟩; refine FinD.b ?_)
    symm; rw [decide_eq_true_eq]; exact List.ext_getElem hl fun j h3 h4 => h2 j (by omega) h3 h4
 ·have hlI : (a.length : Int) ≠ (b.length : Int) := by omega
  ((repeat' (first | ((first | apply WL.opN | apply WD.opN); exact yF; dsimp only [ZB, z0, z1]) | refine WL.nil ?_ | refine ZA fun Kx hK => ?_ | (refine hK _ _ ?_; clear hK) | refine WC.region ?_ | ((first | apply WL.opN | apply WD.opN); (focus ((first | ((first | apply SY.move | apply SY.assign | apply SY.lss | apply SY.neq) <;> (exact oD)) | (apply SY.len; (exact oD); (exact nD); (exact uD)) | fail); all_goals infer_instance)); dsimp only [ZB, z0, z1]) | (apply ZO; (exact oD); all_goals (intro h; try exact xD)) | refine WC.ret ?_ | refine ThenD.r ?_)); all_goals (first | ((repeat clear hK); (repeat clear Kx))))
  all_goals try (exfalso; first | contradiction | omega)
  (refine ⟨trivial, _, rfl, ?_⟩; refine FinD.b ?_)
  symm; rw [decide_eq_false_iff_not]; intro e; subst e; exact hl rfl
end
section
open Go.RowKit
abbrev exL : List (List Int) := [[1, 2], [-1, 3], [-2, 3]]
abbrev exM : List (List Int) := [[1, 2, 3], [1, -2, 3], [-1, 2, 3]]
abbrev exB : List (List Int) := [[1, 2], [-1, 3], [-2, 3], [-3]]
abbrev exC : List (List Int) := [[1], [1, 2], [-1, 3], [-2, 3], [-3]]
theorem ZFT : ZB6 3 exL [] = exM := by decide +kernel
theorem ex_b {v : Int} {m : List Int} {p : List (List Int)} (h : SolveR 3 exB v m p) : v = 2 /\ (p.length : Int) ≠ 0 := by
 rcases h.is with ⟨_, _, h2⟩ | ⟨h1, _, h2, _, _, _⟩
 ·have e : ZB6 3 exB [] = [] := by decide +kernel
  rw [e] at h2; cases h2
 ·refine ⟨h1, fun q => h2 (List.length_eq_zero_iff.1 (by omega))⟩
theorem ex_u {v : Int} {m c : List Int} (h : ZEY 3 exL [-3] v m c) : v = 2 /\ c = [-3] := by
 unfold ZEY at h
 rw [ZFT] at h
 rcases h with ⟨_, _, h2, h3⟩ | ⟨h1, _, h2, h3⟩
 ·have h4 := h3 (-3) (by simp)
  clear h3
  exfalso
  simp only [List.mem_cons, List.not_mem_nil, or_false] at h2
  rcases h2 with rfl | rfl | rfl <;> revert h4 <;> decide
 ·refine ⟨h1, ?_⟩
  match c, h2, h3 with
  | [], _, h3 => exact absurd (fun x hx => by cases hx) (h3 [1, 2, 3] (by simp))
  | [x], h2, _ => exact h2.eq_of_length rfl
  | _ :: _ :: _, h2, _ => have := h2.length_le; simp at this
theorem ex_v {v : Int} {m c : List Int} (h : ZEY 3 exL [-1] v m c) : v = 1 /\ m = [-1, 2, 3] := by
 unfold ZEY at h
 rw [ZFT] at h
 rcases h with ⟨h1, _, h2, h3⟩ | ⟨_, _, h2, h3⟩
 ·have h4 := h3 (-1) (by simp)
  refine ⟨h1, ?_⟩
  clear h3
  simp only [List.mem_cons, List.not_mem_nil, or_false] at h2
  rcases h2 with rfl | rfl | rfl
  ·revert h4; decide
  ·revert h4; decide
  ·rfl
 ·refine absurd (fun x hx => ?_) (h3 [-1, 2, 3] (by simp))
  have := h2.subset hx
  rw [List.mem_singleton.1 this]; decide
theorem ZGl (t : List (List Int)) (ht : t.length ≤ 10) : Fn Tryz.prog 30 [dS Rows t] (dS Cls (3, exL ++ t)) := by
 refine ZIh tyV Tryz.func30 rfl rfl ?_
 -- @kinds law43.example
 simp only [Tryz.ntmps30, List.length_cons, List.length_nil, Nat.reduceAdd, Nat.reduceSub, List.replicate_succ, List.replicate_zero, List.cons_append, List.nil_append]
 ((repeat' (first | (apply WL.opN; exact yF; dsimp only [ZB, z0, z1]) | refine WL.nil ?_ | refine ZA fun Kx hK => ?_ | (refine hK _ _ ?_; clear hK) | refine WC.region ?_ |  (refine WL.alloc (dst := some 2) (T := 24) tzV ZBW fun b2 => ?_; dsimp only [ZB, z0, z1]) |  (refine ZAN tyV rfl (OpD.t rfl) (ZCM (by decide) rfl) ?_; dsimp only [ZB, z0, z1]) | (apply WL.opN; (focus ((first | (refine SY.full1 ZB7 (R := ZW) (_gR := inferInstance) (as1 := exL) (Zt (OpD.t rfl) (Zt (OpD.t rfl) (Zt (OpD.t rfl) Zy))) rfl rfl (fun _ => ZAA) (by simp)) | (exact ZJh ZB7 (R := ZW) (_gR := inferInstance) (OpD.t rfl) (OpD.t rfl) (by decide) (by simp; omega)) | (exact ZJl is_A Zl (OpD.t rfl)) | (apply SY.build1'; (exact eD); ((try simp only [List.map_cons, List.map_nil]); (repeat (first | exact Zy | (apply Zt; (first | exact OpD.t rfl | exact Zl | exact OpD.b | exact OpD.tle rfl (by first | exact ZD | exact ZE (by decide)) | exact ⟨ZD⟩ | exact ⟨ZE (by decide)⟩))))); rfl; rfl; (intro _; first | exact ZAY | exact Zf | exact ZAA | exact ZAJ); (exact (by simp))) | fail); all_goals infer_instance)); dsimp only [ZB, z0, z1]) | refine WC.ret ?_)); all_goals (first | ((repeat clear hK); (repeat clear Kx))))
 all_goals try (exfalso; first | contradiction | omega)
 exact ⟨trivial, _, rfl, FinD.le (ZD4 (Dat.le_refl _) (Dat.le_refl _))⟩
set_option maxHeartbeats 16000000 in
theorem ZHV : Fn Tryz.prog 7 [] (dB true) := by
 have hx1 : Fn Tryz.prog 30 [dS Rows []] (dS Cls (3, exL)) := ZGl [] (by decide)
 have hx2 : Fn Tryz.prog 30 [dS Rows [[-3]]] (dS Cls (3, exB)) := ZGl [[-3]] (by decide)
 have ckL : ZQ ((3 : Nat) : Int) exL = 0 := by decide +kernel
 have ckB : ZQ ((3 : Nat) : Int) exB = 0 := by decide +kernel
 have ckC : ZQ ((3 : Nat) : Int) exC = 0 := by decide +kernel
 have hM : Fn Tryz.prog 22 [dS Cls (3, exL), dI 3] (dT [dS Rows exM, dI 0]) := by
  have h := ZI6 3 exL 3 (by decide) (by decide) ckL
  rw [ZFT] at h; exact h
 have hN : Fn Tryz.prog 31 [dS Cls (3, exL)] (dT [dI 3, dI 0]) := by
  have h := ZKB 3 exL (by decide) ckL
  rw [ZFT] at h; exact h
 have wf3 : WfC 3 [3] := (ZAX (V := 3) (by decide)).1 (by decide +kernel)
 have wf1 : WfC 3 [1] := (ZAX (V := 3) (by decide)).1 (by decide +kernel)
 have hI3 : Fn Tryz.prog 14 [dS Cls (3, exL), dS ZW [3]] (dT [dB true, dI 0]) := by
  have h := ZEq 3 exL [3] (by decide) ckL wf3
  rw [show ZI0 3 exL [3] = true by unfold ZI0; rw [ZFT]; decide +kernel] at h; exact h
 have hI1 : Fn Tryz.prog 14 [dS Cls (3, exL), dS ZW [1]] (dT [dB false, dI 0]) := by
  have h := ZEq 3 exL [1] (by decide) ckL wf1
  rw [show ZI0 3 exL [1] = false by unfold ZI0; rw [ZFT]; decide +kernel] at h; exact h
 have hSA : Fn Tryz.prog 25 [dS Rows exM, dS Rows exM] (dB true) := by
  have h := ZHr exM exM
  rw [show ZA5 exM exM = true by decide +kernel] at h; exact h
 have hS : CallC Tryz.prog 32 ([dS Cls (3, exB)] ++ ([] : List Value).map dX) [] (fun d hp2 => hp2 = [] /\ ∃ e2 e3 e4 e5, d = dT [e2, e3, e4, e5] /\ ∃ v m p, e2 = dI v /\ e3 = dS ZW m /\ e4 = dS Rows p /\ e5 = dI 0 /\ SolveR 3 exB v m p) := ZNn 3 exB (by decide) ckB
 have hC1 : Fn Tryz.prog 16 [dS Cls (3, exB)] (dT [dS ZW [0, 1, 2, 3], dI 0]) := by
  have h := ZHY 3 exB (by decide) ckB
  rw [show ZB8 3 exB = true by decide +kernel, show ZCW 3 exB = [0, 1, 2, 3] by decide +kernel] at h; exact h
 have hC2 : Fn Tryz.prog 16 [dS Cls (3, exC)] (dT [dS ZW [0, 2, 4], dI 0]) := by
  have h := ZHY 3 exC (by decide) ckC
  rw [show ZB8 3 exC = true by decide +kernel, show ZCW 3 exC = [0, 2, 4] by decide +kernel] at h; exact h
 have an3 : Asn 3 [-3] := (Asn.nil 3).snoc (x := -3) (by omega) (by simp) (by simp)
 have an1 : Asn 3 [-1] := (Asn.nil 3).snoc (x := -1) (by omega) (by simp) (by simp)
 have hU3 := ZHw 3 exL [-3] (by decide) ckL an3
 have hU1 := ZHw 3 exL [-1] (by decide) ckL an1
 rw [show ((3 : Nat) : Int) = 3 from rfl] at hU3 hU1
 have hE (x y : List Int) (h : x = y) : Fn Tryz.prog 18 [dS ZW x, dS ZW y] (dB true) := by
  have := ZGk x y
  rw [decide_eq_true h] at this; exact this
 have hE1 := hE [0, 1, 2, 3] [0, 1, 2, 3] rfl
 have hE2 := hE [0, 2, 4] [0, 2, 4] rfl
 have hE3 := hE [-3] [-3] rfl
 have hE4 := hE [-1, 2, 3] [-1, 2, 3] rfl
 clear ckL ckB ckC an3 an1 wf1 wf3 hE
 (refine Zb Tryz.func7 rfl rfl ?_; simp only [Tryz.ntmps7, List.length_cons, List.length_nil, Nat.reduceAdd, Nat.reduceSub, List.replicate_succ, List.replicate_zero, List.cons_append, List.nil_append])
 (repeat' (first |  (refine WC.only 8 (Halt.go ?_)) | (apply WL.opN; exact yF; dsimp only [ZB, z0, z1]) | refine WL.nil ?_ | refine ZA fun Kx hK => ?_ | (refine hK _ _ ?_; clear hK) | refine WC.region ?_ |  (refine WL.alloc (dst := some 1) (T := 24) tzV ZBW fun b1 => ?_; dsimp only [ZB, z0, z1]) |  (refine ZAN tyV rfl (OpD.t rfl) ZBo ?_; dsimp only [ZB, z0, z1]) | (apply ZJ; (focus (first | exact wN | (apply SYG.yes; (exact wY); ((first | (apply SY.call hx1 Tryz.call30; exact ArgsD.cons ⟨ZD⟩ ArgsD.nil) | (apply SY.call (hM) Tryz.call22; (exact aD)) | (apply SY.call (hN) Tryz.call31; (exact aD)) | (apply SY.call hI3 Tryz.call14; exact ArgsD.cons (OpD.t rfl) (ArgsD.cons (OpD.t rfl) ArgsD.nil)) | (apply SY.call hI1 Tryz.call14; exact ArgsD.cons (OpD.t rfl) (ArgsD.cons (OpD.t rfl) ArgsD.nil)) | (apply SY.call (hSA) Tryz.call25; (exact aD)) | ((first | apply SY.move | apply SY.assign | apply SY.eql | apply SY.neq | apply SY.not) <;> (exact oD)) | ((first | apply SY.add) <;> first | exact oD | omega) | (apply SY.build1'; (exact eD); ((try simp only [List.map_cons, List.map_nil]); (repeat (first | exact Zy | (apply Zt; (first | exact OpD.t rfl | exact Zl | exact OpD.b | exact OpD.tle rfl (by first | exact ZD | exact ZE (by decide)) | exact ⟨ZD⟩ | exact ⟨ZE (by decide)⟩))))); rfl; rfl; (intro _; first | exact ZAY | exact Zf | exact ZAA | exact ZAJ); (exact (by simp))) | (apply Zp; (exact oD); (with_reducible rfl); (exact oD)) | (apply SY.extract; (exact oD); rfl) | fail); all_goals infer_instance)))); dsimp only [ZB, z0, z1]) | ((first | refine ZZ rfl rfl rfl (fun h => ?_) (fun h => ?_) | refine ZY rfl rfl rfl (fun h => ?_) (fun h => ?_) | refine ZV rfl rfl rfl (fun h => ?_) (fun h => ?_)) <;> (first | (exfalso; first | omega | contradiction) | (dsimp only [z0, z1]))) | (apply ZL; (exact oD); all_goals (intro h; try exact xD)) | refine WC.skip ?_))
 all_goals try (exfalso; first | contradiction | omega)
 refine ⟨?_⟩
 (repeat' (first |  (refine WC.only 10 (Halt.go ?_)) | (apply WL.opN; exact yF; dsimp only [ZB, z0, z1]) | refine WL.nil ?_ | refine ZA fun Kx hK => ?_ | (refine hK _ _ ?_; clear hK) | refine WC.region ?_ |  (refine WL.alloc (dst := some 10) (T := 24) tzV ZBW fun b1 => ?_; dsimp only [ZB, z0, z1]) |  (refine ZAN tyV rfl (OpD.t rfl) ZBo ?_; dsimp only [ZB, z0, z1]) |  (refine WL.callC (hp1 := []) (caps := []) hS Tryz.call32 OpD.f (ArgsD.cons (OpD.t rfl) ArgsD.nil) ?_; rintro d' hp2 ⟨rfl, e2, e3, e4, e5, rfl, v, m, p, rfl, rfl, rfl, rfl, hR1⟩; dsimp only [ZB, z0, z1, List.nil_append]) | (apply ZJ; (focus (first | exact wN | (apply SYG.yes; (exact wY); ((first | (apply SY.call (hx2) Tryz.call30; (exact aD)) | (apply SY.build1'; (exact eD); ((try simp only [List.map_cons, List.map_nil]); (repeat (first | exact Zy | (apply Zt; (first | exact OpD.t rfl | exact Zl | exact OpD.b | exact OpD.tle rfl (by first | exact ZD | exact ZE (by decide)) | exact ⟨ZD⟩ | exact ⟨ZE (by decide)⟩))))); rfl; rfl; (intro _; first | exact ZAY | exact Zf | exact ZAA | exact ZAJ); (exact (by simp))) | (apply SY.extract; (exact oD); rfl) | fail); all_goals infer_instance)))); dsimp only [ZB, z0, z1])))
 all_goals try (exfalso; first | contradiction | omega)
 refine ⟨?_⟩
 obtain ⟨rfl, hp0⟩ := ex_b hR1
 clear hR1
 (repeat' (first |  (refine WC.only 11 (Halt.go ?_)) | (apply WL.opN; exact yF; dsimp only [ZB, z0, z1]) | refine WL.nil ?_ | refine ZA fun Kx hK => ?_ | (refine hK _ _ ?_; clear hK) | refine WC.region ?_ | (apply ZJ; (focus (first | exact wN | (apply SYG.yes; (exact wY); ((first | (apply SY.call (hC1) Tryz.call16; (exact aD)) | (apply SY.extract; (exact oD); rfl) | fail); all_goals infer_instance)))); dsimp only [ZB, z0, z1])))
 all_goals try (exfalso; first | contradiction | omega)
 refine ⟨?_⟩
 (repeat' (first |  (refine WC.only 14 (Halt.go ?_)) | (apply WL.opN; exact yF; dsimp only [ZB, z0, z1]) | refine WL.nil ?_ | refine ZA fun Kx hK => ?_ | (refine hK _ _ ?_; clear hK) | refine WC.region ?_ | (apply ZJ; (focus (first | exact wN | (apply SYG.yes; (exact wY); ((first | (refine SY.full1 ZB7 (R := ZW) (_gR := inferInstance) (as1 := [[1]]) (Zt (OpD.t rfl) Zy) rfl rfl (fun _ => ZAA) (by simp)) | (exact ZJh ZB7 (R := ZW) (_gR := inferInstance) (OpD.t rfl) (OpD.t rfl) (by decide) (by simp)) | (exact ZJl is_A Zl (OpD.t rfl)) | (apply SY.call hC2 Tryz.call16; exact ArgsD.cons (OpD.tle rfl (ZD4 (Dat.le_refl _) (Dat.le_refl _))) ArgsD.nil) | (apply SY.call hE1 Tryz.call18; exact ArgsD.cons (OpD.t rfl) (ArgsD.cons (OpD.t rfl) ArgsD.nil)) | (apply SY.call hE2 Tryz.call18; exact ArgsD.cons (OpD.t rfl) (ArgsD.cons (OpD.t rfl) ArgsD.nil)) | ((first | apply SY.move | apply SY.assign | apply SY.eql | apply SY.neq | apply SY.not) <;> (exact oD)) | ((first | apply SY.add) <;> first | exact oD | omega) | (apply SY.len; (exact oD); (exact nD); (exact uD)) | (apply ZT clT; exact OpD.t rfl) | (apply ZU clT; exact OpD.t rfl) | (apply SY.build1'; (exact eD); ((try simp only [List.map_cons, List.map_nil]); (repeat (first | exact Zy | (apply Zt; (first | exact OpD.t rfl | exact Zl | exact OpD.b | exact OpD.tle rfl (by first | exact ZD | exact ZE (by decide)) | exact ⟨ZD⟩ | exact ⟨ZE (by decide)⟩))))); rfl; rfl; (intro _; first | exact ZAY | exact Zf | exact ZAA | exact ZAJ); (exact (by simp))) | (apply Zp; (exact oD); (with_reducible rfl); (exact oD)) | (apply SY.extract; (exact oD); rfl) | fail); all_goals infer_instance)))); dsimp only [ZB, z0, z1]) | ((first | refine ZZ rfl rfl rfl (fun h => ?_) (fun h => ?_) | refine ZY rfl rfl rfl (fun h => ?_) (fun h => ?_) | refine ZV rfl rfl rfl (fun h => ?_) (fun h => ?_)) <;> (first | (exfalso; first | omega | contradiction) | (dsimp only [z0, z1]))) | (apply ZL; (exact oD); all_goals (intro h; try exact xD)) | refine WC.skip ?_))
 all_goals try (exfalso; first | contradiction | omega)
 refine ⟨?_⟩
 (repeat' (first |  (refine WC.only 15 (Halt.go ?_)) | (apply WL.opN; exact yF; dsimp only [ZB, z0, z1]) | refine WL.nil ?_ | refine ZA fun Kx hK => ?_ | (refine hK _ _ ?_; clear hK) | refine WC.region ?_ |  (refine WL.callC (hp1 := []) (caps := []) hU3 Tryz.call8 OpD.f (ArgsD.cons (OpD.t rfl) (ArgsD.cons (OpD.t rfl) ArgsD.nil)) ?_; rintro d' hp2 ⟨rfl, e2, e3, e4, e5, rfl, v, m, c, rfl, rfl, rfl, rfl, hR1⟩; dsimp only [ZB, z0, z1, List.nil_append]) | (apply ZJ; (focus (first | exact wN | (apply SYG.yes; (exact wY); ((first | (apply SY.build1'; (exact eD); ((try simp only [List.map_cons, List.map_nil]); (repeat (first | exact Zy | (apply Zt; (first | exact OpD.t rfl | exact Zl | exact OpD.b | exact OpD.tle rfl (by first | exact ZD | exact ZE (by decide)) | exact ⟨ZD⟩ | exact ⟨ZE (by decide)⟩))))); rfl; rfl; (intro _; first | exact ZAY | exact Zf | exact ZAA | exact ZAJ); (exact (by simp))) | (apply SY.extract; (exact oD); rfl) | fail); all_goals infer_instance)))); dsimp only [ZB, z0, z1])))
 all_goals try (exfalso; first | contradiction | omega)
 refine ⟨?_⟩
 obtain ⟨rfl, rfl⟩ := ex_u hR1
 clear hR1
 (repeat' (first |  (refine WC.only 16 (Halt.go ?_)) | (apply WL.opN; exact yF; dsimp only [ZB, z0, z1]) | refine WL.nil ?_ | refine ZA fun Kx hK => ?_ | (refine hK _ _ ?_; clear hK) | refine WC.region ?_ |  (refine WL.callC (hp1 := []) (caps := []) hU1 Tryz.call8 OpD.f (ArgsD.cons (OpD.t rfl) (ArgsD.cons (OpD.t rfl) ArgsD.nil)) ?_; rintro d' hp2 ⟨rfl, e2, e3, e4, e5, rfl, v, m, c, rfl, rfl, rfl, rfl, hR1⟩; dsimp only [ZB, z0, z1, List.nil_append]) | (apply ZJ; (focus (first | exact wN | (apply SYG.yes; (exact wY); ((first | (apply SY.build1'; (exact eD); ((try simp only [List.map_cons, List.map_nil]); (repeat (first | exact Zy | (apply Zt; (first | exact OpD.t rfl | exact Zl | exact OpD.b | exact OpD.tle rfl (by first | exact ZD | exact ZE (by decide)) | exact ⟨ZD⟩ | exact ⟨ZE (by decide)⟩))))); rfl; rfl; (intro _; first | exact ZAY | exact Zf | exact ZAA | exact ZAJ); (exact (by simp))) | (apply SY.extract; (exact oD); rfl) | fail); all_goals infer_instance)))); dsimp only [ZB, z0, z1])))
 all_goals try (exfalso; first | contradiction | omega)
 refine ⟨?_⟩
 obtain ⟨rfl, rfl⟩ := ex_v hR1
 clear hR1
 ((repeat' (first | (apply WL.opN; exact yF; dsimp only [ZB, z0, z1]) | refine WL.nil ?_ | (refine hK _ _ ?_; clear hK) | refine WC.region ?_ | (apply ZJ; (focus (first | exact wN | (apply SYG.yes; (exact wY); ((first | (apply SY.call hE3 Tryz.call18; exact ArgsD.cons (OpD.t rfl) (ArgsD.cons (OpD.t rfl) ArgsD.nil)) | (apply SY.call hE4 Tryz.call18; exact ArgsD.cons (OpD.t rfl) (ArgsD.cons (OpD.t rfl) ArgsD.nil)) | ((first | apply SY.move | apply SY.assign | apply SY.eql | apply SY.neq | apply SY.not) <;> (exact oD)) | ((first | apply SY.add) <;> first | exact oD | omega) | (apply SY.build1'; (exact eD); ((try simp only [List.map_cons, List.map_nil]); (repeat (first | exact Zy | (apply Zt; (first | exact OpD.t rfl | exact Zl | exact OpD.b | exact OpD.tle rfl (by first | exact ZD | exact ZE (by decide)) | exact ⟨ZD⟩ | exact ⟨ZE (by decide)⟩))))); rfl; rfl; (intro _; first | exact ZAY | exact Zf | exact ZAA | exact ZAJ); (exact (by simp))) | (apply Z7; (exact oD); (with_reducible rfl); (exact oD)) | fail); all_goals infer_instance)))); dsimp only [ZB, z0, z1]) | ((first | refine ZZ rfl rfl rfl (fun h => ?_) (fun h => ?_) | refine ZY rfl rfl rfl (fun h => ?_) (fun h => ?_) | refine ZV rfl rfl rfl (fun h => ?_) (fun h => ?_)) <;> (first | (exfalso; first | omega | contradiction) | (dsimp only [z0, z1]))) | refine WC.ret ?_)); all_goals (first | ((repeat clear hK); (repeat clear Kx))))
 all_goals try (exfalso; first | contradiction | omega)
 (refine ⟨trivial, _, rfl, ?_⟩; exact fD)
end
section
open Go.RowKit
def ZD7 (V : Int) (l : List (List Int)) : Bool := ZLr V l && (decide (V ≤ 10) || decide (ZQ V l ≠ 0))
theorem ZIK (V : Int) (l : List (List Int)) : Fn Tryz.prog 6 [dS Cls (V, l)] (dB (ZD7 V l)) := by
 (refine Zb Tryz.func6 rfl rfl ?_; simp only [Tryz.ntmps6, List.length_cons, List.length_nil, Nat.reduceAdd, Nat.reduceSub, List.replicate_succ, List.replicate_zero, List.cons_append, List.nil_append])
 have h1 := ZNI V l
 have h2 := ZCx V l
 unfold ZD7
 generalize ZLr V l = f at *
 by_cases hc : ZQ V l = 0 <;> by_cases hv : V ≤ 10 <;> cases f <;>
 (((repeat' (first | (apply WL.opN; exact yF; dsimp only [ZB, z0, z1]) | refine WL.nil ?_ | refine ZA fun Kx hK => ?_ | (refine hK _ _ ?_; clear hK) | refine WC.region ?_ |  (apply ZJ; (focus (apply SYG.no; exact ZJS rfl rfl rfl)); dsimp only [ZB, z0, z1]) | (apply ZJ; (focus (first | exact wN | (apply SYG.yes; (exact wY); ((first | (apply SY.call (h1) Tryz.call28; (exact aD)) | (apply SY.call (h2) Tryz.call29; (exact aD)) | ((first | apply SY.move | apply SY.assign | apply SY.leq | apply SY.neq) <;> (exact oD)) | (apply SY.load; (exact tD); (exact oD)) | (apply ZT clT; exact OpD.t rfl) | (apply ZU clT; exact OpD.t rfl) | (apply Z7; (exact oD); (with_reducible rfl); (exact oD)) | (apply Zp; (exact oD); (with_reducible rfl); (exact oD)) | (apply SY.box; (exact oD); (exact hD)) | fail); all_goals infer_instance)))); dsimp only [ZB, z0, z1]) | ((first | refine ZZ rfl rfl rfl (fun h => ?_) (fun h => ?_) | refine ZY rfl rfl rfl (fun h => ?_) (fun h => ?_) | refine ZV rfl rfl rfl (fun h => ?_) (fun h => ?_)) <;> (first | (exfalso; first | omega | contradiction) | (dsimp only [z0, z1]))) | refine WC.ret ?_)); all_goals (first | ((repeat clear hK); (repeat clear Kx)))); all_goals try (exfalso; first | contradiction | omega)); all_goals ((refine ⟨trivial, _, rfl, ?_⟩; (first | exact fD | refine FinD.b ?_)); try simp [hc, hv])
end
section
open Go.RowKit
theorem ZLq {V : Int} {l : List (List Int)} (h : ZD7 V l = true) : V ≤ 10 \/ ZQ V l ≠ 0 := by
 unfold ZD7 at h
 simp only [Bool.and_eq_true, Bool.or_eq_true, decide_eq_true_eq] at h
 exact h.2
theorem ZNr {V : Nat} {l : List (List Int)} (hw : WfL V l) (hV : V ≤ 14) (hl : l.length ≤ 32768) : ZFH l ≤ 491520 := by
 have := ZIC (l := l) (m := 14) fun x hx => by
  have := S43.trail_len (V := V) (hw x hx).rng ((hw x hx).inc.imp fun h => by omega)
  omega
 omega
def ZJY (V : Int) (l : List (List Int)) (c : List Int) : Bool × Int := if (Za V l c).2 ≠ 0 then (false, (Za V l c).2) else (ZI0 V.toNat l c, 0)
def ZEH (V : Int) (l : List (List Int)) : List Int × Int := if ZQ V l ≠ 0 then ([], ZQ V l) else (if ZB8 V.toNat l = true then ZCW V.toNat l else [], if ZB8 V.toNat l = true then 0 else 6)
theorem ZI1 (V : Int) (l : List (List Int)) (c : List Int) (hr : IRR l) (hV : V ≤ 10 \/ ZQ V l ≠ 0) : Fn Tryz.prog 14 [dS Cls (V, l), dS ZW c] (dT [dB (ZJY V l c).1, dI (ZJY V l c).2]) := by
 by_cases he : (Za V l c).2 = 0
 ·obtain ⟨h1, h2⟩ := ZDU he
  obtain ⟨N, rfl⟩ : ∃ N : Nat, V = (N : Int) := ⟨V.toNat, by have := (Zc h1).1; omega⟩
  have hN : N ≤ 10 := by rcases hV with hV | hV; omega; exact absurd h1 hV
  have e : ZJY (N : Int) l c = (ZI0 N l c, 0) := by unfold ZJY; rw [if_neg (by simp [he]), Int.toNat_natCast]
  rw [e]
  exact ZEq N l c hN h1 ((ZAX (by omega)).1 h2)
 ·have e : ZJY V l c = (false, (Za V l c).2) := if_pos he
  rw [e]
  exact ZHf V l c hr he
theorem ZHp (V : Int) (l : List (List Int)) (c : List Int) (hV : V ≤ 10 \/ ZQ V l ≠ 0) : Fn Tryz.prog 15 [dS Cls (V, l), dS ZW c] (dT [dB (ZJY V l c).1, dI (ZJY V l c).2]) := by
 by_cases he : (Za V l c).2 = 0
 ·obtain ⟨h1, h2⟩ := ZDU he
  obtain ⟨N, rfl⟩ : ∃ N : Nat, V = (N : Int) := ⟨V.toNat, by have := (Zc h1).1; omega⟩
  have hN : N ≤ 10 := by rcases hV with hV | hV; omega; exact absurd h1 hV
  obtain ⟨_, _, hll, hcl⟩ := Zc h1
  have hw : WfL N l := (Zs (by omega)).1 hcl
  have hc : WfC N c := (ZAX (by omega)).1 h2
  have hcn : c.length ≤ N := S43.trail_len hc.rng (hc.inc.imp fun h => by omega)
  have e : ZJY (N : Int) l c = (ZI0 N l c, 0) := by unfold ZJY; rw [if_neg (by simp [he]), Int.toNat_natCast]
  rw [e]
  have hb := ZNr hw (by omega) hll
  have := ZG1 N (by omega) l c h1 hc (by omega)
  rw [ZJL (by omega) hw hc] at this
  exact this
 ·have e : ZJY V l c = (false, (Za V l c).2) := if_pos he
  rw [e]
  exact ZG2 V l c he
theorem ZNA (V : Int) (l : List (List Int)) (hr : IRR l) (hV : V ≤ 10 \/ ZQ V l ≠ 0) : Fn Tryz.prog 16 [dS Cls (V, l)] (dT [dS ZW (ZEH V l).1, dI (ZEH V l).2]) := by
 by_cases h1 : ZQ V l = 0
 ·obtain ⟨N, rfl⟩ : ∃ N : Nat, V = (N : Int) := ⟨V.toNat, by have := (Zc h1).1; omega⟩
  have hN : N ≤ 10 := by rcases hV with hV | hV; omega; exact absurd h1 hV
  have e : ZEH (N : Int) l = (if ZB8 N l = true then ZCW N l else [], if ZB8 N l = true then 0 else 6) := by unfold ZEH; rw [if_neg (by simp [h1]), Int.toNat_natCast]
  rw [e]
  exact ZHY N l hN h1
 ·have e : ZEH V l = ([], ZQ V l) := if_pos h1
  rw [e]
  exact ZJ9 V l hr h1
theorem ZME (V : Int) (l : List (List Int)) (hV : V ≤ 10 \/ ZQ V l ≠ 0) : Fn Tryz.prog 17 [dS Cls (V, l)] (dT [dS ZW (ZEH V l).1, dI (ZEH V l).2]) := by
 by_cases h1 : ZQ V l = 0
 ·obtain ⟨N, rfl⟩ : ∃ N : Nat, V = (N : Int) := ⟨V.toNat, by have := (Zc h1).1; omega⟩
  have hN : N ≤ 10 := by rcases hV with hV | hV; omega; exact absurd h1 hV
  have e : ZEH (N : Int) l = (if ZB8 N l = true then ZCW N l else [], if ZB8 N l = true then 0 else 6) := by unfold ZEH; rw [if_neg (by simp [h1]), Int.toNat_natCast]
  rw [e]
  exact ZKt N (by omega) l h1
 ·have e : ZEH V l = ([], ZQ V l) := if_pos h1
  rw [e]
  exact ZKu V l h1
set_option maxHeartbeats 8000000 in
theorem impliesL_p (V : Int) (l : List (List Int)) (c : List Int) (hr : IRR l) : Fn Tryz.prog 4 [dS Cls (V, l), dS ZW c] (dB true) := by
 have haw := ZHV
 have hf := ZIK V l
 cases hq : ZD7 V l with
 | false =>
  rw [hq] at hf
  (refine Zb Tryz.func4 rfl rfl ?_; simp only [Tryz.ntmps4, List.length_cons, List.length_nil, Nat.reduceAdd, Nat.reduceSub, List.replicate_succ, List.replicate_zero, List.cons_append, List.nil_append])
  ((repeat' (first | (apply WL.opN; exact yF; dsimp only [ZB, z0, z1]) | refine WL.nil ?_ | refine ZA fun Kx hK => ?_ | (refine hK _ _ ?_; clear hK) | refine WC.region ?_ | (apply ZJ; (focus (first | exact wN | (apply SYG.yes; (exact wY); ((first | (apply SY.call (hf) Tryz.call6; (exact aD)) | (apply SY.call (haw) Tryz.call7; (exact aD)) | ((first | apply SY.move | apply SY.assign | apply SY.gtr | apply SY.eql | apply SY.not) <;> (exact oD)) | (apply Z7; (exact oD); (with_reducible rfl); (exact oD)) | (apply SY.box; (exact oD); (exact hD)) | fail); all_goals infer_instance)))); dsimp only [ZB, z0, z1]) | ((first | refine ZZ rfl rfl rfl (fun h => ?_) (fun h => ?_) | refine ZY rfl rfl rfl (fun h => ?_) (fun h => ?_) | refine ZV rfl rfl rfl (fun h => ?_) (fun h => ?_)) <;> (first | (exfalso; first | omega | contradiction) | (dsimp only [z0, z1]))) | (apply Zj; (exact oD); (with_reducible rfl)) | refine WC.ret ?_ | refine ThenD.r ?_)); all_goals (first | ((repeat clear hK); (repeat clear Kx))))
  all_goals try (exfalso; first | contradiction | omega)
  (refine ⟨trivial, _, rfl, ?_⟩; exact fD)
 | true =>
  rw [hq] at hf
  by_cases hcl : c.length ≤ 20
  ·have hlt : ¬ (c.length : Int) > 20 := by omega
   have hV := ZLq hq
   have h1 := ZI1 V l c hr hV
   have h2 := ZHp V l c hV
   have h3 := ZNA V l hr hV
   have h4 := ZME V l hV
   generalize (ZJY V l c).1 = a at h1 h2
   generalize (ZJY V l c).2 = e at h1 h2
   generalize (ZEH V l).1 = k at h3 h4
   generalize (ZEH V l).2 = e' at h3 h4
   have h5 := ZGk k k
   rw [decide_eq_true rfl] at h5
   (refine Zb Tryz.func4 rfl rfl ?_; simp only [Tryz.ntmps4, List.length_cons, List.length_nil, Nat.reduceAdd, Nat.reduceSub, List.replicate_succ, List.replicate_zero, List.cons_append, List.nil_append])
   ((repeat' (first | (apply WL.opN; exact yF; dsimp only [ZB, z0, z1]) | refine WL.nil ?_ | refine ZA fun Kx hK => ?_ | (refine hK _ _ ?_; clear hK) | refine WC.region ?_ | (apply ZJ; (focus (first | exact wN | (apply SYG.yes; (exact wY); ((first | (apply SY.call (hf) Tryz.call6; (exact aD)) | (apply SY.call (haw) Tryz.call7; (exact aD)) | (apply SY.call (h1) Tryz.call14; (exact aD)) | (apply SY.call (h2) Tryz.call15; (exact aD)) | (apply SY.call (h3) Tryz.call16; (exact aD)) | (apply SY.call (h4) Tryz.call17; (exact aD)) | (apply SY.call (h5) Tryz.call18; (exact aD)) | ((first | apply SY.move | apply SY.assign | apply SY.gtr | apply SY.eql | apply SY.not) <;> (exact oD)) | (apply SY.len; (exact oD); (exact nD); (exact uD)) | (apply ZMt; (exact oD); (exact oD); exact eqBB) | (apply Z7; (exact oD); (with_reducible rfl); (exact oD)) | (apply Zp; (exact oD); (with_reducible rfl); (exact oD)) | (apply SY.extract; (exact oD); rfl) | (apply SY.box; (exact oD); (exact hD)) | fail); all_goals infer_instance)))); dsimp only [ZB, z0, z1]) | ((first | refine ZZ rfl rfl rfl (fun h => ?_) (fun h => ?_) | refine ZY rfl rfl rfl (fun h => ?_) (fun h => ?_) | refine ZV rfl rfl rfl (fun h => ?_) (fun h => ?_)) <;> (first | (exfalso; first | omega | contradiction) | (dsimp only [z0, z1]))) | (apply ZC; (exact oD); all_goals (intro h; try exact xD)) | refine WC.skip ?_ | refine WC.ret ?_)); all_goals (first | ((repeat clear hK); (repeat clear Kx))))
   all_goals try (exfalso; first | contradiction | omega)
   (refine ⟨trivial, _, rfl, ?_⟩; refine FinD.b ?_)
   exact decide_eq_true rfl
  ·have hlt : (c.length : Int) > 20 := by omega
   (refine Zb Tryz.func4 rfl rfl ?_; simp only [Tryz.ntmps4, List.length_cons, List.length_nil, Nat.reduceAdd, Nat.reduceSub, List.replicate_succ, List.replicate_zero, List.cons_append, List.nil_append])
   ((repeat' (first | (apply WL.opN; exact yF; dsimp only [ZB, z0, z1]) | refine WL.nil ?_ | refine ZA fun Kx hK => ?_ | (refine hK _ _ ?_; clear hK) | refine WC.region ?_ | (apply ZJ; (focus (first | exact wN | (apply SYG.yes; (exact wY); ((first | (apply SY.call (hf) Tryz.call6; (exact aD)) | (apply SY.call (haw) Tryz.call7; (exact aD)) | ((first | apply SY.move | apply SY.assign | apply SY.gtr | apply SY.eql | apply SY.not) <;> (exact oD)) | (apply SY.len; (exact oD); (exact nD); (exact uD)) | (apply Zp; (exact oD); (with_reducible rfl); (exact oD)) | (apply SY.box; (exact oD); (exact hD)) | fail); all_goals infer_instance)))); dsimp only [ZB, z0, z1]) | ((first | refine ZZ rfl rfl rfl (fun h => ?_) (fun h => ?_) | refine ZY rfl rfl rfl (fun h => ?_) (fun h => ?_) | refine ZV rfl rfl rfl (fun h => ?_) (fun h => ?_)) <;> (first | (exfalso; first | omega | contradiction) | (dsimp only [z0, z1]))) | (apply ZC; (exact oD); all_goals (intro h; try exact xD)) | refine WC.ret ?_ | refine ThenD.r ?_)); all_goals (first | ((repeat clear hK); (repeat clear Kx))))
   all_goals try (exfalso; first | contradiction | omega)
   (refine ⟨trivial, _, rfl, ?_⟩; exact fD)
end
section
open Go.RowKit
section
variable {P : Program}
def fin4F (t u v x : Nat) (r s q p : Dat) : ZAb := fun e fr hp => (match e with | .normal | .ret => True | _ => False) /\ (∃ d, fr[t]? = some d /\ FinD hp d r) /\ (∃ d, fr[u]? = some d /\ FinD hp d s) /\ (∃ d, fr[v]? = some d /\ FinD hp d q) /\ ∃ d, fr[x]? = some d /\ FinD hp d p
theorem ZGG {fn : Func} {t u v x : Tmp} (h : fn.results = #[.tmp t, .tmp u, .tmp v, .tmp x]) (tmps : Array Value) (w : World) : (results fn tmps).run P w = .ok (.tuple #[tmps.getD t undef, tmps.getD u undef, tmps.getD v undef, tmps.getD x undef]) w := by
 simp [results, h]
theorem ZCq {f : FuncId} {fn : Func} {c : Code} {args : List Dat} {r s q p : Dat} {t u v x : Tmp} (hf : P.funcs[f]? = some fn) (hb : fn.body = some c) (hr : fn.results = #[.tmp t, .tmp u, .tmp v, .tmp x])
  (h : WC P (fin4F t u v x r s q p) c (args ++ List.replicate (fn.ntmps - args.length) (dX undef)) []) : Fn P f args (dT [r, s, q, p]) :=
 ZDJ hf hb (fun e fr hp k => by
  obtain ⟨he, ⟨d, hd, hfin⟩, ⟨d', hd', hfin'⟩, ⟨d2, hd2, hfin2⟩, d3, hd3, hfin3⟩ := k
  refine ⟨by cases e <;> simp_all, fun {P0 B w0 w a} hh hf' => ⟨_, ZGG hr _ _, [a.tmps.getD t undef, a.tmps.getD u undef, a.tmps.getD v undef, a.tmps.getD x undef], rfl, rfl, fun i e y he hx => ?_⟩⟩
  match i, he, hx with
  | 0, he, hx => cases he; cases hx; exact hfin.out hh (hf'.rd t d hd)
  | 1, he, hx => cases he; cases hx; exact hfin'.out hh (hf'.rd u d' hd')
  | 2, he, hx => cases he; cases hx; exact hfin2.out hh (hf'.rd v d2 hd2)
  | 3, he, hx => cases he; cases hx; exact hfin3.out hh (hf'.rd x d3 hd3)) h
end
end
section
open Go.RowKit
def ZFC (V : Int) (l : List (List Int)) (a : List Int) : Int := if ZQ V l ≠ 0 then ZQ V l else ZEG V [] a
theorem ZNw {V : Nat} (hV : V ≤ 4096) {a : List Int} (h : ZEG (V : Int) [] a = 0) : Asn V a := by
 have := ZJ2 hV a [] h (Asn.nil V)
 simpa using this
theorem ZBp : (dX (.agg #[.int .i64 0, .slice none 0 0])).Shape 2 true := fun _ _ _ h => by cases (h : _ = _); exact ⟨[.int .i64 0, .slice none 0 0], rfl, by decide, by simp [Value.oneCell'], rfl, rfl⟩
theorem ZLj {n : Nat} {ag : Bool} {d d' : Dat} (h : d.le d') : (dP n ag d).le (dP n ag d') := fun _ _ _ ⟨b, off, u, q1, q2, q3⟩ => ⟨b, off, u, q1, q2, h _ _ _ q3⟩
section
variable {P : Program} {ops : Array Oper} {hp : List HObj} {fr : List Dat} {Q : ZAb} {rest : List Oper} {b : Nat} {T : TypeId}
theorem ZIi {c : Code} {t : Nat} {V : Int} {l : List (List Int)} (hp0 : fr[t]? = some (dX (.pointer (some ⟨b, 0, none⟩)))) (h : WC P Q c (fr.set t (dP 2 true (dS Cls (V, l)))) hp) : WC P Q c fr (ZBx b T [dI V, dS Rows l] :: hp) := by
 refine WC.freezeS hp0 (n := 2) (by decide) rfl (h.weak (by simp) fun t' d hd => ?_)
 obtain ⟨ht, _⟩ := List.getElem?_eq_some_iff.1 hp0
 rw [List.getElem?_set] at hd ⊢
 by_cases htt : t = t'
 ·subst htt
  rw [if_pos rfl, if_pos ht] at hd ⊢
  cases hd
  exact ⟨_, rfl, ZLj (ZD4 (Dat.le_refl _) (Dat.le_refl _))⟩
 ·rw [if_neg htt] at hd ⊢
  exact ⟨d, hd, Dat.le_refl _⟩
end
end
end Go.Proofs.YtjmignmnlpamjaaGreat
