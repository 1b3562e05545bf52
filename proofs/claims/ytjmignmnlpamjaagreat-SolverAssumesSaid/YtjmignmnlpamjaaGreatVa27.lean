/- Part 27: walks by contracts, and plain laws. -/
import Derived.Test.YtjmignmnlpamjaaGreatVa25
import Derived.Test.YtjmignmnlpamjaaGreatVa26
set_option linter.unusedVariables false
set_option linter.unusedSimpArgs false
set_option linter.unusedSectionVars false
set_option maxRecDepth 100000
set_option maxHeartbeats 4000000
namespace Go.Proofs.YtjmignmnlpamjaaGreat
section
open Go.RowKit
theorem tzSS : TyZ Tryz.prog 22 (.slice none 0 0) := ⟨by kernel_rfl⟩
abbrev mO (b7 : Nat) (v3 : Value) (most : Int) (vo : Value) (out : List (List Int)) : List HObj := [ZS vo 25 ZW out, ZAB b7 22 1 false (dX vo), ZC9 v3 (dP 1 false (dI most))]
structure MR (most : Nat) (out ms : List (List Int)) where
 vo : Value
 out' : List (List Int)
 r : Bool
 hr : r = decide (out.length + ms.length ≤ most)
 ho : r = true -> out' = out ++ ms
theorem ArgsX.two {fr : List Dat} {x y : Operand} {v1 v2 : Value} (h1 : OpD fr x (dX v1)) (h2 : OpD fr y (dX v2)) : ArgsX fr [x, y] [v1, v2] := ⟨rfl, fun i y u h1' h2' => by
 match i, h1', h2' with
 | 0, a, b => cases a; cases b; exact h1
 | 1, a, b => cases a; cases b; exact h2⟩
theorem ZNL (b7 : Nat) (v3 : Value) (most : Nat) (vo : Value) (out : List (List Int)) (m : List Int) (hol : out.length ≤ 2000) :
  CallC Tryz.prog 56 ([dS ZW m] ++ [ZDE b7, v3].map dX) (mO b7 v3 most vo out) (fun d hp2 => ∃ vo', d = dB (decide (((out ++ [m]).length : Int) ≤ (most : Int))) /\ hp2 = mO b7 v3 most vo' (out ++ [m])) := by
 (refine Zo Tryz.func56 rfl rfl (fun hp => ?_); simp only [Tryz.ntmps56, List.length_cons, List.length_nil, List.length_append, List.length_map, Nat.reduceAdd, Nat.reduceSub, List.replicate_succ, List.replicate_zero, List.cons_append, List.nil_append, List.map_cons, List.map_nil, List.append_assoc])
 have h24 : (out.length + 1) * 24 ≤ 140737488355328 := by omega
 ((repeat' (first | (apply WL.opN; exact yF; dsimp only [ZB, z0, z1]) | refine WL.nil ?_ | refine ZA fun Kx hK => ?_ | (refine hK _ _ ?_; clear hK) | refine WC.region ?_ |  (refine ZBM (mAt 0 rfl) fun hvv => ?_; refine ZK (SW.at 1 rfl fun q => ZAD ZCz (OpD.t rfl) (OpD.t rfl) (Z8 hvv)) fun _ => ?_; dsimp only [ZB, z0, z1]) | ((first | apply WL.pushK | apply ZAS); (exact eD); exact OpD.t rfl; (exact oD); (intro _; exact hD); (exact (by simp)); (exact (by simp)); (first | exact ⟨by decide, by decide⟩ | skip); decide; (exact lD); (intro _; dsimp only [ZB, z0, z1]); all_goals (try infer_instance)) | (apply WL.opN; (focus ((first | (apply Z1 ZCz; exact OpD.t rfl; exact mAt 1 rfl) | (exact Zv tyI (OpD.t rfl) (mAt 2 rfl)) | (apply Z3; exact OpD.t rfl; exact mAt 0 rfl; exact ZB7.unt) | ((first | apply SY.move | apply SY.assign | apply SY.leq) <;> (exact oD)) | fail); all_goals infer_instance)); dsimp only [ZB, z0, z1]) | refine WC.ret ?_)); all_goals (first | ((repeat clear hK); (repeat clear Kx))))
 all_goals exact ⟨trivial, _, mO b7 v3 most _ (out ++ [m]), rfl, rfl, _, by rw [List.length_append, List.length_singleton], rfl⟩
set_option maxHeartbeats 16000000 in
theorem ZL3 (b7 : Nat) (v3 : Value) (V most : Nat) (hV : V ≤ 10) (hm : most ≤ 1024) : ∀ (n : Nat) (a : List Int) (l : List (List Int)) (vo : Value) (out : List (List Int)), a.length + n = V -> FromV V (a.length + 1) l -> out.length ≤ most ->
  CallC Tryz.prog 55 ([dI (V : Int), dS Rows l, dS ZW a, dX (.func (.func 56) #[] #[ZDE b7, v3])] ++ ([] : List Value).map dX) (mO b7 v3 most vo out) (fun d hp2 => ∃ q : MR most out (ZF8 n l a), d = dB q.r /\ hp2 = mO b7 v3 most q.vo q.out') := by
 intro n
 induction n with
 | zero =>
  intro a l vo out ha hl ho
  (refine Zo Tryz.func55 rfl rfl (fun hp => ?_); simp only [Tryz.ntmps55, List.length_cons, List.length_nil, List.length_append, List.length_map, Nat.reduceAdd, Nat.reduceSub, List.replicate_succ, List.replicate_zero, List.cons_append, List.nil_append, List.map_cons, List.map_nil, List.append_assoc])
  have hw := ZGQ l
  cases he : ZBa l with
  | true =>
   rw [he] at hw
   have e : ZF8 0 l a = [] := by unfold ZF8; rw [if_pos he]
   rw [e]
   ((repeat' (first | ((first | apply WL.opN | apply WD.opN); exact yF; dsimp only [ZB, z0, z1]) | refine WL.nil ?_ | refine ZA fun Kx hK => ?_ | (refine hK _ _ ?_; clear hK) | refine WC.region ?_ | ((first | apply WL.opN | apply WD.opN); (focus ((first | (apply SY.call (hw) Tryz.call94; (exact aD)) | fail); all_goals infer_instance)); dsimp only [ZB, z0, z1]) | (apply Zj; (exact oD); (with_reducible rfl)) | refine WC.ret ?_ | refine ThenD.r ?_)); all_goals (first | ((repeat clear hK); (repeat clear Kx))))
   all_goals try (exfalso; first | contradiction | omega)
   exact ⟨trivial, _, mO b7 v3 most vo out, rfl, rfl, ⟨vo, out, true, by simpa using ho, fun _ => by simp⟩, rfl, rfl⟩
  | false =>
   rw [he] at hw
   have e : ZF8 0 l a = [a] := by unfold ZF8; rw [if_neg (by simp [he])]
   rw [e]
   have hfc := ZNL b7 v3 most vo out a (by omega)
   have hal : (a.length : Int) = (V : Int) := by omega
   ((repeat' (first | ((first | apply WL.opN | apply WD.opN); exact yF; dsimp only [ZB, z0, z1]) | refine WL.nil ?_ | refine ZA fun Kx hK => ?_ | (refine hK _ _ ?_; clear hK) | refine WC.region ?_ |  (refine WL.callC (hp1 := mO b7 v3 most vo out) (caps := [ZDE b7, v3]) hfc Tryz.call56 (OpD.t rfl) (ArgsD.cons (OpD.t rfl) ArgsD.nil) ?_; rintro d' hp2 ⟨vo', rfl, rfl⟩; dsimp only [ZB, z0, z1, List.cons_append, List.nil_append]) | ((first | apply WL.opN | apply WD.opN); (focus ((first | (apply SY.call (hw) Tryz.call94; (exact aD)) | ((first | apply SY.move | apply SY.assign | apply SY.lss | apply SY.eql | apply SY.not) <;> (exact oD)) | (apply SY.len; (exact oD); (exact nD); (exact uD)) | fail); all_goals infer_instance)); dsimp only [ZB, z0, z1]) | (apply Zg; (exact oD); (with_reducible rfl)) | (apply ZC; (exact oD); all_goals (intro h; try exact xD)) | refine WC.skip ?_ | refine WC.ret ?_ | refine ThenD.r ?_)); all_goals (first | ((repeat clear hK); (repeat clear Kx))))
   all_goals try (exfalso; first | contradiction | omega)
   refine ⟨trivial, _, mO b7 v3 most vo' (out ++ [a]), rfl, rfl, ⟨vo', out ++ [a], decide (((out ++ [a]).length : Int) ≤ (most : Int)), ?_, fun _ => rfl⟩, rfl, rfl⟩
   rw [List.length_append, List.length_singleton]
   exact decide_eq_decide.2 (by omega)
 | succ n ih =>
  intro a l vo out ha hl ho
  (refine Zo Tryz.func55 rfl rfl (fun hp => ?_); simp only [Tryz.ntmps55, List.length_cons, List.length_nil, List.length_append, List.length_map, Nat.reduceAdd, Nat.reduceSub, List.replicate_succ, List.replicate_zero, List.cons_append, List.nil_append, List.map_cons, List.map_nil, List.append_assoc])
  have hw := ZGQ l
  cases he : ZBa l with
  | true =>
   rw [he] at hw
   have e : ZF8 (n + 1) l a = [] := by unfold ZF8; rw [if_pos he]
   rw [e]
   ((repeat' (first | ((first | apply WL.opN | apply WD.opN); exact yF; dsimp only [ZB, z0, z1]) | refine WL.nil ?_ | refine ZA fun Kx hK => ?_ | (refine hK _ _ ?_; clear hK) | refine WC.region ?_ | ((first | apply WL.opN | apply WD.opN); (focus ((first | (apply SY.call (hw) Tryz.call94; (exact aD)) | fail); all_goals infer_instance)); dsimp only [ZB, z0, z1]) | (apply Zj; (exact oD); (with_reducible rfl)) | refine WC.ret ?_ | refine ThenD.r ?_)); all_goals (first | ((repeat clear hK); (repeat clear Kx))))
   all_goals try (exfalso; first | contradiction | omega)
   exact ⟨trivial, _, mO b7 v3 most vo out, rfl, rfl, ⟨vo, out, true, by simpa using ho, fun _ => by simp⟩, rfl, rfl⟩
  | false =>
   rw [he] at hw
   have e : ZF8 (n + 1) l a = ZF8 n (ZCY l ((a.length : Int) + 1)) (a ++ [(a.length : Int) + 1]) ++ ZF8 n (ZCY l (-((a.length : Int) + 1))) (a ++ [-((a.length : Int) + 1)]) := by
    conv => lhs; unfold ZF8
    rw [if_neg (by simp [he])]
   rw [e]
   obtain ⟨v, hv⟩ : ∃ v : Int, v = (a.length : Int) + 1 := ⟨_, rfl⟩
   rw [<- hv]
   have hvb : 1 ≤ v /\ v ≤ 10 := by omega
   have hal : ¬ (a.length : Int) = (V : Int) := by omega
   have hl1 := hl.asg (x := v) (.inl (by omega))
   have hl2 := hl.asg (x := -v) (.inr (by omega))
   have ha1 := ZCt l v hl.len hl.clen (by omega)
   have ha2 := ZCt l (-v) hl.len hl.clen (by omega)
   have hm1 := fun vo' out' ho' => ih (a ++ [v]) (ZCY l v) vo' out' (by rw [List.length_append, List.length_singleton]; omega) (by rw [List.length_append, List.length_singleton]; exact hl1) ho'
   have hm2 := fun vo' out' ho' => ih (a ++ [-v]) (ZCY l (-v)) vo' out' (by rw [List.length_append, List.length_singleton]; omega) (by rw [List.length_append, List.length_singleton]; exact hl2) ho'
   generalize ZF8 n (ZCY l v) (a ++ [v]) = ms1 at hm1 ⊢
   generalize ZF8 n (ZCY l (-v)) (a ++ [-v]) = ms2 at hm2 ⊢
   have h8 : (a.length + 1) * 8 ≤ 140737488355328 := by omega
   have hl2' : ([v, -v] : List Int).length = 2 := rfl
   have h0x : ([v, -v] : List Int)[0]'(Nat.zero_lt_succ _) = v := rfl
   have h1x : ([v, -v] : List Int)[1]'(Nat.lt_succ_self _) = -v := rfl
   (repeat' (first | ((first | apply WL.opN | apply WD.opN); exact yF; dsimp only [ZB, z0, z1]) | refine WL.nil ?_ | refine ZA fun Kx hK => ?_ | (refine hK _ _ ?_; clear hK) | refine WC.region ?_ | ((first | apply WL.opN | apply WD.opN); (focus ((first | (apply SY.call (hw) Tryz.call94; (exact aD)) | (exact SY.neg (OpD.t rfl) (by omega)) | (refine SY.mono (SY.add (OpD.t rfl) Zl (by omega)) (ZAk hv.symm)) | ((first | apply SY.move | apply SY.assign | apply SY.lss | apply SY.eql | apply SY.not) <;> (exact oD)) | (apply SY.len; (exact oD); (exact nD); (exact uD)) | (apply SY.build1'; (exact eD); ((try simp only [List.map_cons, List.map_nil]); (repeat (first | exact Zy | (apply Zt; (first | exact OpD.t rfl | exact Zl | exact OpD.b | exact OpD.tle rfl (by first | exact ZD | exact ZE (by decide)) | exact ⟨ZD⟩ | exact ⟨ZE (by decide)⟩))))); rfl; rfl; (intro _; first | exact ZAY | exact Zf | exact ZAA | exact ZAJ); (exact (by simp))) | fail); all_goals infer_instance)); dsimp only [ZB, z0, z1]) | (apply Zg; (exact oD); (with_reducible rfl)) | (apply ZC; (exact oD); all_goals (intro h; try exact xD)) | refine WC.skip ?_ | refine WC.block ?_))
   all_goals try (exfalso; first | contradiction | omega)
   (refine ZP (X := Nat × Value × List (List Int)) (fun x => [(29, dI (x.1 : Int)), (8, dA), (11, dA), (30, dA), (31, dA), (32, dA), (33, dA), (34, dA), (35, dA), (36, dA), (37, dA), (38, dA), (39, dA), (40, dA), (41, dA), (42, dA), (43, dA), (44, dA), (45, dA), (46, dA), (47, dA), (48, dA), (49, dA)]) (fun x => (mO b7 v3 most x.2.1 x.2.2 ++ hp)) (fun x => 2 - x.1) (fun x => x.2.2.length ≤ most /\ (x.1 = 0 /\ x.2.2 = out \/ x.1 = 1 /\ x.2.2 = out ++ ms1 \/ x.1 = 2 /\ x.2.2 = out ++ (ms1 ++ ms2))) (0, vo, out) ?start ?frame0 ?objs0 ?round)
   case start => exact ⟨ho, .inl ⟨rfl, rfl⟩⟩
   case frame0 => ((try dsimp only [ZX, z0, z1]); repeat (first | exact LeF.nil | refine ZG (k := ?_)))
   case objs0 => rfl
   case round =>
    rintro ⟨k, vo1, out1⟩ ⟨q1, q2⟩
    simp only at q1 q2
    dsimp only [ZX, z0, z1]
    rcases q2 with ⟨rfl, rfl⟩ | ⟨rfl, rfl⟩ | ⟨rfl, rfl⟩
    ·have hmc := hm1 vo1 out1 q1
     ((repeat' (first |  (refine WC.drawM (fun _ => True) 15 1 [(0, false), (1, false), (2, false), (3, false), (4, false), (5, false), (6, false), (7, false), (8, false), (9, false), (10, false), (11, false), (12, false), (13, false), (14, true)] [true, true, true, true, true, true, true, true, true, true, true, true, true, true, true, false] (by kernel_rfl) (by kernel_rfl) (by kernel_rfl) rfl (trivial) ?_) |  (first | refine WA.one (S := [true, true, true, true, true, true, true, true, true, true, true, true, true, true, true, false]) (i := 15) (by kernel_rfl) rfl ?_ | refine WA.nil (S := [true, true, true, true, true, true, true, true, true, true, true, true, true, true, true, true]) (by kernel_rfl) ?_) |  (refine ZAf rfl (SW.callC (hp1 := mO b7 v3 most vo1 out1) (caps := []) (H := fun q : MR most out1 ms1 => mO b7 v3 most q.vo q.out') (D := fun q => dB q.r) hmc Tryz.call55 OpD.f (ArgsD.cons (OpD.t rfl) (ArgsD.cons (OpD.t rfl) (ArgsD.cons (OpD.t rfl) (ArgsD.cons (OpD.t rfl) ArgsD.nil)))) fun _ _ h => h) (fun _ => trivial) fun qq => ?_; dsimp only [ZB, z0, z1, List.cons_append, List.nil_append]) | (refine WM.nil ?_) | (apply ZBC rfl; (focus (intro c hcc; apply SYG.yes; (exact Zi rfl); ((first | (apply SY.call (ha1) Tryz.call95; exact ArgsD.cons (OpD.t rfl) (ArgsD.cons (OpD.t rfl) (ArgsD.nil))) | (exact SY.full3 elI (R := RI) (_gR := inferInstance) (OpD.t rfl) (OpD.t rfl) (by omega) (OpD.t rfl) (by omega)) | (exact SY.build1' elI (R := RI) (_gR := inferInstance) (els := [v]) (Zt (OpD.t rfl) Zy) rfl rfl (fun _ => Zf) (by simp)) | (exact ZJi elI (R := RI) (_gR := inferInstance) (OpD.t rfl) (OpD.t rfl) (by simp) (by decide) (by simpa using h8)) | ((first | apply SY.move | apply SY.assign | apply SY.lss | apply SY.eql | apply SY.not) <;> (exact oD)) | ((first | apply SY.add | apply SY.sub) <;> first | exact oD | omega) | fail); all_goals infer_instance))); dsimp only [ZB, z0, z1]) | ((first | apply WL.opN | apply WD.opN); exact yF; dsimp only [ZB, z0, z1]) | refine WL.nil ?_ | refine ZA fun Kx hK => ?_ | (refine hK _ _ ?_; clear hK) | refine WC.region ?_ | ((first | apply WL.opN | apply WD.opN); (focus ((first | ((first | apply SY.move | apply SY.assign | apply SY.lss | apply SY.eql | apply SY.not) <;> (exact oD)) | ((first | apply SY.add | apply SY.sub) <;> first | exact oD | omega) | (apply ZAy; (exact eD); (exact oD); (exact oD); exact kD) | fail); all_goals infer_instance)); dsimp only [ZB, z0, z1]) | (apply ZC; (exact oD); all_goals (intro h; try exact xD)) | (apply ZL; (exact oD); all_goals (intro h; try exact xD)) | refine WC.skip ?_ | refine WC.ret ?_ | refine WC.block ?_ | refine ThenD.n ?_ | refine ThenD.r ?_ | refine InBlockD.r ?_)); all_goals (first | ((repeat clear hK); (repeat clear Kx))))
     all_goals try (exfalso; first | contradiction | omega)
     ·have h1 : ¬ (out1.length + ms1.length ≤ most) := fun q => by
       have := qq.hr
       rw [decide_eq_true q, h] at this; cases this
      exact ⟨trivial, _, mO b7 v3 most qq.vo qq.out', rfl, rfl, ⟨qq.vo, qq.out', false, by symm; rw [decide_eq_false_iff_not, List.length_append]; omega, fun h => by cases h⟩, rfl, rfl⟩
     ·have h1 : out1.length + ms1.length ≤ most := by
       have := qq.hr
       rw [h] at this
       exact of_decide_eq_true this.symm
      have h2 := qq.ho h
      (refine ⟨(1, qq.vo, qq.out'), ?_, by first | omega | (simp only; omega), rfl, ?_⟩; rotate_left; ((try dsimp only [ZX, z0, z1]); repeat (first | exact LeF.nil | refine ZG (k := ?_))); (try dsimp only))
      exact ⟨by rw [h2, List.length_append]; exact h1, .inr (.inl ⟨rfl, h2⟩)⟩
    ·have hmc := hm2 vo1 (out ++ ms1) q1
     ((repeat' (first |  (refine WC.drawM (fun _ => True) 15 1 [(0, false), (1, false), (2, false), (3, false), (4, false), (5, false), (6, false), (7, false), (8, false), (9, false), (10, false), (11, false), (12, false), (13, false), (14, true)] [true, true, true, true, true, true, true, true, true, true, true, true, true, true, true, false] (by kernel_rfl) (by kernel_rfl) (by kernel_rfl) rfl (trivial) ?_) |  (first | refine WA.one (S := [true, true, true, true, true, true, true, true, true, true, true, true, true, true, true, false]) (i := 15) (by kernel_rfl) rfl ?_ | refine WA.nil (S := [true, true, true, true, true, true, true, true, true, true, true, true, true, true, true, true]) (by kernel_rfl) ?_) |  (refine ZAf rfl (SW.callC (hp1 := mO b7 v3 most vo1 (out ++ ms1)) (caps := []) (H := fun q : MR most (out ++ ms1) ms2 => mO b7 v3 most q.vo q.out') (D := fun q => dB q.r) hmc Tryz.call55 OpD.f (ArgsD.cons (OpD.t rfl) (ArgsD.cons (OpD.t rfl) (ArgsD.cons (OpD.t rfl) (ArgsD.cons (OpD.t rfl) ArgsD.nil)))) fun _ _ h => h) (fun _ => trivial) fun qq => ?_; dsimp only [ZB, z0, z1, List.cons_append, List.nil_append]) | (refine WM.nil ?_) | (apply ZBC rfl; (focus (intro c hcc; apply SYG.yes; (exact Zi rfl); ((first | (apply SY.call (ha2) Tryz.call95; exact ArgsD.cons (OpD.t rfl) (ArgsD.cons (OpD.t rfl) (ArgsD.nil))) | (exact SY.full3 elI (R := RI) (_gR := inferInstance) (OpD.t rfl) (OpD.t rfl) (by omega) (OpD.t rfl) (by omega)) | (exact SY.build1' elI (R := RI) (_gR := inferInstance) (els := [-v]) (Zt (OpD.t rfl) Zy) rfl rfl (fun _ => Zf) (by simp)) | (exact ZJi elI (R := RI) (_gR := inferInstance) (OpD.t rfl) (OpD.t rfl) (by simp) (by decide) (by simpa using h8)) | ((first | apply SY.move | apply SY.assign | apply SY.lss | apply SY.eql | apply SY.not) <;> (exact oD)) | ((first | apply SY.add | apply SY.sub) <;> first | exact oD | omega) | fail); all_goals infer_instance))); dsimp only [ZB, z0, z1]) | ((first | apply WL.opN | apply WD.opN); exact yF; dsimp only [ZB, z0, z1]) | refine WL.nil ?_ | refine ZA fun Kx hK => ?_ | (refine hK _ _ ?_; clear hK) | refine WC.region ?_ | ((first | apply WL.opN | apply WD.opN); (focus ((first | (refine Z0 (R := RI) (_gR := inferInstance) (k := 1) elI (Nat.lt_succ_self _) h1x (OpD.t rfl) (OpD.t rfl)) | ((first | apply SY.move | apply SY.assign | apply SY.lss | apply SY.eql | apply SY.not) <;> (exact oD)) | ((first | apply SY.add | apply SY.sub) <;> first | exact oD | omega) | fail); all_goals infer_instance)); dsimp only [ZB, z0, z1]) | (apply ZC; (exact oD); all_goals (intro h; try exact xD)) | (apply ZL; (exact oD); all_goals (intro h; try exact xD)) | refine WC.skip ?_ | refine WC.ret ?_ | refine WC.block ?_ | refine ThenD.n ?_ | refine ThenD.r ?_ | refine InBlockD.r ?_)); all_goals (first | ((repeat clear hK); (repeat clear Kx))))
     all_goals try (exfalso; first | contradiction | omega)
     ·have h1 : ¬ ((out ++ ms1).length + ms2.length ≤ most) := fun q => by
       have := qq.hr
       rw [decide_eq_true q, h] at this; cases this
      exact ⟨trivial, _, mO b7 v3 most qq.vo qq.out', rfl, rfl, ⟨qq.vo, qq.out', false, by symm; rw [decide_eq_false_iff_not, List.length_append]; rw [List.length_append] at h1; omega, fun h => by cases h⟩, rfl, rfl⟩
     ·have h1 : (out ++ ms1).length + ms2.length ≤ most := by
       have := qq.hr
       rw [h] at this
       exact of_decide_eq_true this.symm
      have h2 := qq.ho h
      (refine ⟨(2, qq.vo, qq.out'), ?_, by first | omega | (simp only; omega), rfl, ?_⟩; rotate_left; ((try dsimp only [ZX, z0, z1]); repeat (first | exact LeF.nil | refine ZG (k := ?_))); (try dsimp only))
      exact ⟨by rw [h2, List.length_append]; exact h1, .inr (.inr ⟨rfl, by rw [h2, List.append_assoc]⟩)⟩
    ·((repeat' (first | ((first | apply WL.opN | apply WD.opN); exact yF; dsimp only [ZB, z0, z1]) | refine WL.nil ?_ | refine ZA fun Kx hK => ?_ | (refine hK _ _ ?_; clear hK) | (refine Kont.skip ?_; clear hK) | refine WC.region ?_ | ((first | apply WL.opN | apply WD.opN); (focus ((first | ((first | apply SY.move | apply SY.assign | apply SY.lss | apply SY.eql | apply SY.not) <;> (exact oD)) | fail); all_goals infer_instance)); dsimp only [ZB, z0, z1]) | (apply ZC; (exact oD); all_goals (intro h; try exact xD)) | refine WC.ret ?_ | refine WC.exit ?_)); all_goals (first | ((repeat clear hK); (repeat clear Kx))))
     all_goals try (exfalso; first | contradiction | omega)
     exact ⟨trivial, _, mO b7 v3 most vo1 (out ++ (ms1 ++ ms2)), rfl, rfl, ⟨vo1, out ++ (ms1 ++ ms2), true, by symm; rw [decide_eq_true_eq]; rw [List.length_append] at q1; exact q1, fun _ => rfl⟩, rfl, rfl⟩
set_option maxHeartbeats 8000000 in
theorem ZI6 (V : Nat) (l : List (List Int)) (most : Nat) (hV : V ≤ 10) (hm : most ≤ 1024) (hck : ZQ (V : Int) l = 0) : Fn Tryz.prog 22 [dS Cls ((V : Int), l), dI (most : Int)] (dT [dS Rows (if (ZB6 V l []).length ≤ most then ZB6 V l [] else []), dI (if (ZB6 V l []).length ≤ most then 0 else 5)]) := by
 obtain ⟨_, _, hll, hcl⟩ := Zc hck
 have hw : WfL V l := (Zs (by omega)).1 hcl
 have h1 := ZBT (V : Int) l (ZFX (by omega) hw)
 rw [hck] at h1
 have hmc := fun b7 v3 => ZL3 b7 v3 V most hV hm V [] l ZCX [] (by simp) (ZIN (by omega) hw (by omega)) (Nat.zero_le _)
 rw [ZHi fun c hc x hx => (hw c hc).rng x hx] at hmc
 generalize ZB6 V l [] = ms at hmc ⊢
 (refine ZAM Tryz.func22 rfl rfl ?_; simp only [Tryz.ntmps22, List.length_cons, List.length_nil, Nat.reduceAdd, Nat.reduceSub, List.replicate_succ, List.replicate_zero, List.cons_append, List.nil_append])
 (repeat' (first |  (refine WC.only 1 (Halt.go ?_)) | (apply WL.opN; exact yF; dsimp only [ZB, z0, z1]) | refine WL.nil ?_ | refine ZA fun Kx hK => ?_ | (refine hK _ _ ?_; clear hK) | refine WC.region ?_ | (apply ZJ; (focus (first | exact wN | (apply SYG.yes; (exact wY); ((first | (apply SY.box; (exact oD); (exact hD)) | fail); all_goals infer_instance)))); dsimp only [ZB, z0, z1])))
 refine ⟨?_⟩
 refine WC.pin 3 rfl fun v3 => ?_
 dsimp only [z0, z1]
 (repeat' (first |  (refine WC.only 10 (Halt.go ?_)) | (apply WL.opN; exact yF; dsimp only [ZB, z0, z1]) | refine WL.nil ?_ | refine ZA fun Kx hK => ?_ | (refine hK _ _ ?_; clear hK) | refine WC.region ?_ |  (refine WL.alloc (T := 22) tzSS (Z8 rfl) fun b7 => ZDN 25 ZW ?_; dsimp only [ZB, z0, z1]) |  (refine WL.callC (hp := []) (hp1 := mO b7 v3 most ZCX []) (caps := []) (hmc b7 v3) Tryz.call55 OpD.f (ArgsD.cons (OpD.t rfl) (ArgsD.cons (OpD.t rfl) (ArgsD.cons ⟨ZD⟩ (ArgsD.cons (OpD.t rfl) ArgsD.nil)))) ?_; rintro d' hp2 ⟨qq, rfl, rfl⟩; dsimp only [ZB, z0, z1, List.cons_append, List.nil_append]) | (apply ZJ; (focus (first | exact wN | (apply SYG.yes; (exact wY); ((first | (apply SY.call (h1) Tryz.call42; (exact aD)) | (exact Zv tyI (OpD.t rfl) (mAt 0 rfl)) | (exact ZBJ (vs := [ZDE b7, v3]) (ArgsX.two (OpD.t rfl) (OpD.t rfl))) | ((first | apply SY.move | apply SY.assign | apply SY.lss | apply SY.gtr | apply SY.neq | apply SY.not) <;> (exact oD)) | (apply ZT clT; exact OpD.t rfl) | (apply ZU clT; exact OpD.t rfl) | (apply Zp; (exact oD); (with_reducible rfl); (exact oD)) | fail); all_goals infer_instance)))); dsimp only [ZB, z0, z1]) | ((first | refine ZZ rfl rfl rfl (fun h => ?_) (fun h => ?_) | refine ZY rfl rfl rfl (fun h => ?_) (fun h => ?_) | refine ZV rfl rfl rfl (fun h => ?_) (fun h => ?_)) <;> (first | (exfalso; first | omega | contradiction) | (dsimp only [z0, z1]))) | (apply ZC; (exact oD); all_goals (intro h; try exact xD)) | (apply ZO; (exact oD); all_goals (intro h; try exact xD)) | refine WC.skip ?_ | refine WC.block ?_))
 all_goals try (exfalso; first | contradiction | omega)
 refine ⟨?_⟩
 obtain ⟨vo, out', r, hr, ho⟩ := qq
 rw [List.length_nil, Nat.zero_add] at hr
 by_cases hle : ms.length ≤ most
 ·have hrt : r = true := by rw [hr]; exact decide_eq_true hle
  subst hrt
  have ho' : out' = ms := by simpa using ho rfl
  subst ho'
  ((repeat' (first | (apply WL.opN; exact yF; dsimp only [ZB, z0, z1]) | refine WL.nil ?_ | refine ZA fun Kx hK => ?_ | (refine hK _ _ ?_; clear hK) | refine WC.region ?_ | (apply ZJ; (focus (first | exact wN | (apply SYG.yes; (exact wY); ((first | (apply Z1 ZCz; exact OpD.t rfl; exact mAt 1 rfl) | ((first | apply SY.move | apply SY.assign | apply SY.lss | apply SY.gtr | apply SY.neq | apply SY.not) <;> (exact oD)) | fail); all_goals infer_instance)))); dsimp only [ZB, z0, z1]) | (apply ZL; (exact oD); all_goals (intro h; try exact xD)) | refine WC.skip ?_ | refine WC.ret ?_)); all_goals (first | ((repeat clear hK); (repeat clear Kx))))
  all_goals try (exfalso; first | contradiction | omega)
  (refine ⟨trivial, ⟨_, rfl, ?_⟩, _, rfl, ?_⟩ <;> (first | refine ZBP ?_ | refine ZGW (.head _) ?_))
  all_goals (rw [if_pos hle])
 ·have hrf : r = false := by rw [hr]; exact decide_eq_false hle
  subst hrf
  ((repeat' (first | (apply WL.opN; exact yF; dsimp only [ZB, z0, z1]) | refine WL.nil ?_ | refine ZA fun Kx hK => ?_ | (refine hK _ _ ?_; clear hK) | refine WC.region ?_ | (apply ZJ; (focus (first | exact wN | (apply SYG.yes; (exact wY); ((first | ((first | apply SY.move | apply SY.assign | apply SY.lss | apply SY.gtr | apply SY.neq | apply SY.not) <;> (exact oD)) | fail); all_goals infer_instance)))); dsimp only [ZB, z0, z1]) | (apply ZL; (exact oD); all_goals (intro h; try exact xD)) | refine WC.ret ?_ | refine ThenD.r ?_)); all_goals (first | ((repeat clear hK); (repeat clear Kx))))
  all_goals try (exfalso; first | contradiction | omega)
  (refine ⟨trivial, ⟨_, rfl, ?_⟩, _, rfl, ?_⟩ <;> (first | refine ZBP ?_ | refine ZGV ?_))
  all_goals (rw [if_neg hle])
end
section
open Go.RowKit
theorem ZEE {P : Program} {T : TypeId} {n : Nat} {agg : Bool} (T' : TyI P T n agg) {I : Nat -> Prop} {w : World} {b off : Nat} {u : Value} (h : Cells I w b off n agg u) : (loadVar T ⟨b, off, none⟩).run P w = .ok u w := by
 have h1 := ZCK T' h
 simpa [Instr.loadAt, Instr.sureAddr] using h1
theorem ZGF {P : Program} {fn : Func} {t : Tmp} {T : TypeId} {n : Nat} {agg : Bool} (T' : TyI P T n agg) (hr : fn.results = #[.cell t T]) {I : Nat -> Prop} {w : World} {tmps : Array Value} {b off : Nat} {u : Value} (hp : tmps.getD t undef = .pointer (some ⟨b, off, none⟩)) (h : Cells I w b off n agg u) : (results fn tmps).run P w = .ok u w := by
 have h1 := ZEE T' h
 have hp' : tmps[t]?.getD undef = .pointer (some ⟨b, off, none⟩) := by simpa using hp
 simp [results, hr, hp', asAddr, h1]
theorem ZFK {P : Program} {fn : Func} {t t2 : Tmp} {T : TypeId} {n : Nat} {agg : Bool} (T' : TyI P T n agg) (hr : fn.results = #[.cell t T, .tmp t2]) {I : Nat -> Prop} {w : World} {tmps : Array Value} {b off : Nat} {u : Value} (hp : tmps.getD t undef = .pointer (some ⟨b, off, none⟩)) (h : Cells I w b off n agg u) : (results fn tmps).run P w = .ok (.tuple #[u, tmps.getD t2 undef]) w := by
 have h1 := ZEE T' h
 have hp' : tmps[t]?.getD undef = .pointer (some ⟨b, off, none⟩) := by simpa using hp
 simp [results, hr, hp', asAddr, h1]
section
variable {P : Program} {hp : List HObj} {d : Dat}
def finC1 (t : Nat) (n : Nat) (agg : Bool) (res : Dat) : ZAb := fun e fr hp => (match e with | .normal | .ret => True | _ => False) /\ ∃ d, fr[t]? = some (dP n agg d) /\ FinD hp d res
def finC2 (t u : Nat) (n : Nat) (agg : Bool) (r s : Dat) : ZAb := fun e fr hp => (match e with | .normal | .ret => True | _ => False) /\ (∃ d, fr[t]? = some (dP n agg d) /\ FinD hp d r) /\ ∃ d, fr[u]? = some d /\ FinD hp d s
theorem ZIh {f : FuncId} {fn : Func} {c : Code} {args : List Dat} {res : Dat} {t : Tmp} {T : TypeId} {n : Nat} {agg : Bool} (T' : TyI P T n agg) (hf : P.funcs[f]? = some fn) (hb : fn.body = some c) (hr : fn.results = #[.cell t T])
  (h : WC P (finC1 t n agg res) c (args ++ List.replicate (fn.ntmps - args.length) (dX undef)) []) : Fn P f args res :=
 ZDJ hf hb (fun e fr hp q => by
  obtain ⟨he, d, hd, hfin⟩ := q
  refine ⟨by cases e <;> simp_all, fun {P0 B w0 w a} hh hf' => ?_⟩
  obtain ⟨b, off, u, h1, h2, h3⟩ := hf'.rd t _ hd
  exact ⟨u, ZGF T' hr h1 h2, hfin.out hh h3⟩) h
theorem ZB9 {f : FuncId} {fn : Func} {c : Code} {args : List Dat} {r s : Dat} {t t2 : Tmp} {T : TypeId} {n : Nat} {agg : Bool} (T' : TyI P T n agg) (hf : P.funcs[f]? = some fn) (hb : fn.body = some c) (hr : fn.results = #[.cell t T, .tmp t2])
  (h : WC P (finC2 t t2 n agg r s) c (args ++ List.replicate (fn.ntmps - args.length) (dX undef)) []) : Fn P f args (dT [r, s]) :=
 ZDJ hf hb (fun e fr hp q => by
  obtain ⟨he, ⟨d, hd, hfin⟩, d', hd', hfin'⟩ := q
  refine ⟨by cases e <;> simp_all, fun {P0 B w0 w a} hh hf' => ?_⟩
  obtain ⟨b, off, u, h1, h2, h3⟩ := hf'.rd t _ hd
  refine ⟨_, ZFK T' hr h1 h2, [u, a.tmps.getD t2 undef], rfl, rfl, fun i e x he hx => ?_⟩
  match i, he, hx with
  | 0, he, hx => cases he; cases hx; exact hfin.out hh h3
  | 1, he, hx => cases he; cases hx; exact hfin'.out hh (hf'.rd t2 d' hd')) h
end
end
section
open Go.RowKit
open S43 (RS GInv ZJo ZBR)
def ZBz (V : Nat) (t : List Int) : List Int := t.foldl (fun o l => o.set (l.natAbs - 1) l) (List.replicate V 0)
theorem ZI5 {V : Nat} {t : List Int} {i : Nat} (h : i < t.length) : ZBz V (t.take (i + 1)) = (ZBz V (t.take i)).set ((t[i]).natAbs - 1) t[i] := by
 unfold ZBz
 rw [List.take_succ_eq_append_getElem h, List.foldl_append]; rfl
theorem ZLs : ∀ (t : List Int) (o : List Int), (t.foldl (fun o l => o.set (l.natAbs - 1) l) o).length = o.length := by
 intro t
 induction t with
 | nil => intro o; rfl
 | cons a t ih => intro o; rw [List.foldl_cons, ih, List.length_set]
theorem ZEv {V : Nat} (t : List Int) : (ZBz V t).length = V := by
 unfold ZBz
 rw [ZLs, List.length_replicate]
theorem ZFW {n : Nat} : ∀ (t : List Int) (o : List Int), (∀ y ∈ t, y.natAbs - 1 ≠ n) -> (t.foldl (fun o l => o.set (l.natAbs - 1) l) o)[n]? = o[n]?
 | [], _, _ => rfl
 | a :: t, o, h => by
  rw [List.foldl_cons, ZFW t _ fun y hy => h y (by simp [hy]), List.getElem?_set, if_neg (h a (by simp))]
theorem ZKM {x : Int} : ∀ (t : List Int) (o : List Int), (t.Pairwise fun x y => x.natAbs ≠ y.natAbs) -> (∀ y ∈ t, y ≠ 0) -> x ∈ t -> x.natAbs ≤ o.length -> (t.foldl (fun o l => o.set (l.natAbs - 1) l) o)[x.natAbs - 1]? = some x
 | [], _, _, _, hx, _ => by cases hx
 | a :: t, o, hd, h0, hx, hl => by
  rw [List.foldl_cons]
  obtain ⟨d1, d2⟩ := List.pairwise_cons.1 hd
  have ha0 := h0 a (by simp)
  rcases List.mem_cons.1 hx with rfl | hx
  ·rw [ZFW t _ fun y hy => by have := d1 y hy; have := h0 y (by simp [hy]); omega, List.getElem?_set, if_pos rfl, if_pos (by omega)]
  ·exact ZKM t _ d2 (fun y hy => h0 y (by simp [hy])) hx (by rw [List.length_set]; exact hl)
theorem ZKg {V : Nat} {t : List Int} (hr : ∀ x ∈ t, x ≠ 0 /\ x.natAbs ≤ V) (hd : t.Pairwise fun x y => x.natAbs ≠ y.natAbs) (hall : ∀ x : Int, x ≠ 0 -> x.natAbs ≤ V -> x ∈ t \/ -x ∈ t) : PosL (ZBz V t) /\ ∀ x ∈ t, x ∈ ZBz V t := by
 have key : ∀ x ∈ t, (ZBz V t)[x.natAbs - 1]? = some x := fun x hx => ZKM t _ hd (fun y hy => (hr y hy).1) hx (by rw [List.length_replicate]; exact (hr x hx).2)
 refine ⟨fun i x e => ?_, fun x hx => List.mem_of_getElem? (key x hx)⟩
 have hi : i < V := by
  have := (List.getElem?_eq_some_iff.1 e).1
  rwa [ZEv] at this
 rcases hall ((i : Int) + 1) (by omega) (by omega) with q | q
 ·have := key _ q
  rw [show ((i : Int) + 1).natAbs - 1 = i by omega, e] at this
  exact .inl (Option.some.inj this)
 ·have := key _ q
  rw [show (-((i : Int) + 1)).natAbs - 1 = i by omega, e] at this
  exact .inr (Option.some.inj this)
abbrev Srt (l : List Int) : Prop := l.Pairwise fun x y => x.natAbs ≤ y.natAbs
def RunR (V : Nat) (am : List Int) (cls : List S43.Cl) (k : Int) (res : List Int) (lr : List S43.Cl) : Prop :=
 (k = 2 /\ res = [] /\ ∃ r : RS, r.learned = lr /\ GInv V am cls r /\ S43.Conf (cls ++ lr) fun _ => False) \/
 (k = 1 /\ ∃ r : RS, r.learned = lr /\ GInv V am cls r /\ r.s.head = r.s.trail.length /\ r.s.dead = false /\ (∀ x : Int, x ≠ 0 -> x.natAbs ≤ V -> x ∈ r.s.trail \/ -x ∈ r.s.trail) /\ am.length ≤ r.s.begins.length /\ res = ZBz V r.s.trail) \/
 (k = 2 /\ ∃ (r : RS) (x : Int), r.learned = lr /\ GInv V am cls r /\ am[r.s.begins.length]? = some x /\ -x ∈ r.s.trail /\ res = ZBR r.s am x)
section
variable {V : Nat} {am : List Int} {cls lr : List S43.Cl} {k : Int} {res : List Int}
theorem RunR.yes (h : RunR V am cls k res lr) (hk : k = 1) : res ∈ ZB6 V cls [] /\ ∀ x ∈ am, x ∈ res := by
 subst hk
 rcases h with ⟨h, _⟩ | ⟨_, r, _, hg, h1, h2, h3, h4, rfl⟩ | ⟨h, _⟩
 ·cases h
 ·obtain ⟨q1, q2⟩ := hg.yes h1 h2 h3 h4
  obtain ⟨p1, p2⟩ := ZKg hg.inv.trng hg.inv.tdis h3
  refine ⟨ZCI.2 ⟨ZEv _, p1, fun c hc => ?_⟩, fun x hx => p2 x (q2 x hx)⟩
  obtain ⟨x, x1, x2⟩ := q1 c hc
  exact Zn.2 ⟨x, x1, p2 x x2⟩
 ·cases h
theorem ZCL {m : List Int} (hm : m ∈ ZB6 V cls []) : (∀ x : Int, x ∈ m -> ¬ -x ∈ m) /\ (∀ x : Int, x ≠ 0 -> x.natAbs ≤ V -> x ∈ m \/ -x ∈ m) /\ ZJo (· ∈ m) cls := by
 obtain ⟨h1, h2, h3⟩ := ZCI.1 hm
 have hM := ZGD h1 h2
 exact ⟨hM.cons, hM.total, fun c hc => Zn.1 (h3 c hc)⟩
theorem RunR.no (h : RunR V am cls k res lr) (hk : k = 2) : List.Sublist res am /\ ∀ m ∈ ZB6 V cls [], ¬ ∀ x ∈ res, x ∈ m := by
 subst hk
 rcases h with ⟨_, rfl, r, rfl, hg, h1⟩ | ⟨h, _⟩ | ⟨_, r, x, _, hg, h1, h2, rfl⟩
 ·refine ⟨List.nil_sublist _, fun m hm _ => ?_⟩
  obtain ⟨m1, m2, m3⟩ := ZCL hm
  exact hg.no h1 (T := (· ∈ m)) m1 m2 m3
 ·cases h
 ·refine ⟨List.filter_sublist, fun m hm q => ?_⟩
  obtain ⟨m1, m2, m3⟩ := ZCL hm
  exact hg.core h1 h2 (T := (· ∈ m)) m1 m2 q m3
theorem RunR.is (h : RunR V am cls k res lr) : k = 1 \/ k = 2 := by
 rcases h with ⟨h, _⟩ | ⟨h, _⟩ | ⟨h, _⟩
 ·exact .inr h
 ·exact .inl h
 ·exact .inr h
theorem RunR.inv (h : RunR V am cls k res lr) : ∃ r : RS, r.learned = lr /\ GInv V am cls r := by
 rcases h with ⟨_, _, r, h1, h2, _⟩ | ⟨_, r, h1, h2, _⟩ | ⟨_, r, _, h1, h2, _⟩
 ·exact ⟨r, h1, h2⟩
 ·exact ⟨r, h1, h2⟩
 ·exact ⟨r, h1, h2⟩
theorem RunR.wf (h : RunR V am cls k res lr) (hs : ∀ c ∈ lr, Srt c) : WfL V lr := by
 obtain ⟨r, rfl, hg⟩ := h.inv
 intro c hc
 obtain ⟨c', c1, c2⟩ := hg.list.to c (List.mem_append.2 (.inr hc))
 exact wf_of c2.symm (hg.inv.rng c' c1) (hg.inv.dis c' c1) (hs c hc)
theorem RunR.len (h : RunR V am cls k res lr) : lr.length < 2 ^ (V + (am.length + V) + 1) := by
 obtain ⟨r, rfl, hg⟩ := h.inv
 exact Nat.lt_of_le_of_lt hg.cnt (S43.mu_lt hg.bl hg.tl)
structure SolveR (V : Nat) (l : List (List Int)) (v : Int) (m : List Int) (p : List (List Int)) : Prop where
 is : (v = 1 /\ p = [] /\ m ∈ ZB6 V l []) \/ (v = 2 /\ m = [] /\ p ≠ [] /\ ZB8 V l = true /\ Refut V l p /\ p.length ≤ 2 ^ (2 * V + 1))
theorem RunR.solve_yes (h : RunR V [] cls 1 res lr) : SolveR V cls 1 res [] := ⟨.inl ⟨rfl, rfl, (h.yes rfl).1⟩⟩
theorem RunR.solve_no (hV : V ≤ 4096) (hc : WfL V cls) (h : RunR V [] cls 2 res lr) (hs : ∀ c ∈ lr, Srt c) : SolveR V cls 2 [] (lr ++ [[]]) := by
 have hw := h.wf hs
 have hno := h.no rfl
 have hr0 : res = [] := List.sublist_nil.1 hno.1
 have hl := h.len
 have hn : WfC V [] := ⟨(fun x hx => by cases hx), List.Pairwise.nil⟩
 refine ⟨.inr ⟨rfl, rfl, by simp, ?_, ?_, ?_⟩⟩
 ·unfold ZB8
  rw [List.isEmpty_iff]
  cases hm : ZB6 V cls [] with
  | nil => rfl
  | cons m t => exact absurd (fun x hx => by rw [hr0] at hx; cases hx) (hno.2 m (by rw [hm]; simp))
 ·rcases h with ⟨_, _, r, rfl, hg, h1⟩ | ⟨h, _⟩ | ⟨_, r, x, _, _, h1, _⟩
  ·obtain ⟨o1, o2⟩ := ZEB.1 (ZJD hV hc hw hg.rup h1)
   exact ⟨hc, fun c hc' => (List.mem_append.1 hc').elim (hw c) fun q => by rw [List.mem_singleton.1 q]; exact hn, o1, o2⟩
  ·cases h
  ·simp at h1
 ·rw [List.length_append, List.length_singleton]
  have : V + (([] : List Int).length + V) + 1 = 2 * V + 1 := by simp; omega
  rw [this] at hl
  omega
end
end
end Go.Proofs.YtjmignmnlpamjaaGreat
