/- Part 25: walks by contracts, and plain laws. -/
import Derived.Test.YtjmignmnlpamjaaGreatVa24
set_option linter.unusedVariables false
set_option linter.unusedSimpArgs false
set_option linter.unusedSectionVars false
set_option maxRecDepth 100000
set_option maxHeartbeats 4000000
namespace Go.Proofs.YtjmignmnlpamjaaGreat
section
open Go.RowKit
theorem ZMT (c : List Int) : Fn Tryz.prog 115 [dS ZW c] (dB (decide (c.length = 0))) := by
 (refine Zb Tryz.func115 rfl rfl ?_; simp only [Tryz.ntmps115, List.length_cons, List.length_nil, Nat.reduceAdd, Nat.reduceSub, List.replicate_succ, List.replicate_zero, List.cons_append, List.nil_append])
 ((repeat' (first | (apply WL.opN; exact yF; dsimp only [ZB, z0, z1]) | refine WL.nil ?_ | refine ZA fun Kx hK => ?_ | (refine hK _ _ ?_; clear hK) | refine WC.region ?_ | (apply WL.opN; (focus ((first | ((first | apply SY.move | apply SY.assign | apply SY.eql) <;> (exact oD)) | (apply SY.len; (exact oD); (exact nD); (exact uD)) | fail); all_goals infer_instance)); dsimp only [ZB, z0, z1]) | refine WC.ret ?_)); all_goals (first | ((repeat clear hK); (repeat clear Kx))))
 all_goals ((refine ⟨trivial, _, rfl, ?_⟩; refine FinD.b ?_); (try (rw [Bool.eq_iff_iff]; simp)))
theorem ZGQ (l : List (List Int)) : Fn Tryz.prog 94 [dS Rows l] (dB (ZBa l)) := by
 (refine Zb Tryz.func94 rfl rfl ?_; simp only [Tryz.ntmps94, List.length_cons, List.length_nil, Nat.reduceAdd, Nat.reduceSub, List.replicate_succ, List.replicate_zero, List.cons_append, List.nil_append])
 ((repeat' (first | (apply WL.opN; exact yF; dsimp only [ZB, z0, z1]) | refine WL.nil ?_ | refine ZA fun Kx hK => ?_ | (refine hK _ _ ?_; clear hK) | refine WC.region ?_ | (apply WL.opN; (focus ((first | (apply SY.call (ZN1 l (fun c => decide (c.length = 0))) Tryz.call26; exact ArgsD.cons (OpD.t rfl) (ArgsD.cons ⟨ZOC Tryz.call115 fun x => ZMT x⟩ ArgsD.nil)) | fail); all_goals infer_instance)); dsimp only [ZB, z0, z1]) | refine WC.ret ?_)); all_goals (first | ((repeat clear hK); (repeat clear Kx))))
 all_goals ((refine ⟨trivial, _, rfl, ?_⟩; exact fD))
set_option maxHeartbeats 8000000 in
theorem ZGj (v : Value) (xs : List Int) (hxl : xs.length ≤ 1000000) (gf : FuncId) (caps : List Value) (he : ZBu Tryz.prog gf) (O : List HObj) (p : Int -> Bool)
  (hcl : ∀ x ∈ xs, CallC Tryz.prog gf ([dI x] ++ caps.map dX) O (fun d hp2 => d = dB (p x) /\ hp2 = O)) :
  CallC Tryz.prog 105 ([dX v, dX (.func (.func gf) #[] caps.toArray)] ++ ([] : List Value).map dX) (ZS v tI RI xs :: O) (fun d hp2 => ∃ v', d = dX v' /\ hp2 = ZS v' tI RI (xs.filter fun x => !p x) :: O) := by
 (refine Zo Tryz.func105 rfl rfl (fun hp => ?_); simp only [Tryz.ntmps105, List.length_cons, List.length_nil, List.length_append, List.length_map, Nat.reduceAdd, Nat.reduceSub, List.replicate_succ, List.replicate_zero, List.cons_append, List.nil_append, List.map_cons, List.map_nil, List.append_assoc])
 have hI := ZKY v xs 0 (Nat.zero_le _) hxl gf caps he O p (fun x hx => (hcl x (by simpa using hx)).front _)
 rw [ZKO, List.drop_zero] at hI
 rcases ZFV p xs with ⟨h1, h2⟩ | ⟨k, hk, h1, h2, h3⟩
 ·rw [h1] at hI
  ((repeat' (first | (apply WL.opN; exact yF; dsimp only [ZB, z0, z1]) | refine WL.nil ?_ | refine ZA fun Kx hK => ?_ | (refine hK _ _ ?_; clear hK) | refine WC.region ?_ |  (refine WL.callC (hp1 := ZS v tI RI xs :: O) (caps := []) hI Tryz.call96 OpD.f (ArgsD.cons (OpD.t rfl) (ArgsD.cons (OpD.t rfl) ArgsD.nil)) ?_; rintro d' hp2 ⟨rfl, rfl⟩; dsimp only [ZB, z0, z1, List.cons_append]) | (apply WL.opN; (focus ((first | ((first | apply SY.move | apply SY.assign | apply SY.lss | apply SY.eql | apply SY.not) <;> (exact oD)) | fail); all_goals infer_instance)); dsimp only [ZB, z0, z1]) | (apply ZC; (exact oD); all_goals (intro h; try exact xD)) | refine WC.ret ?_ | refine ThenD.r ?_)); all_goals (first | ((repeat clear hK); (repeat clear Kx))))
  all_goals try (exfalso; first | contradiction | omega)
  exact ⟨trivial, _, ZS v tI RI xs :: O, rfl, rfl, v, rfl, by rw [show (xs.filter fun x => !p x) = xs from List.filter_eq_self.2 fun x hx => by simp [h2 x hx]]⟩
 ·rw [h1] at hI
  refine ZLQ (by omega) fun b cap hv hc1 hc2 => ?_
  subst hv
  simp only [maxLen] at hc2
  have hkn : (k : Int) ≠ -1 := by omega
  have hk0 : (xs.take k).filter (fun y => !p y) = xs.take k := ZHv (by omega) fun j hj => by simp [h3 j hj]
  (repeat' (first | (apply WL.opN; exact yF; dsimp only [ZB, z0, z1]) | refine WL.nil ?_ | refine ZA fun Kx hK => ?_ | (refine hK _ _ ?_; clear hK) | refine WC.region ?_ |  (refine WL.callC (hp1 := hQ b xs.length cap tI RI xs :: O) (caps := []) hI Tryz.call96 OpD.f (ArgsD.cons (OpD.t rfl) (ArgsD.cons (OpD.t rfl) ArgsD.nil)) ?_; rintro d' hp2 ⟨rfl, rfl⟩; dsimp only [ZB, z0, z1, List.cons_append]) | (apply WL.opN; (focus ((first | ((first | apply SY.move | apply SY.assign | apply SY.lss | apply SY.eql | apply SY.not) <;> (exact oD)) | ((first | apply SY.add) <;> first | exact oD | omega) | fail); all_goals infer_instance)); dsimp only [ZB, z0, z1]) | (apply ZC; (exact oD); all_goals (intro h; try exact xD)) | refine WC.skip ?_ | refine WC.block ?_))
  all_goals try (exfalso; first | contradiction | omega)
  (refine ZP (X := Nat × Nat × List Int) (fun x => [(6, dI (x.1 : Int)), (5, dI (x.2.1 : Int)), (7, dA), (16, dA), (17, dA), (18, dA), (19, dA), (20, dA), (21, dA), (22, dA), (23, dA), (24, dA), (25, dA), (26, dA), (27, dA), (28, dA), (29, dA), (30, dA), (31, dA), (32, dA), (33, dA), (34, dA), (35, dA)]) (fun x => (hQ b xs.length cap tI RI x.2.2 :: (O ++ hp))) (fun x => xs.length - x.1) (fun x => x.2.1 < x.1 /\ x.1 ≤ xs.length /\ x.2.1 = ((xs.take x.1).filter fun y => !p y).length /\ x.2.2 = ((xs.take x.1).filter fun y => !p y) ++ xs.drop x.2.1) (k + 1, k, xs) ?start ?frame0 ?objs0 ?round)
  case start =>
   have e := ZII (q := fun y => !p y) hk (by simp [h2])
   refine ⟨Nat.lt_succ_self _, by omega, ?_, ?_⟩
   ·rw [e, hk0, List.length_take]; show k = min k xs.length; omega
   ·rw [e, hk0, List.take_append_drop]
  case frame0 => ((try dsimp only [ZX, z0, z1]); repeat (first | exact LeF.nil | refine ZG (k := ?_)))
  case objs0 => rfl
  case round =>
   rintro ⟨j, i, ys⟩ ⟨q1, q2, q3, q4⟩
   simp only at q1 q2 q3 q4
   dsimp only [ZX, z0, z1]
   have hyl := ZNE q2 q3 q1 q4
   by_cases hj : j < xs.length
   ·have hlt : (j : Int) < (xs.length : Int) := by omega
    have hget := ZND hj q3 q1 q4 (by omega)
    have hC := (hcl _ (List.getElem_mem hj)).front (hQ b xs.length cap tI RI ys)
    rw [<- hget] at hC
    cases hp : p xs[j] with
    | false =>
     rw [hget, hp, <- hget] at hC
     obtain ⟨e1, e2⟩ := ZLl hj q3 q1 q4 (q := fun y => !p y) (by simp [hp])
     ((repeat' (first | (apply WL.opN; exact yF; dsimp only [ZB, z0, z1]) | refine WL.nil ?_ | refine ZA fun Kx hK => ?_ | (refine hK _ _ ?_; clear hK) | refine WC.region ?_ |  (refine WL.callC (hp1 := hQ b xs.length cap tI RI ys :: O) (caps := caps) hC he (OpD.t rfl) (ArgsD.cons (OpD.t rfl) ArgsD.nil) ?_; rintro d' hp2 ⟨rfl, rfl⟩; dsimp only [ZB, z0, z1, List.cons_append]) |  (apply ZJs (k := i) tyI; exact OpD.t rfl; exact OpD.t rfl; exact Zf; omega; omega; dsimp only [ZB, z0, z1]) | (apply WL.opN; (focus ((first | (apply ZJj (k := j) elI; exact OpD.t rfl; exact OpD.t rfl; rfl; omega) | (apply ZJj (k := i) elI; exact OpD.t rfl; exact OpD.t rfl; rfl; omega) | (apply ZH5 (k := j) tyI; exact OpD.t rfl; exact .head _; omega; omega) | ((first | apply SY.move | apply SY.assign | apply SY.lss | apply SY.eql | apply SY.not) <;> (exact oD)) | ((first | apply SY.add) <;> first | exact oD | omega) | (apply SY.len; (exact oD); (exact nD); (exact uD)) | fail); all_goals infer_instance)); dsimp only [ZB, z0, z1]) | (apply ZC; (exact oD); all_goals (intro h; try exact xD)) | (apply ZL; (exact oD); all_goals (intro h; try exact xD)) | refine WC.skip ?_ | refine WC.block ?_ | refine ThenD.n ?_)); all_goals (first | ((repeat clear hK); (repeat clear Kx))))
     all_goals try (exfalso; first | contradiction | omega)
     rw [hget, e1]
     (refine ⟨(j + 1, i + 1, (xs.take (j + 1)).filter (fun y => !p y) ++ xs.drop (i + 1)), ?_, by first | omega | (simp only; omega), rfl, ?_⟩; rotate_left; ((try dsimp only [ZX, z0, z1]); repeat (first | exact LeF.nil | refine ZG (k := ?_))); (try dsimp only))
     exact ⟨by omega, by omega, e2, rfl⟩
    | true =>
     rw [hget, hp, <- hget] at hC
     have e1 := ZII (q := fun y => !p y) hj (by simp [hp])
     ((repeat' (first | (apply WL.opN; exact yF; dsimp only [ZB, z0, z1]) | refine WL.nil ?_ | refine ZA fun Kx hK => ?_ | (refine hK _ _ ?_; clear hK) | refine WC.region ?_ |  (refine WL.callC (hp1 := hQ b xs.length cap tI RI ys :: O) (caps := caps) hC he (OpD.t rfl) (ArgsD.cons (OpD.t rfl) ArgsD.nil) ?_; rintro d' hp2 ⟨rfl, rfl⟩; dsimp only [ZB, z0, z1, List.cons_append]) | (apply WL.opN; (focus ((first | (apply ZJj (k := j) elI; exact OpD.t rfl; exact OpD.t rfl; rfl; omega) | (apply ZH5 (k := j) tyI; exact OpD.t rfl; exact .head _; omega; omega) | ((first | apply SY.move | apply SY.assign | apply SY.lss | apply SY.eql | apply SY.not) <;> (exact oD)) | ((first | apply SY.add) <;> first | exact oD | omega) | (apply SY.len; (exact oD); (exact nD); (exact uD)) | fail); all_goals infer_instance)); dsimp only [ZB, z0, z1]) | (apply ZC; (exact oD); all_goals (intro h; try exact xD)) | (apply ZL; (exact oD); all_goals (intro h; try exact xD)) | refine WC.skip ?_ | refine WC.block ?_ | refine ThenD.n ?_)); all_goals (first | ((repeat clear hK); (repeat clear Kx))))
     all_goals try (exfalso; first | contradiction | omega)
     (refine ⟨(j + 1, i, ys), ?_, by first | omega | (simp only; omega), rfl, ?_⟩; rotate_left; ((try dsimp only [ZX, z0, z1]); repeat (first | exact LeF.nil | refine ZG (k := ?_))); (try dsimp only))
     exact ⟨by omega, by omega, by rw [e1]; exact q3, by rw [e1]; exact q4⟩
   ·obtain rfl : j = xs.length := by omega
    rw [List.take_length] at q3 q4
    have e1 : (ys.take i ++ List.replicate (xs.length - i) (0 : Int)).take i = xs.filter fun y => !p y := by
     rw [List.take_left' (by simp; omega), q4, List.take_left' q3.symm]
    ((repeat' (first | (apply WL.opN; exact yF; dsimp only [ZB, z0, z1]) | refine WL.nil ?_ | refine ZA fun Kx hK => ?_ | (refine hK _ _ ?_; clear hK) | (refine Kont.skip ?_; clear hK) | refine WC.region ?_ |  (apply ZJq (k := i) (n := xs.length - i) (x0 := (0 : Int)) Tryz.underlying25 Tryz.zeroValue3 rfl (fun _ _ => rfl); exact OpD.t rfl; omega; omega; omega; dsimp only [ZB, z0, z1]) |  (apply ZJu (l := i) elI; exact OpD.t rfl; exact OpD.t rfl; rfl; omega; omega; omega; (simp; omega); dsimp only [ZB, z0, z1]) | (apply WL.opN; (focus ((first | (apply SY.fromQ (l := i) elI; exact OpD.t rfl; exact OpD.t rfl; rfl; omega; omega) | ((first | apply SY.move | apply SY.assign | apply SY.lss | apply SY.eql | apply SY.not) <;> (exact oD)) | (apply SY.len; (exact oD); (exact nD); (exact uD)) | fail); all_goals infer_instance)); dsimp only [ZB, z0, z1]) | (apply ZC; (exact oD); all_goals (intro h; try exact xD)) | refine WC.ret ?_ | refine WC.exit ?_)); all_goals (first | ((repeat clear hK); (repeat clear Kx))))
    all_goals try (exfalso; first | contradiction | omega)
    rw [e1]
    exact ⟨trivial, _, _ :: O, rfl, rfl, _, rfl, rfl⟩
theorem ZHU (v3 : Value) (x y : Int) (hx : x.natAbs ≤ 1000000) : CallC Tryz.prog 116 ([dI y] ++ [v3].map dX) [ZC9 v3 (dP 1 false (dI x))] (fun d hp2 => d = dB (decide (y = -x)) /\ hp2 = [ZC9 v3 (dP 1 false (dI x))]) := by
 (refine Zo Tryz.func116 rfl rfl (fun hp => ?_); simp only [Tryz.ntmps116, List.length_cons, List.length_nil, List.length_append, List.length_map, Nat.reduceAdd, Nat.reduceSub, List.replicate_succ, List.replicate_zero, List.cons_append, List.nil_append, List.map_cons, List.map_nil, List.append_assoc])
 ((repeat' (first | (apply WL.opN; exact yF; dsimp only [ZB, z0, z1]) | refine WL.nil ?_ | refine ZA fun Kx hK => ?_ | (refine hK _ _ ?_; clear hK) | refine WC.region ?_ | (apply WL.opN; (focus ((first | (exact Zv tyI (OpD.t rfl) (mAt 0 rfl)) | (exact SY.neg (OpD.t rfl) (by omega)) | ((first | apply SY.move | apply SY.assign | apply SY.eql) <;> (exact oD)) | fail); all_goals infer_instance)); dsimp only [ZB, z0, z1]) | refine WC.ret ?_)); all_goals (first | ((repeat clear hK); (repeat clear Kx))))
 all_goals exact ⟨trivial, _, [_], rfl, rfl, rfl, rfl⟩
theorem ZLc {l : List (List Int)} {x : Int} {i : Nat} (h : i < l.length) : ZCY (l.take (i + 1)) x = ZCY (l.take i) x ++ if x ∈ l[i] then [] else [l[i].filter fun y => !decide (y = -x)] := by
 unfold ZCY
 rw [List.take_succ_eq_append_getElem h, List.filter_append, List.map_append]
 congr 1
 by_cases e : x ∈ l[i]
 ·rw [if_pos e, List.filter_cons, if_neg (by simp [e])]; rfl
 ·rw [if_neg e, List.filter_cons, if_pos (by simp [e])]; rfl
theorem ZJz (l : List (List Int)) (x : Int) : (ZCY l x).length ≤ l.length := by
 unfold ZCY
 rw [List.length_map]
 exact List.length_filter_le _ _
set_option maxHeartbeats 8000000 in
theorem ZCt (l : List (List Int)) (x : Int) (hl : l.length ≤ 1000000) (hc : ∀ c ∈ l, c.length ≤ 1000000) (hx : x.natAbs ≤ 1000000) : Fn Tryz.prog 95 [dS Rows l, dI x] (dS Rows (ZCY l x)) := by
 (refine Zb Tryz.func95 rfl rfl ?_; simp only [Tryz.ntmps95, List.length_cons, List.length_nil, Nat.reduceAdd, Nat.reduceSub, List.replicate_succ, List.replicate_zero, List.cons_append, List.nil_append])
 (repeat' (first |  (refine WC.only 1 (Halt.go ?_)) | (apply WL.opN; exact yF; dsimp only [ZB, z0, z1]) | refine WL.nil ?_ | refine ZA fun Kx hK => ?_ | (refine hK _ _ ?_; clear hK) | refine WC.region ?_ | (apply WL.opN; (focus ((first | (apply SY.box; (exact oD); (exact hD)) | fail); all_goals infer_instance)); dsimp only [ZB, z0, z1])))
 refine ⟨?_⟩
 refine WC.pin 3 rfl fun v3 => ?_
 dsimp only [z0, z1]
 refine ZAH 25 ZW ?_
 (repeat' (first | (apply WL.opN; exact yF; dsimp only [ZB, z0, z1]) | refine WL.nil ?_ | refine ZA fun Kx hK => ?_ | (refine hK _ _ ?_; clear hK) | refine WC.region ?_ | (apply WL.opN; (focus ((first | (apply SY.len; (exact oD); (exact nD); (exact uD)) | fail); all_goals infer_instance)); dsimp only [ZB, z0, z1]) | refine WC.block ?_))
 (refine ZP (X := Nat × Value) (fun z => [(10, dI (z.1 : Int)), (5, dX z.2), (7, dA), (11, dA), (12, dA), (13, dA), (14, dA), (15, dA), (16, dA), (17, dA), (18, dA), (19, dA), (20, dA), (21, dA), (22, dA), (23, dA), (24, dA), (25, dA)]) (fun z => ([ZS z.2 25 ZW (ZCY (l.take z.1) x), ZC9 v3 (dP 1 false (dI x))])) (fun z => l.length - z.1) (fun z => z.1 ≤ l.length) (0, ZCX) ?start ?frame0 ?objs0 ?round)
 case start => exact Nat.zero_le _
 case frame0 => ((try dsimp only [ZX, z0, z1]); repeat (first | exact LeF.nil | refine ZG (k := ?_)))
 case objs0 => rfl
 case round =>
  rintro ⟨i, vo⟩ hi
  simp only at hi
  dsimp only [ZX, z0, z1]
  by_cases hil : i < l.length
  ·have hlt : (i : Int) < (l.length : Int) := by omega
   have hci := hc _ (List.getElem_mem hil)
   have et := ZLc (x := x) hil
   have hal := ZJz (l.take i) x
   rw [List.length_take] at hal
   have h24 : ((ZCY (l.take i) x).length + 1) * 24 ≤ 140737488355328 := by omega
   by_cases hm : x ∈ l[i]
   ·have hmb : decide (x ∈ l[i]) = true := by simpa using hm
    rw [if_pos hm, List.append_nil] at et
    have hcn := ZCg l[i] x
    rw [hmb] at hcn
    ((repeat' (first | (apply WL.opN; exact yF; dsimp only [ZB, z0, z1]) | refine WL.nil ?_ | refine ZA fun Kx hK => ?_ | (refine hK _ _ ?_; clear hK) | refine WC.region ?_ | (apply WL.opN; (focus ((first | (refine ZAy (R := ZW) (_gR := inferInstance) (k := i) ZB7 (OpD.t rfl) (OpD.t rfl) hil) | (exact Zv tyI (OpD.t rfl) (mAt 1 rfl)) | (apply SY.call (hcn) Tryz.call10; (exact aD)) | ((first | apply SY.move | apply SY.assign | apply SY.lss | apply SY.not) <;> (exact oD)) | ((first | apply SY.add) <;> first | exact oD | omega) | fail); all_goals infer_instance)); dsimp only [ZB, z0, z1]) | (apply ZC; (exact oD); all_goals (intro h; try exact xD)) | (apply ZL; (exact oD); all_goals (intro h; try exact xD)) | refine WC.skip ?_ | refine WC.block ?_ | refine ThenD.n ?_)); all_goals (first | ((repeat clear hK); (repeat clear Kx))))
    all_goals try (exfalso; first | contradiction | omega)
    rw [<- et]
    (refine ⟨(i + 1, vo), ?_, by first | omega | (simp only; omega), rfl, ?_⟩; rotate_left; ((try dsimp only [ZX, z0, z1]); repeat (first | exact LeF.nil | refine ZG (k := ?_))); (try dsimp only))
    omega
   ·have hmb : decide (x ∈ l[i]) = false := by simpa using hm
    rw [if_neg hm] at et
    have hcn := ZCg l[i] x
    rw [hmb] at hcn
    have hD := fun v => ZGj v l[i] hci 116 [v3] Tryz.call116 [ZC9 v3 (dP 1 false (dI x))] (fun y => decide (y = -x)) (fun y _ => ZHU v3 x y hx)
    ((repeat' (first | (apply WL.opN; exact yF; dsimp only [ZB, z0, z1]) | refine WL.nil ?_ | refine ZA fun Kx hK => ?_ | (refine hK _ _ ?_; clear hK) | refine WC.region ?_ |  (refine WL.callC (hp1 := []) (caps := []) (ZDk l[i] hci) Tryz.call45 OpD.f (by (exact aD)) ?_; rintro d' hp2 ⟨vc, rfl, rfl⟩; dsimp only [ZB, z0, z1, List.cons_append, List.nil_append]) |  (refine ZAv (hp1 := [ZS vc tI RI l[i], ZC9 v3 (dP 1 false (dI x))]) (caps := []) (hD vc) Tryz.call105 OpD.f (ArgsD.cons (OpD.t rfl) (ArgsD.cons (OpD.t rfl) ArgsD.nil)) (hq := [ZS vo 25 ZW (ZCY (l.take i) x)]) (List.Perm.cons _ (List.Perm.swap _ _ _)) ?_; rintro d' hp2 ⟨vd, rfl, rfl⟩; dsimp only [ZB, z0, z1, List.cons_append, List.nil_append]; refine ZCQ (s := 22) rfl (WL.perm (List.Perm.swap _ _ _) ?_); dsimp only [z0, z1]) |  (refine ZK (SW.app1 ZB7 (R := ZW) (_gR := inferInstance) (OpD.t rfl) (OpD.t rfl) (by decide) h24) fun vo2 => ?_; dsimp only [ZB, z0, z1]) | (apply WL.opN; (focus ((first | (refine ZAy (R := ZW) (_gR := inferInstance) (k := i) ZB7 (OpD.t rfl) (OpD.t rfl) hil) | (exact Zv tyI (OpD.t rfl) (mAt 1 rfl)) | (apply SY.call (hcn) Tryz.call10; (exact aD)) | (exact ZBJ (vs := [v3]) (ArgsX.one (OpD.t rfl))) | (exact SY.build1' ZB7 (R := ZW) (_gR := inferInstance) (els := [l[i].filter fun y => !decide (y = -x)]) (Zt (OpD.t rfl) Zy) rfl rfl (fun _ => ZAA) (by simp)) | ((first | apply SY.move | apply SY.assign | apply SY.lss | apply SY.not) <;> (exact oD)) | ((first | apply SY.add) <;> first | exact oD | omega) | fail); all_goals infer_instance)); dsimp only [ZB, z0, z1]) | (apply ZC; (exact oD); all_goals (intro h; try exact xD)) | (apply ZL; (exact oD); all_goals (intro h; try exact xD)) | refine WC.skip ?_ | refine WC.block ?_ | refine ThenD.n ?_)); all_goals (first | ((repeat clear hK); (repeat clear Kx))))
    all_goals try (exfalso; first | contradiction | omega)
    rw [<- et]
    (refine ⟨(i + 1, vo2), ?_, by first | omega | (simp only; omega), rfl, ?_⟩; rotate_left; ((try dsimp only [ZX, z0, z1]); repeat (first | exact LeF.nil | refine ZG (k := ?_))); (try dsimp only))
    omega
  ·have hlt : ¬ (i : Int) < (l.length : Int) := by omega
   obtain rfl : i = l.length := by omega
   rw [List.take_length]
   ((repeat' (first | (apply WL.opN; exact yF; dsimp only [ZB, z0, z1]) | refine WL.nil ?_ | refine ZA fun Kx hK => ?_ | (refine hK _ _ ?_; clear hK) | (refine Kont.skip ?_; clear hK) | refine WC.region ?_ | (apply WL.opN; (focus ((first | ((first | apply SY.move | apply SY.assign | apply SY.lss | apply SY.not) <;> (exact oD)) | fail); all_goals infer_instance)); dsimp only [ZB, z0, z1]) | (apply ZC; (exact oD); all_goals (intro h; try exact xD)) | refine WC.ret ?_ | refine WC.exit ?_)); all_goals (first | ((repeat clear hK); (repeat clear Kx))))
   all_goals try (exfalso; first | contradiction | omega)
   (refine ⟨trivial, _, rfl, ?_⟩; exact fD)
theorem ZJ0 {l : List (List Int)} {x : Int} {c : List Int} (h : c ∈ ZCY l x) : ∃ d ∈ l, c.length ≤ d.length /\ ∀ y ∈ c, y ∈ d /\ y ≠ x /\ y ≠ -x := by
 unfold ZCY at h
 obtain ⟨d, hd, rfl⟩ := List.mem_map.1 h
 obtain ⟨h1, h2⟩ := List.mem_filter.1 hd
 refine ⟨d, h1, List.length_filter_le _ _, fun y hy => ?_⟩
 obtain ⟨h3, h4⟩ := List.mem_filter.1 hy
 refine ⟨h3, fun e => ?_, fun e => ?_⟩
 ·rw [e] at h3; simp [h3] at h2
 ·simp [e] at h4
structure FromV (V v : Nat) (l : List (List Int)) : Prop where
 len : l.length ≤ 1000000
 clen : ∀ c ∈ l, c.length ≤ 1000000
 rng : ∀ c ∈ l, ∀ y ∈ c, v ≤ y.natAbs /\ y.natAbs ≤ V
theorem FromV.asg {V v : Nat} {l : List (List Int)} (h : FromV V v l) {x : Int} (hx : x = (v : Int) \/ x = -(v : Int)) : FromV V (v + 1) (ZCY l x) := by
 refine ⟨Nat.le_trans (ZJz l x) h.len, fun c hc => ?_, fun c hc y hy => ?_⟩
 ·obtain ⟨d, h1, h2, _⟩ := ZJ0 hc
  exact Nat.le_trans h2 (h.clen d h1)
 ·obtain ⟨d, h1, _, h3⟩ := ZJ0 hc
  obtain ⟨q1, q2, q3⟩ := h3 y hy
  have := h.rng d h1 y q1
  omega
theorem ZJn {P : Program} {ops : Array Oper} {hp : List HObj} {fr : List Dat} {dst : Option Tmp} {ty : TypeId} {ps : String} {af : Array Edge} {g : Option (Nat × Bool)} {T T2 : TypeId} {x y : Operand} {p q c : Int} (h : ishl p q = c) (h0 : 0 ≤ q) (hx : OpD fr x (dI p)) (hy : OpD fr y (dI q)) : SY P ops hp ⟨dst, .binOp .shl T x y T2, ty, ps, af, g⟩ fr (dI c) := h ▸ SY.shl hx hy h0
theorem ZK5 : ∀ n : Nat, n ≤ 20 -> ishl 1 (n : Int) = ((2 ^ n : Nat) : Int) := by decide +kernel
theorem ZIE : ∀ (n : Nat) (v : Int) (l : List (List Int)), ZDQ n v l ≤ 2 ^ n
 | 0, v, l => by unfold ZDQ; repeat' split <;> simp
 | n + 1, v, l => by
  unfold ZDQ
  split
  ·exact Nat.zero_le _
  ·split
   ·exact Nat.le_refl _
   ·have h1 := ZIE n (v + 1) (ZCY l v)
    have h2 := ZIE n (v + 1) (ZCY l (-v))
    rw [Nat.pow_succ]; omega
set_option maxHeartbeats 8000000 in
theorem ZNB (V : Nat) (hV : V ≤ 20) : ∀ (n v : Nat) (l : List (List Int)), v + n = V + 1 -> 1 ≤ v -> FromV V v l -> Fn Tryz.prog 69 [dI (V : Int), dI (v : Int), dS Rows l] (dI ((ZDQ n (v : Int) l : Nat) : Int)) := by
 intro n
 induction n with
 | zero =>
  intro v l hn hv hl
  (refine Zb Tryz.func69 rfl rfl ?_; simp only [Tryz.ntmps69, List.length_cons, List.length_nil, Nat.reduceAdd, Nat.reduceSub, List.replicate_succ, List.replicate_zero, List.cons_append, List.nil_append])
  have hw := ZGQ l
  cases he : ZBa l with
  | true =>
   rw [he] at hw
   have e : ZDQ 0 (v : Int) l = 0 := by unfold ZDQ; rw [if_pos he]
   rw [e]
   ((repeat' (first | (apply WL.opN; exact yF; dsimp only [ZB, z0, z1]) | refine WL.nil ?_ | refine ZA fun Kx hK => ?_ | (refine hK _ _ ?_; clear hK) | refine WC.region ?_ | (apply WL.opN; (focus ((first | (apply SY.call (hw) Tryz.call94; (exact aD)) | fail); all_goals infer_instance)); dsimp only [ZB, z0, z1]) | (apply Zj; (exact oD); (with_reducible rfl)) | refine WC.ret ?_ | refine WC.block ?_ | refine ThenD.r ?_ | refine InBlockD.r ?_)); all_goals (first | ((repeat clear hK); (repeat clear Kx))))
   all_goals try (exfalso; first | contradiction | omega)
   (refine ⟨trivial, _, rfl, ?_⟩; exact fD)
  | false =>
   rw [he] at hw
   have h0 : l.length = 0 := Classical.byContradiction fun q => by
    have hlt : 0 < l.length := by omega
    have h1 := List.any_eq_false.1 he l[0] (List.getElem_mem hlt)
    have h2 : 0 < (l[0]).length := by simp at h1; exact List.length_pos_iff.2 h1
    have := hl.rng l[0] (List.getElem_mem hlt) (l[0])[0] (List.getElem_mem h2)
    omega
   have e : ZDQ 0 (v : Int) l = 1 := by unfold ZDQ; rw [if_neg (by simp [he]), if_pos h0]
   rw [e]
   have hsh := ZK5 0 (by omega)
   have h0i : ((l.length : Nat) : Int) = 0 := by omega
   have hq : (V : Int) - (v : Int) + 1 = ((0 : Nat) : Int) := by omega
   ((repeat' (first | (apply WL.opN; exact yF; dsimp only [ZB, z0, z1]) | refine WL.nil ?_ | refine ZA fun Kx hK => ?_ | (refine hK _ _ ?_; clear hK) | refine WC.region ?_ | (apply WL.opN; (focus ((first | (apply SY.call (hw) Tryz.call94; (exact aD)) | (exact ZJn (c := 1) (by rw [hq]; exact hsh) (by omega) Zl (OpD.t rfl)) | ((first | apply SY.move | apply SY.assign | apply SY.eql) <;> (exact oD)) | ((first | apply SY.add | apply SY.sub) <;> first | exact oD | omega) | (apply SY.len; (exact oD); (exact nD); (exact uD)) | fail); all_goals infer_instance)); dsimp only [ZB, z0, z1]) | (apply Zg; (exact oD); (with_reducible rfl)) | (apply ZC; (exact oD); all_goals (intro h; try exact xD)) | refine WC.ret ?_ | refine WC.block ?_ | refine ThenD.r ?_ | refine InBlockD.r ?_)); all_goals (first | ((repeat clear hK); (repeat clear Kx))))
   all_goals try (exfalso; first | contradiction | omega)
   (refine ⟨trivial, _, rfl, ?_⟩; exact fD)
 | succ n ih =>
  intro v l hn hv hl
  (refine Zb Tryz.func69 rfl rfl ?_; simp only [Tryz.ntmps69, List.length_cons, List.length_nil, Nat.reduceAdd, Nat.reduceSub, List.replicate_succ, List.replicate_zero, List.cons_append, List.nil_append])
  have hw := ZGQ l
  cases he : ZBa l with
  | true =>
   rw [he] at hw
   have e : ZDQ (n + 1) (v : Int) l = 0 := by unfold ZDQ; rw [if_pos he]
   rw [e]
   ((repeat' (first | (apply WL.opN; exact yF; dsimp only [ZB, z0, z1]) | refine WL.nil ?_ | refine ZA fun Kx hK => ?_ | (refine hK _ _ ?_; clear hK) | refine WC.region ?_ | (apply WL.opN; (focus ((first | (apply SY.call (hw) Tryz.call94; (exact aD)) | fail); all_goals infer_instance)); dsimp only [ZB, z0, z1]) | (apply Zj; (exact oD); (with_reducible rfl)) | refine WC.ret ?_ | refine WC.block ?_ | refine ThenD.r ?_ | refine InBlockD.r ?_)); all_goals (first | ((repeat clear hK); (repeat clear Kx))))
   all_goals try (exfalso; first | contradiction | omega)
   (refine ⟨trivial, _, rfl, ?_⟩; exact fD)
  | false =>
   rw [he] at hw
   by_cases h0 : l.length = 0
   ·have e : ZDQ (n + 1) (v : Int) l = 2 ^ (n + 1) := by unfold ZDQ; rw [if_neg (by simp [he]), if_pos h0]
    rw [e]
    have hsh := ZK5 (n + 1) (by omega)
    have h0i : ((l.length : Nat) : Int) = 0 := by omega
    have hq : (V : Int) - (v : Int) + 1 = ((n + 1 : Nat) : Int) := by omega
    generalize hN : ((2 ^ (n + 1) : Nat) : Int) = N at hsh ⊢
    ((repeat' (first | (apply WL.opN; exact yF; dsimp only [ZB, z0, z1]) | refine WL.nil ?_ | refine ZA fun Kx hK => ?_ | (refine hK _ _ ?_; clear hK) | refine WC.region ?_ | (apply WL.opN; (focus ((first | (apply SY.call (hw) Tryz.call94; (exact aD)) | (exact ZJn (c := N) (by rw [hq]; exact hsh) (by omega) Zl (OpD.t rfl)) | ((first | apply SY.move | apply SY.assign | apply SY.eql) <;> (exact oD)) | ((first | apply SY.add | apply SY.sub) <;> first | exact oD | omega) | (apply SY.len; (exact oD); (exact nD); (exact uD)) | fail); all_goals infer_instance)); dsimp only [ZB, z0, z1]) | (apply Zg; (exact oD); (with_reducible rfl)) | (apply ZC; (exact oD); all_goals (intro h; try exact xD)) | refine WC.ret ?_ | refine WC.block ?_ | refine ThenD.r ?_ | refine InBlockD.r ?_)); all_goals (first | ((repeat clear hK); (repeat clear Kx))))
    all_goals try (exfalso; first | contradiction | omega)
    (refine ⟨trivial, _, rfl, ?_⟩; exact fD)
   ·have e : ZDQ (n + 1) (v : Int) l = ZDQ n ((v : Int) + 1) (ZCY l (v : Int)) + ZDQ n ((v : Int) + 1) (ZCY l (-(v : Int))) := by
     conv => lhs; unfold ZDQ
     rw [if_neg (by simp [he]), if_neg h0]
    rw [e]
    have hc1 := ZIE n ((v : Int) + 1) (ZCY l (v : Int))
    have hc2 := ZIE n ((v : Int) + 1) (ZCY l (-(v : Int)))
    have hp : 2 ^ n ≤ 2 ^ 20 := Nat.pow_le_pow_right (by decide) (by omega)
    have hp2 : (2 : Nat) ^ 20 = 1048576 := by decide
    have h1 := ih (v + 1) (ZCY l (v : Int)) (by omega) (by omega) (hl.asg (.inl rfl))
    have h2 := ih (v + 1) (ZCY l (-(v : Int))) (by omega) (by omega) (hl.asg (.inr rfl))
    rw [Int.natCast_add] at h1 h2
    have ha1 := ZCt l (v : Int) hl.len hl.clen (by omega)
    have ha2 := ZCt l (-(v : Int)) hl.len hl.clen (by omega)
    generalize ZDQ n ((v : Int) + 1) (ZCY l (v : Int)) = k1 at *
    generalize ZDQ n ((v : Int) + 1) (ZCY l (-(v : Int))) = k2 at *
    have h0i : ¬ ((l.length : Nat) : Int) = 0 := by omega
    ((repeat' (first | (apply WL.opN; exact yF; dsimp only [ZB, z0, z1]) | refine WL.nil ?_ | refine ZA fun Kx hK => ?_ | (refine hK _ _ ?_; clear hK) | refine WC.region ?_ | (apply WL.opN; (focus ((first | (apply SY.call (hw) Tryz.call94; (exact aD)) | (exact SY.neg (OpD.t rfl) (by omega)) | (apply SY.call (ha1) Tryz.call95; exact ArgsD.cons (OpD.t rfl) (ArgsD.cons (OpD.t rfl) (ArgsD.nil))) | (apply SY.call (ha2) Tryz.call95; exact ArgsD.cons (OpD.t rfl) (ArgsD.cons (OpD.t rfl) (ArgsD.nil))) | (apply SY.call (h1) Tryz.call69; exact ArgsD.cons (OpD.t rfl) (ArgsD.cons (OpD.t rfl) (ArgsD.cons (OpD.t rfl) (ArgsD.nil)))) | (apply SY.call (h2) Tryz.call69; exact ArgsD.cons (OpD.t rfl) (ArgsD.cons (OpD.t rfl) (ArgsD.cons (OpD.t rfl) (ArgsD.nil)))) | ((first | apply SY.move | apply SY.assign | apply SY.eql) <;> (exact oD)) | ((first | apply SY.add | apply SY.sub) <;> first | exact oD | omega) | (apply SY.len; (exact oD); (exact nD); (exact uD)) | fail); all_goals infer_instance)); dsimp only [ZB, z0, z1]) | (apply Zg; (exact oD); (with_reducible rfl)) | (apply ZC; (exact oD); all_goals (intro h; try exact xD)) | refine WC.skip ?_ | refine WC.ret ?_ | refine WC.block ?_)); all_goals (first | ((repeat clear hK); (repeat clear Kx))))
    all_goals try (exfalso; first | contradiction | omega)
    (refine ⟨trivial, _, rfl, ?_⟩; exact fD)
theorem ZIN {V : Nat} (hV : V ≤ 4096) {l : List (List Int)} (hl : WfL V l) (hll : l.length ≤ 1000000) : FromV V 1 l := by
 refine ⟨hll, fun c hc => ?_, fun c hc y hy => ?_⟩
 ·have := S43.trail_len (V := V) (hl c hc).rng ((hl c hc).inc.imp fun h => by omega)
  omega
 ·have := (hl c hc).rng y hy
  omega
theorem ZFX {V : Nat} (hV : V ≤ 4096) {l : List (List Int)} (hl : WfL V l) : IRR l := fun c hc x hx => by
 have := ((hl c hc).rng x hx).2
 unfold IR; omega
theorem ZKB (V : Nat) (l : List (List Int)) (hV : V ≤ 10) (hck : ZQ (V : Int) l = 0) : Fn Tryz.prog 31 [dS Cls ((V : Int), l)] (dT [dI (((ZB6 V l []).length : Nat) : Int), dI 0]) := by
 obtain ⟨_, _, hll, hcl⟩ := Zc hck
 have hl : WfL V l := (Zs (by omega)).1 hcl
 have h1 := ZBT (V : Int) l (ZFX (by omega) hl)
 rw [hck] at h1
 have h2 := ZNB V (by omega) V 1 l (by omega) (by omega) (ZIN (by omega) hl (by omega))
 rw [show ZDQ V ((1 : Nat) : Int) l = (ZB6 V l []).length from ZIv fun c hc x hx => (hl c hc).rng x hx] at h2
 (refine ZAM Tryz.func31 rfl rfl ?_; simp only [Tryz.ntmps31, List.length_cons, List.length_nil, Nat.reduceAdd, Nat.reduceSub, List.replicate_succ, List.replicate_zero, List.cons_append, List.nil_append])
 ((repeat' (first | (apply WL.opN; exact yF; dsimp only [ZB, z0, z1]) | refine WL.nil ?_ | refine ZA fun Kx hK => ?_ | (refine hK _ _ ?_; clear hK) | refine WC.region ?_ | (apply WL.opN; (focus ((first | (apply SY.call (h1) Tryz.call42; (exact aD)) | (apply SY.call h2 Tryz.call69; exact ArgsD.cons (OpD.t rfl) (ArgsD.cons Zl (ArgsD.cons (OpD.t rfl) ArgsD.nil))) | ((first | apply SY.move | apply SY.assign | apply SY.gtr | apply SY.neq) <;> (exact oD)) | (apply ZT clT; exact OpD.t rfl) | (apply ZU clT; exact OpD.t rfl) | (apply SY.box; (exact oD); (exact hD)) | fail); all_goals infer_instance)); dsimp only [ZB, z0, z1]) | (apply ZC; (exact oD); all_goals (intro h; try exact xD)) | (apply ZO; (exact oD); all_goals (intro h; try exact xD)) | refine WC.skip ?_ | refine WC.ret ?_)); all_goals (first | ((repeat clear hK); (repeat clear Kx))))
 all_goals try (exfalso; first | contradiction | omega)
 (refine ⟨trivial, ⟨_, rfl, ?_⟩, _, rfl, ?_⟩ <;> exact fD)
end
end Go.Proofs.YtjmignmnlpamjaaGreat
