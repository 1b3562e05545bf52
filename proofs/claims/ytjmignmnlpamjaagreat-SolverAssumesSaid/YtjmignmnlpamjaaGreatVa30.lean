/- Part 30: walks by contracts, and plain laws. -/
import Derived.Test.YtjmignmnlpamjaaGreatVa29
set_option linter.unusedVariables false
set_option linter.unusedSimpArgs false
set_option linter.unusedSectionVars false
set_option maxRecDepth 100000
set_option maxHeartbeats 4000000
namespace Go.Proofs.YtjmignmnlpamjaaGreat
section
open Go.RowKit
open S43 (up up_eq up_ne)
theorem ZIA {V : Int} {a : List Int} {k : Nat} (h : k < a.length) : ZEG V (a.take k) (a.drop k) = if ZA8 V a[k] = true then (if a[k] ∈ a.take k \/ -a[k] ∈ a.take k then 7 else ZEG V (a.take (k + 1)) (a.drop (k + 1))) else 2 := by
 rw [List.drop_eq_getElem_cons h, ZEG, List.take_succ_eq_append_getElem h]
abbrev aO (b6 bm : Nat) (a : List Int) : List HObj := [ZAB b6 88 1 false (dX (.map (some bm))), hG bm kvI ZAF kvI (pAs (asF a))]
set_option maxHeartbeats 8000000 in
theorem ZFs (V : Nat) (l : List (List Int)) (a : List Int) (hV : V ≤ 4096) (hr : IRR l) (hck : ZQ (V : Int) l = 0) (hA : Asn V a) :
  CallC Tryz.prog 57 ([dS Cls ((V : Int), l), dS ZW a] ++ ([] : List Value).map dX) [] (fun d hp2 => ∃ e2 e3, d = dT [e2, e3] /\ ∃ bm, e2 = dX (.map (some bm)) /\ e3 = dI 0 /\ hp2 = [hG bm kvI ZAF kvI (pAs (asF a))]) := by
 have h1 := ZBT (V : Int) l hr
 rw [hck] at h1
 have hal := hA.len
 refine ZBb Tryz.func57 rfl rfl (fun hp => ?_)
 -- @kinds clauses.assignment
 simp only [Tryz.ntmps57, List.length_cons, List.length_nil, List.length_append, List.length_map, Nat.reduceAdd, Nat.reduceSub, List.replicate_succ, List.replicate_zero, List.cons_append, List.nil_append, List.map_cons, List.map_nil, List.append_assoc]
 (repeat' (first | (apply WL.opN; exact yF; dsimp only [ZB, z0, z1]) | refine WL.nil ?_ | refine ZA fun Kx hK => ?_ | (refine hK _ _ ?_; clear hK) | refine WC.region ?_ |  (refine ZBd (dst := some 16) kvI ZAF kvI (pAs fun _ => 0) (fun _ => rfl) fun bm => ?_; dsimp only [ZB, z0, z1]) | (apply ZJ; (focus (first | exact wN | (apply SYG.yes; (exact wY); ((first | (apply SY.call (h1) Tryz.call42; (exact aD)) | ((first | apply SY.move | apply SY.assign | apply SY.lss | apply SY.gtr | apply SY.neq) <;> (exact oD)) | (apply SY.len; (exact oD); (exact nD); (exact uD)) | (apply SY.box; (exact oD); (exact hD)) | fail); all_goals infer_instance)))); dsimp only [ZB, z0, z1]) | (apply ZO; (exact oD); all_goals (intro h; try exact xD)) | refine WC.skip ?_ | refine WC.block ?_))
 all_goals try (exfalso; first | contradiction | omega)
 (refine ZP (X := Nat) (fun k => [(19, dI (k : Int)), (4, dA), (5, dA), (9, dA), (10, dA), (20, dA), (21, dA), (22, dA), (23, dA), (24, dA), (25, dA), (26, dA), (27, dA), (28, dA), (29, dA), (30, dA), (31, dA), (32, dA), (33, dA), (34, dA), (35, dA), (36, dA), (37, dA), (38, dA), (39, dA), (40, dA)]) (fun k => (hG bm kvI ZAF kvI (pAs (asF (a.take k))) :: hp)) (fun k => a.length - k) (fun k => k ≤ a.length) 0 ?start ?frame0 ?objs0 ?round)
 case start => exact Nat.zero_le _
 case frame0 => ((try dsimp only [ZX, z0, z1]); repeat (first | exact LeF.nil | refine ZG (k := ?_)))
 case objs0 => rfl
 case round =>
  rintro k hk
  dsimp only [ZX, z0, z1]
  by_cases hkl : k < a.length
  ·have hlt : (k : Int) < (a.length : Int) := by omega
   obtain ⟨x, hx⟩ : ∃ x, a[k] = x := ⟨_, rfl⟩
   have hxr := hA.rng x (by rw [<- hx]; exact List.getElem_mem hkl)
   have hv := ZB1 x
   rw [ZER hV hxr.2] at hv
   have h6 : ZAF ((x.natAbs : Nat) : Int) := by unfold ZAF; omega
   have hg1 : ¬ ((x.natAbs : Nat) : Int) < 1 := by omega
   have hg2 : ¬ ((x.natAbs : Nat) : Int) > (V : Int) := by omega
   have hpre : Asn V (a.take k ++ [x]) := by
    rw [<- hx, <- List.take_succ_eq_append_getElem hkl]
    exact ⟨fun y hy => hA.rng y (List.mem_of_mem_take hy), hA.dis.sublist (List.take_sublist _ _)⟩
   have hd := (List.pairwise_append.1 hpre.dis).2.2
   have h0 : asF (a.take k) x.natAbs = 0 := (ZEP _ _ rfl hpre.front x hxr.1).2.2 ⟨fun q => hd x q x (by simp) rfl, fun q => hd (-x) q x (by simp) (Int.natAbs_neg x)⟩
   have et : asF (a.take (k + 1)) = up (asF (a.take k)) x.natAbs x := by rw [List.take_succ_eq_append_getElem hkl, hx, ZFr]
   ((repeat' (first | (apply WL.opN; exact yF; dsimp only [ZB, z0, z1]) | refine WL.nil ?_ | refine ZA fun Kx hK => ?_ | (refine hK _ _ ?_; clear hK) | refine WC.region ?_ |  (refine ZK (SW.at 0 rfl fun q => ZA6 (pAs (up (asF (a.take k)) x.natAbs x)) ZKd ZAP (OpD.t rfl) (OpD.t rfl) isI (OpD.t rfl) isI h6 ZMk) fun _ => ?_; dsimp only [ZB, z0, z1]) | (apply ZJ; (focus (first | exact wN | (apply SYG.yes; (exact wY); ((first | (refine Z0 (R := RI) (_gR := inferInstance) elI hkl hx (OpD.t rfl) (OpD.t rfl)) | (apply SY.call (hv) Tryz.call50; (exact aD)) | (exact ZGX h0 (OpD.t rfl) (mAt 0 rfl) (OpD.t rfl) h6) | ((first | apply SY.move | apply SY.assign | apply SY.lss | apply SY.gtr | apply SY.neq) <;> (exact oD)) | ((first | apply SY.add) <;> first | exact oD | omega) | (apply SY.load; (exact tD); (exact oD)) | (apply ZT clT; exact OpD.t rfl) | (apply ZU clT; exact OpD.t rfl) | (apply Zp; (exact oD); (with_reducible rfl); (exact oD)) | fail); all_goals infer_instance)))); dsimp only [ZB, z0, z1]) | ((first | refine ZZ rfl rfl rfl (fun h => ?_) (fun h => ?_) | refine ZY rfl rfl rfl (fun h => ?_) (fun h => ?_) | refine ZV rfl rfl rfl (fun h => ?_) (fun h => ?_)) <;> (first | (exfalso; first | omega | contradiction) | (dsimp only [z0, z1]))) | (apply ZC; (exact oD); all_goals (intro h; try exact xD)) | (apply ZO; (exact oD); all_goals (intro h; try exact xD)) | refine WC.skip ?_ | refine WC.block ?_ | refine ThenD.n ?_)); all_goals (first | ((repeat clear hK); (repeat clear Kx))))
   all_goals try (exfalso; first | contradiction | omega)
   rw [<- et]
   (refine ⟨k + 1, ?_, by first | omega | (simp only; omega), rfl, ?_⟩; rotate_left; ((try dsimp only [ZX, z0, z1]); repeat (first | exact LeF.nil | refine ZG (k := ?_))); (try dsimp only))
   omega
  ·have hlt : ¬ (k : Int) < (a.length : Int) := by omega
   obtain rfl : k = a.length := by omega
   rw [List.take_length]
   ((repeat' (first | (apply WL.opN; exact yF; dsimp only [ZB, z0, z1]) | refine WL.nil ?_ | refine ZA fun Kx hK => ?_ | (refine hK _ _ ?_; clear hK) | (refine Kont.skip ?_; clear hK) | refine WC.region ?_ | (apply ZJ; (focus (first | exact wN | (apply SYG.yes; (exact wY); ((first | ((first | apply SY.move | apply SY.assign | apply SY.lss | apply SY.gtr | apply SY.neq) <;> (exact oD)) | fail); all_goals infer_instance)))); dsimp only [ZB, z0, z1]) | (apply ZC; (exact oD); all_goals (intro h; try exact xD)) | refine WC.ret ?_ | refine WC.exit ?_)); all_goals (first | ((repeat clear hK); (repeat clear Kx))))
   all_goals try (exfalso; first | contradiction | omega)
   exact ⟨trivial, _, _, dX (.map (some bm)), dI 0, [hG bm kvI ZAF kvI (pAs (asF a))], rfl, rfl, Dat.le_refl _, ZAk rfl, rfl, bm, rfl, rfl, rfl⟩
theorem as1_c (V : Nat) (b6 bm : Nat) (a : List Int) (y : Int) (hV : V ≤ 4096) (hA : Asn V a) (hy : y ≠ 0 /\ y.natAbs ≤ V) : CallC Tryz.prog 60 ([dI y] ++ [ZDE b6].map dX) (aO b6 bm a) (fun d hp2 => d = dB (decide (y ∈ a)) /\ hp2 = aO b6 bm a) := by
 have hv := ZB1 y
 rw [ZER hV hy.2] at hv
 have h6 : ZAF ((y.natAbs : Nat) : Int) := by unfold ZAF; omega
 have hs := (ZEP _ _ rfl hA y hy.1).1
 have he : decide (asF a y.natAbs = y) = decide (y ∈ a) := decide_eq_decide.2 hs
 rw [<- he]
 (refine Zo Tryz.func60 rfl rfl (fun hp => ?_); simp only [Tryz.ntmps60, List.length_cons, List.length_nil, List.length_append, List.length_map, Nat.reduceAdd, Nat.reduceSub, List.replicate_succ, List.replicate_zero, List.cons_append, List.nil_append, List.map_cons, List.map_nil, List.append_assoc])
 ((repeat' (first | ((first | apply WL.opN | apply WD.opN); exact yF; dsimp only [ZB, z0, z1]) | refine WL.nil ?_ | refine WD.nil ?_ | refine ZA fun Kx hK => ?_ | (refine hK _ _ ?_; clear hK) | refine WC.region ?_ | (apply WC.draw; kernel_rfl; kernel_rfl) | ((first | apply WL.opN | apply WD.opN); (focus ((first | (apply Z1 ZOO; exact OpD.t rfl; exact mAt 0 rfl) | (apply SY.call (hv) Tryz.call50; (exact aD)) | (exact ZGX rfl (OpD.t rfl) (mAt 1 rfl) (OpD.t rfl) h6) | ((first | apply SY.move | apply SY.assign | apply SY.eql) <;> (exact oD)) | fail); all_goals infer_instance)); dsimp only [ZB, z0, z1]) | refine WC.ret ?_)); all_goals (first | ((repeat clear hK); (repeat clear Kx))))
 all_goals exact ⟨trivial, _, aO b6 bm a, rfl, rfl, rfl, rfl⟩
theorem as2_c (V : Nat) (b6 bm : Nat) (a : List Int) (y : Int) (hV : V ≤ 4096) (hA : Asn V a) (hy : y ≠ 0 /\ y.natAbs ≤ V) : CallC Tryz.prog 62 ([dI y] ++ [ZDE b6].map dX) (aO b6 bm a) (fun d hp2 => d = dT [dI y, dB (decide (y ∉ a /\ -y ∉ a))] /\ hp2 = aO b6 bm a) := by
 have hv := ZB1 y
 rw [ZER hV hy.2] at hv
 have h6 : ZAF ((y.natAbs : Nat) : Int) := by unfold ZAF; omega
 have hs := (ZEP _ _ rfl hA y hy.1).2
 have he : decide (asF a y.natAbs = 0) = decide (y ∉ a /\ -y ∉ a) := decide_eq_decide.2 hs
 rw [<- he]
 refine ZD2 Tryz.func62 rfl rfl (fun hp => ?_)
 -- @kinds clauses.Assign$1$2
 simp only [Tryz.ntmps62, List.length_cons, List.length_nil, List.length_append, List.length_map, Nat.reduceAdd, Nat.reduceSub, List.replicate_succ, List.replicate_zero, List.cons_append, List.nil_append, List.map_cons, List.map_nil, List.append_assoc]
 ((repeat' (first | ((first | apply WL.opN | apply WD.opN); exact yF; dsimp only [ZB, z0, z1]) | refine WL.nil ?_ | refine WD.nil ?_ | refine ZA fun Kx hK => ?_ | (refine hK _ _ ?_; clear hK) | refine WC.region ?_ | (apply WC.draw; kernel_rfl; kernel_rfl) | ((first | apply WL.opN | apply WD.opN); (focus ((first | (apply Z1 ZOO; exact OpD.t rfl; exact mAt 0 rfl) | (apply SY.call (hv) Tryz.call50; (exact aD)) | (exact ZGX rfl (OpD.t rfl) (mAt 1 rfl) (OpD.t rfl) h6) | ((first | apply SY.move | apply SY.assign | apply SY.eql) <;> (exact oD)) | fail); all_goals infer_instance)); dsimp only [ZB, z0, z1]) | refine WC.ret ?_)); all_goals (first | ((repeat clear hK); (repeat clear Kx))))
 all_goals exact ⟨trivial, _, _, aO b6 bm a, rfl, rfl, rfl, rfl, rfl⟩
def ZGu (a c : List Int) : List Int := if Zx c a = true then [] else c.filter fun y => decide (y ∉ a /\ -y ∉ a)
theorem ZLY (a c : List Int) : (c.any fun y => decide (y ∈ a)) = Zx c a := by
 rw [Bool.eq_iff_iff, List.any_eq_true, Zn]
 simp
set_option maxHeartbeats 4000000 in
theorem as3_c (V : Nat) (b6 bm : Nat) (a c : List Int) (hV : V ≤ 4096) (hA : Asn V a) (hc : ∀ y ∈ c, y ≠ 0 /\ y.natAbs ≤ V) (hcl : c.length ≤ 1000000) : CallC Tryz.prog 58 ([dS ZW c] ++ [ZDE b6].map dX) (aO b6 bm a) (fun d hp2 => d = dT [dS ZW (ZGu a c), dB (!Zx c a)] /\ hp2 = aO b6 bm a) := by
 have h1 := ZHX c hcl 60 [ZDE b6] Tryz.call60 (aO b6 bm a) (fun y => decide (y ∈ a)) (fun y hy => as1_c V b6 bm a y hV hA (hc y hy))
 rw [ZLY] at h1
 have h2 := ZLZ c hcl 62 [ZDE b6] Tryz.call62 (aO b6 bm a) (fun y => decide (y ∉ a /\ -y ∉ a)) (fun y hy => as2_c V b6 bm a y hV hA (hc y hy))
 have key : CallC Tryz.prog 58 ([dS ZW c] ++ [ZDE b6].map dX) (aO b6 bm a) (fun d hp2 => ∃ e2 e3, d = dT [e2, e3] /\ e2 = dS ZW (ZGu a c) /\ e3 = dB (!Zx c a) /\ hp2 = aO b6 bm a) := by
  refine ZBb Tryz.func58 rfl rfl (fun hp => ?_)
  -- @kinds clauses.Assign$1
  simp only [Tryz.ntmps58, List.length_cons, List.length_nil, List.length_append, List.length_map, Nat.reduceAdd, Nat.reduceSub, List.replicate_succ, List.replicate_zero, List.cons_append, List.nil_append, List.map_cons, List.map_nil, List.append_assoc]
  cases ht : Zx c a with
  | true =>
   rw [ht] at h1
   ((repeat' (first | (apply WL.opN; exact yF; dsimp only [ZB, z0, z1]) | refine WL.nil ?_ | refine ZA fun Kx hK => ?_ | (refine hK _ _ ?_; clear hK) | refine WC.region ?_ |  (refine WL.callC (hp1 := aO b6 bm a) (caps := []) h1 Tryz.call59 OpD.f (ArgsD.cons (OpD.t rfl) (ArgsD.cons (OpD.t rfl) ArgsD.nil)) ?_; rintro d' hp2 ⟨rfl, rfl⟩; dsimp only [ZB, z0, z1, List.cons_append, List.nil_append]) | (apply WL.opN; (focus ((first | (exact ZBJ (vs := [ZDE b6]) (ArgsX.one (OpD.t rfl))) | fail); all_goals infer_instance)); dsimp only [ZB, z0, z1]) | (apply Zj; (exact oD); (with_reducible rfl)) | refine WC.ret ?_ | refine ThenD.r ?_)); all_goals (first | ((repeat clear hK); (repeat clear Kx))))
   all_goals try (exfalso; first | contradiction | omega)
   exact ⟨trivial, _, _, dS ZW (ZGu a c), dB (!true), aO b6 bm a, rfl, rfl, by unfold ZGu; rw [if_pos ht]; exact ZD, Dat.le_refl _, rfl, rfl, rfl, rfl⟩
  | false =>
   rw [ht] at h1
   ((repeat' (first | (apply WL.opN; exact yF; dsimp only [ZB, z0, z1]) | refine WL.nil ?_ | refine ZA fun Kx hK => ?_ | (refine hK _ _ ?_; clear hK) | refine WC.region ?_ |  (refine WL.callC (hp1 := aO b6 bm a) (caps := []) h1 Tryz.call59 OpD.f (ArgsD.cons (OpD.t rfl) (ArgsD.cons (OpD.t rfl) ArgsD.nil)) ?_; rintro d' hp2 ⟨rfl, rfl⟩; dsimp only [ZB, z0, z1, List.cons_append, List.nil_append]) |  (refine WL.callC (hp1 := aO b6 bm a) (caps := []) h2 Tryz.call61 OpD.f (ArgsD.cons (OpD.t rfl) (ArgsD.cons (OpD.t rfl) ArgsD.nil)) ?_; rintro d' hp2 ⟨vr, rfl, rfl⟩; dsimp only [ZB, z0, z1, List.cons_append, List.nil_append]; refine ZCQ (s := 10) rfl ?_; dsimp only [z0, z1]) | (apply WL.opN; (focus ((first | (exact ZBJ (vs := [ZDE b6]) (ArgsX.one (OpD.t rfl))) | fail); all_goals infer_instance)); dsimp only [ZB, z0, z1]) | (apply Zg; (exact oD); (with_reducible rfl)) | refine WC.skip ?_ | refine WC.ret ?_)); all_goals (first | ((repeat clear hK); (repeat clear Kx))))
   all_goals try (exfalso; first | contradiction | omega)
   exact ⟨trivial, _, _, dS ZW (ZGu a c), dB (!false), aO b6 bm a, rfl, rfl, by unfold ZGu; rw [if_neg (by rw [ht]; decide)]; exact Dat.le_refl _, Dat.le_refl _, rfl, rfl, rfl, rfl⟩
 exact key.monoK fun d hp2 ⟨e2, e3, h3, h4, h5, h6⟩ => ⟨by rw [h3, h4, h5], h6⟩
def ZDA (l : List (List Int)) (a : List Int) : List (List Int) := (l.filter fun c => !Zx c a).map (ZGu a)
theorem ZI2 {l : List (List Int)} {a : List Int} {i : Nat} (h : i < l.length) : ZDA (l.take (i + 1)) a = ZDA (l.take i) a ++ if (!Zx l[i] a) = true then [ZGu a l[i]] else [] := by
 unfold ZDA
 rw [ZGm h, List.map_append]
 congr 1
 split <;> rfl
theorem ZKa (l : List (List Int)) (a : List Int) : (ZDA l a).length ≤ l.length := by unfold ZDA; rw [List.length_map]; exact List.length_filter_le _ _
set_option maxHeartbeats 4000000 in
theorem ZLa (V : Nat) (b6 bm : Nat) (a : List Int) (l : List (List Int)) (hV : V ≤ 4096) (hA : Asn V a) (hl : ∀ c ∈ l, ∀ y ∈ c, y ≠ 0 /\ y.natAbs ≤ V) (hcl : ∀ c ∈ l, c.length ≤ 1000000) (hll : l.length ≤ 1000000) :
  CallC Tryz.prog 51 ([dS Rows l, dX (.func (.func 58) #[] #[ZDE b6])] ++ ([] : List Value).map dX) (aO b6 bm a) (fun d hp2 => ∃ v, d = dX v /\ hp2 = ZS v 25 ZW (ZDA l a) :: aO b6 bm a) := by
 (refine Zo Tryz.func51 rfl rfl (fun hp => ?_); simp only [Tryz.ntmps51, List.length_cons, List.length_nil, List.length_append, List.length_map, Nat.reduceAdd, Nat.reduceSub, List.replicate_succ, List.replicate_zero, List.cons_append, List.nil_append, List.map_cons, List.map_nil, List.append_assoc])
 refine ZAH 25 ZW ?_
 (repeat' (first | (apply WL.opN; exact yF; dsimp only [ZB, z0, z1]) | refine WL.nil ?_ | refine ZA fun Kx hK => ?_ | (refine hK _ _ ?_; clear hK) | refine WC.region ?_ | (apply WL.opN; (focus ((first | (apply SY.len; (exact oD); (exact nD); (exact uD)) | fail); all_goals infer_instance)); dsimp only [ZB, z0, z1]) | refine WC.block ?_))
 (refine ZP (X := Nat × Value) (fun z => [(12, dI (z.1 : Int)), (5, dX z.2), (7, dA), (8, dA), (9, dA), (13, dA), (14, dA), (15, dA), (16, dA), (17, dA), (18, dA), (19, dA), (20, dA), (21, dA), (22, dA), (23, dA), (24, dA), (25, dA), (26, dA), (27, dA)]) (fun z => (ZS z.2 25 ZW (ZDA (l.take z.1) a) :: (aO b6 bm a ++ hp))) (fun z => l.length - z.1) (fun z => z.1 ≤ l.length) (0, ZCX) ?start ?frame0 ?objs0 ?round)
 case start => exact Nat.zero_le _
 case frame0 => ((try dsimp only [ZX, z0, z1]); repeat (first | exact LeF.nil | refine ZG (k := ?_)))
 case objs0 => rfl
 case round =>
  rintro ⟨i, vo⟩ hi
  simp only at hi
  dsimp only [ZX, z0, z1]
  by_cases hin : i < l.length
  ·have hlt : (i : Int) < (l.length : Int) := by omega
   have hC := (as3_c V b6 bm a l[i] hV hA (hl _ (List.getElem_mem hin)) (hcl _ (List.getElem_mem hin))).front (ZS vo 25 ZW (ZDA (l.take i) a))
   have et := ZI2 (a := a) hin
   have hfl : (ZDA (l.take i) a).length ≤ l.length := Nat.le_trans (ZKa _ _) (by rw [List.length_take]; omega)
   have h24 : ((ZDA (l.take i) a).length + 1) * 24 ≤ 140737488355328 := by omega
   cases hq : Zx l[i] a with
   | false =>
    rw [hq] at hC et
    simp only [Bool.not_false, if_true] at et
    ((repeat' (first | (apply WL.opN; exact yF; dsimp only [ZB, z0, z1]) | refine WL.nil ?_ | refine ZA fun Kx hK => ?_ | (refine hK _ _ ?_; clear hK) | refine WC.region ?_ |  (refine WL.callC (hp1 := ZS vo 25 ZW (ZDA (l.take i) a) :: aO b6 bm a) (caps := [ZDE b6]) hC Tryz.call58 (OpD.t rfl) (ArgsD.cons (OpD.t rfl) ArgsD.nil) ?_; rintro d' hp2 ⟨rfl, rfl⟩; dsimp only [ZB, z0, z1, List.cons_append]) | ((first | apply WL.pushK | apply ZAS); (exact eD); exact OpD.t rfl; (exact oD); (intro _; exact hD); (exact (by simp)); (exact (by simp)); (first | exact ⟨by decide, by decide⟩ | skip); decide; (exact lD); (intro _; dsimp only [ZB, z0, z1]); all_goals (try infer_instance)) | (apply WL.opN; (focus ((first | (refine ZAy (R := ZW) (_gR := inferInstance) (k := i) ZB7 (OpD.t rfl) (OpD.t rfl) hin) | ((first | apply SY.move | apply SY.assign | apply SY.lss) <;> (exact oD)) | ((first | apply SY.add) <;> first | exact oD | omega) | (apply SY.extract; (exact oD); rfl) | fail); all_goals infer_instance)); dsimp only [ZB, z0, z1]) | (apply ZC; (exact oD); all_goals (intro h; try exact xD)) | (apply ZL; (exact oD); all_goals (intro h; try exact xD)) | refine WC.skip ?_ | refine WC.block ?_ | refine ThenD.n ?_)); all_goals (first | ((repeat clear hK); (repeat clear Kx))))
    all_goals try (exfalso; first | contradiction | omega)
    rw [<- et]
    (refine ⟨(i + 1, _), ?_, by first | omega | (simp only; omega), rfl, ?_⟩; rotate_left; ((try dsimp only [ZX, z0, z1]); repeat (first | exact LeF.nil | refine ZG (k := ?_))); (try dsimp only))
    omega
   | true =>
    rw [hq] at hC et
    simp only [Bool.not_true, Bool.false_eq_true, if_false, List.append_nil] at et
    ((repeat' (first | (apply WL.opN; exact yF; dsimp only [ZB, z0, z1]) | refine WL.nil ?_ | refine ZA fun Kx hK => ?_ | (refine hK _ _ ?_; clear hK) | refine WC.region ?_ |  (refine WL.callC (hp1 := ZS vo 25 ZW (ZDA (l.take i) a) :: aO b6 bm a) (caps := [ZDE b6]) hC Tryz.call58 (OpD.t rfl) (ArgsD.cons (OpD.t rfl) ArgsD.nil) ?_; rintro d' hp2 ⟨rfl, rfl⟩; dsimp only [ZB, z0, z1, List.cons_append]) | (apply WL.opN; (focus ((first | (refine ZAy (R := ZW) (_gR := inferInstance) (k := i) ZB7 (OpD.t rfl) (OpD.t rfl) hin) | ((first | apply SY.move | apply SY.assign | apply SY.lss) <;> (exact oD)) | ((first | apply SY.add) <;> first | exact oD | omega) | (apply SY.extract; (exact oD); rfl) | fail); all_goals infer_instance)); dsimp only [ZB, z0, z1]) | (apply ZC; (exact oD); all_goals (intro h; try exact xD)) | (apply ZL; (exact oD); all_goals (intro h; try exact xD)) | refine WC.skip ?_ | refine WC.block ?_ | refine ThenD.n ?_)); all_goals (first | ((repeat clear hK); (repeat clear Kx))))
    all_goals try (exfalso; first | contradiction | omega)
    rw [<- et]
    (refine ⟨(i + 1, vo), ?_, by first | omega | (simp only; omega), rfl, ?_⟩; rotate_left; ((try dsimp only [ZX, z0, z1]); repeat (first | exact LeF.nil | refine ZG (k := ?_))); (try dsimp only))
    omega
  ·have hlt : ¬ (i : Int) < (l.length : Int) := by omega
   obtain rfl : i = l.length := by omega
   rw [List.take_length]
   ((repeat' (first | (apply WL.opN; exact yF; dsimp only [ZB, z0, z1]) | refine WL.nil ?_ | refine ZA fun Kx hK => ?_ | (refine hK _ _ ?_; clear hK) | (refine Kont.skip ?_; clear hK) | refine WC.region ?_ | (apply WL.opN; (focus ((first | ((first | apply SY.move | apply SY.assign | apply SY.lss) <;> (exact oD)) | fail); all_goals infer_instance)); dsimp only [ZB, z0, z1]) | (apply ZC; (exact oD); all_goals (intro h; try exact xD)) | refine WC.ret ?_ | refine WC.exit ?_)); all_goals (first | ((repeat clear hK); (repeat clear Kx))))
   all_goals try (exfalso; first | contradiction | omega)
   exact ⟨trivial, _, ZS vo 25 ZW (ZDA l a) :: aO b6 bm a, rfl, rfl, vo, rfl, rfl⟩
end
end Go.Proofs.YtjmignmnlpamjaaGreat
namespace Go.Proofs.YtjmignmnlpamjaaGreat.D
section
open Go.RowKit
def addD (ds : List Deferred) (a : Act) : Act := { a with defers := a.defers ++ ds }
def Qd (ds : List Deferred) (Q : Exit -> Act -> World -> Prop) : Exit -> Act -> World -> Prop := fun e x w => ∃ y, x = addD ds y /\ Q e y w
section
variable {P : Program} {ds : List Deferred} {a : Act} {w : World} {Q : Exit -> Act -> World -> Prop} {ops : Array Oper}
theorem ZDT : (addD ds a).eval = a.eval := by funext o; cases o <;> rfl
theorem ZCw (x : Option Tmp) (v : Value) : (addD ds a).put x v = addD ds (a.put x v) := by cases x <;> rfl
theorem ZEt (h : LetsOut Q) : LetsOut (Qd ds Q) := let ⟨a, w, h⟩ := h; ⟨addD ds a, w, a, rfl, h⟩
theorem ZGx {o : Oper} {K K' : Act -> World -> Prop} (hk : ∀ a w, K a w -> K' (addD ds a) w) (h : o.wp P a w K Q) : o.wp P (addD ds a) w K' (Qd ds Q) := by
 unfold Oper.wp at *
 rw [ZDT]
 generalize (execOp a.eval o).run P w = r at *
 cases r with
 | ok n w' =>
  cases n <;> simp only [Oper.upon] at h ⊢
  case value v => rw [ZCw]; exact hk _ _ h
  case skip => rw [ZCw]; exact hk _ _ h
  case defer d =>
   have : ({ addD ds a with defers := d :: (addD ds a).defers } : Act).put o.dst undef = addD ds (({ a with defers := d :: a.defers } : Act).put o.dst undef) := by cases o.dst <;> rfl
   rw [this]; exact hk _ _ h
  case enter f args =>
   refine Calls.mono h fun e w'' he => ?_
   cases e with
   | returned v => show K' ((addD ds a).put o.dst v) w''; rw [ZCw]; exact hk _ _ he
   | panicked c => exact ⟨a, rfl, he⟩
   | outgrown => exact ZEt he
  case row r args =>
   exact Go.Rows.mono h fun v w'' he => by show K' ((addD ds a).put o.dst v) w''; rw [ZCw]; exact hk _ _ he
  all_goals exact h
 | halt x w' =>
  cases x <;> simp only [Oper.upon] at h ⊢ <;> first | exact h | exact ⟨a, rfl, h⟩
theorem ZLI {i : Nat} {K K' : Act -> World -> Prop} (hk : ∀ a w, K a w -> K' (addD ds a) w) (h : wpOp P ops Q i K a w) : wpOp P ops (Qd ds Q) i K' (addD ds a) w := by
 unfold wpOp at *
 split
 ·exact hk _ _ (by simpa [*] using h)
 ·rename_i o ho
  simp only [ho] at h
  have e : (addD ds a).tmps = a.tmps := rfl
  rw [e]
  split
  ·rename_i hw; simp only [hw, if_true] at h; exact h.imp (ZGx hk) fun ⟨h1, h2⟩ => ⟨by unfold Oper.asks at *; rw [ZDT]; exact h1, ZEt h2⟩
  ·rename_i hw; simp only [hw] at h; rw [ZCw]; exact hk _ _ h
theorem ZFg {md : Region.Mode} : ∀ (n : Nat) (listed : Array Bool) (a : Act) (w : World), wpAny P md ops Q n listed a w -> wpAny P md ops (Qd ds Q) n listed (addD ds a) w
 | 0, _, a, _, h => ⟨h.1, a, rfl, h.2⟩
 | n + 1, _, a, _, h => ⟨fun h0 => ⟨a, rfl, h.1 h0⟩, fun i hi => ZLI (fun a w k => ZFg n _ a w k) (h.2 i hi)⟩
theorem ZDI : ∀ (l : List Oper) (a : Act) (w : World), wpList P ops Q l a w -> wpList P ops (Qd ds Q) l (addD ds a) w
 | [], a, _, h => ⟨a, rfl, h⟩
 | o :: l, a, w, h => by
  unfold wpList at *
  have e : (addD ds a).tmps = a.tmps := rfl
  rw [e]
  split
  ·rename_i hw; rw [if_pos hw] at h; exact h.imp (ZGx fun a w k => ZDI l a w k) fun ⟨h1, h2⟩ => ⟨by unfold Oper.asks at *; rw [ZDT]; exact h1, ZEt h2⟩
  ·rename_i hw; rw [if_neg hw] at h; rw [ZCw]; exact ZDI l _ _ h
end
structure WC (ds : List Deferred) (P : Program) (Q : ZAb) (c : Code) (fr : List Dat) (hp : List HObj) : Prop where
 of ::
 out : ∀ (P0 : Nat -> Prop) (B : Nat) (w0 w : World) (a : Act), Hp P0 B w0 hp w -> Fr (Imm P0 B hp) w a fr -> c.wp P (Qd ds (ZDV Q P0 B w0)) (addD ds a) w
section
variable {ds : List Deferred} {P : Program} {ops : Array Oper} {hp : List HObj} {o : Oper} {fr fr' : List Dat} {d : Dat} {Q : ZAb} {rest : List Oper}
theorem WC.on {c : Code} (h : WC ds P Q c fr hp) {P0 : Nat -> Prop} {B : Nat} {w0 w : World} {a : Act} (hh : Hp P0 B w0 hp w) (hf : Fr (Imm P0 B hp) w a fr) : c.wp P (Qd ds (ZDV Q P0 B w0)) (addD ds a) w := h.out _ _ _ _ _ hh hf
theorem WC.region {id : Nat} {l : List Oper} (h : WL P l.toArray Q l fr hp) : WC ds P Q (.region id l.toArray false) fr hp := WC.of fun _ _ _ _ _ hh hf => wp_region_lit (ZDI _ _ _ (h.on hh hf))
theorem WC.drawM {id : Nat} {l : List Oper} {Q : ZAb} (C : List HObj -> Prop) (n m : Nat) (ord : List (Nat × Bool)) (S : List Bool) (hm : P.follows .mixedOrders = true)
  (hB : (decide (n < l.toArray.size) && Region.sinkB .any l.toArray n && ZEe .any l.toArray n && ZMj .any l.toArray n ord (Array.replicate l.toArray.size false)) = true) (hS : ord.foldl (fun s p => s.setIfInBounds p.1 true) (Array.replicate l.toArray.size false) = S.toArray) (hlen : l.length = ord.length + m) (hC : C hp)
  (h : WM P l.toArray C (fun f p => WA P l.toArray Q m S f p) ord fr hp) : WC ds P Q (.region id l.toArray true) fr hp := by
 refine WC.of fun P0 B w0 w a hh hf => ?_
 simp only [Bool.and_eq_true, decide_eq_true_eq] at hB
 obtain ⟨⟨⟨hn, hs⟩, hc⟩, hord⟩ := hB
 have inv0 : HeadInv .any l.toArray n (Array.replicate l.toArray.size false) :=
  ⟨by simp, fun j oj _ hl => (by rw [getD_replicate_false] at hl; cases hl), fun t _ ht => getD_in (by simpa using ht) (getD_replicate_false _ _)⟩
 have HW := ZC0 hs hc hn ord _ fr hp inv0 hord h
 have hx : Ext w { w with drawn := w.drawn + 1 } := (Ext.refl w).drew
 refine wp_region_any hm (ZFg _ _ _ _ ?_)
 have := ZBO (Q' := ZDV Q P0 B w0) (g := m) _ _ _ hp _ _ hC (hh.ext hx) (hf.ext hx) (fun listed' fr' hp' a' w' hh' hf' hL => by
  rw [hL.2.1, hS]
  exact hL.2.2.out _ _ _ _ _ hh' hf') HW
 rw [show l.toArray.size = ord.length + m by simpa using hlen]
 rw [show (l.toArray.size) = ord.length + m by simpa using hlen] at this
 exact this
theorem WC.mono {Q' : ZAb} {c : Code} (h : WC ds P Q c fr hp) (k : ∀ e f p, Q e f p -> Q' e f p) : WC ds P Q' c fr hp := WC.of fun _ _ _ _ _ hh hf => Code.wp_mono (fun _ _ _ ⟨y, hy, f, p, q, r⟩ => ⟨y, hy, f, p, k _ _ _ q, r⟩) (h.on hh hf)
theorem WC.seq {x y : Code} (h : WC ds P (ThenD (WC ds P Q y) Q) x fr hp) : WC ds P Q (.seq x y) fr hp := WC.of fun P0 B w0 w a hh hf => wp_seq (Code.wp_mono (fun e a' w' ⟨z, hz, f, p, q, r, s⟩ => by
 cases e with
 | normal => rw [hz]; exact (q : WC ds P Q y f p).on r s
 | _ => exact ⟨z, hz, f, p, q, r, s⟩) (h.on hh hf))
theorem WC.skip (h : Q .normal fr hp) : WC ds P Q .skip fr hp := WC.of fun _ _ _ _ a hh hf => wp_skip ⟨a, rfl, fr, hp, h, hh, hf⟩
theorem WC.ret (h : Q .ret fr hp) : WC ds P Q .ret fr hp := WC.of fun _ _ _ _ a hh hf => wp_ret ⟨a, rfl, fr, hp, h, hh, hf⟩
theorem WC.exit {id : Nat} (h : Q (.exit id) fr hp) : WC ds P Q (.exit id) fr hp := WC.of fun _ _ _ _ a hh hf => wp_exit ⟨a, rfl, fr, hp, h, hh, hf⟩
theorem WC.label {id : Nat} (h : Q .normal fr hp) : WC ds P Q (.label id) fr hp := WC.of fun _ _ _ _ a hh hf => wp_label ⟨a, rfl, fr, hp, h, hh, hf⟩
theorem WC.block {id : Nat} {c : Code} (h : WC ds P (InBlockD id Q) c fr hp) : WC ds P Q (.block id c) fr hp := WC.of fun P0 B w0 w a hh hf => wp_block (Code.wp_mono (fun e a' w' ⟨z, hz, f, p, q, r, s⟩ => by
 cases e with
 | exit id' =>
  simp only [Exit.inBlock]
  simp only [InBlockD] at q
  split
  ·rename_i hi; rw [if_pos hi] at q; exact ⟨z, hz, f, p, q, r, s⟩
  ·rename_i hi; rw [if_neg hi] at q; exact ⟨z, hz, f, p, q, r, s⟩
 | _ => exact ⟨z, hz, f, p, q, r, s⟩) (h.on hh hf))
theorem WC.cond {c : Operand} {x y : Code} {b : Bool} (hc : OpD fr c (dB b)) (ht : b = true -> WC ds P Q x fr hp) (hf : b = false -> WC ds P Q y fr hp) : WC ds P Q (.cond c x y) fr hp := WC.of fun _ _ _ _ a hh hfr =>
 wp_cond_split (t := b) (by rw [ZDT]; exact hc.ev hfr) (fun h => (ht h).on hh hfr) (fun h => (hf h).on hh hfr)
theorem WC.weak {c : Code} (h : WC ds P Q c fr' hp) (hl : fr.length = fr'.length) (k : ∀ (t : Nat) (d : Dat), fr'[t]? = some d -> ∃ d0 : Dat, fr[t]? = some d0 /\ d0.le d) : WC ds P Q c fr hp := WC.of fun _ _ _ _ _ hh hf => h.on hh (hf.weak hl k)
theorem ZFo {c : Code} {f' : List Dat} (h : LeF fr f') (k : WC ds P Q c f' hp) : WC ds P Q c fr hp := k.weak h.out.1 h.out.2
theorem WC.id {c : Code} (h : WC ds P Q c fr hp) : WC ds P Q c fr hp := h
theorem WC.only (id : Nat) {l : Array Oper} {b : Bool} (h : WC ds P Q (.region id l b) fr hp) : WC ds P Q (.region id l b) fr hp := h
theorem ZA {x y : Code} (h : ∀ K : List Dat -> List HObj -> Prop, (∀ f p, WC ds P Q y f p -> Kont K f p) -> WC ds P (ThenD (Kont K) Q) x fr hp) : WC ds P Q (.seq x y) fr hp :=
 WC.seq ((h (WC ds P Q y) fun _ _ h => ⟨h⟩).mono fun e f p q => by
  cases e with
  | normal => exact (q : Kont _ f p).out
  | _ => exact q)
section
variable {c : Operand} {x y : Code} {p : Prop} {_ip : Decidable p} {b : Bool}
theorem Zj (hc : OpD fr c (dB b)) (hb : b = true) (h : WC ds P Q x fr hp) : WC ds P Q (.cond c x y) fr hp := WC.cond hc (fun _ => h) (fun h => by rw [hb] at h; cases h)
theorem Zg (hc : OpD fr c (dB b)) (hb : b = false) (h : WC ds P Q y fr hp) : WC ds P Q (.cond c x y) fr hp := WC.cond hc (fun h => by rw [hb] at h; cases h) (fun _ => h)
theorem ZC (hc : OpD fr c (dB (decide p))) (ht : p -> WC ds P Q x fr hp) (hf : ¬ p -> WC ds P Q y fr hp) : WC ds P Q (.cond c x y) fr hp := WC.cond hc (fun h => ht (of_decide_eq_true h)) (fun h => hf (of_decide_eq_false h))
theorem ZL (hc : OpD fr c (dB (!b))) (ht : b = false -> WC ds P Q x fr hp) (hf : b = true -> WC ds P Q y fr hp) : WC ds P Q (.cond c x y) fr hp := WC.cond hc (fun h => ht (by simpa using h)) (fun h => hf (by simpa using h))
end
theorem WC.loop {X : Type} {c : Code} (F : X -> List Dat) (H : X -> List HObj) (μ : X -> Nat) (p : X -> Prop) (x0 : X) (h0 : p x0) (hF : fr.length = (F x0).length /\ ∀ (t : Nat) (d : Dat), (F x0)[t]? = some d -> ∃ d0 : Dat, fr[t]? = some d0 /\ d0.le d) (hH : hp = H x0)
  (round : ∀ x, p x -> WC ds P (ThenD (fun f q => ∃ x', p x' /\ μ x' < μ x /\ q = H x' /\ f.length = (F x').length /\ ∀ (t : Nat) (d : Dat), (F x')[t]? = some d -> ∃ d0 : Dat, f[t]? = some d0 /\ d0.le d) Q) c (F x) (H x)) : WC ds P Q (.loop c) fr hp := by
 refine WC.of fun P0 B w0 w a hh hf => ?_
 have hf1 := hf.weak hF.1 hF.2
 subst hH
 intro b k cs
 have key : ∀ (n : Nat) (x : X) (a' : Act) (w' : World), μ x = n -> p x -> Hp P0 B w0 (H x) w' -> Fr (Imm P0 B (H x)) w' a' (F x) ->
   ∃ e a2 w2, Qd ds (ZDV Q P0 B w0) e a2 w2 /\ Arrives P (lone (b.at (addD ds a') (.code c :: .inLoop c :: k)) cs w') b k cs e a2 w2 := by
  intro n
  induction n using Nat.strongRecOn with
  | _ n ih =>
   intro x a' w' hn hp' hh' hf'
   obtain ⟨e, a1, w1, hq, harr⟩ := (round x hp').on hh' hf' b (.inLoop c :: k) cs
   obtain ⟨z, rfl, hq⟩ := hq
   cases e with
   | normal =>
    obtain ⟨f, q, hq, h1, h2⟩ := hq
    obtain ⟨x', px, hlt, rfl, hl, hle⟩ := (hq : ∃ x', _)
    obtain ⟨e2, a2, w2, hq2, harr2⟩ := ih (μ x') (hn ▸ hlt) x' z w1 rfl px h1 (h2.weak hl hle)
    exact ⟨e2, a2, w2, hq2, .of_steps (Steps.trans harr (.one step_inLoop)) harr2⟩
   | exit id => exact ⟨_, _, w1, ⟨z, rfl, hq⟩, .pass (x := .inLoop c) rfl (fun _ _ => .inl (by simp)) harr⟩
   | goto l => exact ⟨_, _, w1, ⟨z, rfl, hq⟩, .pass (x := .inLoop c) rfl (fun _ _ => .inl (by simp)) harr⟩
   | ret => exact ⟨_, _, w1, ⟨z, rfl, hq⟩, .pass (x := .inLoop c) rfl (fun _ _ => .inl (by simp)) harr⟩
   | panic ch => exact ⟨_, _, w1, ⟨z, rfl, hq⟩, .pass (x := .inLoop c) rfl (fun _ _ => .inl (by simp)) harr⟩
   | outgrown => exact ⟨_, _, w1, ⟨z, rfl, hq⟩, .pass (x := .inLoop c) rfl (fun _ _ => .inl (by simp)) harr⟩
 obtain ⟨e, a', w', hq, harr⟩ := key _ x0 a w rfl h0 hh hf1
 exact ⟨e, a', w', hq, .of_steps (.one step_loop) harr⟩
theorem ZP {X : Type} {c : Code} (ups : X -> List (Nat × Dat)) (H : X -> List HObj) (μ : X -> Nat) (p : X -> Prop) (x0 : X) (h0 : p x0) (hF : LeF fr (ZX fr (ups x0))) (hH : hp = H x0)
  (round : ∀ x, p x -> WC ds P (ThenD (fun f q => ∃ x', p x' /\ μ x' < μ x /\ q = H x' /\ LeF f (ZX fr (ups x'))) Q) c (ZX fr (ups x)) (H x)) : WC ds P Q (.loop c) fr hp :=
 WC.loop (fun x => ZX fr (ups x)) H μ p x0 h0 hF.out hH fun x hx => (round x hx).mono fun e f q h => by
  cases e with
  | normal => obtain ⟨x', h1, h2, h3, h4⟩ := (h : ∃ x', _); exact ⟨x', h1, h2, h3, h4.out.1, h4.out.2⟩
  | _ => exact h
theorem WC.drop {c : Code} {o : HObj} (h : WC ds P Q c fr hp) : WC ds P Q c fr (o :: hp) := WC.of fun _ _ _ _ _ hh hf => h.on hh.drop (hf.mono fun d _ hd => d.weak hd Imm.sub)
end
theorem ZA2 {ds : List Deferred} {P : Program} {hp : List HObj} {fr : List Dat} {Q : ZAb} {e : TypeId} {c : Code} {α : Type} {R : Rel α} {_gR : Good R} {v : Value} {xs : List α} {s : Tmp} (hs : fr[s]? = some (dX v)) (h : WC ds P Q c (fr.set s (dS (Arr R) xs)) hp) : WC ds P Q c fr (ZS v e R xs :: hp) := WC.of fun _ _ _ _ _ hh hf => h.on hh.drop (ZEs hf hs (d := dS (Arr R) xs) (ZBv hh))
theorem WC.joinR {ds : List Deferred} {P : Program} {hp : List HObj} {fr : List Dat} {Q : ZAb} {x y : Code} {l : Array Oper} {b : Bool} (id : Nat) (ups : List (Nat × Dat)) (H : List HObj) (h1 : Halt (WC ds P (ThenD (fun f q => q = H /\ LeF f (ZX fr ups)) Q) (.seq (.region id l b) x) fr hp)) (h2 : Halt (WC ds P Q y (ZX fr ups) H)) : WC ds P Q (.seq (.seq (.region id l b) x) y) fr hp :=
 WC.seq (h1.go.mono fun e f q h => by
  cases e with
  | normal =>
   obtain ⟨rfl, hl⟩ := (h : q = H /\ LeF f (ZX fr ups))
   exact ZFo hl h2.go
  | _ => exact h)
end
end Go.Proofs.YtjmignmnlpamjaaGreat.D
