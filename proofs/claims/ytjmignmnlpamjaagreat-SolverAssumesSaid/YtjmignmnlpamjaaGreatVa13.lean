/- Part 13: walks by contracts, and plain laws. -/
import Derived.Test.YtjmignmnlpamjaaGreatVa12
set_option linter.unusedVariables false
set_option linter.unusedSimpArgs false
set_option linter.unusedSectionVars false
set_option maxRecDepth 100000
set_option maxHeartbeats 4000000
namespace Go.Proofs.YtjmignmnlpamjaaGreat
section
open Go.RowKit
open S43 (SS up Zz)
def ZJX (val : Int -> Bool) (l : List Int) : Int -> Bool := fun x => if x ∈ l then false else val x
def ZJV (lev : Nat -> Nat) (l : List Int) : Nat -> Nat := fun v => if v ∈ l.map Int.natAbs then 0 else lev v
def ZJW (rea : Nat -> Option Nat) (l : List Int) : Nat -> Option Nat := fun v => if v ∈ l.map Int.natAbs then none else rea v
theorem ZIH {val : Int -> Bool} {l : List Int} {x : Int} : ∀ f, ZEw (ZJX val l) f -> ZEw (ZJX val (l ++ [x])) (upF f x none) := fun f h y => by
 unfold upF ZJX
 by_cases e : y = x
 ·rw [if_pos e, if_pos (by rw [e]; simp)]; rfl
 ·rw [if_neg e, h y]
  unfold ZJX
  have : (y ∈ l ++ [x]) ↔ y ∈ l := by simp [e]
  by_cases q : y ∈ l
  ·rw [if_pos q, if_pos (this.2 q)]
  ·rw [if_neg q, if_neg fun k => q (this.1 k)]
theorem ZIF {lev : Nat -> Nat} {l : List Int} {x : Int} : ∀ f, ZI8 (ZJV lev l) f -> ZI8 (ZJV lev (l ++ [x])) (upF f ((x.natAbs : Nat) : Int) none) := fun f h v => by
 unfold upF ZJV
 by_cases e : v = x.natAbs
 ·rw [if_pos (by rw [e]), if_pos (by rw [e]; simp)]; rfl
 ·rw [if_neg (by omega), h v]
  unfold ZJV
  have : (v ∈ (l ++ [x]).map Int.natAbs) ↔ v ∈ l.map Int.natAbs := by simp [e]
  by_cases q : v ∈ l.map Int.natAbs
  ·rw [if_pos q, if_pos (this.2 q)]
  ·rw [if_neg q, if_neg fun k => q (this.1 k)]
theorem ZIG {rea : Nat -> Option Nat} {l : List Int} {x : Int} : ∀ f, ZHO (ZJW rea l) f -> ZHO (ZJW rea (l ++ [x])) (upF f ((x.natAbs : Nat) : Int) none) := fun f h v => by
 unfold upF ZJW
 by_cases e : v = x.natAbs
 ·rw [if_pos (by rw [e]), if_pos (by rw [e]; simp)]; rfl
 ·rw [if_neg (by omega), h v]
  unfold ZJW
  have : (v ∈ (l ++ [x]).map Int.natAbs) ↔ v ∈ l.map Int.natAbs := by simp [e]
  by_cases q : v ∈ l.map Int.natAbs
  ·rw [if_pos q, if_pos (this.2 q)]
  ·rw [if_neg q, if_neg fun k => q (this.1 k)]
theorem ZFx {v : Value} {k : Nat} (h : v.oneCell' = true) : (ZHZ v k).oneCell' = true := by
 unfold ZHZ
 split
 ·rfl
 ·exact h
theorem ZHC {l : List Int} {n i : Nat} (h : n + i < l.length) : (l.drop n).take (i + 1) = (l.drop n).take i ++ [l[n + i]] := by
 rw [List.take_succ_eq_append_getElem (by rw [List.length_drop]; omega), List.getElem_drop]
set_option maxHeartbeats 8000000 in
theorem ZNx (X : Lay) (V : Nat) (s : SS) (l : Nat) (hl0 : l ≤ 1000000) (hs : ∀ x ∈ s.trail, x.natAbs ≤ 1000000) (hb : ∀ b ∈ s.begins, b ≤ s.trail.length) (ht : s.trail.length ≤ 1000000) (hbl : s.begins.length ≤ 1000000) :
  CallC Tryz.prog 71 ([dX (ZDZ X), dI (l : Int)] ++ ([] : List Value).map dX) (core X V s) (fun _ hp2 => ∃ v v', hp2 = core { X with vT := v, vB := v' } V (Zz s l)) := by
 (refine ZA9 Tryz.func71 rfl rfl (fun hp => ?_); simp only [Tryz.ntmps71, List.length_cons, List.length_nil, List.length_append, List.length_map, Nat.reduceAdd, Nat.reduceSub, List.replicate_succ, List.replicate_zero, List.cons_append, List.nil_append, List.map_cons, List.map_nil, List.append_assoc])
 have e1 : (ZAj s.begins).length = s.begins.length := ZAW _
 by_cases hl : s.begins.length ≤ l
 ·have hlt : (l : Int) ≥ ((ZAj s.begins).length : Int) := by rw [e1]; omega
  have e0 : Zz s l = s := if_pos hl
  ((repeat' (first | ((first | apply WL.opN | apply WD.opN); exact yF; dsimp only [ZB, z0, z1]) | refine WL.nil ?_ | refine ZA fun Kx hK => ?_ | (refine hK _ _ ?_; clear hK) | refine WC.region ?_ | ((first | apply WL.opN | apply WD.opN); (focus ((first | (exact ZH (OpD.t rfl)) | (refine ZM ZAz (OpD.t rfl) (by decide)) | (apply ZI; (first | exact tyI | exact ZAl | exact tyF | exact ZBi); exact OpD.t rfl; exact mAt 0 rfl; rfl) | (apply Z3; exact OpD.t rfl; exact mAt 5 rfl; exact elI.unt) | ((first | apply SY.move | apply SY.assign | apply SY.lss | apply SY.geq) <;> (exact oD)) | fail); all_goals infer_instance)); dsimp only [ZB, z0, z1]) | (apply ZC; (exact oD); all_goals (intro h; try exact xD)) | refine WC.ret ?_ | refine ThenD.r ?_)); all_goals (first | ((repeat clear hK); (repeat clear Kx))))
  all_goals try (exfalso; omega)
  rw [e0]
  exact ⟨trivial, core { X with vT := X.vT, vB := X.vB } V s, rfl, X.vT, X.vB, rfl⟩
 have hlb : l < (ZAj s.begins).length := by omega
 obtain ⟨n, hn⟩ : ∃ n, s.begins[l]'(by omega) = n := ⟨_, rfl⟩
 have hni : (ZAj s.begins)[l] = (n : Int) := by rw [ZF5, hn]
 have hnt : n ≤ s.trail.length := by rw [<- hn]; exact hb _ (List.getElem_mem _)
 have hg : s.begins.getD l 0 = n := by rw [List.getD_eq_getElem?_getD, List.getElem?_eq_getElem (by omega), Option.getD_some, hn]
 have hmin : (if (((s.trail.take n).length : Nat) : Int) < (s.head : Int) then (((s.trail.take n).length : Nat) : Int) else (s.head : Int)) = ((min s.head n : Nat) : Int) := by
  rw [List.length_take]; split <;> omega
 (repeat' (first | ((first | apply WL.opN | apply WD.opN); exact yF; dsimp only [ZB, z0, z1]) | refine WL.nil ?_ | refine WD.nil ?_ | refine ZA fun Kx hK => ?_ | (refine hK _ _ ?_; clear hK) | refine WC.region ?_ | (apply WC.draw; kernel_rfl; kernel_rfl) | ((first | apply WL.opN | apply WD.opN); (focus ((first | (exact ZH (OpD.t rfl)) | (refine ZM ZAz (OpD.t rfl) (by decide)) | (apply ZI; (first | exact tyI | exact ZAl | exact tyF | exact ZBi); exact OpD.t rfl; exact mAt 0 rfl; rfl) | (apply Z3; exact OpD.t rfl; exact mAt 5 rfl; exact elI.unt) | (exact Zr elI (OpD.t rfl) (mAt 5 rfl) (OpD.t rfl) rfl hlb) | (exact ZAd tyI (OpD.t rfl) (mAt 5 rfl) hlb) | (exact SY.fromR elI (OpD.t rfl) (mAt 4 rfl) (OpD.t rfl) hni hnt) | (exact ZDg Tryz.underlying25 (OpD.t rfl) (mAt 4 rfl) hnt) | ((first | apply SY.move | apply SY.assign | apply SY.lss | apply SY.geq) <;> (exact oD)) | fail); all_goals infer_instance)); dsimp only [ZB, z0, z1]) | (apply ZC; (exact oD); all_goals (intro h; try exact xD)) | refine WC.skip ?_ | refine WC.block ?_))
 all_goals try (exfalso; omega)
 (refine ZP (X := Nat) (fun i => [(26, dI (i : Int)), (5, dA), (27, dA), (28, dA), (29, dA), (30, dA), (31, dA), (32, dA), (33, dA), (34, dA), (35, dA), (36, dA), (37, dA), (38, dA), (39, dA), (40, dA), (41, dA), (42, dA), (43, dA), (44, dA), (45, dA), (46, dA), (47, dA)]) (fun i => (oS X V s :: hG X.bv kvI ZAF vvB (ZEw (ZJX s.val ((s.trail.drop n).take i))) :: hG X.bl kvI ZAF kvI (ZI8 (ZJV s.lev ((s.trail.drop n).take i))) :: hG X.br kvI ZAF kvI (ZHO (ZJW s.rea ((s.trail.drop n).take i))) :: oT X s :: oB X s :: hp)) (fun i => s.trail.length - n - i) (fun i => i ≤ s.trail.length - n) 0 ?start ?frame0 ?objs0 ?round)
 case start => exact Nat.zero_le _
 case frame0 => ((try dsimp only [ZX, z0, z1]); repeat (first | exact LeF.nil | refine ZG (k := ?_)))
 case objs0 => rfl
 case round =>
  rintro i hi
  dsimp only [ZX, z0, z1]
  by_cases hin : n + i < s.trail.length
  ·have hy := hs _ (List.getElem_mem hin)
   have hy2 := ZAa s.trail[n + i] hy
   have hy3 : ZAF (((s.trail[n + i]).natAbs : Nat) : Int) := by unfold ZAF; omega
   have hdn : (i : Int) < ((s.trail.length - n : Nat) : Int) := by omega
   have et := ZHC hin
   ((repeat' (first |  (apply WC.drawTail (id := 5) 6; kernel_rfl; kernel_rfl; simp only [List.take_succ_cons, List.take_zero, List.drop_succ_cons, List.drop_zero]) |  (apply WC.drawTail (id := 6) 6; kernel_rfl; kernel_rfl; simp only [List.take_succ_cons, List.take_zero, List.drop_succ_cons, List.drop_zero]) | (refine WRd.nil ?_) | (apply ZCB rfl; (focus (intro c hcc; apply SYG.yes; (exact Zi rfl); ((first | (apply SY.call (hy2) Tryz.call100; (exact aD)) | (exact ZH (OpD.t rfl)) | (refine ZM ZAz (OpD.t rfl) (by decide)) | (apply ZI; (first | exact tyI | exact ZAl | exact tyF | exact ZBi); exact OpD.t rfl; exact mAt 0 rfl; rfl) | (exact ZCa elI (OpD.t rfl) (mAt 4 rfl) (OpD.t rfl) rfl hin) | (exact ZAd tyI (OpD.t rfl) (mAt 4 rfl) hin) | ((first | apply SY.move | apply SY.assign | apply SY.lss | apply SY.geq) <;> (exact oD)) | ((first | apply SY.add) <;> first | exact oD | omega) | (apply SY.load; (exact tD); (exact oD)) | (apply Z1; (exact tD); (exact oD); (exact (by simp))) | (apply SY.len; (exact oD); (exact nD); (exact uD)) | (apply SY.lenRK; exact OpD.t rfl; (first | exact .head _ | exact .tail _ (.head _)); (exact uD)) | (apply Z3; exact OpD.t rfl; (first | exact .head _ | exact .tail _ (.head _)); (exact uD)) | (apply SY.ixK; (exact eD); (exact oD); (exact oD); exact kD) | (apply ZAy; (exact eD); (exact oD); (exact oD); exact kD) | (apply ZT clT; exact OpD.t rfl) | (apply ZU clT; exact OpD.t rfl) | ((first | (apply SY.sliceK; (exact eD)) | (apply ZBQ; (exact eD))); (exact oD); (first | exact BndD.no | exact BndD.yes (OpD.t rfl) | exact Zm (OpD.t rfl) (by omega) | exact Zm Zl rfl); (first | exact BndD.no | exact BndD.yes (OpD.t rfl) | exact Zm (OpD.t rfl) (by omega) | exact Zm Zl rfl); (first | assumption | omega); (first | assumption | omega)) | fail); all_goals infer_instance))); dsimp only [ZB, z0, z1]) | ((first | apply WL.opN | apply WD.opN); exact yF; dsimp only [ZB, z0, z1]) | refine WL.nil ?_ | refine WD.nil ?_ | refine ZA fun Kx hK => ?_ | (refine hK _ _ ?_; clear hK) | (refine Kont.skip ?_; clear hK) | refine WC.region ?_ | (apply WC.draw; kernel_rfl; kernel_rfl) |  (refine ZK (SW.at 1 rfl fun q => ZDf (ZEw (ZJX s.val ((s.trail.drop n).take i ++ [s.trail[n + i]]))) ZCk ZAP (OpD.t rfl) (OpD.t rfl) isI (i64 hy) ZIH) fun _ => ?_; dsimp only [ZB, z0, z1]) |  (refine ZK (SW.at 2 rfl fun q => ZDf (ZI8 (ZJV s.lev ((s.trail.drop n).take i ++ [s.trail[n + i]]))) ZCl ZAP (OpD.t rfl) (OpD.t rfl) isI hy3 ZIF) fun _ => ?_; dsimp only [ZB, z0, z1]) |  (refine ZK (SW.at 3 rfl fun q => ZDf (ZHO (ZJW s.rea ((s.trail.drop n).take i ++ [s.trail[n + i]]))) ZCl ZAP (OpD.t rfl) (OpD.t rfl) isI hy3 ZIG) fun _ => ?_; dsimp only [ZB, z0, z1]) | (apply ZAN; (exact tD); rfl; (exact oD); (exact hD); dsimp only [ZB, z0, z1]) | (apply WL.storeF2; (exact tD); rfl; (exact oD); (exact hD); dsimp only [ZB, z0, z1]) | (apply WL.storeF3; (exact tD); rfl; (exact oD); (exact hD); dsimp only [ZB, z0, z1]) | ((first | apply WL.opN | apply WD.opN); (focus ((first | (apply SY.call (hy2) Tryz.call100; (exact aD)) | (exact ZH (OpD.t rfl)) | (refine ZM ZAz (OpD.t rfl) (by decide)) | (apply ZI; (first | exact tyI | exact ZAl | exact tyF | exact ZBi); exact OpD.t rfl; exact mAt 0 rfl; rfl) | (exact ZCa elI (OpD.t rfl) (mAt 4 rfl) (OpD.t rfl) rfl hin) | (exact ZAd tyI (OpD.t rfl) (mAt 4 rfl) hin) | ((first | apply SY.move | apply SY.assign | apply SY.lss | apply SY.geq) <;> (exact oD)) | ((first | apply SY.add) <;> first | exact oD | omega) | fail); all_goals infer_instance)); dsimp only [ZB, z0, z1]) | (apply Zj; (exact oD); (with_reducible rfl)) | (apply Zg; (exact oD); (with_reducible rfl)) | (apply ZC; (exact oD); all_goals (intro h; try exact xD)) | (apply ZO; (exact oD); all_goals (intro h; try exact xD)) | (apply ZL; (exact oD); all_goals (intro h; try exact xD)) | (apply WC.cond; (exact oD); all_goals (intro h; try exact xD)) | refine WC.skip ?_ | refine WC.ret ?_ | refine WC.exit ?_ | refine WC.block ?_ | refine ThenD.n ?_ | refine ThenD.r ?_ | refine ThenD.x ?_ | refine InBlockD.x ?_ | refine InBlockD.n ?_ | refine InBlockD.r ?_ | refine ZCA (by decide) ?_)); all_goals (first | refine WC.id ?_ | refine WL.id ?_ | ((repeat clear hK); (repeat clear Kx))))
   all_goals try (exfalso; first | contradiction | omega)
   rw [<- et]
   (refine ⟨i + 1, ?_, by first | omega | (simp only; omega), rfl, ?_⟩; rotate_left; ((try dsimp only [ZX, z0, z1]); repeat (first | exact LeF.nil | refine ZG (k := ?_))); (try dsimp only))
   omega
  ·have hdn : ¬ (i : Int) < ((s.trail.length - n : Nat) : Int) := by omega
   obtain rfl : i = s.trail.length - n := by omega
   have ea : (s.trail.drop n).take (s.trail.length - n) = s.trail.drop n := List.take_of_length_le (by rw [List.length_drop]; exact Nat.le_refl _)
   rw [ea]
   refine ZEN (mAt 4 rfl) fun hT1 => ZEN (mAt 5 rfl) fun hB1 => ?_
   have hT2 := ZFx (k := n) hT1
   have hB2 := ZFx (k := l) hB1
   ((repeat' (first |  (apply WC.drawTail (id := 8) 13; kernel_rfl; kernel_rfl; simp only [List.take_succ_cons, List.take_zero, List.drop_succ_cons, List.drop_zero]) |  (apply WC.drawTail (id := 10) 11; kernel_rfl; kernel_rfl; simp only [List.take_succ_cons, List.take_zero, List.drop_succ_cons, List.drop_zero]) | (refine WRd.nil ?_) | (apply ZCB rfl; (focus (intro c hcc; apply SYG.yes; (exact Zi rfl); ((first | (exact ZH (OpD.t rfl)) | (refine ZM ZAz (OpD.t rfl) (by decide)) | (apply ZI; (first | exact tyI | exact ZAl | exact tyF | exact ZBi); exact OpD.t rfl; exact mAt 0 rfl; rfl) | (exact Zr elI (OpD.t rfl) (mAt 5 rfl) (OpD.t rfl) rfl hlb) | (exact ZAd tyI (OpD.t rfl) (mAt 5 rfl) hlb) | (exact SY.uptoR elI (OpD.t rfl) (mAt 4 rfl) (OpD.t rfl) hni hnt) | (exact SY.uptoR elI (OpD.t rfl) (mAt 5 rfl) (OpD.t rfl) rfl (Nat.le_of_lt hlb)) | (apply Z3; exact OpD.t rfl; exact mAt 4 rfl; exact elI.unt) | (exact hmin ▸ ZFl (OpD.t rfl) (OpD.t rfl)) | ((first | apply SY.move | apply SY.assign | apply SY.lss | apply SY.geq) <;> (exact oD)) | ((first | apply SY.add) <;> first | exact oD | omega) | (apply SY.load; (exact tD); (exact oD)) | (apply Z1; (exact tD); (exact oD); (exact (by simp))) | (apply SY.len; (exact oD); (exact nD); (exact uD)) | (apply SY.lenRK; exact OpD.t rfl; (first | exact .head _ | exact .tail _ (.head _)); (exact uD)) | (apply Z3; exact OpD.t rfl; (first | exact .head _ | exact .tail _ (.head _)); (exact uD)) | (apply SY.ixK; (exact eD); (exact oD); (exact oD); exact kD) | (apply ZAy; (exact eD); (exact oD); (exact oD); exact kD) | (apply ZT clT; exact OpD.t rfl) | (apply ZU clT; exact OpD.t rfl) | ((first | (apply SY.sliceK; (exact eD)) | (apply ZBQ; (exact eD))); (exact oD); (first | exact BndD.no | exact BndD.yes (OpD.t rfl) | exact Zm (OpD.t rfl) (by omega) | exact Zm Zl rfl); (first | exact BndD.no | exact BndD.yes (OpD.t rfl) | exact Zm (OpD.t rfl) (by omega) | exact Zm Zl rfl); (first | assumption | omega); (first | assumption | omega)) | fail); all_goals infer_instance))); dsimp only [ZB, z0, z1]) | ((first | apply WL.opN | apply WD.opN); exact yF; dsimp only [ZB, z0, z1]) | refine WL.nil ?_ | refine WD.nil ?_ | refine ZA fun Kx hK => ?_ | (refine hK _ _ ?_; clear hK) | (refine Kont.skip ?_; clear hK) | refine WC.region ?_ | (apply WC.draw; kernel_rfl; kernel_rfl) |  (refine ZK (SW.at 0 rfl fun q => SW.storeS ZAl (OpD.t rfl) (OpD.t rfl) (Z8 hT2) (by simp)) fun _ => ?_; dsimp only [ZB, z0, z1]; refine WL.swap 4 rfl (fun q h => ZFp hnt h) ?_; dsimp only [z0, z1]) |  (refine ZK (SW.at 0 rfl fun q => SW.storeS ZAl (OpD.t rfl) (OpD.t rfl) (Z8 hB2) (by simp)) fun _ => ?_; dsimp only [ZB, z0, z1]; refine WL.swap 5 rfl (fun q h => ZFp (Nat.le_of_lt hlb) h) ?_; dsimp only [z0, z1]) |  (refine ZK (SW.at 0 rfl fun q => SW.storeS tyI (OpD.t rfl) (OpD.t rfl) Zf (by simp)) fun _ => ?_; dsimp only [ZB, z0, z1]) | (apply ZAN; (exact tD); rfl; (exact oD); (exact hD); dsimp only [ZB, z0, z1]) | (apply WL.storeF2; (exact tD); rfl; (exact oD); (exact hD); dsimp only [ZB, z0, z1]) | (apply WL.storeF3; (exact tD); rfl; (exact oD); (exact hD); dsimp only [ZB, z0, z1]) | ((first | apply WL.opN | apply WD.opN); (focus ((first | (exact ZH (OpD.t rfl)) | (refine ZM ZAz (OpD.t rfl) (by decide)) | (apply ZI; (first | exact tyI | exact ZAl | exact tyF | exact ZBi); exact OpD.t rfl; exact mAt 0 rfl; rfl) | (exact Zr elI (OpD.t rfl) (mAt 5 rfl) (OpD.t rfl) rfl hlb) | (exact ZAd tyI (OpD.t rfl) (mAt 5 rfl) hlb) | (exact SY.uptoR elI (OpD.t rfl) (mAt 4 rfl) (OpD.t rfl) hni hnt) | (exact SY.uptoR elI (OpD.t rfl) (mAt 5 rfl) (OpD.t rfl) rfl (Nat.le_of_lt hlb)) | (apply Z3; exact OpD.t rfl; exact mAt 4 rfl; exact elI.unt) | (exact hmin ▸ ZFl (OpD.t rfl) (OpD.t rfl)) | ((first | apply SY.move | apply SY.assign | apply SY.lss | apply SY.geq) <;> (exact oD)) | ((first | apply SY.add) <;> first | exact oD | omega) | (apply SY.load; (exact tD); (exact oD)) | (apply Z1; (exact tD); (exact oD); (exact (by simp))) | (apply SY.len; (exact oD); (exact nD); (exact uD)) | (apply SY.lenRK; exact OpD.t rfl; (first | exact .head _ | exact .tail _ (.head _)); (exact uD)) | (apply Z3; exact OpD.t rfl; (first | exact .head _ | exact .tail _ (.head _)); (exact uD)) | (apply SY.ixK; (exact eD); (exact oD); (exact oD); exact kD) | (apply ZAy; (exact eD); (exact oD); (exact oD); exact kD) | (apply ZT clT; exact OpD.t rfl) | (apply ZU clT; exact OpD.t rfl) | ((first | (apply SY.sliceK; (exact eD)) | (apply ZBQ; (exact eD))); (exact oD); (first | exact BndD.no | exact BndD.yes (OpD.t rfl) | exact Zm (OpD.t rfl) (by omega) | exact Zm Zl rfl); (first | exact BndD.no | exact BndD.yes (OpD.t rfl) | exact Zm (OpD.t rfl) (by omega) | exact Zm Zl rfl); (first | assumption | omega); (first | assumption | omega)) | fail); all_goals infer_instance)); dsimp only [ZB, z0, z1]) | (apply Zj; (exact oD); (with_reducible rfl)) | (apply Zg; (exact oD); (with_reducible rfl)) | (apply ZC; (exact oD); all_goals (intro h; try exact xD)) | (apply ZO; (exact oD); all_goals (intro h; try exact xD)) | (apply ZL; (exact oD); all_goals (intro h; try exact xD)) | (apply WC.cond; (exact oD); all_goals (intro h; try exact xD)) | refine WC.skip ?_ | refine WC.ret ?_ | refine WC.exit ?_ | refine WC.block ?_ | refine ThenD.n ?_ | refine ThenD.r ?_ | refine ThenD.x ?_ | refine InBlockD.x ?_ | refine InBlockD.n ?_ | refine InBlockD.r ?_ | refine ZCA (by decide) ?_)); all_goals (first | refine WC.id ?_ | refine WL.id ?_ | ((repeat clear hK); (repeat clear Kx))))
   all_goals try (exfalso; first | contradiction | omega)
   have eb : Zz s l = { s with val := ZJX s.val (s.trail.drop n), lev := ZJV s.lev (s.trail.drop n), rea := ZJW s.rea (s.trail.drop n), trail := s.trail.take n, begins := s.begins.take l, head := min s.head n } := by
    unfold Zz
    rw [if_neg hl, hg]
    rfl
   rw [eb, ZGt]
   exact ⟨trivial, core { X with vT := ZHZ X.vT n, vB := ZHZ X.vB l } V { s with val := ZJX s.val (s.trail.drop n), lev := ZJV s.lev (s.trail.drop n), rea := ZJW s.rea (s.trail.drop n), trail := s.trail.take n, begins := s.begins.take l, head := min s.head n }, rfl, _, _, rfl⟩
end
end Go.Proofs.YtjmignmnlpamjaaGreat
