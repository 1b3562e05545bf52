/- Part 24: walks by contracts, and plain laws. -/
import Derived.Test.YtmcllakdbgnfiaaGreatDoorVg23
set_option linter.unusedVariables false
set_option linter.unusedSimpArgs false
set_option linter.unusedSectionVars false
set_option maxRecDepth 100000
set_option maxHeartbeats 4000000
namespace Go.Proofs.YtmcllakdbgnfiaaGreatDoor
section
theorem ZCe {a b c : List Vx} (h : ZAc a b < 0) (k : ZAc b c < 0) : ZAc a c < 0 := by
 obtain ⟨h1, h2⟩ := cmpL_trans a b c (by omega) (by omega)
 rcases Int.lt_or_eq_of_le h1 with h3 | h3
 ·exact h3
 ·have := h2 h3; omega
theorem cmpL_irr (a : List Vx) : ZAc a a = 0 := cmpL_eq.2 rfl
theorem cmpL_cases (a b : List Vx) : ZAc a b < 0 \/ ZAc b a < 0 \/ a = b := by
 have h := cmpL_neg a b
 by_cases h1 : ZAc a b < 0
 ·exact .inl h1
 by_cases h2 : ZAc b a < 0
 ·exact .inr (.inl h2)
 ·exact .inr (.inr (cmpL_eq.1 (by omega)))
def SortL (xs : Cx) : Prop := xs.Pairwise fun a b => ¬ ZAc b a < 0
def AscL (xs : Cx) : Prop := xs.Pairwise fun a b => ZAc a b < 0
theorem ascL_ext : ∀ {a b : Cx}, AscL a -> AscL b -> (∀ x, x ∈ a ↔ x ∈ b) -> a = b
 | [], [], _, _, _ => rfl
 | [], y :: b, _, _, h => absurd ((h y).2 (by simp)) (by simp)
 | x :: a, [], _, _, h => absurd ((h x).1 (by simp)) (by simp)
 | x :: a, y :: b, ha, hb, h => by
  unfold AscL at ha hb
  rw [List.pairwise_cons] at ha hb
  have hxy : x = y := by
   have h1 := (h x).1 (by simp)
   have h2 := (h y).2 (by simp)
   rw [List.mem_cons] at h1 h2
   rcases h1 with h1 | h1
   ·exact h1
   rcases h2 with h2 | h2
   ·exact h2.symm
   have h3 := hb.1 x h1
   have h4 := ha.1 y h2
   have := cmpL_neg x y
   omega
  subst hxy
  rw [ascL_ext ha.2 hb.2 fun z => ?_]
  have h1 := h z
  rw [List.mem_cons, List.mem_cons] at h1
  constructor
  ·intro hz
   rcases h1.1 (.inr hz) with rfl | h2
   ·have := ha.1 z hz; have := cmpL_irr z; omega
   ·exact h2
  ·intro hz
   rcases h1.2 (.inr hz) with rfl | h2
   ·have := hb.1 z hz; have := cmpL_irr z; omega
   ·exact h2
theorem AscL.nodup {a : Cx} (h : AscL a) : a.Nodup := List.Pairwise.imp (fun {x y} hxy hc => by
 subst hc; have := cmpL_irr x; omega) h
def GoodL (xs : Cx) (m : Nat) (zs : Cx) : Prop := AscL zs /\ (∀ v, v ∈ zs ↔ v ∈ xs.take m) /\ zs.getLast? = xs[m - 1]?
theorem ascL_last {zs : Cx} {l : List Vx} (h : AscL zs) (hl : zs.getLast? = some l) : ∀ a ∈ zs, a = l \/ ZAc a l < 0 := by
 obtain ⟨ys, rfl⟩ := List.getLast?_eq_some_iff.1 hl
 intro a ha
 rcases List.mem_append.1 ha with ha | ha
 ·exact .inr ((List.pairwise_append.1 h).2.2 a ha l (by simp))
 ·exact .inl (by simpa using ha)
theorem goodL_start {xs : Cx} (h : 1 <= xs.length) : GoodL xs 1 (xs.take 1) := by
 match xs, h with
 | x :: l, _ => exact ⟨by simp [AscL], fun v => Iff.rfl, by simp⟩
theorem goodL_push {xs zs : Cx} {m : Nat} (hs : SortL xs) (h : GoodL xs m zs) (h1 : 1 <= m) (h2 : m < xs.length) (hne : xs[m] ≠ xs[m - 1]'(by omega)) : GoodL xs (m + 1) (zs ++ [xs[m]]) := by
 obtain ⟨ha, hm, hl⟩ := h
 rw [List.getElem?_eq_getElem (by omega : m - 1 < xs.length)] at hl
 have hlt : ZAc (xs[m - 1]'(by omega)) xs[m] < 0 := by
  have h3 := (List.pairwise_iff_getElem.1 hs) (m - 1) m (by omega) h2 (by omega)
  rcases cmpL_cases (xs[m - 1]'(by omega)) xs[m] with k | k | k
  ·exact k
  ·exact absurd k h3
  ·exact absurd k.symm hne
 refine ⟨List.pairwise_append.2 ⟨ha, by simp, fun a haz b hb => ?_⟩, fun v => ?_, by simp [h2]⟩
 ·have hb' : b = xs[m] := by simpa using hb
  subst hb'
  rcases ascL_last ha hl a haz with rfl | h4
  ·exact hlt
  ·exact ZCe h4 hlt
 ·rw [List.mem_append, hm, ZA5 h2]; simp
theorem goodL_skip {xs zs : Cx} {m : Nat} (h : GoodL xs m zs) (h1 : 1 <= m) (h2 : m < xs.length) (he : xs[m] = xs[m - 1]'(by omega)) : GoodL xs (m + 1) zs := by
 obtain ⟨ha, hm, hl⟩ := h
 refine ⟨ha, fun v => ?_, ?_⟩
 ·rw [hm, ZA5 h2]
  refine ⟨.inl, fun h => h.elim id fun h => ?_⟩
  rw [h, he, List.mem_take_iff_getElem]
  exact ⟨m - 1, by omega, rfl⟩
 ·rw [hl, Nat.add_sub_cancel, List.getElem?_eq_getElem h2, List.getElem?_eq_getElem (by omega), he]
theorem goodL_end {xs zs : Cx} {m : Nat} (h : GoodL xs m zs) (h2 : xs.length <= m) : AscL zs /\ ∀ v, v ∈ zs ↔ v ∈ xs := ⟨h.1, fun v => by rw [h.2.1, List.take_of_length_le h2]⟩
theorem insC_mem : ∀ {l : Cx} {s x : List Vx}, x ∈ insC l s ↔ x = s \/ x ∈ l
 | [], s, x => by simp [insC]
 | y :: l, s, x => by
  unfold insC
  split
  ·simp
  ·rw [List.mem_cons, insC_mem, List.mem_cons]
   constructor
   ·rintro (h | h | h) <;> simp [h]
   ·rintro (h | h | h) <;> simp [h]
theorem putC_mem {l : Cx} {s x : List Vx} : x ∈ putC l s ↔ x = s \/ x ∈ l := by
 unfold putC
 split
 ·rename_i h
  exact ⟨.inr, fun h' => h'.elim (fun e => e ▸ h) id⟩
 ·exact insC_mem
theorem insC_asc : ∀ {l : Cx} {s : List Vx}, AscL l -> s ∉ l -> AscL (insC l s)
 | [], s, _, _ => by simp [insC, AscL]
 | y :: l, s, h, hs => by
  have h' := h
  unfold AscL at h'
  rw [List.pairwise_cons] at h'
  unfold insC
  split
  ·rename_i hlt
   unfold AscL
   rw [List.pairwise_cons]
   refine ⟨fun a ha => ?_, h⟩
   rcases List.mem_cons.1 ha with rfl | ha
   ·exact hlt
   ·exact ZCe hlt (h'.1 a ha)
  ·rename_i hlt
   unfold AscL
   rw [List.pairwise_cons]
   refine ⟨fun a ha => ?_, insC_asc h'.2 fun hc => hs (by simp [hc])⟩
   rcases insC_mem.1 ha with rfl | ha
   ·rcases cmpL_cases a y with k | k | k
    ·exact absurd k hlt
    ·exact k
    ·exact absurd (by rw [k]; simp) hs
   ·exact h'.1 a ha
theorem putC_asc {l : Cx} {s : List Vx} (h : AscL l) : AscL (putC l s) := by
 unfold putC
 split
 ·exact h
 ·rename_i hs; exact insC_asc h hs
theorem foldPut_asc : ∀ {l out : Cx}, AscL out -> AscL (l.foldl putC out)
 | [], _, h => h
 | s :: l, out, h => foldPut_asc (l := l) (putC_asc h)
theorem foldPut_mem : ∀ {l out : Cx} {x : List Vx}, x ∈ l.foldl putC out ↔ x ∈ l \/ x ∈ out
 | [], out, x => by simp
 | s :: l, out, x => by
  rw [List.foldl_cons, foldPut_mem (l := l), putC_mem, List.mem_cons]
  constructor
  ·rintro (h | h | h) <;> simp [h]
  ·rintro ((h | h) | h) <;> simp [h]
theorem maxC_asc (l : Cx) : AscL (maxC l) := foldPut_asc (by simp [AscL])
theorem ZCc {l : Cx} {s : List Vx} : s ∈ maxC l ↔ s ∈ l /\ topC l s = true := by
 unfold maxC
 rw [foldPut_mem, List.mem_filter]
 simp
theorem ZAQ {l : Cx} {s : List Vx} : Z8 l s = true ↔ ∃ x ∈ l, s.length < x.length /\ ZAm s x = true := by
 unfold Z8
 simp
theorem coveredC_same {l l' : Cx} (h : ∀ x, x ∈ l ↔ x ∈ l') (s : List Vx) : Z8 l s = Z8 l' s := by
 rw [Bool.eq_iff_iff, ZAQ, ZAQ]
 constructor
 ·rintro ⟨x, hx, hr⟩; exact ⟨x, (h x).1 hx, hr⟩
 ·rintro ⟨x, hx, hr⟩; exact ⟨x, (h x).2 hx, hr⟩
theorem maxC_eq {l zs : Cx} (h0 : ∀ s ∈ l, 0 < s.length) (ha : AscL zs) (hm : ∀ u, u ∈ zs ↔ u ∈ l) : (zs.filter fun s => !Z8 zs s) = maxC l := by
 refine ascL_ext (List.Pairwise.filter _ ha) (maxC_asc l) fun s => ?_
 rw [List.mem_filter, ZCc, hm]
 unfold topC
 rw [coveredC_same hm]
 constructor
 ·rintro ⟨h1, h2⟩; exact ⟨h1, by rw [decide_eq_true (h0 s h1)]; exact h2⟩
 ·rintro ⟨h1, h2⟩; rw [decide_eq_true (h0 s h1)] at h2; exact ⟨h1, h2⟩
end
section
open Go.RowKit


theorem sameC_c (l m : Cx) : Fn Tryz.prog 17 [dS Cpx l, dS Cpx m] (dB (decide (l = m))) := by
 (refine ZE Tryz.func17 rfl rfl ?_; simp only [Tryz.ntmps17, List.length_cons, List.length_nil, Nat.reduceAdd, Nat.reduceSub, List.replicate_succ, List.replicate_zero, List.cons_append, List.nil_append])
 ((repeat' (first | (apply WL.opN; exact yF; dsimp only [ZB, z0, z1]) | refine WL.nil ?_ | refine ZA fun Kx hK => ?_ | (refine hK _ _ ?_; clear hK) | refine WC.region ?_ | (apply WL.opN; (focus ((first | (apply SY.call (sameAll_c _ _) Tryz.call33; (exact aD)) | exact Zx | exact yBox | fail); all_goals infer_instance)); dsimp only [ZB, z0, z1]) | refine WC.ret ?_)); all_goals (first | ((repeat clear hK); (repeat clear Kx))))
 (refine ⟨trivial, _, rfl, ?_⟩; exact fD)
end
section
open Go.RowKit

theorem filt_snoc {p : List Vx -> Bool} {l : Cx} {k : Nat} (h : k < l.length) : (l.take (k + 1)).filter p = (l.take k).filter p ++ (if p l[k] = true then [l[k]] else []) := by
 rw [ZQ h, List.filter_append]
 by_cases hp : p l[k] = true
 ·rw [if_pos hp, List.filter_cons_of_pos hp]; rfl
 ·rw [if_neg hp, List.filter_cons_of_neg hp]; rfl
end
section
open Go.RowKit

def ZBO : List Vx -> List Vx -> Bool
 | [], _ => true
 | v :: a, b => if (b.dropWhile fun x => decide (x ≠ v)) = [] then false else ZBO a (b.dropWhile fun x => decide (x ≠ v))
theorem faceG_skip {v x : Vx} {a c : List Vx} (h : x ≠ v) : ZBO (v :: a) (x :: c) = ZBO (v :: a) c := by
 unfold ZBO
 rw [List.dropWhile_cons_of_pos (by simpa using h)]
theorem faceG_hit {v : Vx} {a c : List Vx} : ZBO (v :: a) (v :: c) = ZBO a (v :: c) := by
 conv => lhs; unfold ZBO
 rw [List.dropWhile_cons_of_neg (by simp)]
 simp
theorem faceG_end {v : Vx} {a : List Vx} : ZBO (v :: a) [] = false := by unfold ZBO; simp
theorem face27_p (a b : List Vx) : Fn Tryz.prog 124 [dS ZF a, dS ZF b] (dB (ZBO a b)) := by
 (refine ZE Tryz.func124 rfl rfl ?_; simp only [Tryz.ntmps124, List.length_cons, List.length_nil, Nat.reduceAdd, Nat.reduceSub, List.replicate_succ, List.replicate_zero, List.cons_append, List.nil_append])
 (repeat' (first | ((first | apply WL.opN | apply WD.opN); exact yF; dsimp only [ZB, z0, z1]) | refine WL.nil ?_ | refine ZA fun Kx hK => ?_ | (refine hK _ _ ?_; clear hK) | refine WC.region ?_ | ((first | apply ZJ | apply WD.op); (focus (first | exact wN | (apply ZG; (exact wY); ((first | exact ZBV | fail); all_goals infer_instance)))); dsimp only [ZB, z0, z1]) | refine WC.block ?_))
 (first | refine ZR (t := 0) rfl le_K fun hl0 => ?_ | refine ZR (t := 0) rfl le_A fun hl0 => ?_ | refine ZR (t := 0) rfl le_C fun hl0 => ?_); simp only [maxLen] at hl0
 (refine WC.loopU (X := Nat × List Vx) (fun x => [(9, dI (x.1 : Int)), (1, dS ZF x.2), (4, dA), (6, dA), (10, dA), (11, dA), (12, dA), (13, dA), (14, dA), (15, dA), (16, dA), (17, dA), (18, dA), (19, dA), (20, dA), (21, dA), (22, dA), (23, dA), (24, dA), (25, dA), (26, dA), (27, dA), (28, dA)]) (fun x => []) (fun x => a.length - x.1) (fun x => x.1 <= a.length /\ ZBO a b = ZBO (a.drop x.1) x.2) (0, b) ?start ?frame0 ?objs0 ?round)
 case start => exact ⟨Nat.zero_le _, rfl⟩
 case frame0 => ((try dsimp only [ZL, z0, z1]); repeat (first | exact LeF.nil | refine ZD (k := ?_)))
 case objs0 => rfl
 case round =>
  rintro ⟨k, c⟩ ⟨h1, h2⟩
  simp only at h1 h2
  dsimp only [ZL, z0, z1]
  ((repeat' (first | ((first | apply WL.opN | apply WD.opN); exact yF; dsimp only [ZB, z0, z1]) | refine WL.nil ?_ | refine ZA fun Kx hK => ?_ | (refine hK _ _ ?_; clear hK) | (refine Kont.skip ?_; clear hK) | refine WC.region ?_ | (apply WL.alloc; (first | exact tzV | exact tzC); (first | exact ZW rfl | exact Zs | exact Zi rfl); (intro _; dsimp only [ZB, z0, z1])) | (apply WL.storeF; (exact tD); rfl; (exact oD); (exact hD); dsimp only [ZB, z0, z1]) | ((first | apply ZJ | apply WD.op); (focus (first | exact wN | (apply ZG; (exact wY); ((first | exact ZBu | exact ZT | fail); all_goals infer_instance)))); dsimp only [ZB, z0, z1]) | (apply ZC; (exact oD); all_goals (intro h; try exact xD)) | refine WC.skip ?_ | refine WC.ret ?_ | refine WC.exit ?_ | refine WC.block ?_)); all_goals (first | refine WC.id ?_ | ((repeat clear hK); (repeat clear Kx))))
  ·(refine WC.loopU (X := List Vx) (fun c' => [(1, dS ZF c'), (13, dA), (14, dA), (15, dA), (16, dA), (17, dA), (18, dA), (19, dA), (20, dA), (21, dA), (22, dA), (23, dA), (24, dA)]) (fun c' => []) (fun c' => c'.length) (fun c' => c'.length <= c.length /\ ZBO a b = ZBO (a.drop k) c') c ?start ?frame0 ?objs0 ?round)
   case start => exact ⟨Nat.le_refl _, h2⟩
   case frame0 => ((try dsimp only [ZL, z0, z1]); repeat (first | exact LeF.nil | refine ZD (k := ?_)))
   case objs0 => rfl
   case round =>
    rintro c' ⟨h3, h4⟩
    dsimp only [ZL, z0, z1]
    ((repeat' (first | ((first | apply WL.opN | apply WD.opN); exact yF; dsimp only [ZB, z0, z1]) | refine WL.nil ?_ | refine WD.nil ?_ | refine ZA fun Kx hK => ?_ | (refine hK _ _ ?_; clear hK) | (refine Kont.skip ?_; clear hK) | refine WC.region ?_ | (apply WC.draw; kernel_rfl; kernel_rfl) | ((first | apply ZJ | apply WD.op); (focus (first | exact wN | (apply ZG; (exact wY); ((first | (apply SY.ixKJ elV (OpD.t rfl) OpD.i 0 rfl; omega) | (apply SY.fromK elV (OpD.t rfl) OpD.i 1 rfl; omega) | exact yMove | exact yGtr | exact yEql | exact yNeq | exact yAdd | exact yLoad | exact ZBV | exact yPick | fail); all_goals infer_instance)))); dsimp only [ZB, z0, z1]) | ((first | refine Zd rfl rfl rfl (fun h => ?_) (fun h => ?_) | refine Zc rfl rfl rfl (fun h => ?_) (fun h => ?_) | refine ZY rfl rfl rfl (fun h => ?_) (fun h => ?_) | refine ZAf rfl rfl rfl (fun h => ?_) (fun h => ?_) | refine ZAh rfl rfl rfl (fun h => ?_) (fun h => ?_) | refine ZAD rfl rfl rfl (fun h => ?_) (fun h => ?_)) <;> (first | (exfalso; first | omega | contradiction) | (dsimp only [z0, z1]))) | (apply Zr; (exact oD); (with_reducible rfl)) | (apply ZC; (exact oD); all_goals (intro h; try exact xD)) | (apply ZH; (exact oD); all_goals (intro h; try exact xD)) | refine WC.skip ?_ | refine WC.ret ?_ | refine WC.exit ?_ | refine WC.block ?_ | refine ThenD.n ?_ | refine ThenD.r ?_ | refine InBlockD.n ?_ | refine InBlockD.r ?_)); all_goals (first | ((repeat clear hK); (repeat clear Kx))))
    all_goals rw [List.drop_eq_getElem_cons (show k < a.length by omega)] at h4
    ·have hc : c' = c'[0] :: c'.drop 1 := by
      have := List.drop_eq_getElem_cons (show 0 < c'.length by omega)
      rwa [List.drop_zero] at this
     have hd : (c'.drop 1).length = c'.length - 1 := List.length_drop
     (refine ⟨c'.drop 1, ?_, by first | omega | (simp only; omega), rfl, ?_⟩; rotate_left; ((try dsimp only [ZL, z0, z1]); repeat (first | exact LeF.nil | refine ZD (k := ?_))); (try dsimp only))
     refine ⟨by omega, ?_⟩
     rw [List.drop_eq_getElem_cons (show k < a.length by omega), h4]
     conv => lhs; rw [hc]
     exact faceG_skip h
    ·have hc : c' = a[k] :: c'.drop 1 := by
      have := List.drop_eq_getElem_cons (show 0 < c'.length by omega)
      rw [List.drop_zero] at this
      rw [this]; congr 1
     (refine ⟨(k + 1, c'), ?_, by first | omega | (simp only; omega), rfl, ?_⟩; rotate_left; ((try dsimp only [ZL, z0, z1]); repeat (first | exact LeF.nil | refine ZD (k := ?_))); (try dsimp only))
     refine ⟨by omega, ?_⟩
     show _ = ZBO (a.drop (k + 1)) c'
     rw [h4]
     conv => lhs; rw [hc, faceG_hit]
     rw [<- hc]
    ·have hc : c' = [] := List.eq_nil_of_length_eq_zero (by omega)
     (refine ⟨trivial, _, rfl, ?_⟩; refine FinD.b ?_)
     rw [h4, hc, faceG_end]
  ·rw [List.drop_of_length_le (by omega)] at h2
   (refine ⟨trivial, _, rfl, ?_⟩; refine FinD.b ?_)
   rw [h2]; rfl
end
section
open Go.RowKit

abbrev dPredLOn (s : Cx) (p : List Vx -> Bool) : Dat := dFun Tryz.prog (fun v : {v : List Vx // v ∈ s} => [dS ZF v.1]) (fun v => dB (p v.1))
set_option maxHeartbeats 1000000 in
theorem filterS_p (s : Cx) (p : List Vx -> Bool) (hl : s.length <= 1000000) : Fn Tryz.prog 131 [dS Zq s, dPredLOn s p] (dS Zq (s.filter p)) := by
 (refine ZE Tryz.func131 rfl rfl ?_; simp only [Tryz.ntmps131, List.length_cons, List.length_nil, Nat.reduceAdd, Nat.reduceSub, List.replicate_succ, List.replicate_zero, List.cons_append, List.nil_append])
 (repeat' (first | (apply WL.opN; exact yF; dsimp only [ZB, z0, z1]) | refine WL.nil ?_ | refine ZA fun Kx hK => ?_ | (refine hK _ _ ?_; clear hK) | refine WC.region ?_ | (apply WL.opN; (focus ((first | exact ZBV | fail); all_goals infer_instance)); dsimp only [ZB, z0, z1]) | refine WC.block ?_))
 refine WC.nilRow 28 ZF ?_
 (refine WC.loopU (X := Nat × Value × Cx) (fun x => [(5, dX x.2.1), (10, dI (x.1 : Int)), (7, dA), (11, dA), (12, dA), (13, dA), (14, dA), (15, dA), (16, dA), (17, dA), (18, dA), (19, dA), (20, dA), (21, dA)]) (fun x => [ZU x.2.1 28 ZF x.2.2]) (fun x => s.length - x.1) (fun x => x.1 <= s.length /\ x.2.2 = (s.take x.1).filter p) (0, .slice none 0 0, []) ?start ?frame0 ?objs0 ?round)
 case start => exact ⟨Nat.zero_le _, by simp⟩
 case frame0 => ((try dsimp only [ZL, z0, z1]); repeat (first | exact LeF.nil | refine ZD (k := ?_)))
 case objs0 => rfl
 case round =>
  rintro ⟨k, u, o⟩ ⟨h1, h2⟩
  dsimp only [ZL, z0, z1]
  simp only at h1 h2
  have hol : o.length <= 1000000 := by
   have h5 := List.length_filter_le p (s.take k)
   rw [List.length_take] at h5
   rw [h2]; omega
  ((repeat' (first | (apply WL.opN; exact yF; dsimp only [ZB, z0, z1]) | refine WL.nil ?_ | refine ZA fun Kx hK => ?_ | (refine hK _ _ ?_; clear hK) | (refine Kont.skip ?_; clear hK) | refine WC.region ?_ | ((first | apply WL.pushK | apply WL.push1); (exact eD); exact OpD.t rfl; (exact oD); (intro _; exact hD); (exact (by simp)); (exact (by simp)); (first | exact ⟨by decide, by decide⟩ | skip); decide; (exact lD); (intro _; dsimp only [ZB, z0, z1]); all_goals (try infer_instance)) | (apply WL.opN; (focus ((first | (apply ZCX (x := (⟨s[k], List.getElem_mem _⟩ : {v : List Vx // v ∈ s})); (exact OpD.t rfl); (exact aD)) | exact ZBu | exact yAdd | exact ZT | fail); all_goals infer_instance)); dsimp only [ZB, z0, z1]) | (apply ZC; (exact oD); all_goals (intro h; try exact xD)) | (apply WC.cond; (exact oD); all_goals (intro h; try exact xD)) | refine WC.skip ?_ | refine WC.ret ?_ | refine WC.exit ?_ | refine WC.block ?_ | refine ThenD.n ?_)); all_goals (first | ((repeat clear hK); (repeat clear Kx))))
  ·(refine ⟨(k + 1, _, o ++ [s[k]]), ?_, by first | omega | (simp only; omega), rfl, ?_⟩; rotate_left; ((try dsimp only [ZL, z0, z1]); repeat (first | exact LeF.nil | refine ZD (k := ?_))); (try dsimp only))
   refine ⟨by omega, ?_⟩
   show o ++ [s[k]] = _
   rw [filt_snoc (by omega), if_pos h, <- h2]
  ·(refine ⟨(k + 1, u, o), ?_, by first | omega | (simp only; omega), rfl, ?_⟩; rotate_left; ((try dsimp only [ZL, z0, z1]); repeat (first | exact LeF.nil | refine ZD (k := ?_))); (try dsimp only))
   refine ⟨by omega, ?_⟩
   show o = _
   rw [filt_snoc (by omega), if_neg (by rw [h]; exact Bool.false_ne_true), List.append_nil, <- h2]
  ·rw [List.take_of_length_le (by omega)] at h2
   subst h2
   (refine ⟨trivial, _, rfl, ?_⟩; exact fD)
end
section
open Go.RowKit

theorem around1_p (f s : List Vx) : Fn Tryz.prog 132 ([dS ZF f] ++ [dP 1 false (dS ZF s)]) (dB (ZBO s f)) := by
 show Fn Tryz.prog 132 [dS ZF f, dP 1 false (dS ZF s)] (dB (ZBO s f))
 (refine ZE Tryz.func132 rfl rfl ?_; simp only [Tryz.ntmps132, List.length_cons, List.length_nil, Nat.reduceAdd, Nat.reduceSub, List.replicate_succ, List.replicate_zero, List.cons_append, List.nil_append])
 ((repeat' (first | (apply WL.opN; exact yF; dsimp only [ZB, z0, z1]) | refine WL.nil ?_ | refine ZA fun Kx hK => ?_ | (refine hK _ _ ?_; clear hK) | refine WC.region ?_ | (apply WL.opN; (focus ((first | (apply SY.call (face27_p _ _) Tryz.call124; (exact aD)) | fail); all_goals infer_instance)); dsimp only [ZB, z0, z1]) | refine WC.ret ?_)); all_goals (first | ((repeat clear hK); (repeat clear Kx))))
 all_goals (refine ⟨trivial, _, rfl, ?_⟩; exact fD)
abbrev MemS (l : Cx) := {v : List Vx // v ∈ l}
theorem around_p (l : Cx) (s : List Vx) (hl : l.length <= 1000000) : Fn Tryz.prog 106 [dS Cpx l, dS ZF s] (dS Zq (l.filter (ZBO s))) := by
 (refine ZE Tryz.func106 rfl rfl ?_; simp only [Tryz.ntmps106, List.length_cons, List.length_nil, Nat.reduceAdd, Nat.reduceSub, List.replicate_succ, List.replicate_zero, List.cons_append, List.nil_append])
 ((repeat' (first | (apply WL.opN; exact yF; dsimp only [ZB, z0, z1]) | refine WL.nil ?_ | refine ZA fun Kx hK => ?_ | (refine hK _ _ ?_; clear hK) | refine WC.region ?_ | (apply WL.opN; (focus ((first | (apply ZBi (A := fun v : MemS l => [dS ZF v.1]) (r := fun v => dB (ZBO s v.1)) Tryz.call132 (fun v => around1_p v.1 s) (fun _ => bare_B); (exact aD)) | (apply SY.call (filterS_p l (ZBO s) hl) Tryz.call131; (exact aD)) | exact Zx | exact yBox | fail); all_goals infer_instance)); dsimp only [ZB, z0, z1]) | refine WC.ret ?_)); all_goals (first | ((repeat clear hK); (repeat clear Kx))))
 all_goals (refine ⟨trivial, _, rfl, ?_⟩; exact fD)
abbrev dPredI (at' : List Int) (p : Int -> Bool) : Dat := dFun Tryz.prog (fun i : {i : Int // i ∈ at'} => [dI i.1]) (fun i => dB (p i.1))
theorem idxI_p (l : List Int) (p : Int -> Bool) : Fn Tryz.prog 125 [dS ZCE l, dPredI l p] (dI (idxG p 0 l)) := by
 (refine ZE Tryz.func125 rfl rfl ?_; simp only [Tryz.ntmps125, List.length_cons, List.length_nil, Nat.reduceAdd, Nat.reduceSub, List.replicate_succ, List.replicate_zero, List.cons_append, List.nil_append])
 (repeat' (first | (apply WL.opN; exact yF; dsimp only [ZB, z0, z1]) | refine WL.nil ?_ | refine ZA fun Kx hK => ?_ | (refine hK _ _ ?_; clear hK) | refine WC.region ?_ | (apply WL.opN; (focus ((first | exact ZBV | fail); all_goals infer_instance)); dsimp only [ZB, z0, z1]) | refine WC.block ?_))
 (first | refine ZR (t := 0) rfl le_K fun hl0 => ?_ | refine ZR (t := 0) rfl le_A fun hl0 => ?_ | refine ZR (t := 0) rfl le_C fun hl0 => ?_); simp only [maxLen] at hl0
 (refine WC.loopU (X := Nat) (fun k => [(8, dI (k : Int)), (4, dA), (5, dA), (9, dA), (10, dA), (11, dA), (12, dA), (13, dA), (14, dA), (15, dA), (16, dA), (17, dA), (18, dA)]) (fun k => []) (fun k => l.length - k) (fun k => k <= l.length /\ idxG p 0 l = idxG p k (l.drop k)) 0 ?start ?frame0 ?objs0 ?round)
 case start => exact ⟨Nat.zero_le _, rfl⟩
 case frame0 => ((try dsimp only [ZL, z0, z1]); repeat (first | exact LeF.nil | refine ZD (k := ?_)))
 case objs0 => rfl
 case round =>
  rintro k ⟨h1, h2⟩
  dsimp only [ZL, z0, z1]
  ((repeat' (first | (apply WL.opN; exact yF; dsimp only [ZB, z0, z1]) | refine WL.nil ?_ | refine ZA fun Kx hK => ?_ | (refine hK _ _ ?_; clear hK) | (refine Kont.skip ?_; clear hK) | refine WC.region ?_ | (apply WL.opN; (focus ((first | (apply ZCX (x := (⟨l[k], List.getElem_mem _⟩ : {i : Int // i ∈ l})); (exact OpD.t rfl); (exact aD)) | exact ZBu | exact yAdd | exact ZT | fail); all_goals infer_instance)); dsimp only [ZB, z0, z1]) | (apply ZC; (exact oD); all_goals (intro h; try exact xD)) | (apply WC.cond; (exact oD); all_goals (intro h; try exact xD)) | refine WC.skip ?_ | refine WC.ret ?_ | refine WC.exit ?_ | refine WC.block ?_ | refine ThenD.n ?_ | refine ThenD.r ?_ | refine InBlockD.r ?_)); all_goals (first | ((repeat clear hK); (repeat clear Kx))))
  ·(refine ⟨trivial, _, rfl, ?_⟩; refine FinD.i ?_)
   rw [h2, ZCF (by omega), if_pos h]
  ·(refine ⟨k + 1, ?_, by first | omega | (simp only; omega), rfl, ?_⟩; rotate_left; ((try dsimp only [ZL, z0, z1]); repeat (first | exact LeF.nil | refine ZD (k := ?_))); (try dsimp only))
   exact ⟨by omega, by rw [h2, ZCF (by omega), if_neg (by simp [h])]⟩
  ·(refine ⟨trivial, _, rfl, ?_⟩; refine FinD.i ?_)
   rw [h2, List.drop_of_length_le (by omega)]; rfl
theorem cntI_p (l : List Int) (p : Int -> Bool) : Fn Tryz.prog 92 [dS ZCE l, dPredI l p] (dB (l.any p)) := by
 (refine ZE Tryz.func92 rfl rfl ?_; simp only [Tryz.ntmps92, List.length_cons, List.length_nil, Nat.reduceAdd, Nat.reduceSub, List.replicate_succ, List.replicate_zero, List.cons_append, List.nil_append])
 ((repeat' (first | (apply WL.opN; exact yF; dsimp only [ZB, z0, z1]) | refine WL.nil ?_ | refine ZA fun Kx hK => ?_ | (refine hK _ _ ?_; clear hK) | refine WC.region ?_ | (apply WL.opN; (focus ((first | (apply SY.call (idxI_p _ _) Tryz.call125; (exact aD)) | exact yGeq | fail); all_goals infer_instance)); dsimp only [ZB, z0, z1]) | refine WC.ret ?_)); all_goals (first | ((repeat clear hK); (repeat clear Kx))))
 all_goals ((refine ⟨trivial, _, rfl, ?_⟩; refine FinD.b ?_); exact idxG_iff _ _)
end
section
open Go.RowKit

def covI (l : Cx) (s : List Vx) (i : Int) : Bool := decide (s.length < (l.getD i.toNat []).length) && ZBO s (l.getD i.toNat [])
theorem cov1_p (l : Cx) (s : List Vx) (i : Int) (h0 : 0 <= i) (h1 : i < l.length) : Fn Tryz.prog 123 ([dI i] ++ [dP 1 false (dS Zq l), dP 1 false (dS ZF s)]) (dB (covI l s i)) := by
 obtain ⟨k, rfl⟩ : ∃ k : Nat, i = k := ⟨i.toNat, by omega⟩
 have hk : k < l.length := by omega
 have e : covI l s (k : Int) = (decide (s.length < l[k].length) && ZBO s l[k]) := by
  unfold covI
  rw [Int.toNat_natCast, show l.getD k [] = l[k] by simp [List.getD, hk]]
 rw [e]
 show Fn Tryz.prog 123 [dI (k : Int), dP 1 false (dS Zq l), dP 1 false (dS ZF s)] _
 (refine ZE Tryz.func123 rfl rfl ?_; simp only [Tryz.ntmps123, List.length_cons, List.length_nil, Nat.reduceAdd, Nat.reduceSub, List.replicate_succ, List.replicate_zero, List.cons_append, List.nil_append])
 ((repeat' (first | ((first | apply WL.opN | apply WD.opN); exact yF; dsimp only [ZB, z0, z1]) | refine WL.nil ?_ | refine WD.nil ?_ | refine ZA fun Kx hK => ?_ | (refine hK _ _ ?_; clear hK) | refine WC.region ?_ | (apply WC.draw; kernel_rfl; kernel_rfl) | ((first | apply ZJ | apply WD.op); (focus (first | exact wN | (apply ZG; (exact wY); ((first | (apply SY.call (face27_p _ _) Tryz.call124; (exact aD)) | exact yMove | exact yGtr | exact yLoad | exact ZBV | exact ZT | exact yPick | fail); all_goals infer_instance)))); dsimp only [ZB, z0, z1]) | ((first | refine Zd rfl rfl rfl (fun h => ?_) (fun h => ?_) | refine Zc rfl rfl rfl (fun h => ?_) (fun h => ?_) | refine ZY rfl rfl rfl (fun h => ?_) (fun h => ?_) | refine ZAf rfl rfl rfl (fun h => ?_) (fun h => ?_) | refine ZAh rfl rfl rfl (fun h => ?_) (fun h => ?_) | refine ZAD rfl rfl rfl (fun h => ?_) (fun h => ?_)) <;> (first | (exfalso; first | omega | contradiction) | (dsimp only [z0, z1]))) | refine WC.ret ?_)); all_goals (first | ((repeat clear hK); (repeat clear Kx))))
 ·rw [decide_eq_true (show s.length < l[k].length by omega), Bool.true_and]
  (refine ⟨trivial, _, rfl, ?_⟩; exact fD)
 ·rw [decide_eq_false (show ¬ s.length < l[k].length by omega), Bool.false_and]
  (refine ⟨trivial, _, rfl, ?_⟩; exact fD)
abbrev MemI (l : List Int) := {v : Int // v ∈ l}
theorem coveredP_p (l : Cx) (at' : List Int) (s : List Vx) (hat : ∀ i ∈ at', 0 <= i /\ i < l.length) : Fn Tryz.prog 90 [dS Zq l, dS ZCE at', dS ZF s] (dB (at'.any (covI l s))) := by
 (refine ZE Tryz.func90 rfl rfl ?_; simp only [Tryz.ntmps90, List.length_cons, List.length_nil, Nat.reduceAdd, Nat.reduceSub, List.replicate_succ, List.replicate_zero, List.cons_append, List.nil_append])
 ((repeat' (first | (apply WL.opN; exact yF; dsimp only [ZB, z0, z1]) | refine WL.nil ?_ | refine ZA fun Kx hK => ?_ | (refine hK _ _ ?_; clear hK) | refine WC.region ?_ | (apply WL.opN; (focus ((first | (apply ZBi (A := fun v : MemI at' => [dI v.1]) (r := fun v => dB (covI l s v.1)) Tryz.call123 (fun v => cov1_p l s v.1 (hat v.1 v.2).1 (hat v.1 v.2).2) (fun _ => bare_B); (exact aD)) | (apply SY.call (cntI_p at' (covI l s)) Tryz.call92; (exact aD)) | exact yBox | fail); all_goals infer_instance)); dsimp only [ZB, z0, z1]) | refine WC.ret ?_)); all_goals (first | ((repeat clear hK); (repeat clear Kx))))
 all_goals (refine ⟨trivial, _, rfl, ?_⟩; exact fD)
end
section
theorem dropWhile_split (v : Vx) : ∀ b : List Vx, (v ∉ b /\ (b.dropWhile fun x => decide (x ≠ v)) = []) \/ ∃ pre c, b = pre ++ v :: c /\ v ∉ pre /\ (b.dropWhile fun x => decide (x ≠ v)) = v :: c
 | [] => .inl ⟨by simp, rfl⟩
 | x :: b => by
  by_cases hx : x = v
  ·subst hx
   exact .inr ⟨[], b, rfl, by simp, by rw [List.dropWhile_cons_of_neg (by simp)]⟩
  ·rw [List.dropWhile_cons_of_pos (by simpa using hx)]
   rcases dropWhile_split v b with ⟨h1, h2⟩ | ⟨pre, c, h1, h2, h3⟩
   ·exact .inl ⟨by simp [h1, Ne.symm hx], h2⟩
   ·exact .inr ⟨x :: pre, c, by rw [h1]; rfl, by simp [h2, Ne.symm hx], h3⟩
theorem cmpV_irr (v : Vx) : ZAX v v = 0 := ZBR.2 rfl
theorem ZB0 : ∀ (a b : List Vx), Asc a -> Asc b -> ZBO a b = ZAm a b
 | [], b, _, _ => rfl
 | v :: a, b, ha, hb => by
  have ha' := ha
  unfold Asc at ha'
  rw [List.pairwise_cons] at ha'
  unfold ZBO
  rcases dropWhile_split v b with ⟨h1, h2⟩ | ⟨pre, c, h1, h2, h3⟩
  ·rw [if_pos h2]
   unfold ZAm
   simp [h1]
  ·rw [h3, if_neg (by simp)]
   have hb' := hb
   unfold Asc at hb'
   rw [h1, List.pairwise_append] at hb'
   rw [ZB0 a (v :: c) ha'.2 hb'.2.1]
   have hv : v ∈ b := by rw [h1]; simp
   unfold ZAm
   rw [List.all_cons, decide_eq_true hv, Bool.true_and, Bool.eq_iff_iff, List.all_eq_true, List.all_eq_true]
   constructor
   ·intro h x hx
    have := h x hx
    simp only [decide_eq_true_eq] at this ⊢
    rw [h1]; exact List.mem_append.2 (.inr this)
   ·intro h x hx
    have := h x hx
    simp only [decide_eq_true_eq] at this ⊢
    rw [h1] at this
    rcases List.mem_append.1 this with hp | hp
    ·have h5 := hb'.2.2 x hp v (by simp)
     have h6 := ZBD h5 (ha'.1 x hx)
     rw [cmpV_irr] at h6; omega
    ·exact hp
def addI (m : List (Vx × List Int)) (v : Vx) (i : Int) : List (Vx × List Int) := ZBP m v ((lookM m v).getD [] ++ [i])
def incS (m : List (Vx × List Int)) (s : List Vx) (i : Int) : List (Vx × List Int) := s.foldl (fun m v => addI m v i) m
def incC (l : Cx) : List (Vx × List Int) := (l.zipIdx).foldl (fun m p => incS m p.1 (p.2 : Int)) []
theorem incS_snoc {m : List (Vx × List Int)} {s : List Vx} {i : Int} {j : Nat} (h : j < s.length) : incS m (s.take (j + 1)) i = addI (incS m (s.take j) i) s[j] i := by
 unfold incS; rw [ZQ h, List.foldl_append]; rfl
theorem incC_snoc {l : Cx} {i : Nat} (h : i < l.length) : incC (l.take (i + 1)) = incS (incC (l.take i)) l[i] (i : Int) := by
 unfold incC
 rw [ZQ h, List.zipIdx_append, List.foldl_append]
 simp [List.length_take, Nat.min_eq_left (Nat.le_of_lt h)]
def atM (m : List (Vx × List Int)) (v : Vx) : List Int := (lookM m v).getD []
theorem lookM_putM {K V : Type} [DecidableEq K] {m : List (K × V)} {x y : K} {v : V} : lookM (ZBP m x v) y = if y = x then some v else lookM m y := by
 unfold ZBP
 by_cases h : (lookM m x).isSome
 ·rw [if_pos h]
  induction m with
  | nil => simp [lookM] at h
  | cons p m ih =>
   rw [List.map_cons]
   by_cases hp : p.1 = x
   ·rw [if_pos hp]
    by_cases hy : y = x
    ·rw [if_pos hy]; unfold lookM
     rw [List.find?_cons_of_pos (by simp [hy])]; rfl
    ·rw [if_neg hy]; unfold lookM
     rw [List.find?_cons_of_neg (by simpa using Ne.symm hy), List.find?_cons_of_neg (by rw [hp]; simpa using Ne.symm hy)]
     clear ih h hp
     induction m with
     | nil => rfl
     | cons q m ih =>
      rw [List.map_cons]
      by_cases hq : q.1 = x
      ·rw [if_pos hq, List.find?_cons_of_neg (by simpa using Ne.symm hy), List.find?_cons_of_neg (by rw [hq]; simpa using Ne.symm hy)]
       exact ih
      ·rw [if_neg hq]
       by_cases hqy : q.1 = y
       ·rw [List.find?_cons_of_pos (by simpa using hqy), List.find?_cons_of_pos (by simpa using hqy)]
       ·rw [List.find?_cons_of_neg (by simpa using hqy), List.find?_cons_of_neg (by simpa using hqy)]
        exact ih
   ·rw [if_neg hp]
    have h' : (lookM m x).isSome := by
     unfold lookM at h ⊢
     rwa [List.find?_cons_of_neg (by simpa using hp)] at h
    have := ih h'
    unfold lookM at this ⊢
    by_cases hpy : p.1 = y
    ·have hyx : y ≠ x := fun e => hp (hpy.trans e)
     rw [List.find?_cons_of_pos (by simpa using hpy), if_neg hyx, List.find?_cons_of_pos (by simpa using hpy)]
    ·rw [List.find?_cons_of_neg (by simpa using hpy), List.find?_cons_of_neg (by simpa using hpy)]
     exact this
 ·rw [if_neg h]
  have h0 : lookM m x = none := by simpa using h
  unfold lookM at h0 ⊢
  rw [List.find?_append]
  by_cases hy : y = x
  ·subst hy
   rw [if_pos rfl]
   have : m.find? (fun p => decide (p.1 = y)) = none := by simpa using h0
   rw [this]; simp
  ·rw [if_neg hy, List.find?_cons_of_neg (by simpa using Ne.symm hy)]
   simp
theorem atM_addI {m : List (Vx × List Int)} {v u : Vx} {i : Int} : atM (addI m v i) u = if u = v then atM m v ++ [i] else atM m u := by
 unfold atM addI
 rw [lookM_putM]
 split <;> rfl
theorem mem_incS {i j : Int} {v : Vx} : ∀ {s : List Vx} {m : List (Vx × List Int)}, j ∈ atM (incS m s i) v ↔ j ∈ atM m v \/ (j = i /\ v ∈ s)
 | [], m => by simp [incS]
 | u :: s, m => by
  show j ∈ atM (incS (addI m u i) s i) v ↔ _
  rw [mem_incS (s := s), atM_addI]
  by_cases hv : v = u
  ·subst hv
   rw [if_pos rfl, List.mem_append, List.mem_singleton, List.mem_cons]
   constructor
   ·rintro ((h | h) | h)
    ·exact .inl h
    ·exact .inr ⟨h, .inl rfl⟩
    ·exact .inr ⟨h.1, .inr h.2⟩
   ·rintro (h | h)
    ·exact .inl (.inl h)
    ·exact .inl (.inr h.1)
  ·rw [if_neg hv, List.mem_cons]; simp [hv]
theorem mem_incC_take {l : Cx} {j : Int} {v : Vx} : ∀ {n : Nat}, n <= l.length -> (j ∈ atM (incC (l.take n)) v ↔ ∃ (k : Nat) (h : k < l.length), k < n /\ j = k /\ v ∈ l[k])
 | 0, _ => by simp [incC, atM, lookM]
 | n + 1, hn => by
  rw [incC_snoc (by omega), mem_incS, mem_incC_take (by omega)]
  constructor
  ·rintro (⟨k, h, h1, h2, h3⟩ | ⟨h1, h2⟩)
   ·exact ⟨k, h, by omega, h2, h3⟩
   ·exact ⟨n, by omega, by omega, h1, h2⟩
  ·rintro ⟨k, h, h1, h2, h3⟩
   by_cases hk : k = n
   ·subst hk; exact .inr ⟨h2, h3⟩
   ·exact .inl ⟨k, h, by omega, h2, h3⟩
theorem mem_incC {l : Cx} {j : Int} {v : Vx} : j ∈ atM (incC l) v ↔ ∃ (k : Nat) (h : k < l.length), j = k /\ v ∈ l[k] := by
 have := mem_incC_take (l := l) (j := j) (v := v) (Nat.le_refl _)
 rw [List.take_length] at this
 rw [this]
 exact ⟨fun ⟨k, h, _, h2, h3⟩ => ⟨k, h, h2, h3⟩, fun ⟨k, h, h2, h3⟩ => ⟨k, h, h, h2, h3⟩⟩
theorem atM_bnd {l : Cx} {v : Vx} : ∀ i ∈ atM (incC l) v, 0 <= i /\ i < l.length := fun i hi => by
 obtain ⟨k, h, rfl, _⟩ := mem_incC.1 hi
 omega
theorem anyCov {l : Cx} (h : ∀ s ∈ l, Zn s = 0) {s : List Vx} (hs : Zn s = 0) {v : Vx} (hv : v ∈ s) : (atM (incC l) v).any (covI l s) = Z8 l s := by
 have asc : ∀ s ∈ l, Asc s := fun s hs => (ZM.1 (h s hs)).2.2.2
 rw [Bool.eq_iff_iff, List.any_eq_true, ZAQ]
 constructor
 ·rintro ⟨i, hi, hc⟩
  obtain ⟨k, hk, rfl, _⟩ := mem_incC.1 hi
  have hm := List.getElem_mem hk
  unfold covI at hc
  rw [Int.toNat_natCast, show l.getD k [] = l[k] by simp [List.getD, hk], Bool.and_eq_true, decide_eq_true_eq, ZB0 _ _ (ZM.1 hs).2.2.2 (asc _ hm)] at hc
  exact ⟨l[k], hm, hc.1, hc.2⟩
 ·rintro ⟨x, hx, h1, h2⟩
  obtain ⟨k, hk, rfl⟩ := List.getElem_of_mem hx
  refine ⟨(k : Int), mem_incC.2 ⟨k, hk, rfl, ?_⟩, ?_⟩
  ·unfold ZAm at h2
   have := List.all_eq_true.1 h2 v hv
   simpa using this
  ·unfold covI
   rw [Int.toNat_natCast, show l.getD k [] = l[k] by simp [List.getD, hk], Bool.and_eq_true, decide_eq_true_eq, ZB0 _ _ (ZM.1 hs).2.2.2 (asc _ hx)]
   exact ⟨h1, h2⟩
end
section
theorem mem_shared {a b : List Vx} {p : Bool} {x : Vx} : x ∈ sharedV a b p ↔ x ∈ a /\ decide (x ∈ b) = p := by unfold sharedV; rw [List.mem_filter]; simp
theorem shared_sub {a b : List Vx} {p : Bool} : (sharedV a b p).Sublist a := List.filter_sublist
theorem asc_shared {a b : List Vx} {p : Bool} (h : Asc a) : Asc (sharedV a b p) := List.Pairwise.sublist shared_sub h
theorem sub_good {a s : List Vx} (ha : Zn a = 0) (hs : s.Sublist a) (hne : s ≠ []) : Zn s = 0 := by
 obtain ⟨h1, h2, h3, h4⟩ := ZM.1 ha
 refine ZM.2 ⟨fun h => hne (List.eq_nil_of_length_eq_zero h), Nat.le_trans hs.length_le h2, fun v hv => h3 v (hs.subset hv), List.Pairwise.sublist hs h4⟩
theorem asc_nodup {a : List Vx} (h : Asc a) : a.Nodup := List.Pairwise.imp (fun {x y} hxy e => by
 subst e
 have := ZBR.2 (rfl : x = x)
 omega) h
theorem ne_nil {s : List Vx} (h : 0 < s.length) : s ≠ [] := fun e => by subst e; simp at h
end
end Go.Proofs.YtmcllakdbgnfiaaGreatDoor
