/- Part 41: walks by contracts, and plain laws. -/
import Derived.Test.YtmcllakdbgnfiaaGreatDoorVg40
set_option linter.unusedVariables false
set_option linter.unusedSimpArgs false
set_option linter.unusedSectionVars false
set_option maxRecDepth 100000
set_option maxHeartbeats 4000000
namespace Go.Proofs.YtmcllakdbgnfiaaGreatDoor
section
open Go.RowKit
def chrL (M : NumM) (s : List Vx) : Nat -> Int := fun m => numF M (atB s m)
def chrS (M : NumM) (s : List Vx) : Cx := (ZBw (2 ^ s.length - 1)).map (Zh (chrL M s) s)
def chrF (M : NumM) (l : Cx) : Cx := l.flatMap (chrS M)
theorem chrF_snoc {M : NumM} {l : Cx} {i : Nat} (h : i < l.length) : chrF M (l.take (i + 1)) = chrF M (l.take i) ++ chrS M l[i] := by
 unfold chrF
 rw [ZQ h, List.flatMap_append]
 simp
theorem chrS_len {M : NumM} {s : List Vx} (h5 : s.length <= 5) : (chrS M s).length = fubN s.length := by
 unfold chrS
 rw [List.length_map]
 exact fub_ord ⟨s.length, by omega⟩
theorem ZBy {M : NumM} : ∀ {l : Cx}, (∀ s ∈ l, s.length <= 5) -> (chrF M l).length = sumU l
 | [], _ => rfl
 | s :: l, h => by
  have h1 := ZBy (M := M) (l := l) fun t ht => h t (by simp [ht])
  unfold chrF at h1 ⊢
  rw [List.flatMap_cons, List.length_append, h1, chrS_len (h s (by simp))]
  unfold sumU
  rw [List.map_cons, List.sum_cons]
theorem sumU_take {l : Cx} (i : Nat) : sumU (l.take i) <= sumU l := by
 conv => rhs; rw [<- List.take_append_drop i l]
 unfold sumU
 rw [List.map_append, List.sum_append]
 omega
theorem flat_le {l : Cx} {n : Nat} (h : ∀ s ∈ l, s.length <= n) : l.flatten.length <= n * l.length := by
 induction l with
 | nil => simp
 | cons s l ih =>
  have h1 := ih fun t ht => h t (by simp [ht])
  have h2 := h s (by simp)
  rw [List.flatten_cons, List.length_append, List.length_cons, Nat.mul_succ]
  omega
theorem chrF_el {M : NumM} {l : Cx} (h5 : ∀ s ∈ l, s.length <= 5) : ∀ t ∈ chrF M l, t.length <= 5 := fun t ht => by
 obtain ⟨s, hs, ht⟩ := List.mem_flatMap.1 ht
 obtain ⟨bl, _, rfl⟩ := List.mem_map.1 ht
 rw [ZAp]
 exact h5 s hs
abbrev MemM := {m : Nat // m < 1048576}

theorem chrBad_p (l : Cx) (he : chrE l ≠ 0) : Fn Tryz.prog 9 [dS CpxL l] (dT [dS SubR ([], [], []), dI (chrE l)]) := by
 have c1 := chromatics_p l
 generalize chrE l = e at *
 refine ZBf ZB8 Tryz.func9 rfl rfl ?_
 simp only [Tryz.ntmps9, List.length_cons, List.length_nil, Nat.reduceAdd, Nat.reduceSub, List.replicate_succ, List.replicate_zero, List.cons_append, List.nil_append]
 ((repeat' (first | (apply WL.opN; exact yF; dsimp only [ZB, z0, z1]) | refine WL.nil ?_ | refine ZA fun Kx hK => ?_ | (refine hK _ _ ?_; clear hK) | refine WC.region ?_ |  (refine WL.alloc (dst := some 2) tzSb (ZAS rfl rfl rfl) fun b2 => ?_; dsimp only [ZB, z0, z1]) |  (refine WL.storeF ZB8 rfl (OpD.t rfl) Z9 ?_; dsimp only [ZB, z0, z1]) | (apply WL.opN; (focus ((first | (exact SY.box (OpD.t rfl) (fun I w v h => ZAl I w v (ZAT I w v h))) | (apply SY.call c1 Tryz.call34; exact ArgsD.cons (OpD.tle rfl ZAT) ArgsD.nil) | (exact SY.mkSn) | ((first | apply SY.move | apply SY.assign | apply SY.lss | apply SY.neq) <;> (exact oD)) | fail); all_goals infer_instance)); dsimp only [ZB, z0, z1]) | (apply ZH; (exact oD); all_goals (intro h; try exact xD)) | refine WC.ret ?_ | refine ThenD.r ?_)); all_goals (first | ((repeat clear hK); (repeat clear Kx))))
 all_goals first | (refine ⟨trivial, ⟨_, rfl, ?_⟩, _, rfl, ?_⟩ <;> exact fD) | (exfalso; first | contradiction | omega)
set_option maxHeartbeats 16000000 in
theorem chr29_p (l C : Cx) (car : Vx -> List Vx) (he : chrE l = 0) (hOf : ofP (chrF (ZBZ l) l) = (C, 0)) (hcl : ∀ v, (car v).length <= 1000)
  (hcar : ∀ s ∈ l, ∀ bl ∈ ZBw (2 ^ s.length - 1), ∀ (i : Nat) (h : i < (Zh (chrL (ZBZ l) s) s bl).length), okV (Zh (chrL (ZBZ l) s) s bl)[i] /\ car (Zh (chrL (ZBZ l) s) s bl)[i] = atB s (ZA0 bl 0 (fun _ => 0) i)) :
  Fn Tryz.prog 9 [dS CpxL l] (dT [dS SubR (C, ZBF [] (chrF (ZBZ l) l).flatten, (ZBF [] (chrF (ZBZ l) l).flatten).map car), dI 0]) := by
 have c1 := chromatics_p l
 rw [he] at c1
 have h0 : ZAn l = 0 := Classical.byContradiction fun q => by unfold chrE at he; rw [if_pos q] at he; exact q he
 have hG := Zg.1 h0
 have hl := hG.1
 have hg := hG.2.2.1
 have h5 : ∀ s ∈ l, s.length <= 5 := fun s hs => Classical.byContradiction fun q => by
  unfold chrE at he
  rw [if_neg (by rw [h0]; decide)] at he
  by_cases hd : l.all Zy = false
  ·rw [if_pos hd] at he; exact absurd he (by decide)
  ·rw [if_neg hd, if_pos (List.any_eq_true.2 ⟨s, hs, decide_eq_true (by omega)⟩)] at he
   exact absurd he (by decide)
 have hsum : sumU l <= 4096 := Classical.byContradiction fun q => by
  unfold chrE at he
  rw [if_neg (by rw [h0]; decide)] at he
  by_cases hd : l.all Zy = false
  ·rw [if_pos hd] at he; exact absurd he (by decide)
  ·rw [if_neg hd] at he
   by_cases ha : l.any (fun s => decide (5 < s.length)) = true
   ·rw [if_pos ha] at he; exact absurd he (by decide)
   ·rw [if_neg ha, if_pos (by omega)] at he; exact absurd he (by decide)
 have cF := facesL_p l (by omega) hg
 obtain ⟨hMo, hMk⟩ := num_ok hg
 have hFl : ∀ i, (chrF (ZBZ l) (l.take i)).length <= 4096 := fun i => by
  rw [ZBy fun s hs => h5 s (List.mem_of_mem_take hs)]
  have := sumU_take (l := l) i
  omega
 have hcs := fun i (h : i < l.length) => chrF_snoc (M := ZBZ l) h
 have hflat : (chrF (ZBZ l) l).flatten.length <= 100000 := by
  have h1 := flat_le (chrF_el (M := ZBZ l) h5)
  rw [ZBy h5] at h1
  omega
 generalize hM : ZBZ l = M at *
 refine ZBf ZB8 Tryz.func9 rfl rfl ?_
 simp only [Tryz.ntmps9, List.length_cons, List.length_nil, Nat.reduceAdd, Nat.reduceSub, List.replicate_succ, List.replicate_zero, List.cons_append, List.nil_append]
 (repeat' (first |  (refine ZBg (t := 5) rfl ?_; dsimp only [z0, z1]) | (apply WL.opN; exact yF; dsimp only [ZB, z0, z1]) | refine WL.nil ?_ | refine ZA fun Kx hK => ?_ | (refine hK _ _ ?_; clear hK) | refine WC.region ?_ |  (refine WL.alloc (dst := some 2) tzSb (ZAS rfl rfl rfl) fun b2 => ?_; dsimp only [ZB, z0, z1]) |  (refine WL.alloc (dst := some 5) tzNum (ZW rfl) fun b5 => ?_; dsimp only [ZB, z0, z1]) |  (refine WL.storeK tyNum (OpD.t rfl) (OpD.t rfl) shape_Mr ?_; dsimp only [ZB, z0, z1]) |  (refine WL.makeMap kvV (fun u : Value × List Vx => u.1) fun bm => ?_; dsimp only [ZB, z0, z1]) |  (refine WL.boxS (OpD.t rfl) (by simp) fun bs => ?_; dsimp only [ZB, z0, z1]; refine WL.valsNil (K := Vx) ZF (ZAk 28 ZF (WL.perm perm_4x ?_))) | (apply WL.opN; (focus ((first | (exact SY.box (OpD.t rfl) (fun I w v h => ZAl I w v (ZAT I w v h))) | (apply SY.call c1 Tryz.call34; exact ArgsD.cons (OpD.tle rfl ZAT) ArgsD.nil) | (apply SY.call (cF) Tryz.call35; exact ArgsD.cons (OpD.t rfl) (ArgsD.nil)) | (exact SY.mkB1 (OpD.t rfl)) | ((first | apply SY.move | apply SY.assign | apply SY.lss | apply SY.neq) <;> (exact oD)) | (apply SY.len; (exact oD); (exact nD); (exact uD)) | (apply ZA7 cpxT; exact OpD.t rfl) | fail); all_goals infer_instance)); dsimp only [ZB, z0, z1]) | (apply ZH; (exact oD); all_goals (intro h; try exact xD)) | refine WC.skip ?_ | refine WC.block ?_))
 all_goals try (exfalso; first | contradiction | omega)
 (refine WC.loopU (X := Nat × Value × CarM) (fun x => [(23, dI (x.1 : Int)), (8, dA), (24, dA), (25, dA), (26, dA), (27, dA), (28, dA), (29, dA), (30, dA), (31, dA)]) (fun x => (bldO bs bm x.2.1 (chrF M (l.take x.1)) x.2.2 ++ [ZO b2 30 3 true (dX (.agg #[.slice none 0 0, .slice none 0 0, .slice none 0 0]))])) (fun x => l.length - x.1) (fun x => x.1 <= l.length /\ Bld (chrF M (l.take x.1)).flatten car x.2.2) (0, .slice none 0 0, []) ?start ?frame0 ?objs0 ?round)
 case start => exact ⟨Nat.zero_le _, Bld.nil car⟩
 case frame0 => ((try dsimp only [ZL, z0, z1]); repeat (first | exact LeF.nil | refine ZD (k := ?_)))
 case objs0 => rfl
 case round =>
  rintro ⟨i, fv, M1⟩ ⟨i1, hB⟩
  simp only at i1 hB
  dsimp only [ZL, z0, z1]
  by_cases hi : i < l.length
  ·have hgi := hg _ (List.getElem_mem hi)
   have h5i := h5 _ (List.getElem_mem hi)
   have hlen := (ZBX hgi).1
   have hFi := hFl i
   have hsn := hcs i hi
   have cD := fun bs bm => divide_c bs bm fv (chrF M (l.take i)) M1 l[i] (fun m => m < 1048576) (chrL M l[i]) car (by omega) h5i (by omega) hB
    (fun bl hb i hi => by have h1 := (ZA2 h5i hb).2 i hi; rw [h1.1]; omega) (fun bl hb b hbb => by have := (ZA2 h5i hb).1 b hbb; omega)
    (fun bl hb i hi => by have h1 := (ZA2 h5i hb).2 i hi; rw [h1.1]; omega) (fun bl hb j hj => hcar _ (List.getElem_mem hi) bl hb j hj)
   rw [show chrF M (l.take i) ++ (ZBw (2 ^ l[i].length - 1)).map (Zh (chrL M l[i]) l[i]) = chrF M (l.take (i + 1)) from hsn.symm] at cD
   clear hsn
   ((repeat' (first |  (refine ZBg (t := 8) rfl ?_; dsimp only [z0, z1]) | (apply WL.opN; exact yF; dsimp only [ZB, z0, z1]) | refine WL.nil ?_ | refine ZA fun Kx hK => ?_ | (refine hK _ _ ?_; clear hK) | refine WC.region ?_ |  (refine WL.alloc (dst := some 8) tzAr (ZW rfl) fun b8 => ?_; dsimp only [ZB, z0, z1]) |  (refine WL.storeK tySi (OpD.t rfl) (OpD.t rfl) ZAs ?_; dsimp only [ZB, z0, z1]) |  (refine WL.callC (hp1 := bldO bs bm fv (chrF M (l.take i)) M1) (caps := []) (cD bs bm) Tryz.call36 OpD.f (ArgsD.cons (OpD.t rfl) (ArgsD.cons (OpD.tle rfl le_VL) (ArgsD.cons (OpD.t rfl) ArgsD.nil))) ?_; rintro d' hp2 ⟨fv', M2, hB2, rfl⟩; dsimp only [ZB, z0, z1, List.cons_append, List.nil_append]) | (apply WL.opN; (focus ((first | (refine ZCZ (R := ZAu) (_gR := inferInstance) elSi hi rfl (OpD.t rfl) (OpD.t rfl)) | (apply ZBi (A := fun m : MemM => [dI ((m.1 : Nat) : Int)]) (r := fun m : MemM => dI (chrL M l[i] m.1)) Tryz.call37 (fun m => chro1_p M l[i] m.1 hgi m.2 hMo hMk) (fun m => bare_I); (exact aD)) | ((first | apply SY.move | apply SY.assign | apply SY.lss | apply SY.neq) <;> (exact oD)) | ((first | apply SY.add) <;> first | exact oD | omega) | fail); all_goals infer_instance)); dsimp only [ZB, z0, z1]) | (apply ZC; (exact oD); all_goals (intro h; try exact xD)) | refine WC.skip ?_ | refine WC.block ?_ | refine ThenD.n ?_)); all_goals (first | ((repeat clear hK); (repeat clear Kx))))
   all_goals try (exfalso; first | contradiction | omega)
   refine ⟨(i + 1, _, _), ?_, by simp only; omega, rfl, ?_⟩
   rotate_left
   ·((try dsimp only [ZL, z0, z1]); repeat (first | exact LeF.nil | refine ZD (k := ?_)))
   ·exact ⟨by simp only; omega, hB2⟩
  ·rw [List.take_of_length_le (by omega)] at hB ⊢
   have hbl := bld_len hB
   show WC _ _ _ _ (Zm bs 74 [dX fv, dX (.map (some bm))] :: ZU fv 28 ZF (chrF M l) :: hMC bm kvV M1 :: ZAL ZF M1 :: [ZO b2 30 3 true (dX (.agg #[.slice none 0 0, .slice none 0 0, .slice none 0 0]))])
   refine WC.keepS (k := 0) rfl ?_
   dsimp only [z0, z1]
   ((repeat' (first | (apply WL.opN; exact yF; dsimp only [ZB, z0, z1]) | refine WL.nil ?_ | refine ZA fun Kx hK => ?_ | (refine hK _ _ ?_; clear hK) | (refine Kont.skip ?_; clear hK) | refine WC.region ?_ |  (refine WL.callC (hp1 := [_, _, _]) (caps := []) (done_c bs bm (chrF M l) C (chrF M l).flatten car M1 hOf hB (Nat.le_trans hbl hflat) (fun p hp => by rw [hB.car p hp]; exact hcl _)) Tryz.call40 OpD.f (ArgsD.cons (OpD.t rfl) ArgsD.nil) ?_; rintro d' hp2 ⟨rfl, rfl⟩; dsimp only [ZB, z0, z1, List.cons_append, List.nil_append]) |  (refine WL.storeF ZB8 rfl (OpD.t rfl) Z9 ?_; dsimp only [ZB, z0, z1]) | (apply WL.opN; (focus ((first | ((first | apply SY.move | apply SY.assign | apply SY.lss | apply SY.neq) <;> (exact oD)) | (apply SY.extract; (exact oD); rfl) | fail); all_goals infer_instance)); dsimp only [ZB, z0, z1]) | (apply ZC; (exact oD); all_goals (intro h; try exact xD)) | refine WC.ret ?_ | refine WC.exit ?_)); all_goals (first | ((repeat clear hK); (repeat clear Kx))))
   all_goals try (exfalso; first | contradiction | omega)
   (refine ⟨trivial, ⟨_, rfl, ?_⟩, _, rfl, ?_⟩ <;> exact fD)
end
section
open Go.RowKit

def ZAe : Nat -> Cx -> List Vx -> Int
 | _, [], _ => -1
 | k, x :: l, s => if x = s then (k : Int) else ZAe (k + 1) l s
def addF (o : Cx) (s : List Vx) : Cx := if ZAe 0 o s < 0 then o ++ [s] else o
theorem addF_len (o : Cx) (s : List Vx) : (addF o s).length <= o.length + 1 := by
 unfold addF; split <;> simp
theorem foldF_len : ∀ (l o : Cx), (l.foldl addF o).length <= o.length + l.length
 | [], o => by simp
 | s :: l, o => by
  have h1 := foldF_len l (addF o s)
  have h2 := addF_len o s
  rw [List.foldl_cons, List.length_cons]; omega
def Z3 (l : Cx) : Cx := (ZCN l).foldl addF []
end
section
open Go.RowKit

def labW (fs : Cx) (s : List Vx) (v : Vx) : Vx := (v.1, ZAe 0 fs (carB s v))
def foldW (fs : Cx) (s : List Vx) (d : List (Vx × List Vx)) (t : List Vx) : List (Vx × List Vx) := t.foldl (fun d v => putS d (labW fs s v) (carB s v)) d
def stepW (fs : Cx) (s : List Vx) (A : Cx × List (Vx × List Vx)) (t : List Vx) : Cx × List (Vx × List Vx) := (putC A.1 (t.map (labW fs s)), foldW fs s A.2 t)
def simW (fs : Cx) (s : List Vx) (A : Cx × List (Vx × List Vx)) (F : Cx) : Cx × List (Vx × List Vx) := F.foldl (stepW fs s) A
def whlW (fs l : Cx) : Cx × List (Vx × List Vx) := l.foldl (fun A s => simW fs s A (ZCO s)) ([], [])
def whlE (l : Cx) : Int := if l.all Zy = false then 3 else if l.any (fun s => decide (5 < s.length)) = true then 5 else if 4096 < sumU l then 5 else 0
def whlR (l : Cx) : Sub × Int := if whlE l ≠ 0 then (([], [], []), whlE l) else (((whlW (Z3 l) l).1, (whlW (Z3 l) l).2.map (·.1), (whlW (Z3 l) l).2.map (·.2)), 0)
end
section
open Go.RowKit

def chrR (l : Cx) : Sub × Int := if ZAn l ≠ 0 then (([], [], []), ZAn l) else whlR l
end
section
section
variable {φ : Vx -> Vx}
def ZBb (φ : Vx -> Vx) : Prop := ∀ a b, ZAX (φ a) (φ b) = ZAX a b
abbrev mpC (φ : Vx -> Vx) (l : Cx) : Cx := l.map (List.map φ)
theorem nat_inj (hφ : ZBb φ) {a b : Vx} : φ a = φ b ↔ a = b := by rw [<- ZBR, hφ, ZBR]
theorem nat_mem (hφ : ZBb φ) {a : Vx} {s : List Vx} : φ a ∈ s.map φ ↔ a ∈ s := by
 rw [List.mem_map]
 exact ⟨fun ⟨x, hx, e⟩ => (nat_inj hφ).1 e ▸ hx, fun h => ⟨a, h, rfl⟩⟩
theorem nat_list (hφ : ZBb φ) {s t : List Vx} : s.map φ = t.map φ ↔ s = t := List.map_inj_right fun _ _ e => (nat_inj hφ).1 e
theorem nat_memC (hφ : ZBb φ) {s : List Vx} {l : Cx} : s.map φ ∈ mpC φ l ↔ s ∈ l := by
 rw [List.mem_map]
 exact ⟨fun ⟨x, hx, e⟩ => (nat_list hφ).1 e ▸ hx, fun h => ⟨s, h, rfl⟩⟩
theorem nat_cmpL (hφ : ZBb φ) : ∀ s t : List Vx, ZAc (s.map φ) (t.map φ) = ZAc s t
 | [], [] => rfl
 | [], _ :: _ => rfl
 | _ :: _, [] => rfl
 | x :: a, y :: b => by
  show (if ZAX (φ x) (φ y) = 0 then ZAc (a.map φ) (b.map φ) else ZAX (φ x) (φ y)) = if ZAX x y = 0 then ZAc a b else ZAX x y
  rw [hφ, nat_cmpL hφ a b]
theorem nat_inside (hφ : ZBb φ) (s t : List Vx) : ZAm (s.map φ) (t.map φ) = ZAm s t := by
 unfold ZAm
 rw [List.all_map]
 congr 1
 funext x
 exact decide_eq_decide.2 (nat_mem hφ)
theorem nat_covered (hφ : ZBb φ) (l : Cx) (s : List Vx) : Z8 (mpC φ l) (s.map φ) = Z8 l s := by
 unfold Z8
 rw [List.any_map]
 congr 1
 funext x
 show (decide ((s.map φ).length < (x.map φ).length) && ZAm (s.map φ) (x.map φ)) = _
 rw [List.length_map, List.length_map, nat_inside hφ]
theorem nat_insC (hφ : ZBb φ) (s : List Vx) : ∀ l : Cx, insC (mpC φ l) (s.map φ) = mpC φ (insC l s)
 | [] => rfl
 | x :: l => by
  show (if ZAc (s.map φ) (x.map φ) < 0 then s.map φ :: x.map φ :: mpC φ l else x.map φ :: insC (mpC φ l) (s.map φ)) = mpC φ (if ZAc s x < 0 then s :: x :: l else x :: insC l s)
  rw [nat_cmpL hφ, nat_insC hφ s l]
  split <;> rfl
theorem nat_putC (hφ : ZBb φ) (l : Cx) (s : List Vx) : putC (mpC φ l) (s.map φ) = mpC φ (putC l s) := by
 unfold putC
 by_cases h : s ∈ l
 ·rw [if_pos h, if_pos ((nat_memC hφ).2 h)]
 ·rw [if_neg h, if_neg fun q => h ((nat_memC hφ).1 q), nat_insC hφ]
theorem nat_foldPut (hφ : ZBb φ) : ∀ l out : Cx, (mpC φ l).foldl putC (mpC φ out) = mpC φ (l.foldl putC out)
 | [], _ => rfl
 | s :: l, out => by
  show (mpC φ l).foldl putC (putC (mpC φ out) (s.map φ)) = mpC φ (l.foldl putC (putC out s))
  rw [nat_putC hφ, nat_foldPut hφ l]
theorem nat_max (hφ : ZBb φ) (l : Cx) : maxC (mpC φ l) = mpC φ (maxC l) := by
 unfold maxC
 have e : (mpC φ l).filter (topC (mpC φ l)) = mpC φ (l.filter (topC l)) := by
  unfold mpC
  rw [List.filter_map]
  congr 1
  refine List.filter_congr fun x _ => ?_
  show topC (mpC φ l) (x.map φ) = topC l x
  unfold topC
  rw [List.length_map, nat_covered hφ]
 rw [e]
 exact nat_foldPut hφ _ []
theorem nat_subs : ∀ (k : Nat) (s : List Vx), ZX k (s.map φ) = mpC φ (ZX k s)
 | 0, _ => by cases ‹List Vx› <;> rfl
 | _ + 1, [] => rfl
 | k + 1, v :: s => by
  show (ZX k (s.map φ)).map (φ v :: ·) ++ ZX (k + 1) (s.map φ) = mpC φ ((ZX k s).map (v :: ·) ++ ZX (k + 1) s)
  rw [nat_subs k s, nat_subs (k + 1) s]
  unfold mpC
  rw [List.map_append, List.map_map, List.map_map]
  rfl
theorem nat_allC (hφ : ZBb φ) (l : Cx) (k : Nat) : ZBr (mpC φ l) k = mpC φ (ZBr l k) := by
 unfold ZBr
 have go : ∀ l out : Cx, (mpC φ l).foldl (fun out f => if f.length < k then out else (ZX k f).foldl putC out) (mpC φ out) = mpC φ (l.foldl (fun out f => if f.length < k then out else (ZX k f).foldl putC out) out) := by
  intro l
  induction l with
  | nil => intro out; rfl
  | cons f l ih =>
   intro out
   show (mpC φ l).foldl _ (if (f.map φ).length < k then mpC φ out else (ZX k (f.map φ)).foldl putC (mpC φ out)) = mpC φ (l.foldl _ (if f.length < k then out else (ZX k f).foldl putC out))
   rw [List.length_map, nat_subs, nat_foldPut hφ]
   by_cases h : f.length < k
   ·rw [if_pos h, if_pos h]; exact ih out
   ·rw [if_neg h, if_neg h]; exact ih _
 exact go l []
theorem nat_eulS (hφ : ZBb φ) (l : Cx) : ∀ k, eulS (mpC φ l) k = eulS l k
 | 0 => rfl
 | k + 1 => by
  unfold eulS
  rw [nat_allC hφ, List.length_map, nat_eulS hφ l k]
end
theorem mono_of : ∀ (l : List Int) (a : Int), (a :: l).Pairwise (· < ·) -> ∃ g : Int -> Int, (∀ i j, i < j -> g i < g j) /\ g 0 = a /\ ∀ (k : Nat) (h : k < l.length), g ((k : Int) + 1) = l[k]
 | [], a, _ => ⟨fun i => a + i, fun i j h => by show a + i < a + j; omega, by show a + 0 = a; omega, fun k h => by cases h⟩
 | b :: l, a, hp => by
  obtain ⟨h1, h2⟩ := List.pairwise_cons.1 hp
  obtain ⟨g, hg, h0, hk⟩ := mono_of l b h2
  have hab : a < b := h1 b (by simp)
  refine ⟨fun i => if i <= 0 then a + i else g (i - 1), fun i j hij => ?_, by show (if (0 : Int) <= 0 then a + 0 else _) = a; rw [if_pos (by omega)]; omega, fun k h => ?_⟩
  ·show (if i <= 0 then a + i else g (i - 1)) < if j <= 0 then a + j else g (j - 1)
   by_cases hi : i <= 0
   ·rw [if_pos hi]
    by_cases hj : j <= 0
    ·rw [if_pos hj]; omega
    ·rw [if_neg hj]
     have : g 0 <= g (j - 1) := by
      by_cases e : j - 1 = 0
      ·rw [e]; omega
      ·have := hg 0 (j - 1) (by omega); omega
     omega
   ·rw [if_neg hi, if_neg (show ¬ j <= 0 by omega)]
    exact hg _ _ (by omega)
  ·show (if ((k : Int) + 1) <= 0 then _ else g ((k : Int) + 1 - 1)) = _
   rw [if_neg (by omega), show (k : Int) + 1 - 1 = (k : Int) by omega]
   cases k with
   | zero => exact h0
   | succ k =>
    have := hk k (by simpa using h)
    rw [show ((k + 1 : Nat) : Int) = (k : Int) + 1 by omega, this]
    rfl
theorem keeps_color {g : Int -> Int} (hg : ∀ i j, i < j -> g i < g j) : ZBb fun v => (g v.1, v.2) := fun a b => by
 have h : ∀ x y : Int, g x < g y ↔ x < y := fun x y => ⟨fun h => by
  by_cases e : x = y
  ·rw [e] at h; omega
  ·by_cases h' : x < y
   ·exact h'
   ·have := hg y x (by omega); omega, hg x y⟩
 unfold ZAX
 simp only [h]
def canS (n : Nat) : List Vx := (List.range n).map fun i => (((i : Nat) : Int), 0)
theorem canS_len (n : Nat) : (canS n).length = n := by simp [canS]
theorem canS_get {n i : Nat} (h : i < (canS n).length) : (canS n)[i] = ((i : Int), 0) := by simp [canS]
theorem ZAr {s : List Vx} {bl : List Nat} {i : Nat} (h : i < (ZAy s bl).length) : (ZAy s bl)[i] = ((s[i]'(by rw [Zj] at h; exact h)).1, ((ZB3 bl i 0 : Nat) : Int)) := by simp [ZAy]
end
section
theorem bit_one {m i : Nat} : (m >>> i) &&& 1 = 1 ↔ m.testBit i = true := by
 have h : (m >>> i) &&& 1 = (m.testBit i).toNat := by
  rw [Nat.and_one_is_mod, Nat.shiftRight_eq_div_pow, Nat.toNat_testBit]
 rw [h]
 cases m.testBit i <;> decide
theorem mem_atB {s : List Vx} {m : Nat} {x : Vx} : x ∈ atB s m ↔ ∃ (i : Nat) (h : i < s.length), s[i] = x /\ m.testBit i = true := by
 unfold atB
 rw [List.mem_map]
 constructor
 ·rintro ⟨⟨v, i⟩, hp, rfl⟩
  rw [List.mem_filter, decide_eq_true_eq, bit_one] at hp
  have h := List.mem_zipIdx hp.1
  exact ⟨i, by omega, by simpa using h.2.2.symm, hp.2⟩
 ·rintro ⟨i, h, rfl, hb⟩
  refine ⟨(s[i], i), ?_, rfl⟩
  rw [List.mem_filter, decide_eq_true_eq, bit_one]
  exact ⟨List.mem_zipIdx_iff_getElem?.2 (by simp [h]), hb⟩
theorem atB_subl (s : List Vx) (m : Nat) : (atB s m).Sublist s := by
 unfold atB
 have h : ((s.zipIdx.filter fun p => decide ((m >>> p.2) &&& 1 = 1)).map (·.1)).Sublist (s.zipIdx.map (·.1)) := List.Sublist.map _ List.filter_sublist
 rwa [List.zipIdx_map_fst] at h
theorem asc_nodup' {s : List Vx} (h : Asc s) : s.Nodup := List.Pairwise.imp (fun {a b} hab e => by
 subst e
 have : ZAX a a = 0 := ZBR.2 rfl
 omega) h
theorem atB_short {s : List Vx} (hs : s.Nodup) {m : Nat} (hm : m < 2 ^ s.length) : (atB s m).length < s.length ↔ m ≠ 2 ^ s.length - 1 := by
 have hl := (atB_subl s m).length_le
 constructor
 ·rintro h rfl
  have e : atB s (2 ^ s.length - 1) = s := by
   unfold atB
   rw [List.filter_eq_self.2 fun p hp => by
    obtain ⟨v, i⟩ := p
    have h := List.mem_zipIdx hp
    rw [decide_eq_true_eq, bit_one, Nat.testBit_two_pow_sub_one, decide_eq_true_eq]
    omega]
   exact List.zipIdx_map_fst ..
  rw [e] at h
  omega
 ·intro h
  refine Classical.byContradiction fun hn => h ?_
  have e : atB s m = s := (atB_subl s m).eq_of_length (by omega)
  apply Nat.eq_of_testBit_eq
  intro i
  rw [Nat.testBit_two_pow_sub_one]
  by_cases hi : i < s.length
  ·rw [decide_eq_true hi]
   have : s[i] ∈ atB s m := by rw [e]; exact List.getElem_mem hi
   obtain ⟨j, hj, h1, h2⟩ := mem_atB.1 this
   rw [(List.getElem_inj hs).1 h1] at h2
   exact h2
  ·rw [decide_eq_false hi]
   exact Nat.testBit_lt_two_pow (Nat.lt_of_lt_of_le hm (Nat.pow_le_pow_right (by decide) (by omega)))
theorem carE_ok {c : Cx} : ∀ {l : List (List Vx)}, (∀ s ∈ l, Zn s = 0 /\ hasC' c s = true) -> carE c l = 0
 | [], _ => rfl
 | s :: l, h => by
  obtain ⟨h1, h2⟩ := h s (by simp)
  unfold carE
  rw [if_neg (by rw [h1]; decide), if_neg (by rw [h2]; decide)]
  exact carE_ok fun t ht => h t (by simp [ht])
end
section
def posL (O : Cx) : Prop := ∀ x ∈ O, ∀ v ∈ x, 0 <= v.1 /\ 0 <= v.2
def nEnc : Nat -> Cx -> NumM
 | _, [] => []
 | k, x :: O => (txS x, (k : Int)) :: nEnc (k + 1) O
theorem nEnc_len : ∀ (O : Cx) (k : Nat), (nEnc k O).length = O.length
 | [], _ => rfl
 | x :: O, k => by unfold nEnc; rw [List.length_cons, List.length_cons, nEnc_len O]
theorem nEnc_snoc : ∀ (O : Cx) (k : Nat) (x : List Vx), nEnc k (O ++ [x]) = nEnc k O ++ [(txS x, ((k + O.length : Nat) : Int))]
 | [], k, x => rfl
 | y :: O, k, x => by
  show (txS y, (k : Int)) :: nEnc (k + 1) (O ++ [x]) = (txS y, (k : Int)) :: nEnc (k + 1) O ++ _
  rw [nEnc_snoc O (k + 1) x, List.length_cons, show k + 1 + O.length = k + (O.length + 1) by omega]
  rfl
theorem numC_neg : ∀ (O : Cx) (k : Nat) (x : List Vx), ZAe k O x < 0 ↔ x ∉ O
 | [], k, x => by simp [ZAe]
 | y :: O, k, x => by
  unfold ZAe
  by_cases h : y = x
  ·rw [if_pos h]; subst h; simp
  ·rw [if_neg h, numC_neg O (k + 1) x, List.mem_cons]
   constructor
   ·intro q; rintro (e | e)
    ·exact h e.symm
    ·exact q e
   ·intro q e; exact q (.inr e)
theorem ZBn : ∀ (O : Cx) (k : Nat) (x : List Vx), x ∈ O -> ∃ (j : Nat) (h : j < O.length), ZAe k O x = ((k + j : Nat) : Int) /\ O[j] = x
 | [], k, x, h => by cases h
 | y :: O, k, x, h => by
  unfold ZAe
  by_cases e : y = x
  ·exact ⟨0, by simp, by rw [if_pos e]; simp, e⟩
  ·rw [if_neg e]
   have hx : x ∈ O := by
    rcases List.mem_cons.1 h with q | q
    ·exact absurd q.symm e
    ·exact q
   obtain ⟨j, h1, h2, h3⟩ := ZBn O (k + 1) x hx
   exact ⟨j + 1, by simpa using h1, by rw [h2]; omega, by simpa using h3⟩
theorem look_enc : ∀ (O : Cx) (k : Nat) (x : List Vx), posL O -> (∀ v ∈ x, 0 <= v.1 /\ 0 <= v.2) -> lookM (nEnc k O) (txS x) = if ZAe k O x < 0 then none else some (ZAe k O x)
 | [], k, x, _, _ => by
  have e : ZAe k [] x = -1 := rfl
  rw [e, if_pos (by decide)]; rfl
 | y :: O, k, x, hO, hx => by
  have ih := look_enc O (k + 1) x (fun z hz => hO z (by simp [hz])) hx
  unfold nEnc ZAe
  by_cases e : y = x
  ·subst e
   rw [if_pos rfl, if_neg (by omega)]
   unfold lookM
   rw [List.find?_cons_of_pos (by simp)]
   rfl
  ·rw [if_neg e, <- ih]
   unfold lookM
   rw [List.find?_cons_of_neg]
   simp only [decide_eq_true_eq]
   exact fun q => e (txS_inj (hO y (by simp)) hx q)
theorem numS_enc (O : Cx) (x : List Vx) (hO : posL O) (hx : ∀ v ∈ x, 0 <= v.1 /\ 0 <= v.2) : numS (nEnc 0 O) x = nEnc 0 (addF O x) := by
 unfold numS addF
 rw [look_enc O 0 x hO hx]
 by_cases h : ZAe 0 O x < 0
 ·rw [if_pos h, if_neg (by simp), if_pos h, nEnc_snoc, Nat.zero_add]
  have hn : lookM (nEnc 0 O) (txS x) = none := by rw [look_enc O 0 x hO hx, if_pos h]
  rw [ZCY (look_key (by rw [hn]; rfl)), nEnc_len]
 ·rw [if_neg h, if_neg h]; rfl
theorem addF_mem {O : Cx} {x y : List Vx} : y ∈ addF O x ↔ y ∈ O \/ y = x := by
 unfold addF
 by_cases h : ZAe 0 O x < 0
 ·rw [if_pos h, List.mem_append, List.mem_singleton]
 ·rw [if_neg h]
  have hx : x ∈ O := Classical.byContradiction fun q => h ((numC_neg O 0 x).2 q)
  constructor
  ·exact .inl
  ·rintro (q | rfl)
   ·exact q
   ·exact hx
theorem fold_enc : ∀ (L O : Cx), posL O -> posL L -> L.foldl numS (nEnc 0 O) = nEnc 0 (L.foldl addF O)
 | [], _, _, _ => rfl
 | x :: L, O, hO, hL => by
  rw [List.foldl_cons, List.foldl_cons, numS_enc O x hO (hL x (by simp))]
  refine fold_enc L _ (fun y hy => ?_) fun y hy => hL y (by simp [hy])
  rcases addF_mem.1 hy with q | rfl
  ·exact hO y q
  ·exact hL _ (by simp)
theorem ZBJ {l : Cx} {x : List Vx} : x ∈ Z3 l ↔ x ∈ ZCN l := by
 have go : ∀ (L O : Cx), x ∈ L.foldl addF O ↔ x ∈ O \/ x ∈ L := by
  intro L
  induction L with
  | nil => intro O; simp
  | cons y L ih =>
   intro O
   rw [List.foldl_cons, ih, addF_mem, List.mem_cons, or_assoc]
 unfold Z3
 rw [go]; simp
theorem ZA4 {l : Cx} {x : List Vx} : x ∈ ZCN l ↔ ∃ s ∈ l, x ≠ [] /\ x.Sublist s := by
 unfold ZCN facV
 rw [List.mem_flatMap]
 constructor
 ·rintro ⟨s, hs, hx⟩
  obtain ⟨k, hk, hx⟩ := List.mem_flatMap.1 hx
  have := (ZCL _ _ _).1 hx
  exact ⟨s, hs, fun e => by rw [e] at this; simp at this, this.1⟩
 ·rintro ⟨s, hs, hne, hsub⟩
  have hl : 0 < x.length := List.length_pos_iff.2 hne
  refine ⟨s, hs, List.mem_flatMap.2 ⟨x.length - 1, List.mem_range.2 (by have := hsub.length_le; omega), (ZCL _ _ _).2 ⟨hsub, by omega⟩⟩⟩
section
variable {l : Cx}
theorem num_enc (hg : ∀ s ∈ l, Zn s = 0) : ZBZ l = nEnc 0 (Z3 l) := by
 have hL : posL (ZCN l) := fun x hx v hv => by
  obtain ⟨s, hs, _, hsub⟩ := ZA4.1 hx
  have := okL_of (hg s hs) v (hsub.subset hv)
  unfold okL at this
  omega
 exact fold_enc (ZCN l) [] (fun x hx => by cases hx) hL
theorem num_same (hg : ∀ s ∈ l, Zn s = 0) {x : List Vx} (hx : x ∈ ZCN l) : numF (ZBZ l) x = ZAe 0 (Z3 l) x := by
 have hp : posL (Z3 l) := fun y hy v hv => by
  obtain ⟨s, hs, _, hsub⟩ := ZA4.1 (ZBJ.1 hy)
  have := okL_of (hg s hs) v (hsub.subset hv)
  unfold okL at this
  omega
 have hr := ZBJ.2 hx
 unfold numF
 rw [num_enc hg, look_enc _ _ _ hp (hp x hr), if_neg fun q => (numC_neg _ _ _).1 q hr]
 rfl
theorem at_face {s : List Vx} {m : Nat} (hm : ∃ i, i < s.length /\ m.testBit i = true) : atB s m ≠ [] := fun e => by
 obtain ⟨i, hi, hb⟩ := hm
 have : s[i] ∈ atB s m := mem_atB.2 ⟨i, hi, rfl, hb⟩
 rw [e] at this; cases this
def ordQ (n : Nat) : Bool := (ZBw (2 ^ n - 1)).all fun bl => ((List.range n).all fun i => (ZB3 bl i 0).testBit i && decide (ZB3 bl i 0 < 2 ^ n)) && (List.range n).any fun i => decide (ZB3 bl i 0 = 2 ^ n - 1)
theorem ordQ_ok : ∀ n, 1 <= n -> n <= 5 -> ordQ n = true := by
 intro n h1 h5
 have : n = 1 \/ n = 2 \/ n = 3 \/ n = 4 \/ n = 5 := by omega
 rcases this with rfl | rfl | rfl | rfl | rfl <;> decide +kernel
theorem ord_at {s : List Vx} (h1 : 1 <= s.length) (h5 : s.length <= 5) {bl : List Nat} (hb : bl ∈ ZBw (2 ^ s.length - 1)) : (∀ i, i < s.length -> (ZB3 bl i 0).testBit i = true /\ ZB3 bl i 0 < 2 ^ s.length) /\ ∃ i, i < s.length /\ ZB3 bl i 0 = 2 ^ s.length - 1 := by
 have h := List.all_eq_true.1 (ordQ_ok s.length h1 h5) bl hb
 rw [Bool.and_eq_true] at h
 refine ⟨fun i hi => ?_, ?_⟩
 ·have := List.all_eq_true.1 h.1 i (List.mem_range.2 hi)
  rw [Bool.and_eq_true] at this
  exact ⟨this.1, of_decide_eq_true this.2⟩
 ·obtain ⟨i, hi, h2⟩ := List.any_eq_true.1 h.2
  exact ⟨i, List.mem_range.1 hi, of_decide_eq_true h2⟩
def ZBB (fs l : Cx) : Cx := l.flatMap fun s => (ZCO s).map fun t => t.map (labW fs s)
section
variable {l : Cx} (hg : ∀ s ∈ l, Zn s = 0) (h5 : ∀ s ∈ l, s.length <= 5)
include hg h5
theorem ZCd {s : List Vx} (hs : s ∈ l) {bl : List Nat} (hb : bl ∈ ZBw (2 ^ s.length - 1)) {i : Nat} (hi : i < s.length) : atB s (ZB3 bl i 0) ∈ ZCN l := by
 have h1 := (ZM.1 (hg s hs)).1
 have h2 := (ord_at (by omega) (h5 s hs) hb).1 i hi
 exact ZA4.2 ⟨s, hs, at_face ⟨i, hi, h2.1⟩, atB_subl _ _⟩
theorem chrS_same {s : List Vx} (hs : s ∈ l) : chrS (ZBZ l) s = (ZCO s).map fun t => t.map (labW (Z3 l) s) := by
 unfold chrS ZCO
 rw [List.map_map]
 refine List.map_congr_left fun bl hb => ?_
 show Zh (chrL (ZBZ l) s) s bl = (ZAy s bl).map (labW (Z3 l) s)
 apply List.ext_getElem
 ·rw [ZAp, List.length_map, Zj]
 ·intro i h1 h2
  have hi : i < s.length := by rw [ZAp] at h1; exact h1
  rw [ZCM h1 hi, List.getElem_map, ZAr]
  unfold labW carB chrL
  simp only [Int.toNat_natCast]
  rw [((ZA2 (h5 s hs) hb).2 i hi).1, num_same hg (ZCd hg h5 hs hb hi)]
theorem chrF_same : chrF (ZBZ l) l = ZBB (Z3 l) l := by
 unfold chrF ZBB
 have : ∀ k : Cx, (∀ s ∈ k, s ∈ l) -> k.flatMap (chrS (ZBZ l)) = k.flatMap fun s => (ZCO s).map fun t => t.map (labW (Z3 l) s) := by
  intro k
  induction k with
  | nil => intro _; rfl
  | cons s k ih =>
   intro hk
   rw [List.flatMap_cons, List.flatMap_cons, ih fun t ht => hk t (by simp [ht]), chrS_same hg h5 (hk s (by simp))]
 exact this l fun _ h => h
theorem ZCP {f : List Vx} (hf : f ∈ ZBB (Z3 l) l) : ∃ s ∈ l, ∃ bl ∈ ZBw (2 ^ s.length - 1), f = (ZAy s bl).map (labW (Z3 l) s) := by
 obtain ⟨s, hs, hf⟩ := List.mem_flatMap.1 hf
 obtain ⟨t, ht, rfl⟩ := List.mem_map.1 hf
 obtain ⟨bl, hbl, rfl⟩ := List.mem_map.1 ht
 exact ⟨s, hs, bl, hbl, rfl⟩
theorem facW_vert {f : List Vx} {s : List Vx} (hs : s ∈ l) {bl : List Nat} (hb : bl ∈ ZBw (2 ^ s.length - 1)) (he : f = (ZAy s bl).map (labW (Z3 l) s)) {v : Vx} (hv : v ∈ f) : ∃ (i : Nat) (hi : i < s.length), v = (s[i].1, ZAe 0 (Z3 l) (atB s (ZB3 bl i 0))) := by
 rw [he] at hv
 obtain ⟨u, hu, rfl⟩ := List.mem_map.1 hv
 obtain ⟨i, hi, rfl⟩ := List.mem_iff_getElem.1 hu
 have hi' : i < s.length := by rw [Zj] at hi; exact hi
 exact ⟨i, hi', by rw [ZAr]; unfold labW carB; simp only [Int.toNat_natCast]⟩
theorem facW_free (hG : GoodX l) {f : List Vx} (hf : f ∈ ZBB (Z3 l) l) : Z8 (ZBB (Z3 l) l) f = false := by
 have : ¬ Z8 (ZBB (Z3 l) l) f = true := fun q => by
  obtain ⟨k, hk, hlt, hin⟩ := ZAQ.1 q
  obtain ⟨s, hs, bl, hbl, ef⟩ := ZCP hg h5 hf
  obtain ⟨s', hs', bl', hbl', ek⟩ := ZCP hg h5 hk
  have h1 := (ZM.1 (hg s hs)).1
  obtain ⟨i, hi, hfull⟩ := (ord_at (by omega) (h5 s hs) hbl).2
  have hfl : f.length = s.length := by rw [ef, List.length_map, Zj]
  have hkl : k.length = s'.length := by rw [ek, List.length_map, Zj]
  have hat : atB s (2 ^ s.length - 1) = s := (atB_subl s _).eq_of_length (Classical.byContradiction fun hne => by
   have hlt := (atB_subl s (2 ^ s.length - 1)).length_le
   exact (atB_short (asc_nodup' (ZM.1 (hg s hs)).2.2.2) (by have := Nat.two_pow_pos s.length; omega)).1 (by omega) rfl)
  have hfi : i < f.length := by omega
  have hv : f[i] = (s[i].1, ZAe 0 (Z3 l) s) := by
   have hj : i < (ZAy s bl).length := by rw [Zj]; exact hi
   have e1 : f[i]? = some (s[i].1, ZAe 0 (Z3 l) s) := by
    rw [ef, List.getElem?_map, List.getElem?_eq_getElem hj, ZAr]
    unfold labW carB
    simp only [Int.toNat_natCast, Option.map_some]
    rw [hfull, hat]
   exact (List.getElem?_eq_some_iff.1 e1).2
  have hvk : f[i] ∈ k := of_decide_eq_true (List.all_eq_true.1 hin _ (List.getElem_mem hfi))
  obtain ⟨j, hj, e⟩ := facW_vert hg h5 hs' hbl' ek hvk
  rw [hv] at e
  have en : ZAe 0 (Z3 l) s = ZAe 0 (Z3 l) (atB s' (ZB3 bl' j 0)) := congrArg Prod.snd e
  have hsk : s ∈ Z3 l := ZBJ.2 (ZA4.2 ⟨s, hs, fun q => by rw [q] at h1; exact h1 rfl, List.Sublist.refl _⟩)
  have hsk' : atB s' (ZB3 bl' j 0) ∈ Z3 l := ZBJ.2 (ZCd hg h5 hs' hbl' hj)
  obtain ⟨a, a1, a2, a3⟩ := ZBn _ 0 _ hsk
  obtain ⟨b, b1, b2, b3⟩ := ZBn _ 0 _ hsk'
  have hab : a = b := by rw [a2, b2] at en; omega
  subst hab
  have hes : s = atB s' (ZB3 bl' j 0) := by rw [<- a3, b3]
  have hsub : s.Sublist s' := by rw [hes]; exact atB_subl _ _
  have hcov : Z8 l s = true := ZAQ.2 ⟨s', hs', by omega, List.all_eq_true.2 fun x hx => decide_eq_true (hsub.subset hx)⟩
  rw [hG.2.2.2 s hs] at hcov
  cases hcov
 simpa using this
end
end
end
end Go.Proofs.YtmcllakdbgnfiaaGreatDoor
