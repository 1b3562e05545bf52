/- Part 44: walks by contracts, and plain laws. -/
import Derived.Test.YtmcllakdbgnfiaaGreatDoorVg43
set_option linter.unusedVariables false
set_option linter.unusedSimpArgs false
set_option linter.unusedSectionVars false
set_option maxRecDepth 100000
set_option maxHeartbeats 4000000
namespace Go.Proofs.YtmcllakdbgnfiaaGreatDoor
section
open Go.RowKit

set_option maxHeartbeats 16000000 in
theorem iterErr_p (l : Cx) (k : Nat) (h0 : ZAn l = 0) (hk : k <= 6) (hk1 : 1 <= k) (hl : l.length <= 100) (he : whlE l ≠ 0) :
  Fn Tryz.prog 14 [dS CpxL l, dI (k : Int)] (dT [dS SubR ([], [], []), dI (whlE l)]) := by
 have cE : chrE l = whlE l := by rw [chrE_whl, if_neg (by omega)]
 have cW := chrBad_p l (by rw [cE]; exact he)
 rw [cE] at cW
 generalize hE : whlE l = E at *
 clear cE
 have c1 := vertices27_p l hl
 rw [show vrtP l = (ZB9 l, 0) by unfold vrtP; rw [if_neg (by omega)]] at c1
 have hO := of27_p l
 rw [of_self h0] at hO
 have hgi := it_gain h0 0
 have hpl : (ZB9 l).length <= 100000 := by
  have h1 := flat_len (Zg.1 h0).short
  have h2 := allV_len l.flatten []
  unfold ZB9
  simp only [List.length_nil] at h2
  omega
 generalize hV : ZB9 l = V at *
 refine ZBf ZB8 Tryz.func14 rfl rfl ?_
 simp only [Tryz.ntmps14, List.length_cons, List.length_nil, Nat.reduceAdd, Nat.reduceSub, List.replicate_succ, List.replicate_zero, List.cons_append, List.nil_append]
 (repeat' (first | ((first | apply WL.opN | apply WD.opN); exact yF; dsimp only [ZB, z0, z1]) | refine WL.nil ?_ | refine ZA fun Kx hK => ?_ | (refine hK _ _ ?_; clear hK) | refine WC.region ?_ |  (refine WL.alloc (dst := some 4) tzSb (ZAS rfl rfl rfl) fun b4 => ?_; dsimp only [ZB, z0, z1]) |  (refine WL.alloc (dst := some 8) tzC (Zi rfl) fun b8 => ?_; dsimp only [ZB, z0, z1]) |  (refine WL.storeF tyC rfl (OpD.t rfl) ZAl ?_; dsimp only [ZB, z0, z1]) |  (refine WL.allocS (dst := some 10) (zs := [.slice none 0 0, .slice none 0 0, .slice none 0 0]) tzSb (by decide) (by simp [Value.oneCell']) fun b10 => ?_; dsimp only [ZB, z0, z1, List.map_cons, List.map_nil]) |  (refine WL.storeW ZB8 (OpD.t rfl) (OpD.t rfl) rfl rfl ?_; dsimp only [ZB]) | ((first | apply ZJ | apply WD.op); (focus (first | exact wN | (apply ZG; (exact wY); ((first | (exact SY.box (OpD.t rfl) (fun I w v h => ZAl I w v (ZAT I w v h))) | (apply SY.call c1 Tryz.call51; exact ArgsD.cons (OpD.tle rfl ZAT) ArgsD.nil) | (apply SY.call hO Tryz.call52; exact ArgsD.cons (OpD.tle rfl le_SL) ArgsD.nil) | (exact SY.mkS01 (OpD.t rfl) (OpD.t rfl)) | ((first | apply SY.move | apply SY.assign | apply SY.lss | apply SY.gtr | apply SY.neq) <;> (exact oD)) | (apply SY.len; (exact oD); (exact nD); (exact uD)) | (apply ZA7 cpxT; exact OpD.t rfl) | (apply Z6; (exact oD); (with_reducible rfl); (exact oD)) | (apply SY.extract; (exact oD); rfl) | fail); all_goals infer_instance)))); dsimp only [ZB, z0, z1]) | ((first | refine Zd rfl rfl rfl (fun h => ?_) (fun h => ?_) | refine Zc rfl rfl rfl (fun h => ?_) (fun h => ?_) | refine ZY rfl rfl rfl (fun h => ?_) (fun h => ?_) | refine ZAf rfl rfl rfl (fun h => ?_) (fun h => ?_) | refine ZAh rfl rfl rfl (fun h => ?_) (fun h => ?_) | refine ZAD rfl rfl rfl (fun h => ?_) (fun h => ?_)) <;> (first | (exfalso; first | omega | contradiction) | (dsimp only [z0, z1]))) | (apply ZC; (exact oD); all_goals (intro h; try exact xD)) | (apply ZH; (exact oD); all_goals (intro h; try exact xD)) | refine WC.skip ?_ | refine WC.block ?_))
 all_goals try (exfalso; first | contradiction | omega)
 refine WC.nilRow 28 ZF ?_
 (refine WC.loopU (X := Nat × Value) (fun x => [(44, dI (x.1 : Int)), (12, dA), (45, dA), (46, dA), (47, dA), (48, dA), (49, dA), (50, dA), (51, dA), (52, dA), (53, dA), (54, dA), (55, dA)]) (fun x => (ZU x.2 28 ZF ((V.take x.1).map fun v => [v]) :: Zm b10 30 [dS Zq l, dS ZF V, dX x.2] :: [ZO b4 30 3 true (dX (.agg #[.slice none 0 0, .slice none 0 0, .slice none 0 0]))])) (fun x => V.length - x.1) (fun x => x.1 <= V.length) (0, .slice none 0 0) ?start ?frame0 ?objs0 ?round)
 case start => exact Nat.zero_le _
 case frame0 => ((try dsimp only [ZL, z0, z1]); repeat (first | exact LeF.nil | refine ZD (k := ?_)))
 case objs0 => rfl
 case round =>
  rintro ⟨q, vC⟩ q1
  simp only at q1
  dsimp only [ZL, z0, z1]
  have hol : ((V.take q).map fun v => [v]).length <= 200002 := by rw [List.length_map, List.length_take]; omega
  by_cases hq : q < V.length
  ·have htk : (V.take (q + 1)).map (fun v => [v]) = (V.take q).map (fun v => [v]) ++ [[V[q]]] := by rw [List.take_succ_eq_append_getElem hq, List.map_append]; rfl
   ((repeat' (first | ((first | apply WL.opN | apply WD.opN); exact yF; dsimp only [ZB, z0, z1]) | refine WL.nil ?_ | refine ZA fun Kx hK => ?_ | (refine hK _ _ ?_; clear hK) | refine WC.region ?_ |  (refine ZCQ (.head _) fun h1 => WL.perm (List.Perm.swap _ _ _) (WL.storeS (k := 2) tySS (OpD.t rfl) (OpD.t rfl) (ZW h1) (by simp) (WL.perm (List.Perm.swap _ _ _) ?_)); dsimp only [ZB, z0, z1]) | ((first | apply WL.pushK | apply WL.push1); (exact eD); exact OpD.t rfl; (exact oD); (intro _; exact hD); (exact (by simp)); (exact (by simp)); (first | exact ⟨by decide, by decide⟩ | skip); decide; (exact lD); (intro _; dsimp only [ZB, z0, z1]); all_goals (try infer_instance)) | (apply WL.alloc; (first | exact tzV | exact tzC); (first | exact ZW rfl | exact Zs | exact Zi rfl); (intro _; dsimp only [ZB, z0, z1])) | (apply WL.storeF; (exact tD); rfl; (exact oD); (exact hD); dsimp only [ZB, z0, z1]) | ((first | apply ZJ | apply WD.op); (focus (first | exact wN | (apply ZG; (exact wY); ((first | (refine Z7 ZBY (OpD.t rfl) (by decide)) | (refine Zp tySS (OpD.t rfl) (.tail _ (.head _)) rfl) | (refine SY.ixE (R := RV) (_gR := inferInstance) elV hq rfl (OpD.t rfl) (OpD.t rfl)) | ((first | apply SY.move | apply SY.assign | apply SY.lss | apply SY.gtr | apply SY.neq) <;> (exact oD)) | ((first | apply SY.add) <;> first | exact oD | omega) | (apply SY.buildE; (exact eD); ((try simp only [List.map_cons, List.map_nil]); (repeat (first | exact ZAj | (apply ZAU; (first | exact OpD.t rfl | exact OpD.i | exact OpD.b | exact OpD.tle rfl (by first | exact ZN | exact ZK (by decide)) | exact ⟨ZN⟩ | exact ⟨ZK (by decide)⟩))))); rfl; rfl; decide; (intro _; exact ZA8); (exact (by simp))) | fail); all_goals infer_instance)))); dsimp only [ZB, z0, z1]) | (apply ZC; (exact oD); all_goals (intro h; try exact xD)) | refine WC.skip ?_ | refine WC.block ?_ | refine ThenD.n ?_)); all_goals (first | ((repeat clear hK); (repeat clear Kx))))
   all_goals try (exfalso; first | contradiction | omega)
   (refine ⟨(q + 1, _) , ?_, by first | omega | (simp only; omega), by ((try simp only);  (rw [htk])), ?_⟩; rotate_left; ((try dsimp only [ZL, z0, z1]); repeat (first | exact LeF.nil | refine ZD (k := ?_))); (try dsimp only))
   omega
  ·rw [List.take_of_length_le (by omega)]
   refine WC.perm (List.Perm.swap _ _ _) (WC.keepS (k := 2) rfl ?_)
   dsimp only [z0, z1]
   (repeat' (first | ((first | apply WL.opN | apply WD.opN); exact yF; dsimp only [ZB, z0, z1]) | refine WL.nil ?_ | refine ZA fun Kx hK => ?_ | (refine hK _ _ ?_; clear hK) | (refine Kont.skip ?_; clear hK) | refine WC.region ?_ | ((first | apply ZJ | apply WD.op); (focus (first | exact wN | (apply ZG; (exact wY); ((first | ((first | apply SY.move | apply SY.assign | apply SY.lss | apply SY.gtr | apply SY.neq) <;> (exact oD)) | fail); all_goals infer_instance)))); dsimp only [ZB, z0, z1]) | (apply ZC; (exact oD); all_goals (intro h; try exact xD)) | refine WC.exit ?_ | refine WC.block ?_))
   all_goals try (exfalso; first | contradiction | omega)
   (refine WC.loopU (X := Nat) (fun i => [(57, dI (i : Int)), (5, dA), (13, dA), (14, dA), (15, dA), (16, dA), (58, dA), (59, dA), (60, dA), (61, dA), (62, dA), (63, dA), (64, dA), (65, dA), (66, dA), (67, dA), (68, dA), (69, dA), (70, dA), (71, dA), (72, dA), (73, dA), (74, dA), (75, dA), (76, dA), (77, dA), (78, dA), (79, dA), (80, dA), (81, dA), (82, dA), (83, dA), (84, dA), (85, dA), (86, dA)]) (fun i => (Zm b10 30 [dS Zq l, dS ZF V, dS Zq (V.map fun v => [v])] :: [ZO b4 30 3 true (dX (.agg #[.slice none 0 0, .slice none 0 0, .slice none 0 0]))])) (fun i => k - i) (fun i => i = 0) 0 ?start ?frame0 ?objs0 ?round)
   case start => rfl
   case frame0 => ((try dsimp only [ZL, z0, z1]); repeat (first | exact LeF.nil | refine ZD (k := ?_)))
   case objs0 => rfl
   case round =>
    rintro i i1
    subst i1
    dsimp only [ZL, z0, z1]
    ((repeat' (first | ((first | apply WL.opN | apply WD.opN); exact yF; dsimp only [ZB, z0, z1]) | refine WL.nil ?_ | refine ZA fun Kx hK => ?_ | (refine hK _ _ ?_; clear hK) | refine WC.region ?_ |  (refine WL.gainC 61 0 hgi rfl rfl ?_; dsimp only [z0, z1]; refine WL.op rfl (SY.call cW Tryz.call9 (ArgsD.cons (OpD.t rfl) ArgsD.nil)) ?_; dsimp only [ZB, z0, z1]) |  (refine WL.allocS (dst := some 13) (zs := [.slice none 0 0, .slice none 0 0, .slice none 0 0]) tzSb (by decide) (by simp [Value.oneCell']) fun b13 => ?_; dsimp only [ZB, z0, z1, List.map_cons, List.map_nil]) |  (refine WL.storeW ZB8 (OpD.t rfl) (OpD.tle rfl ZBz) rfl rfl (WL.drop ?_); dsimp only [ZB]) |  (refine WL.perm (List.Perm.swap _ _ _) (WL.storeF ZB8 rfl (OpD.t rfl) Z9 ?_); dsimp only [ZB, z0, z1]) | ((first | apply ZJ | apply WD.op); (focus (first | exact wN | (apply ZG; (exact wY); ((first | (refine Z7 ZBY (OpD.t rfl) (by decide)) | (refine SY.loadSC tyC (OpD.t rfl) (.head _) rfl) | (exact SY.mkSn) | ((first | apply SY.move | apply SY.assign | apply SY.lss | apply SY.gtr | apply SY.neq) <;> (exact oD)) | (apply SY.extract; (exact oD); rfl) | fail); all_goals infer_instance)))); dsimp only [ZB, z0, z1]) | (apply ZC; (exact oD); all_goals (intro h; try exact xD)) | (apply ZH; (exact oD); all_goals (intro h; try exact xD)) | refine WC.skip ?_ | refine WC.ret ?_ | refine WC.block ?_ | refine ThenD.r ?_ | refine InBlockD.r ?_)); all_goals (first | ((repeat clear hK); (repeat clear Kx))))
    all_goals first | (refine ⟨trivial, ⟨_, rfl, ?_⟩, _, rfl, ?_⟩ <;> exact fD) | (exfalso; first | contradiction | omega)
end
section
theorem atB_map (f : Vx -> Vx) (s : List Vx) (M : Nat) : atB (s.map f) M = (atB s M).map f := by
 unfold atB
 rw [List.zipIdx_map, List.filter_map, List.map_map, List.map_map]
 rfl
theorem fac_img {φ ψ : Vx -> Vx} {f : List Vx} (h : ∀ v ∈ f, ∀ m : Int, φ (v.1, m) = ((ψ v).1, m)) : ZCO (f.map ψ) = mpC φ (ZCO f) := by
 unfold ZCO mpC
 rw [List.length_map, List.map_map]
 refine List.map_congr_left fun bl _ => ?_
 show ZAy (f.map ψ) bl = (ZAy f bl).map φ
 apply List.ext_getElem
 ·rw [List.length_map, Zj, Zj, List.length_map]
 ·intro i h1 h2
  have hi : i < f.length := by rw [Zj, List.length_map] at h1; exact h1
  rw [List.getElem_map, ZAr, ZAr, h _ (List.getElem_mem hi), List.getElem_map]
end
section
section
variable {φ : Vx -> Vx} {g : Int -> Int}
theorem num_img (h : ZBb φ) : ∀ (O : Cx) (k : Nat) (x : List Vx), ZAe k (mpC φ O) (x.map φ) = ZAe k O x
 | [], _, _ => rfl
 | y :: O, k, x => by
  show (if y.map φ = x.map φ then (k : Int) else ZAe (k + 1) (mpC φ O) (x.map φ)) = if y = x then (k : Int) else ZAe (k + 1) O x
  rw [num_img h O (k + 1) x]
  by_cases e : y = x
  ·rw [if_pos e, if_pos (by rw [e])]
  ·rw [if_neg e, if_neg fun q => e ((nat_list h).1 q)]
theorem addF_img (h : ZBb φ) (O : Cx) (x : List Vx) : addF (mpC φ O) (x.map φ) = mpC φ (addF O x) := by
 unfold addF
 rw [num_img h]
 split
 ·simp
 ·rfl
theorem foldA_img (h : ZBb φ) : ∀ L O : Cx, (mpC φ L).foldl addF (mpC φ O) = mpC φ (L.foldl addF O)
 | [], _ => rfl
 | x :: L, O => by
  show (mpC φ L).foldl addF (addF (mpC φ O) (x.map φ)) = mpC φ (L.foldl addF (addF O x))
  rw [addF_img h, foldA_img h L]
theorem facV_img (s : List Vx) : facV (s.map φ) = mpC φ (facV s) := by
 unfold facV mpC
 rw [List.length_map, List.map_flatMap]
 congr 1
 funext k
 exact nat_subs (k + 1) s
theorem facK_img (l : Cx) : ZCN (mpC φ l) = mpC φ (ZCN l) := by
 unfold ZCN mpC
 rw [List.map_flatMap, List.flatMap_map]
 congr 1
 funext s
 exact facV_img s
theorem facR_img (h : ZBb φ) (l : Cx) : Z3 (mpC φ l) = mpC φ (Z3 l) := by
 unfold Z3
 rw [facK_img]
 exact foldA_img h (ZCN l) []
theorem labW_img (h : ZBb φ) (fs : Cx) (s : List Vx) (v : Vx) : labW (mpC φ fs) (s.map φ) (g v.1, v.2) = (g (labW fs s v).1, (labW fs s v).2) := by
 unfold labW carB
 simp only
 rw [atB_map, num_img h]
theorem facW_img (h : ZBb φ) (hg : ∀ v, (φ v).1 = g v.1) (l : Cx) : ZBB (Z3 (mpC φ l)) (mpC φ l) = mpC (fun v => (g v.1, v.2)) (ZBB (Z3 l) l) := by
 rw [facR_img h]
 generalize Z3 l = fs
 unfold ZBB
 show (l.map (List.map φ)).flatMap _ = (l.flatMap _).map _
 rw [List.map_flatMap, List.flatMap_map]
 congr 1
 funext s
 rw [fac_img (φ := fun v => (g v.1, v.2)) (ψ := φ) (f := s) fun v _ m => by rw [hg]]
 unfold mpC
 rw [List.map_map, List.map_map]
 refine List.map_congr_left fun t _ => ?_
 show (t.map _).map _ = (t.map _).map _
 rw [List.map_map, List.map_map]
 exact List.map_congr_left fun v _ => labW_img h fs s v
end
theorem can_keep {s : List Vx} (hs : AscC s) : ∃ (φ : Vx -> Vx) (g : Int -> Int), ZBb φ /\ (∀ v, (φ v).1 = g v.1) /\ (∀ i j, i < j -> g i < g j) /\ s = (canS s.length).map φ := by
 obtain ⟨g, hg, hk⟩ : ∃ g : Int -> Int, (∀ i j, i < j -> g i < g j) /\ ∀ (k : Nat) (h : k < s.length), g (k : Int) = s[k].1 := by
  cases s with
  | nil => exact ⟨id, fun _ _ h => h, fun k h => by cases h⟩
  | cons x s =>
   have hp : ((x :: s).map fun v : Vx => v.1).Pairwise (· < ·) := List.pairwise_map.2 hs
   obtain ⟨g, h1, h2, h3⟩ := mono_of (s.map fun v : Vx => v.1) x.1 hp
   refine ⟨g, h1, fun k h => ?_⟩
   cases k with
   | zero => exact h2
   | succ k =>
    have := h3 k (by simpa using h)
    rw [show ((k + 1 : Nat) : Int) = (k : Int) + 1 by omega, this]
    simp
 refine ⟨fun v => (g v.1, v.2 + (s.getD v.1.toNat (0, 0)).2), g, fun a b => ?_, fun _ => rfl, hg, ?_⟩
 ·have h : ∀ x y : Int, g x < g y ↔ x < y := fun x y => ⟨fun h => by
   by_cases e : x = y
   ·rw [e] at h; omega
   ·by_cases h' : x < y
    ·exact h'
    ·have := hg y x (by omega); omega, hg x y⟩
  unfold ZAX
  simp only [h]
  by_cases h1 : a.1 < b.1
  ·rw [if_pos h1, if_pos h1]
  ·by_cases h2 : b.1 < a.1
   ·rw [if_neg h1, if_neg h1, if_pos h2, if_pos h2]
   ·have e : a.1 = b.1 := by omega
    rw [if_neg h1, if_neg h1, if_neg h2, if_neg h2]
    simp only [e, Int.add_lt_add_iff_right]
 ·apply List.ext_getElem
  ·rw [List.length_map, canS_len]
  ·intro i h1 h2
   rw [List.getElem_map, canS_get]
   simp only [Int.toNat_natCast]
   rw [hk i h1, List.getD_eq_getElem?_getD, List.getElem?_eq_getElem h1, Option.getD_some]
   simp
theorem pts_img {φ : Vx -> Vx} (h : ZBb φ) (l : Cx) : ZB9 (mpC φ l) = (ZB9 l).map φ := by
 refine ZCa (ptsC_asc _) ?_ fun x => ?_
 ·refine List.pairwise_map.2 (List.Pairwise.imp (fun hab => ?_) (ptsC_asc l))
  rw [h]; exact hab
 ·rw [ZAI, List.mem_map]
  constructor
  ·rintro ⟨s, hs, hx⟩
   obtain ⟨t, ht, rfl⟩ := List.mem_map.1 hs
   obtain ⟨v, hv, rfl⟩ := List.mem_map.1 hx
   exact ⟨v, ZAI.2 ⟨t, ht, hv⟩, rfl⟩
  ·rintro ⟨v, hv, rfl⟩
   obtain ⟨t, ht, hv⟩ := ZAI.1 hv
   exact ⟨t.map φ, List.mem_map_of_mem ht, List.mem_map_of_mem hv⟩
def cxW (l : Cx) : Cx := maxC (ZBB (Z3 l) l)
theorem cxW_img {φ : Vx -> Vx} {g : Int -> Int} (h : ZBb φ) (hg : ∀ v, (φ v).1 = g v.1) (h' : ZBb fun v => (g v.1, v.2)) (l : Cx) : cxW (mpC φ l) = mpC (fun v => (g v.1, v.2)) (cxW l) := by
 unfold cxW
 rw [facW_img h hg, nat_max h']
def chkT (n : Nat) : Bool :=
 let l := cxW (cxW [canS n])
 (decide (eulS l 8 = 1) && decide (eulS [canS n] 8 = 1)) && ((List.range 8).all fun k => decide ((ZBr l (k + 1)).length <= 4096)) && decide ((ZB9 l).length <= 100) && (List.range 8).all fun k => decide ((ZBr [canS n] (k + 1)).length <= 4096)
theorem chkT1 : chkT 1 = true := by decide +kernel
theorem chkT2 : chkT 2 = true := by decide +kernel
theorem chkT3 : chkT 3 = true := by decide +kernel
theorem two_facts {s : List Vx} (hs : Zn s = 0) (hd : Zy s = true) (h3 : s.length <= 3) : eulS (cxW (cxW [s])) 8 = 1 /\ eulS [s] 8 = 1 /\ (∀ k, k < 8 -> (ZBr (cxW (cxW [s])) (k + 1)).length <= 4096) /\ (ZB9 (cxW (cxW [s]))).length <= 100 /\ ∀ k, k < 8 -> (ZBr [s] (k + 1)).length <= 4096 := by
 obtain ⟨φ, g, h1, h2, h4, h5⟩ := can_keep (ascC_of (ZM.1 hs).2.2.2 hd)
 have h6 := keeps_color h4
 have e0 : [s] = mpC φ [canS s.length] := by
  conv => lhs; rw [h5]
  rfl
 have e1 : cxW [s] = mpC (fun v => (g v.1, v.2)) (cxW [canS s.length]) := by rw [e0, cxW_img h1 h2 h6]
 have e2 : cxW (cxW [s]) = mpC (fun v => (g v.1, v.2)) (cxW (cxW [canS s.length])) := by rw [e1, cxW_img h6 (fun _ => rfl) h6]
 have hc : chkT s.length = true := by
  have := (ZM.1 hs).1
  have : s.length = 1 \/ s.length = 2 \/ s.length = 3 := by omega
  rcases this with h | h | h <;> rw [h]
  ·exact chkT1
  ·exact chkT2
  ·exact chkT3
 unfold chkT at hc
 simp only [Bool.and_eq_true, decide_eq_true_eq, List.all_eq_true, List.mem_range] at hc
 obtain ⟨⟨⟨⟨c1, c2⟩, c3⟩, c4⟩, c5⟩ := hc
 rw [e2, e0]
 refine ⟨by rw [nat_eulS h6]; exact c1, by rw [nat_eulS h1]; exact c2, fun k hk => ?_, ?_, fun k hk => ?_⟩
 ·rw [nat_allC h6, List.length_map]; exact c3 k hk
 ·rw [pts_img h6, List.length_map]; exact c4
 ·rw [nat_allC h1, List.length_map]; exact c5 k hk
theorem eul29_is {l : Cx} (h0 : ZAn l = 0) (h : ∀ k, k < 8 -> (ZBr l (k + 1)).length <= 4096) : eulC l = (eulS l 8, 0) := by
 unfold eulC
 rw [if_neg (by omega), if_neg]
 intro q
 obtain ⟨k, hk, h2⟩ := List.any_eq_true.1 q
 have := h k (List.mem_range.1 hk)
 have := of_decide_eq_true h2
 omega
theorem next_cx {n : Nat} {d : Sub} (hd : OkI n d) : (nextR d).1 = cxW d.1 := by rw [nextR_is hd]; rfl
def ColI (d : Sub) : Prop := ∀ (k : Nat) (h : k < d.2.1.length) (h' : k < d.2.2.length), ∃ q ∈ d.2.2[k], q.1 = d.2.1[k].1
theorem col_zero (l : Cx) : ColI (itR l 0) := by
 intro k h h'
 have e : (itR l 0).2.2[k] = [(ZB9 l)[k]'h] := List.getElem_map (fun v => [v])
 exact ⟨(ZB9 l)[k]'h, by rw [e]; simp, rfl⟩
theorem car_col {l : Cx} (hg : ∀ s ∈ l, Zn s = 0) (h5 : ∀ s ∈ l, s.length <= 5) {u : Vx} (hu : u ∈ (ZBB (Z3 l) l).flatten) : ∃ s ∈ l, ∃ w ∈ s, w ∈ carW (Z3 l) u /\ w.1 = u.1 := by
 obtain ⟨f, hf, hu⟩ := List.mem_flatten.1 hu
 obtain ⟨s, hs, bl, hbl, e⟩ := ZCP hg h5 hf
 rw [e] at hu
 obtain ⟨v, hv, rfl⟩ := List.mem_map.1 hu
 rw [car_lab hg h5 hs (List.mem_map_of_mem hbl) hv]
 obtain ⟨i, hi, rfl⟩ := List.mem_iff_getElem.1 hv
 have hi' : i < s.length := by rw [Zj] at hi; exact hi
 have h1 := (ZM.1 (hg s hs)).1
 refine ⟨s, hs, s[i], List.getElem_mem hi', ?_, ?_⟩
 ·rw [ZAr]
  unfold carB
  simp only [Int.toNat_natCast]
  exact mem_atB.2 ⟨i, hi', rfl, ((ord_at (by omega) (h5 s hs) hbl).1 i hi').1⟩
 ·rw [ZAr]; rfl
theorem col_next {n : Nat} {d : Sub} (hd : OkI n d) (hc : ColI d) : ColI (nextR d) := by
 have hg := hd.good.2.2.1
 have h5 : ∀ s ∈ d.1, s.length <= 5 := fun s hs => by have := hd.three s hs; omega
 rw [nextR_is hd]
 intro k h h'
 simp only [List.getElem_map] at h h' ⊢
 have hu : (ZBF [] (ZBB (Z3 d.1) d.1).flatten)[k] ∈ (ZBB (Z3 d.1) d.1).flatten := by
  rcases ZAq.1 (List.getElem_mem h) with q | q
  ·cases q
  ·exact q
 obtain ⟨s, hs, w, hw, h1, h2⟩ := car_col hg h5 hu
 have hp : w ∈ d.2.1 := by rw [hd.pts]; exact ZAI.2 ⟨s, hs, hw⟩
 obtain ⟨j, hj, rfl⟩ := List.mem_iff_getElem.1 hp
 have hj' : j < d.2.2.length := by rw [hd.len]; exact hj
 obtain ⟨q, q1, q2⟩ := hc j hj hj'
 exact ⟨q, ZB6.2 ⟨j, hj, hj', h1, q1⟩, by rw [q2, h2]⟩
theorem it_check {l : Cx} {n : Nat} {d : Sub} (hl : ZAn l = 0) (hd : OkI n d) (h1 : ∀ c ∈ d.2.2, hasC' l c = true) (h2 : ∀ f ∈ d.1, hasC' l (unR d.2.1 d.2.2 f) = true) : chk29 (okP l d.2.1 d.2.2) l d.1 d.2.1 d.2.2 = 0 := by
 unfold chk29
 have hf : ∀ f ∈ d.1, f ∈ ZCN d.1 := fun f hf => ZA4.2 ⟨f, hf, fun e => (ZM.1 (hd.good.2.2.1 f hf)).1 (by rw [e]; rfl), List.Sublist.refl _⟩
 rw [if_neg (by omega), if_neg (by rw [Zg.2 hd.good]; decide), if_neg (fun q => q ⟨hd.pts, hd.len⟩), if_neg (fun q => q (carE_ok fun c hc => ⟨(hd.cars c hc).1, h1 c hc⟩)), if_pos]
 refine List.all_eq_true.2 fun f hff => ?_
 have hk := hf f hff
 unfold okP
 rw [un_eq hd hk, contC_good hl, if_neg (by rw [un_chk hd hk]; decide), h2 f hff]
 rfl
theorem has_in {l : Cx} {t c : List Vx} (ht : t ∈ l) (h : ∀ x ∈ c, x ∈ t) : hasC' l c = true :=
 List.any_eq_true.2 ⟨t, ht, List.all_eq_true.2 fun x hx => decide_eq_true (h x hx)⟩
theorem un_self {l : Cx} (hg : ∀ s ∈ l, Zn s = 0) {s : List Vx} (hs : s ∈ ZCN l) : unR (ZB9 l) ((ZB9 l).map fun v => [v]) s = s := by
 obtain ⟨f, hf, hne, hsub⟩ := ZA4.1 hs
 refine ZCa (unR_asc _ _ _) (List.Pairwise.sublist hsub (ZM.1 (hg f hf)).2.2.2) fun x => ⟨one_len (fun v hv => ZAI.2 ⟨f, hf, hsub.subset hv⟩) x, fun hx => ?_⟩
 obtain ⟨k, hk, rfl⟩ := List.mem_iff_getElem.1 (ZAI.2 ⟨f, hf, hsub.subset hx⟩ : x ∈ ZB9 l)
 exact ZB6.2 ⟨k, hk, by rw [List.length_map]; exact hk, hx, by rw [List.getElem_map]; simp⟩
theorem one_same {l : Cx} {n : Nat} (hd : OkI n (itR l 0)) (hw : whlE l = 0) : (itR l 1) = (chrR l).1 /\ (chrR l).2 = 0 := by
 obtain ⟨h1, _⟩ := next_same hd hw
 have h5 : ∀ s ∈ l, s.length <= 5 := fun s hs => by have := hd.three s hs; omega
 have hG : GoodX l := hd.good
 have e : (itR l 1).2.2 = (whlW (Z3 l) l).2.map (·.2) := by
  show ((whlW (Z3 l) l).2.map (·.2)).map (unR (ZB9 l) ((ZB9 l).map fun v => [v])) = _
  conv => rhs; rw [<- List.map_id ((whlW (Z3 l) l).2.map (·.2))]
  refine List.map_congr_left fun s hs => un_self hG.2.2.1 ?_
  rw [whl_is hG.2.2.1 h5 hG, List.map_map] at hs
  obtain ⟨u, hu, rfl⟩ := List.mem_map.1 hs
  refine car_face hG.2.2.1 h5 ?_
  rcases ZAq.1 hu with q | q
  ·cases q
  ·exact q
 have h1' : chrR l = (((itR l 1).1, (itR l 1).2.1, (whlW (Z3 l) l).2.map (·.2)), 0) := h1
 rw [h1', <- e]
 exact ⟨rfl, rfl⟩
end
section
open Go.RowKit
theorem dim_ge {l : Cx} : ∀ s ∈ l, (s.length : Int) - 1 <= dimC l := by
 have go : ∀ (l : Cx) (m : Int), m <= l.foldl (fun m s => if m < (s.length : Int) - 1 then (s.length : Int) - 1 else m) m /\ ∀ s ∈ l, (s.length : Int) - 1 <= l.foldl (fun m s => if m < (s.length : Int) - 1 then (s.length : Int) - 1 else m) m := by
  intro l
  induction l with
  | nil => intro m; exact ⟨Int.le_refl _, fun s hs => by cases hs⟩
  | cons x l ih =>
   intro m
   rw [List.foldl_cons]
   have h1 := ih (if m < (x.length : Int) - 1 then (x.length : Int) - 1 else m)
   have h2 : m <= (if m < (x.length : Int) - 1 then (x.length : Int) - 1 else m) /\ (x.length : Int) - 1 <= (if m < (x.length : Int) - 1 then (x.length : Int) - 1 else m) := by
    split <;> omega
   refine ⟨Int.le_trans h2.1 h1.1, fun s hs => ?_⟩
   rcases List.mem_cons.1 hs with rfl | hs
   ·exact Int.le_trans h2.2 h1.1
   ·exact h1.2 s hs
 exact (go l (-1)).2
theorem light_three {l : Cx} (h : dimC l <= 2) : ∀ s ∈ l, s.length <= 3 := fun s hs => by
 have := dim_ge s hs
 omega
theorem okI_pts {n : Nat} {d : Sub} (hd : OkI n d) : d.2.1.length <= 3 * n := by
 rw [hd.pts]
 have h1 := flat_le (n := 3) hd.three
 have h2 := allV_len d.1.flatten []
 have h3 := hd.few
 unfold ZB9
 simp only [List.length_nil] at h2
 omega
theorem iter_prog (l : Cx) (k : Nat) (h0 : ZAn l = 0) (hl : l.length <= 4) (h3 : ∀ s ∈ l, s.length <= 3) (hk : k <= 2) (h2 : k = 2 -> l.length <= 1) :
  (k = 0 \/ whlE l = 0 -> Fn Tryz.prog 14 [dS CpxL l, dI (k : Int)] (dT [dS SubR (itR l k), dI 0])) /\ (1 <= k -> whlE l ≠ 0 -> Fn Tryz.prog 14 [dS CpxL l, dI (k : Int)] (dT [dS SubR ([], [], []), dI (whlE l)])) := by
 refine ⟨fun hw => iterateP_p l k h0 (by omega) (by omega) fun i hi => ?_, fun h1 hw => iterErr_p l k h0 (by omega) h1 (by omega) hw⟩
 have hw' : whlE l = 0 := by
  rcases hw with q | q
  ·omega
  ·exact q
 have : i = 0 \/ (i = 1 /\ k = 2) := by omega
 rcases this with rfl | ⟨rfl, rfl⟩
 ·exact ⟨⟨4, okI_zero h0 h3 hl⟩, hw'⟩
 ·obtain ⟨t, _, _, _, ⟨o1, o2, _⟩, _⟩ := its_one h0 h3 (h2 rfl) hw'
  exact ⟨⟨13, o1⟩, whl_zero o1 (by omega) o2⟩
end
end Go.Proofs.YtmcllakdbgnfiaaGreatDoor
