/- Part 40: walks by contracts, and plain laws. -/
import Derived.Test.YtmcllakdbgnfiaaGreatDoorVg39
set_option linter.unusedVariables false
set_option linter.unusedSimpArgs false
set_option linter.unusedSectionVars false
set_option maxRecDepth 100000
set_option maxHeartbeats 4000000
namespace Go.Proofs.YtmcllakdbgnfiaaGreatDoor
section
open Go.RowKit

theorem shape_VL {x : Vx} : (dS (RL RV) x).Shape 2 true := fun I w v h => ZA8 I w v h.1
theorem okL_of {s : List Vx} (hs : Zn s = 0) : ∀ v ∈ s, okL v := fun v hv => by
 have := (ZM.1 hs).2.2.1 v hv
 unfold rngV at this
 simp only [Bool.and_eq_true, decide_eq_true_eq] at this
 unfold okL
 omega
theorem face_okL {s : List Vx} (hs : Zn s = 0) {k : Nat} {x : List Vx} (hx : x ∈ ZX (k + 1) s) : x.length <= 1000 /\ (∀ v ∈ x, okL v) /\ okS (txS x) := by
 obtain ⟨f1, f2, _⟩ := face_good hs (by omega) hx
 have h8 := (ZBX f1).2
 have hv := okL_of f1
 refine ⟨by omega, hv, ?_⟩
 have := txS_lenL hv
 unfold okS
 omega
theorem facK_okL {l : Cx} (hg : ∀ s ∈ l, Zn s = 0) : ∀ x ∈ ZCN l, okS (txS x) := fun x hx => by
 obtain ⟨s, hs, hx⟩ := List.mem_flatMap.1 hx
 obtain ⟨k, _, hx⟩ := List.mem_flatMap.1 hx
 exact (face_okL (hg s hs) hx).2.2
set_option maxHeartbeats 8000000 in
theorem facesL_p (l : Cx) (hl : l.length <= 100000) (hg : ∀ s ∈ l, Zn s = 0) : Fn Tryz.prog 35 [dS CpxL l] (dS (MapR kvS RI) (ZBZ l)) := by
 (refine ZE Tryz.func35 rfl rfl ?_; simp only [Tryz.ntmps35, List.length_cons, List.length_nil, Nat.reduceAdd, Nat.reduceSub, List.replicate_succ, List.replicate_zero, List.cons_append, List.nil_append])
 (repeat' (first | (apply WL.opN; exact yF; dsimp only [ZB, z0, z1]) | refine WL.nil ?_ | refine ZA fun Kx hK => ?_ | (refine hK _ _ ?_; clear hK) | refine WC.region ?_ |  (refine WL.makeMap kvS vvI fun b => ?_; dsimp only [ZB, z0, z1]) | (apply WL.opN; (focus ((first | (apply SY.len; (exact oD); (exact nD); (exact uD)) | (apply ZA7 cpxT; exact OpD.t rfl) | (apply SY.box; (exact oD); (exact hD)) | fail); all_goals infer_instance)); dsimp only [ZB, z0, z1]) | refine WC.block ?_))
 have hn8 : ∀ s ∈ l, s.length <= 8 := fun s hs => (ZBX (hg s hs)).2
 (refine WC.loopU (X := Nat) (fun i => [(17, dI (i : Int)), (5, dA), (6, dA), (7, dA), (8, dA), (10, dA), (11, dA), (12, dA), (18, dA), (19, dA), (20, dA), (21, dA), (22, dA), (23, dA), (24, dA), (25, dA), (26, dA), (27, dA), (28, dA), (29, dA), (30, dA), (31, dA), (32, dA), (33, dA), (34, dA), (35, dA), (36, dA), (37, dA), (38, dA), (39, dA), (40, dA), (41, dA), (42, dA), (43, dA), (44, dA), (45, dA), (46, dA), (47, dA), (48, dA), (49, dA), (50, dA), (51, dA), (52, dA), (53, dA), (54, dA), (55, dA)]) (fun i => [hM b kvS vvI ((ZCN (l.take i)).foldl numS [])]) (fun i => l.length - i) (fun i => i <= l.length) 0 ?start ?frame0 ?objs0 ?round)
 case start => exact Nat.zero_le _
 case frame0 => ((try dsimp only [ZL, z0, z1]); repeat (first | exact LeF.nil | refine ZD (k := ?_)))
 case objs0 => rfl
 case round =>
  rintro i h1
  dsimp only [ZL, z0, z1]
  by_cases hi : i < l.length
  ·have hgi := hg _ (List.getElem_mem hi)
   obtain ⟨p1, p2⟩ := ZBX hgi
   have e := facK_snoc hi
   have hne : l[i] ≠ [] := fun q => by rw [q] at p1; simp at p1
   have hpl := facK_len (l := l.take i) fun s hs => hn8 s (List.mem_of_mem_take hs)
   rw [List.length_take] at hpl
   (repeat' (first | (apply WL.opN; exact yF; dsimp only [ZB, z0, z1]) | refine WL.nil ?_ | refine ZA fun Kx hK => ?_ | (refine hK _ _ ?_; clear hK) | refine WC.region ?_ | (apply WL.opN; (focus ((first | ((first | apply SY.move | apply SY.assign | apply SY.lss | apply SY.not) <;> (exact oD)) | (apply SY.len; (exact oD); (exact nD); (exact uD)) | (apply SY.ix; (exact eD); (exact oD); (exact oD); exact kD) | fail); all_goals infer_instance)); dsimp only [ZB, z0, z1]) | (apply ZC; (exact oD); all_goals (intro h; try exact xD)) | refine WC.skip ?_ | refine WC.block ?_))
   (refine WC.loopU (X := Nat) (fun k => [(23, dI (k : Int)), (6, dA), (7, dA), (8, dA), (10, dA), (11, dA), (12, dA), (24, dA), (25, dA), (26, dA), (27, dA), (28, dA), (29, dA), (30, dA), (31, dA), (32, dA), (33, dA), (34, dA), (35, dA), (36, dA), (37, dA), (38, dA), (39, dA), (40, dA), (41, dA), (42, dA), (43, dA), (44, dA), (45, dA), (46, dA), (47, dA), (48, dA), (49, dA), (50, dA), (51, dA), (52, dA), (53, dA), (54, dA)]) (fun k => [hM b kvS vvI ((ZCN (l.take i) ++ (List.range k).flatMap (fun k => ZX (k + 1) l[i])).foldl numS [])]) (fun k => l[i].length - k) (fun k => k <= l[i].length) 0 ?start ?frame0 ?objs0 ?round)
   case start => exact Nat.zero_le _
   case frame0 => ((try dsimp only [ZL, z0, z1]); repeat (first | exact LeF.nil | refine ZD (k := ?_)))
   case objs0 => simp
   case round =>
    rintro k k1
    dsimp only [ZL, z0, z1]
    by_cases hk : k < l[i].length
    ·have hF : Fn Tryz.prog 74 [dS ZF l[i], dI ((k : Int) + 1)] (dT [dS Zq (ZX (k + 1) l[i]), dI 0]) := by
      have := facesP_p l[i] ((k + 1 : Nat) : Int)
      rwa [facesV_good hgi (by omega) (by omega)] at this
     have hTl := sub_pow p2 (k + 1)
     have hTc : ∀ t ∈ ZX (k + 1) l[i], t.length <= 1000 /\ (∀ v ∈ t, okL v) /\ okS (txS t) := fun t ht => face_okL hgi ht
     have hPKo : ∀ x ∈ (List.range k).flatMap (fun k => ZX (k + 1) l[i]), okS (txS x) := fun x hx => by
      obtain ⟨k', _, hx⟩ := List.mem_flatMap.1 hx
      exact (face_okL hgi hx).2.2
     have hPCo : ∀ x ∈ ZCN (l.take i), okS (txS x) := facK_okL fun s hs => hg s (List.mem_of_mem_take hs)
     have hpk := ZBq (fun k => ZX (k + 1) l[i]) 256 (List.range k) fun k _ => sub_pow p2 _
     rw [List.length_range] at hpk
     have ek : (List.range (k + 1)).flatMap (fun k => ZX (k + 1) l[i]) = (List.range k).flatMap (fun k => ZX (k + 1) l[i]) ++ ZX (k + 1) l[i] := by
      rw [List.range_succ, List.flatMap_append]; simp
     generalize (List.range k).flatMap (fun k => ZX (k + 1) l[i]) = PK at *
     generalize ZCN (l.take i) = PC at *
     generalize ZX (k + 1) l[i] = T at *
     (repeat' (first | (apply WL.opN; exact yF; dsimp only [ZB, z0, z1]) | refine WL.nil ?_ | refine ZA fun Kx hK => ?_ | (refine hK _ _ ?_; clear hK) | refine WC.region ?_ | (apply WL.opN; (focus ((first | (apply SY.call hF Tryz.call74; exact ArgsD.cons (OpD.tle rfl le_VL) (ArgsD.cons (OpD.t rfl) ArgsD.nil)) | ((first | apply SY.move | apply SY.assign | apply SY.lss | apply SY.not) <;> (exact oD)) | ((first | apply SY.add) <;> first | exact oD | omega) | (apply SY.len; (exact oD); (exact nD); (exact uD)) | (apply SY.extract; (exact oD); rfl) | fail); all_goals infer_instance)); dsimp only [ZB, z0, z1]) | (apply ZC; (exact oD); all_goals (intro h; try exact xD)) | refine WC.skip ?_ | refine WC.block ?_))
     all_goals first | (exfalso; omega) | skip
     (refine WC.loopU (X := Nat) (fun j => [(35, dI (j : Int)), (10, dA), (11, dA), (12, dA), (36, dA), (37, dA), (38, dA), (39, dA), (40, dA), (41, dA), (42, dA), (43, dA), (44, dA), (45, dA), (46, dA), (47, dA), (48, dA), (49, dA), (50, dA), (51, dA), (52, dA), (53, dA)]) (fun j => [hM b kvS vvI ((PC ++ PK ++ T.take j).foldl numS [])]) (fun j => T.length - j) (fun j => j <= T.length) 0 ?start ?frame0 ?objs0 ?round)
     case start => exact Nat.zero_le _
     case frame0 => ((try dsimp only [ZL, z0, z1]); repeat (first | exact LeF.nil | refine ZD (k := ?_)))
     case objs0 => simp
     case round =>
      rintro j q1
      dsimp only [ZL, z0, z1]
      by_cases hj : j < T.length
      ·obtain ⟨t1, t2, t3⟩ := hTc _ (List.getElem_mem hj)
       have cT := textL_p T[j] t1 t2
       have hn := nums_keys (PC ++ PK ++ T.take j) (M := []) List.Pairwise.nil
       have hok : ∀ p ∈ (PC ++ PK ++ T.take j).foldl numS [], okS p.1 := nums_ok _ (fun x hx => by
        rcases List.mem_append.1 hx with hx | hx
        ·rcases List.mem_append.1 hx with hx | hx
         ·exact hPCo x hx
         ·exact hPKo x hx
        ·exact (hTc x (List.mem_of_mem_take hx)).2.2) (by simp)
       have ej : (PC ++ PK ++ T.take (j + 1)).foldl numS [] = numS ((PC ++ PK ++ T.take j).foldl numS []) T[j] := by
        rw [List.take_succ_eq_append_getElem hj, <- List.append_assoc, List.foldl_append]; rfl
       have hML := nums_len (PC ++ PK ++ T.take j) []
       rw [List.length_append, List.length_append, List.length_take, List.length_nil] at hML
       generalize (PC ++ PK ++ T.take j).foldl numS [] = M at *
       cases hs : (lookM M (txS T[j])).isSome with
       | true =>
        rw [show numS M T[j] = M from if_pos hs] at ej
        ((repeat' (first | (apply WL.opN; exact yF; dsimp only [ZB, z0, z1]) | refine WL.nil ?_ | refine ZA fun Kx hK => ?_ | (refine hK _ _ ?_; clear hK) | refine WC.region ?_ |  (refine WL.gain 41 5 hne rfl rfl ?_; dsimp only [z0, z1]) |  (refine WL.gain 49 5 hne rfl rfl ?_; dsimp only [z0, z1]) | (apply WL.opN; (focus ((first | (apply SY.call (cT) Tryz.call38; (exact aD)) | (refine SY.lookM2 (v := txS T[j]) ZBH keyT_S (OpD.t rfl) (.head _) (OpD.t rfl) isX t3 hok hn) | ((first | apply SY.move | apply SY.assign | apply SY.lss | apply SY.not) <;> (exact oD)) | ((first | apply SY.add) <;> first | exact oD | omega) | (apply SY.ix; (exact eD); (exact oD); (exact oD); exact kD) | (apply SY.extract; (exact oD); rfl) | fail); all_goals infer_instance)); dsimp only [ZB, z0, z1]) | (apply ZC; (exact oD); all_goals (intro h; try exact xD)) | (apply Zk; (exact oD); all_goals (intro h; try exact xD)) | refine WC.skip ?_ | refine WC.block ?_ | refine ThenD.n ?_)); all_goals (first | refine WL.id ?_ | ((repeat clear hK); (repeat clear Kx))))
        all_goals first | (exfalso; omega) | (exfalso; rw [hs] at h; cases h; done) | skip
        (refine ⟨j + 1 , ?_, by first | omega | (simp only; omega), by ((try simp only);  rw [ej]), ?_⟩; rotate_left; ((try dsimp only [ZL, z0, z1]); repeat (first | exact LeF.nil | refine ZD (k := ?_))); (try dsimp only))
        omega
       | false =>
        rw [show numS M T[j] = ZBP M (txS T[j]) (M.length : Int) from if_neg (by rw [hs]; decide)] at ej
        ((repeat' (first | (apply WL.opN; exact yF; dsimp only [ZB, z0, z1]) | refine WL.nil ?_ | refine ZA fun Kx hK => ?_ | (refine hK _ _ ?_; clear hK) | refine WC.region ?_ |  (refine WL.gain 41 5 hne rfl rfl ?_; dsimp only [z0, z1]) |  (refine WL.gain 49 5 hne rfl rfl ?_; dsimp only [z0, z1]) |  (refine WL.putMap (v := txS T[j]) (u := (M.length : Int)) ZBH keyT_S (OpD.t rfl) (OpD.t rfl) isX (OpD.t rfl) ⟨fun _ _ _ h => h⟩ t3 hok hn ?_; dsimp only [ZB, z0, z1]) | (apply WL.opN; (focus ((first | (apply SY.call (cT) Tryz.call38; (exact aD)) | (refine SY.lookM2 (v := txS T[j]) ZBH keyT_S (OpD.t rfl) (.head _) (OpD.t rfl) isX t3 hok hn) | (refine SY.lenM ZBH (OpD.t rfl) (.head _)) | ((first | apply SY.move | apply SY.assign | apply SY.lss | apply SY.not) <;> (exact oD)) | ((first | apply SY.add) <;> first | exact oD | omega) | (apply SY.ix; (exact eD); (exact oD); (exact oD); exact kD) | (apply SY.extract; (exact oD); rfl) | fail); all_goals infer_instance)); dsimp only [ZB, z0, z1]) | (apply ZC; (exact oD); all_goals (intro h; try exact xD)) | (apply Zk; (exact oD); all_goals (intro h; try exact xD)) | refine WC.skip ?_ | refine WC.block ?_ | refine ThenD.n ?_)); all_goals (first | ((repeat clear hK); (repeat clear Kx))))
        all_goals first | (exfalso; omega) | (exfalso; rw [hs] at h; cases h; done) | skip
        (refine ⟨j + 1 , ?_, by first | omega | (simp only; omega), by ((try simp only);  rw [ej]), ?_⟩; rotate_left; ((try dsimp only [ZL, z0, z1]); repeat (first | exact LeF.nil | refine ZD (k := ?_))); (try dsimp only))
        omega
      ·rw [List.take_of_length_le (by omega)]
       ((repeat' (first | (apply WL.opN; exact yF; dsimp only [ZB, z0, z1]) | refine WL.nil ?_ | refine ZA fun Kx hK => ?_ | (refine hK _ _ ?_; clear hK) | (refine Kont.skip ?_; clear hK) | refine WC.region ?_ | (apply WL.opN; (focus ((first | ((first | apply SY.move | apply SY.assign | apply SY.lss | apply SY.not) <;> (exact oD)) | ((first | apply SY.add) <;> first | exact oD | omega) | fail); all_goals infer_instance)); dsimp only [ZB, z0, z1]) | (apply ZC; (exact oD); all_goals (intro h; try exact xD)) | refine WC.exit ?_ | refine ThenD.n ?_)); all_goals (first | ((repeat clear hK); (repeat clear Kx))))
       (refine ⟨k + 1 , ?_, by first | omega | (simp only; omega), by ((try simp only);  rw [ek, List.append_assoc]), ?_⟩; rotate_left; ((try dsimp only [ZL, z0, z1]); repeat (first | exact LeF.nil | refine ZD (k := ?_))); (try dsimp only))
       omega
    ·have hke : k = l[i].length := by omega
     subst hke
     ((repeat' (first | (apply WL.opN; exact yF; dsimp only [ZB, z0, z1]) | refine WL.nil ?_ | refine ZA fun Kx hK => ?_ | (refine hK _ _ ?_; clear hK) | (refine Kont.skip ?_; clear hK) | refine WC.region ?_ | (apply WL.opN; (focus ((first | ((first | apply SY.move | apply SY.assign | apply SY.lss | apply SY.not) <;> (exact oD)) | ((first | apply SY.add) <;> first | exact oD | omega) | fail); all_goals infer_instance)); dsimp only [ZB, z0, z1]) | (apply ZC; (exact oD); all_goals (intro h; try exact xD)) | refine WC.exit ?_ | refine ThenD.n ?_)); all_goals (first | ((repeat clear hK); (repeat clear Kx))))
     all_goals first | (exfalso; omega) | skip
     (refine ⟨i + 1 , ?_, by first | omega | (simp only; omega), by ((try simp only);  rw [e]; rfl), ?_⟩; rotate_left; ((try dsimp only [ZL, z0, z1]); repeat (first | exact LeF.nil | refine ZD (k := ?_))); (try dsimp only))
     omega
  ·rw [List.take_of_length_le (by omega)]
   ((repeat' (first | (apply WL.opN; exact yF; dsimp only [ZB, z0, z1]) | refine WL.nil ?_ | refine ZA fun Kx hK => ?_ | (refine hK _ _ ?_; clear hK) | (refine Kont.skip ?_; clear hK) | refine WC.region ?_ | (apply WL.opN; (focus ((first | ((first | apply SY.move | apply SY.assign | apply SY.lss | apply SY.not) <;> (exact oD)) | fail); all_goals infer_instance)); dsimp only [ZB, z0, z1]) | (apply ZC; (exact oD); all_goals (intro h; try exact xD)) | refine WC.ret ?_ | refine WC.exit ?_)); all_goals (first | ((repeat clear hK); (repeat clear Kx))))
   refine ⟨trivial, _, rfl, ?_⟩
   exact FinD.mapN (.head _)
set_option maxHeartbeats 4000000 in
theorem faceL_p (s : List Vx) (m : Nat) (hs : s.length <= 60) (hm : m < 1048576) : Fn Tryz.prog 39 [dS ZAu s, dI (m : Int)] (dS ZAu (atB s m)) := by
 (refine ZE Tryz.func39 rfl rfl ?_; simp only [Tryz.ntmps39, List.length_cons, List.length_nil, Nat.reduceAdd, Nat.reduceSub, List.replicate_succ, List.replicate_zero, List.cons_append, List.nil_append])
 (repeat' (first | (apply WL.opN; exact yF; dsimp only [ZB, z0, z1]) | refine WL.nil ?_ | refine ZA fun Kx hK => ?_ | (refine hK _ _ ?_; clear hK) | refine WC.region ?_ | (apply WL.opN; (focus ((first | (apply SY.len; (exact oD); (exact nD); (exact uD)) | fail); all_goals infer_instance)); dsimp only [ZB, z0, z1]) | refine WC.block ?_))
 refine ZBh 45 2 (by decide) (RL RV) ?_
 (refine WC.loopU (X := Nat × Value) (fun x => [(5, dX x.2), (10, dI (x.1 : Int)), (6, dA), (7, dA), (11, dA), (12, dA), (13, dA), (14, dA), (15, dA), (16, dA), (17, dA), (18, dA), (19, dA), (20, dA), (21, dA), (22, dA), (23, dA), (24, dA)]) (fun x => [ZS x.2 45 2 (RL RV) (atB (s.take x.1) m)]) (fun x => s.length - x.1) (fun x => x.1 <= s.length) (0, .slice none 0 0) ?start ?frame0 ?objs0 ?round)
 case start => simp
 case frame0 => ((try dsimp only [ZL, z0, z1]); repeat (first | exact LeF.nil | refine ZD (k := ?_)))
 case objs0 => rfl
 case round =>
  rintro ⟨k, u⟩ h1
  dsimp only [ZL, z0, z1]
  simp only at h1
  have h2 : (atB (s.take k) m).length <= 1000 := by
   have := atB_len (s.take k) m
   rw [List.length_take] at this
   omega
  by_cases hk : k < s.length
  ·cases hb : bitB m k with
   | true =>
    have hcond := bitB_iff.2 hb
    ((repeat' (first |  (refine ZBg (t := 7) rfl ?_; dsimp only [z0, z1]) | (apply WL.opN; exact yF; dsimp only [ZB, z0, z1]) | refine WL.nil ?_ | refine ZA fun Kx hK => ?_ | (refine hK _ _ ?_; clear hK) | refine WC.region ?_ |  (refine WL.storeK tyV (OpD.t rfl) (OpD.t rfl) shape_VL ?_; dsimp only [ZB, z0, z1]) | ((first | apply WL.appK | apply WL.app1); (exact eD); exact OpD.t rfl; (exact oD); decide; (exact lD); (intro _; dsimp only [ZB, z0, z1]); all_goals (try infer_instance)) | (apply WL.alloc; (first | exact tzV | exact tzC); (first | exact ZW rfl | exact Zs | exact Zi rfl); (intro _; dsimp only [ZB, z0, z1])) | (apply WL.opN; (focus ((first | (exact SY.buildE (R := RL RV) (_gR := inferInstance) (els := [s[k]]) elV (ZAU (OpD.t rfl) ZAj) rfl rfl (by decide) (fun _ => shape_VL) (by simp)) | (refine SY.shrN (a := m) (b := k) (by omega) (OpD.t rfl) (OpD.t rfl)) | (refine SY.bit1 (m := m) (i := k) (by omega) (OpD.t rfl)) | ((first | apply SY.move | apply SY.assign | apply SY.lss | apply SY.eql | apply SY.and) <;> (exact oD)) | ((first | apply SY.add) <;> first | exact oD | omega) | (apply ZA3; (exact eD); (exact oD); (exact oD); exact kD) | fail); all_goals infer_instance)); dsimp only [ZB, z0, z1]) | (apply ZC; (exact oD); all_goals (intro h; try exact xD)) | refine WC.skip ?_ | refine WC.block ?_ | refine ThenD.n ?_)); all_goals (first | ((repeat clear hK); (repeat clear Kx))))
    all_goals try (exfalso; first | contradiction | omega)
    (refine ⟨(k + 1, _) , ?_, by first | omega | (simp only; omega), by ((try simp only);  (rw [atB_snoc hk, if_pos hb])), ?_⟩; rotate_left; ((try dsimp only [ZL, z0, z1]); repeat (first | exact LeF.nil | refine ZD (k := ?_))); (try dsimp only))
    omega
   | false =>
    have hcond : ¬ ((((m >>> k) &&& 1 : Nat) : Int) = 1) := fun q => by rw [bitB_iff.1 q] at hb; cases hb
    ((repeat' (first |  (refine ZBg (t := 7) rfl ?_; dsimp only [z0, z1]) | (apply WL.opN; exact yF; dsimp only [ZB, z0, z1]) | refine WL.nil ?_ | refine ZA fun Kx hK => ?_ | (refine hK _ _ ?_; clear hK) | refine WC.region ?_ |  (refine WL.storeK tyV (OpD.t rfl) (OpD.t rfl) shape_VL ?_; dsimp only [ZB, z0, z1]) | (apply WL.alloc; (first | exact tzV | exact tzC); (first | exact ZW rfl | exact Zs | exact Zi rfl); (intro _; dsimp only [ZB, z0, z1])) | (apply WL.opN; (focus ((first | (refine SY.shrN (a := m) (b := k) (by omega) (OpD.t rfl) (OpD.t rfl)) | (refine SY.bit1 (m := m) (i := k) (by omega) (OpD.t rfl)) | ((first | apply SY.move | apply SY.assign | apply SY.lss | apply SY.eql | apply SY.and) <;> (exact oD)) | ((first | apply SY.add) <;> first | exact oD | omega) | (apply ZA3; (exact eD); (exact oD); (exact oD); exact kD) | fail); all_goals infer_instance)); dsimp only [ZB, z0, z1]) | (apply ZC; (exact oD); all_goals (intro h; try exact xD)) | refine WC.skip ?_ | refine WC.block ?_ | refine ThenD.n ?_)); all_goals (first | ((repeat clear hK); (repeat clear Kx))))
    all_goals try (exfalso; first | contradiction | omega)
    (refine ⟨(k + 1, _) , ?_, by first | omega | (simp only; omega), by ((try simp only);  (rw [atB_snoc hk, if_neg (by simp [hb]), List.append_nil])), ?_⟩; rotate_left; ((try dsimp only [ZL, z0, z1]); repeat (first | exact LeF.nil | refine ZD (k := ?_))); (try dsimp only))
    omega
  ·((repeat' (first | (apply WL.opN; exact yF; dsimp only [ZB, z0, z1]) | refine WL.nil ?_ | refine ZA fun Kx hK => ?_ | (refine hK _ _ ?_; clear hK) | (refine Kont.skip ?_; clear hK) | refine WC.region ?_ | (apply WL.opN; (focus ((first | ((first | apply SY.move | apply SY.assign | apply SY.lss | apply SY.eql | apply SY.and) <;> (exact oD)) | fail); all_goals infer_instance)); dsimp only [ZB, z0, z1]) | (apply ZC; (exact oD); all_goals (intro h; try exact xD)) | refine WC.ret ?_ | refine WC.exit ?_)); all_goals (first | ((repeat clear hK); (repeat clear Kx))))
   all_goals try (exfalso; first | contradiction | omega)
   (refine ⟨trivial, _, rfl, ?_⟩; refine ZCI (.head _) ?_)
   rw [List.take_of_length_le (by omega)]
theorem num_ok {l : Cx} (hg : ∀ s ∈ l, Zn s = 0) : (∀ p ∈ ZBZ l, okS p.1) /\ ((ZBZ l).map (·.1)).Nodup := ⟨nums_ok _ (facK_okL hg) (by simp), nums_keys _ List.Pairwise.nil⟩
theorem chro1_p (M : NumM) (s : List Vx) (m : Nat) (hs : Zn s = 0) (hm : m < 1048576) (hMo : ∀ p ∈ M, okS p.1) (hMk : (M.map (·.1)).Nodup) : Fn Tryz.prog 37 [dI (m : Int), dP 1 false (dS (MapR kvS RI) M), dP 1 false (dS ZAu s)] (dI (numF M (atB s m))) := by
 have h8 := (ZM.1 hs).2.1
 have hface := faceL_p s m (by omega) hm
 have hv : ∀ v ∈ atB s m, okL v := fun v hv => okL_of hs v (atB_sub _ _ v hv)
 have hl := atB_len s m
 have htext := textL_p (atB s m) (by omega) hv
 have htl := txS_lenL hv
 have hok1 : okS (txS (atB s m)) := by unfold okS; omega
 unfold numF
 (refine ZE Tryz.func37 rfl rfl ?_; simp only [Tryz.ntmps37, List.length_cons, List.length_nil, Nat.reduceAdd, Nat.reduceSub, List.replicate_succ, List.replicate_zero, List.cons_append, List.nil_append])
 ((repeat' (first | ((first | apply WL.opN | apply WD.opN); exact yF; dsimp only [ZB, z0, z1]) | refine WL.nil ?_ | refine WD.nil ?_ | refine ZA fun Kx hK => ?_ | (refine hK _ _ ?_; clear hK) | refine WC.region ?_ | (apply WC.draw; kernel_rfl; kernel_rfl) | ((first | apply WL.opN | apply WD.opN); (focus ((first | (apply SY.load; exact tyNum; exact OpD.t rfl) | (apply SY.call (hface) Tryz.call39; (exact aD)) | (apply SY.call (htext) Tryz.call38; (exact aD)) | (refine SY.lookR (v := txS (atB s m)) (a0 := (0 : Int)) ZBH keyT_S (OpD.t rfl) (OpD.t rfl) isX hok1 hMo hMk (fun _ _ => rfl)) | fail); all_goals infer_instance)); dsimp only [ZB, z0, z1]) | refine WC.ret ?_)); all_goals (first | ((repeat clear hK); (repeat clear Kx))))
 all_goals try (exfalso; first | contradiction | omega)
 (refine ⟨trivial, _, rfl, ?_⟩; exact fD)
end
section
open Go.RowKit
def fubN (n : Nat) : Nat := [1, 1, 3, 13, 75, 541].getD n 0
theorem fub_ord : ∀ n : Fin 6, (ZBw (2 ^ n.val - 1)).length = fubN n.val := by decide +kernel
theorem fub_le : ∀ n : Fin 6, fubN n.val <= 541 := by decide
abbrev fubV : Value := .agg #[.int .i64 1, .int .i64 1, .int .i64 3, .int .i64 13, .int .i64 75, .int .i64 541]
theorem fub_run0 : ∀ w : World, (Instr.index 153 fubV (.int .i64 0)).run Tryz.prog w = .ok (.int .i64 1) w := fun _ => by kernel_rfl
theorem fub_run1 : ∀ w : World, (Instr.index 153 fubV (.int .i64 1)).run Tryz.prog w = .ok (.int .i64 1) w := fun _ => by kernel_rfl
theorem fub_run2 : ∀ w : World, (Instr.index 153 fubV (.int .i64 2)).run Tryz.prog w = .ok (.int .i64 3) w := fun _ => by kernel_rfl
theorem fub_run3 : ∀ w : World, (Instr.index 153 fubV (.int .i64 3)).run Tryz.prog w = .ok (.int .i64 13) w := fun _ => by kernel_rfl
theorem fub_run4 : ∀ w : World, (Instr.index 153 fubV (.int .i64 4)).run Tryz.prog w = .ok (.int .i64 75) w := fun _ => by kernel_rfl
theorem fub_run5 : ∀ w : World, (Instr.index 153 fubV (.int .i64 5)).run Tryz.prog w = .ok (.int .i64 541) w := fun _ => by kernel_rfl
theorem fub_run : ∀ (k : Nat), k < 6 -> ∀ w : World, (Instr.index 153 fubV (.int .i64 (k : Int))).run Tryz.prog w = .ok (.int .i64 ((fubN k : Nat) : Int)) w
 | 0, _ => fub_run0
 | 1, _ => fub_run1
 | 2, _ => fub_run2
 | 3, _ => fub_run3
 | 4, _ => fub_run4
 | 5, _ => fub_run5
 | k + 6, h => absurd h (by omega)
section
variable {ops : Array Oper} {hp : List HObj} {fr : List Dat} {dst : Option Tmp} {ty : TypeId} {ps : String} {af : Array Edge} {g : Option (Nat × Bool)} {x y : Operand}
theorem SY.fubB : SY Tryz.prog ops hp { dst := dst, op := .build 153 #[(0, .const (.int .i64 1)), (1, .const (.int .i64 1)), (2, .const (.int .i64 3)), (3, .const (.int .i64 13)), (4, .const (.int .i64 75)), (5, .const (.int .i64 541))], type := ty, pos := ps, after := af, guard := g } fr (dX fubV) := SY.val fun {I w a} ho => by
 have hm : ∀ w, (Instr.build 153 #[(0, .int .i64 1), (1, .int .i64 1), (2, .int .i64 3), (3, .int .i64 13), (4, .int .i64 75), (5, .int .i64 541)]).run Tryz.prog w = .ok fubV w := by intro w; go_simp
 refine ⟨fubV, ?_, rfl⟩
 unfold execOp
 simp only [List.map_toArray, List.map_cons, List.map_nil, Act.eval, Sem.run_bind, hm, Result.andThen_ok, Sem.run_pure]
theorem SY.fubI {k : Nat} (hk : k < 6) (hx : OpD fr x (dX fubV)) (hy : OpD fr y (dI (k : Int))) : SY Tryz.prog ops hp { dst := dst, op := .index 153 x y, type := ty, pos := ps, after := af, guard := g } fr (dI ((fubN k : Nat) : Int)) := SY.val fun {I w a} ho => by
 have h1 : a.eval x = fubV := hx.get (by simp [Op.operands]) ho
 have h2 : a.eval y = .int .i64 (k : Int) := hy.get (by simp [Op.operands]) ho
 have hm : ∀ w, (Instr.index 153 fubV (.int .i64 (k : Int))).run Tryz.prog w = .ok (.int .i64 ((fubN k : Nat) : Int)) w := fub_run k hk
 refine ⟨.int .i64 ((fubN k : Nat) : Int), ?_, rfl⟩
 unfold execOp
 simp only [h1, h2, Sem.run_bind, hm, Result.andThen_ok, Sem.run_pure]
end

theorem fubini_p (k : Nat) (hk : k < 6) : Fn Tryz.prog 73 [dI (k : Int)] (dI ((fubN k : Nat) : Int)) := by
 (refine ZE Tryz.func73 rfl rfl ?_; simp only [Tryz.ntmps73, List.length_cons, List.length_nil, Nat.reduceAdd, Nat.reduceSub, List.replicate_succ, List.replicate_zero, List.cons_append, List.nil_append])
 ((repeat' (first | (apply WL.opN; exact yF; dsimp only [ZB, z0, z1]) | refine WL.nil ?_ | refine ZA fun Kx hK => ?_ | (refine hK _ _ ?_; clear hK) | refine WC.region ?_ | (apply WL.opN; (focus ((first | (exact SY.fubB) | (exact SY.fubI hk (OpD.t rfl) (OpD.t rfl)) | fail); all_goals infer_instance)); dsimp only [ZB, z0, z1]) | refine WC.ret ?_)); all_goals (first | ((repeat clear hK); (repeat clear Kx))))
 (refine ⟨trivial, _, rfl, ?_⟩; exact fD)
def sumU (l : Cx) : Nat := (l.map fun s => fubN s.length).sum
theorem sumU_snoc {l : Cx} {i : Nat} (h : i < l.length) : sumU (l.take (i + 1)) = sumU (l.take i) + fubN l[i].length := by
 unfold sumU; rw [ZQ h, List.map_append, List.sum_append]; simp
def chrE (l : Cx) : Int := if ZAn l ≠ 0 then ZAn l else if l.all Zy = false then 3 else if l.any (fun s => decide (5 < s.length)) = true then 5 else if 4096 < sumU l then 5 else 0
theorem sumU_le {l : Cx} (h5 : ∀ s ∈ l, s.length <= 5) : sumU l <= 541 * l.length := by
 induction l with
 | nil => simp [sumU]
 | cons s l ih =>
  have h1 := ih fun t ht => h5 t (by simp [ht])
  have h2 := fub_le ⟨s.length, by have := h5 s (by simp); omega⟩
  unfold sumU at h1 ⊢
  rw [List.map_cons, List.sum_cons, List.length_cons]
  simp only at h2
  omega
set_option maxHeartbeats 8000000 in
theorem chromatics_p (l : Cx) : Fn Tryz.prog 34 [dS Cpx l] (dI (chrE l)) := by
 have c1 := check_p l
 by_cases h0 : ZAn l = 0
 ·have hG := Zg.1 h0
  have hl := hG.1
  have hg := hG.2.2.1
  rw [h0] at c1
  (refine ZE Tryz.func34 rfl rfl ?_; simp only [Tryz.ntmps34, List.length_cons, List.length_nil, Nat.reduceAdd, Nat.reduceSub, List.replicate_succ, List.replicate_zero, List.cons_append, List.nil_append])
  (repeat' (first | (apply WL.opN; exact yF; dsimp only [ZB, z0, z1]) | refine WL.nil ?_ | refine ZA fun Kx hK => ?_ | (refine hK _ _ ?_; clear hK) | refine WC.region ?_ | (apply WL.opN; (focus ((first | (apply SY.call (c1) Tryz.call42; (exact aD)) | ((first | apply SY.move | apply SY.assign | apply SY.lss | apply SY.gtr | apply SY.neq | apply SY.not) <;> (exact oD)) | (apply SY.len; (exact oD); (exact nD); (exact uD)) | (apply ZA7 cpxT; exact OpD.t rfl) | (apply SY.box; (exact oD); (exact hD)) | fail); all_goals infer_instance)); dsimp only [ZB, z0, z1]) | (apply ZH; (exact oD); all_goals (intro h; try exact xD)) | refine WC.skip ?_ | refine WC.block ?_))
  all_goals try (exfalso; first | contradiction | omega)
  (refine WC.loopU (X := Nat) (fun k => [(19, dI (k : Int)), (2, dA), (5, dA), (6, dA), (7, dA), (20, dA), (21, dA), (22, dA), (23, dA), (24, dA), (25, dA), (26, dA), (27, dA), (28, dA), (29, dA), (30, dA)]) (fun k => []) (fun k => l.length - k) (fun k => k <= l.length /\ (l.take k).all Zy = true) 0 ?start ?frame0 ?objs0 ?round)
  case start => exact ⟨Nat.zero_le _, rfl⟩
  case frame0 => ((try dsimp only [ZL, z0, z1]); repeat (first | exact LeF.nil | refine ZD (k := ?_)))
  case objs0 => rfl
  case round =>
   rintro k ⟨k1, k2⟩
   dsimp only [ZL, z0, z1]
   by_cases hk : k < l.length
   ·have hgk := hg _ (List.getElem_mem hk)
    have cC := chrom_p l[k]
    rw [show chromV l[k] = (Zy l[k], 0) by unfold chromV; rw [if_neg (by rw [hgk]; decide)]] at cC
    have hsn : (l.take (k + 1)).all Zy = Zy l[k] := by rw [ZQ hk, List.all_append, k2]; simp
    cases hd : Zy l[k] with
    | true =>
     rw [hd] at cC hsn
     ((repeat' (first | (apply WL.opN; exact yF; dsimp only [ZB, z0, z1]) | refine WL.nil ?_ | refine ZA fun Kx hK => ?_ | (refine hK _ _ ?_; clear hK) | refine WC.region ?_ | (apply WL.opN; (focus ((first | (apply SY.call (cC) Tryz.call72; (exact aD)) | (exact ZBS (OpD.t rfl)) | ((first | apply SY.move | apply SY.assign | apply SY.lss | apply SY.gtr | apply SY.neq | apply SY.not) <;> (exact oD)) | ((first | apply SY.add) <;> first | exact oD | omega) | (apply SY.ix; (exact eD); (exact oD); (exact oD); exact kD) | (apply SY.extract; (exact oD); rfl) | fail); all_goals infer_instance)); dsimp only [ZB, z0, z1]) | (apply Zr; (exact oD); (with_reducible rfl)) | (apply ZC; (exact oD); all_goals (intro h; try exact xD)) | refine WC.skip ?_ | refine WC.block ?_ | refine ThenD.n ?_)); all_goals (first | ((repeat clear hK); (repeat clear Kx))))
     all_goals try (exfalso; first | contradiction | omega)
     (refine ⟨k + 1, ?_, by first | omega | (simp only; omega), rfl, ?_⟩; rotate_left; ((try dsimp only [ZL, z0, z1]); repeat (first | exact LeF.nil | refine ZD (k := ?_))); (try dsimp only))
     exact ⟨by omega, hsn⟩
    | false =>
     rw [hd] at cC
     have he : chrE l = 3 := by
      unfold chrE
      rw [if_neg (by rw [h0]; decide), if_pos]
      exact List.all_eq_false.2 ⟨_, List.getElem_mem hk, by rw [hd]; decide⟩
     rw [he]
     ((repeat' (first | (apply WL.opN; exact yF; dsimp only [ZB, z0, z1]) | refine WL.nil ?_ | refine ZA fun Kx hK => ?_ | (refine hK _ _ ?_; clear hK) | refine WC.region ?_ | (apply WL.opN; (focus ((first | (apply SY.call (cC) Tryz.call72; (exact aD)) | ((first | apply SY.move | apply SY.assign | apply SY.lss | apply SY.gtr | apply SY.neq | apply SY.not) <;> (exact oD)) | (apply SY.ix; (exact eD); (exact oD); (exact oD); exact kD) | (apply SY.extract; (exact oD); rfl) | fail); all_goals infer_instance)); dsimp only [ZB, z0, z1]) | (apply ZC; (exact oD); all_goals (intro h; try exact xD)) | (apply Zk; (exact oD); all_goals (intro h; try exact xD)) | refine WC.skip ?_ | refine WC.ret ?_ | refine WC.block ?_ | refine ThenD.r ?_ | refine InBlockD.r ?_)); all_goals (first | ((repeat clear hK); (repeat clear Kx))))
     all_goals try (exfalso; first | contradiction | omega)
     all_goals (refine ⟨trivial, _, rfl, ?_⟩; exact fD)
   ·have hall : l.all Zy = true := by rw [List.take_of_length_le (by omega)] at k2; exact k2
    (repeat' (first | (apply WL.opN; exact yF; dsimp only [ZB, z0, z1]) | refine WL.nil ?_ | refine ZA fun Kx hK => ?_ | (refine hK _ _ ?_; clear hK) | (refine Kont.skip ?_; clear hK) | refine WC.region ?_ | (apply WL.opN; (focus ((first | ((first | apply SY.move | apply SY.assign | apply SY.lss | apply SY.gtr | apply SY.neq | apply SY.not) <;> (exact oD)) | (apply SY.len; (exact oD); (exact nD); (exact uD)) | (apply ZA7 cpxT; exact OpD.t rfl) | fail); all_goals infer_instance)); dsimp only [ZB, z0, z1]) | (apply ZC; (exact oD); all_goals (intro h; try exact xD)) | refine WC.exit ?_ | refine WC.block ?_))
    all_goals try (exfalso; first | contradiction | omega)
    (refine WC.loopU (X := Nat) (fun j => [(34, dI (j : Int)), (8, dI ((sumU (l.take j) : Nat) : Int)), (2, dA), (10, dA), (35, dA), (36, dA), (37, dA), (38, dA), (39, dA), (40, dA), (41, dA), (42, dA), (43, dA), (44, dA), (45, dA), (46, dA)]) (fun j => []) (fun j => l.length - j) (fun j => j <= l.length /\ ∀ s ∈ l.take j, s.length <= 5) 0 ?start ?frame0 ?objs0 ?round)
    case start => exact ⟨Nat.zero_le _, by simp⟩
    case frame0 => ((try dsimp only [ZL, z0, z1]); repeat (first | exact LeF.nil | refine ZD (k := ?_)))
    case objs0 => rfl
    case round =>
     rintro j ⟨j1, j2⟩
     dsimp only [ZL, z0, z1]
     have hsl := sumU_le j2
     rw [List.length_take] at hsl
     by_cases hj : j < l.length
     ·by_cases h5 : 5 < l[j].length
      ·have he : chrE l = 5 := by
        unfold chrE
        rw [if_neg (by rw [h0]; decide), if_neg (by rw [hall]; decide), if_pos]
        exact List.any_eq_true.2 ⟨_, List.getElem_mem hj, decide_eq_true h5⟩
       rw [he]
       ((repeat' (first | (apply WL.opN; exact yF; dsimp only [ZB, z0, z1]) | refine WL.nil ?_ | refine ZA fun Kx hK => ?_ | (refine hK _ _ ?_; clear hK) | refine WC.region ?_ | (apply WL.opN; (focus ((first | ((first | apply SY.move | apply SY.assign | apply SY.lss | apply SY.gtr | apply SY.neq | apply SY.not) <;> (exact oD)) | (apply SY.len; (exact oD); (exact nD); (exact uD)) | (apply SY.ix; (exact eD); (exact oD); (exact oD); exact kD) | fail); all_goals infer_instance)); dsimp only [ZB, z0, z1]) | (apply ZC; (exact oD); all_goals (intro h; try exact xD)) | refine WC.skip ?_ | refine WC.ret ?_ | refine WC.block ?_ | refine ThenD.r ?_ | refine InBlockD.r ?_)); all_goals (first | ((repeat clear hK); (repeat clear Kx))))
       all_goals try (exfalso; first | contradiction | omega)
       all_goals (refine ⟨trivial, _, rfl, ?_⟩; exact fD)
      ·have cf := fubini_p l[j].length (by omega)
       have hsn := sumU_snoc hj
       have hf5 := fub_le ⟨l[j].length, by omega⟩
       simp only at hf5
       have hsn2 : ((sumU (l.take j) : Nat) : Int) + ((fubN l[j].length : Nat) : Int) = ((sumU (l.take (j + 1)) : Nat) : Int) := by rw [hsn]; omega
       clear hsn
       ((repeat' (first | (apply WL.opN; exact yF; dsimp only [ZB, z0, z1]) | refine WL.nil ?_ | refine ZA fun Kx hK => ?_ | (refine hK _ _ ?_; clear hK) | refine WC.region ?_ | (apply WL.opN; (focus ((first | (apply SY.call (cf) Tryz.call73; (exact aD)) | ((first | apply SY.move | apply SY.assign | apply SY.lss | apply SY.gtr | apply SY.neq | apply SY.not) <;> (exact oD)) | ((first | apply SY.add) <;> first | exact oD | omega) | (apply SY.len; (exact oD); (exact nD); (exact uD)) | (apply SY.ix; (exact eD); (exact oD); (exact oD); exact kD) | fail); all_goals infer_instance)); dsimp only [ZB, z0, z1]) | (apply ZC; (exact oD); all_goals (intro h; try exact xD)) | refine WC.skip ?_ | refine WC.block ?_ | refine ThenD.n ?_)); all_goals (first | ((repeat clear hK); (repeat clear Kx))))
       all_goals try (exfalso; first | contradiction | omega)
       rw [hsn2]
       (refine ⟨j + 1, ?_, by first | omega | (simp only; omega), rfl, ?_⟩; rotate_left; ((try dsimp only [ZL, z0, z1]); repeat (first | exact LeF.nil | refine ZD (k := ?_))); (try dsimp only))
       refine ⟨by omega, fun s hs => ?_⟩
       rw [ZQ hj] at hs
       rcases List.mem_append.1 hs with q | q
       ·exact j2 s q
       ·rw [List.mem_singleton.1 q]; omega
     ·rw [List.take_of_length_le (by omega)] at j2
      rw [List.take_of_length_le (show l.length <= j by omega)]
      have hno : l.any (fun s => decide (5 < s.length)) = false := List.any_eq_false.2 fun s hs => by have := j2 s hs; simp; omega
      have he : chrE l = if 4096 < sumU l then 5 else 0 := by
       unfold chrE
       rw [if_neg (by rw [h0]; decide), if_neg (by rw [hall]; decide), if_neg (by rw [hno]; decide)]
      by_cases hs : 4096 < sumU l
      ·rw [if_pos hs] at he
       ((repeat' (first | (apply WL.opN; exact yF; dsimp only [ZB, z0, z1]) | refine WL.nil ?_ | refine ZA fun Kx hK => ?_ | (refine hK _ _ ?_; clear hK) | (refine Kont.skip ?_; clear hK) | refine WC.region ?_ | (apply WL.opN; (focus ((first | ((first | apply SY.move | apply SY.assign | apply SY.lss | apply SY.gtr | apply SY.neq | apply SY.not) <;> (exact oD)) | fail); all_goals infer_instance)); dsimp only [ZB, z0, z1]) | (apply ZC; (exact oD); all_goals (intro h; try exact xD)) | refine WC.ret ?_ | refine WC.exit ?_ | refine ThenD.r ?_)); all_goals (first | ((repeat clear hK); (repeat clear Kx))))
       all_goals try (exfalso; first | contradiction | omega)
       all_goals (refine ⟨trivial, _, rfl, ?_⟩; refine FinD.i ?_)
       all_goals rw [he]
      ·rw [if_neg hs] at he
       ((repeat' (first | (apply WL.opN; exact yF; dsimp only [ZB, z0, z1]) | refine WL.nil ?_ | refine ZA fun Kx hK => ?_ | (refine hK _ _ ?_; clear hK) | (refine Kont.skip ?_; clear hK) | refine WC.region ?_ | (apply WL.opN; (focus ((first | ((first | apply SY.move | apply SY.assign | apply SY.lss | apply SY.gtr | apply SY.neq | apply SY.not) <;> (exact oD)) | fail); all_goals infer_instance)); dsimp only [ZB, z0, z1]) | (apply ZC; (exact oD); all_goals (intro h; try exact xD)) | refine WC.skip ?_ | refine WC.ret ?_ | refine WC.exit ?_)); all_goals (first | ((repeat clear hK); (repeat clear Kx))))
       all_goals try (exfalso; first | contradiction | omega)
       all_goals (refine ⟨trivial, _, rfl, ?_⟩; refine FinD.i ?_)
       all_goals rw [he]
 ·have he : chrE l = ZAn l := by unfold chrE; rw [if_pos h0]
  rw [he]
  (refine ZE Tryz.func34 rfl rfl ?_; simp only [Tryz.ntmps34, List.length_cons, List.length_nil, Nat.reduceAdd, Nat.reduceSub, List.replicate_succ, List.replicate_zero, List.cons_append, List.nil_append])
  ((repeat' (first | (apply WL.opN; exact yF; dsimp only [ZB, z0, z1]) | refine WL.nil ?_ | refine ZA fun Kx hK => ?_ | (refine hK _ _ ?_; clear hK) | refine WC.region ?_ | (apply WL.opN; (focus ((first | (apply SY.call (c1) Tryz.call42; (exact aD)) | ((first | apply SY.move | apply SY.assign | apply SY.lss | apply SY.gtr | apply SY.neq | apply SY.not) <;> (exact oD)) | (apply SY.box; (exact oD); (exact hD)) | fail); all_goals infer_instance)); dsimp only [ZB, z0, z1]) | (apply ZH; (exact oD); all_goals (intro h; try exact xD)) | refine WC.ret ?_ | refine ThenD.r ?_)); all_goals (first | ((repeat clear hK); (repeat clear Kx))))
  all_goals try (exfalso; first | contradiction | omega)
  all_goals (refine ⟨trivial, _, rfl, ?_⟩; exact fD)
end
end Go.Proofs.YtmcllakdbgnfiaaGreatDoor
