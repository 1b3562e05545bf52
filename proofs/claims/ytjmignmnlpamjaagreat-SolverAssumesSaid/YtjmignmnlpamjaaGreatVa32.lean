/- Part 32: walks by contracts, and plain laws. -/
import Derived.Test.YtjmignmnlpamjaaGreatVa16
set_option linter.unusedVariables false
set_option linter.unusedSimpArgs false
set_option linter.unusedSectionVars false
set_option maxRecDepth 100000
set_option maxHeartbeats 4000000
namespace Go.Proofs.YtjmignmnlpamjaaGreat
section
open Go.RowKit
open S43 (SS up Zq visit ZAc ZAG ZJZ LInv Inv)
abbrev ZHq (s : SS) (l : List S43.Cl) : SS := { s with list := l }
abbrev sWat (s : SS) (W : Int -> List Nat) : SS := { s with watch := W }
theorem ZKF {V : Nat} {y w : Int} (hy : y ∈ lits V) (hne : y ≠ w) : y ∈ (lits V).erase w := (List.mem_erase_of_ne hne).2 hy
set_option maxHeartbeats 64000000 in
theorem ZHl (X : Lay) (V : Nat) (s : SS) (hV : V ≤ 100000) (hI : Inv V s s.watch fun _ => False) (hs : s.list.length ≤ 1000000000000) :
  CallC Tryz.prog 72 ([dX (ZDZ X)] ++ ([] : List Value).map dX) (ZCR X V s) (fun d hp2 => ∃ vT wv, d = dI (rI (ZAG (V + 1) s).2) /\ hp2 = ZCR ((X.wt vT).ww wv) V (ZAG (V + 1) s).1) := by
 obtain ⟨N, hN⟩ : ∃ N, s.list.length = N := ⟨_, rfl⟩
 (refine Zo Tryz.func72 rfl rfl (fun hp => ?_); simp only [Tryz.ntmps72, List.length_cons, List.length_nil, List.length_append, List.length_map, Nat.reduceAdd, Nat.reduceSub, List.replicate_succ, List.replicate_zero, List.cons_append, List.nil_append, List.map_cons, List.map_nil, List.append_assoc])
 refine WC.perm (ZI9 hN) ?_
 simp only [core, List.cons_append, List.nil_append]
 have eN : ((List.range N).map X.u).length = N := by simp
 (repeat' (first | ((first | apply WL.opN | apply WD.opN); exact yF; dsimp only [ZB, z0, z1]) | refine WL.nil ?_ | refine ZA fun Kx hK => ?_ | (refine hK _ _ ?_; clear hK) | refine WC.region ?_ | ((first | apply WL.opN | apply WD.opN); (focus ((first | (apply SY.box; (exact oD); (exact hD)) | fail); all_goals infer_instance)); dsimp only [ZB, z0, z1]) | refine WC.block ?_))
 refine ZLR 1 (oS X V s :: oV X s :: oL X s :: oR X s :: oT X s :: [oB X s]) (oW X :: oLs X N :: (ZFL X N s.list ++ (ZEJ X V s ++ hp))) rfl rfl fun v1 => ?_
 dsimp only [z0, z1, List.cons_append, List.nil_append]
 (refine ZP (X := Nat × SS × Value × (Int -> Value)) (fun x => [(2, dA), (3, dA), (4, dA), (5, dA), (6, dA), (7, dA), (8, dA), (9, dA), (10, dA), (11, dA), (12, dA), (13, dA), (14, dA), (15, dA), (16, dA), (17, dA), (18, dA), (19, dA), (20, dA), (21, dA), (22, dA), (23, dA), (24, dA), (25, dA), (26, dA), (27, dA), (28, dA), (29, dA), (30, dA), (31, dA), (32, dA), (33, dA), (34, dA), (35, dA), (36, dA), (37, dA), (38, dA), (39, dA), (40, dA), (41, dA), (42, dA), (43, dA), (44, dA), (45, dA), (46, dA), (47, dA), (48, dA), (49, dA), (50, dA), (51, dA), (52, dA), (53, dA), (54, dA), (55, dA), (56, dA), (57, dA), (58, dA), (59, dA), (60, dA), (61, dA), (62, dA), (63, dA), (64, dA), (65, dA), (66, dA), (67, dA), (68, dA), (69, dA), (70, dA), (71, dA), (72, dA), (73, dA), (74, dA), (75, dA), (76, dA), (77, dA), (78, dA), (79, dA), (80, dA), (81, dA), (82, dA), (83, dA), (84, dA), (85, dA), (86, dA), (87, dA), (88, dA), (89, dA), (90, dA), (91, dA), (92, dA), (93, dA), (94, dA), (95, dA), (96, dA), (97, dA), (98, dA), (99, dA), (100, dA), (101, dA), (102, dA), (103, dA), (104, dA), (105, dA), (106, dA), (107, dA), (108, dA), (109, dA), (110, dA), (111, dA), (112, dA), (113, dA), (114, dA), (115, dA), (116, dA), (117, dA), (118, dA), (119, dA), (120, dA), (121, dA), (122, dA), (123, dA), (124, dA), (125, dA), (126, dA), (127, dA), (128, dA), (129, dA), (130, dA), (131, dA), (132, dA), (133, dA), (134, dA), (135, dA), (136, dA), (137, dA), (138, dA), (139, dA), (140, dA), (141, dA), (142, dA), (143, dA), (144, dA), (145, dA), (146, dA), (147, dA), (148, dA), (149, dA), (150, dA), (151, dA), (152, dA), (153, dA), (154, dA), (155, dA), (156, dA), (157, dA), (158, dA), (159, dA), (160, dA)]) (fun x => (outO (X.wt x.2.2.1) V x.2.1 N v1 x.2.2.2 hp)) (fun x => x.1) (fun x => ZAG (V + 1) s = ZAG x.1 x.2.1 /\ (Inv V x.2.1 x.2.1.watch fun _ => False) /\ V < x.1 + x.2.1.head /\ x.2.1.list.length = N) (V + 1, s, X.vT, X.wv) ?start ?frame0 ?objs0 ?round)
 case start => exact ⟨rfl, hI, by omega, hN⟩
 case frame0 => ((try dsimp only [ZX, z0, z1]); repeat (first | exact LeF.nil | refine ZG (k := ?_)))
 case objs0 => rfl
 case round =>
  rintro ⟨f, s0, vT, wv⟩ ⟨hP, hI0, hf, hN0⟩
  simp only at hP hI0 hf hN0
  dsimp only [ZX, z0, z1]
  have htl := hI0.toInv0.tlen
  by_cases hlt : s0.head < s0.trail.length
  ·obtain ⟨f, rfl⟩ : ∃ f', f = f' + 1 := ⟨f - 1, by omega⟩
   obtain ⟨t0, ht0⟩ : ∃ t, s0.trail[s0.head] = t := ⟨_, rfl⟩
   have hgd : s0.trail.getD s0.head 0 = t0 := by rw [List.getD_eq_getElem?_getD, List.getElem?_eq_getElem hlt, Option.getD_some, ht0]
   have hgo := S43.propS_go (f := f) hlt hgd
   obtain ⟨w, hw⟩ : ∃ w, -t0 = w := ⟨_, rfl⟩
   rw [hw] at hgo
   have htr := hI0.toInv0.trng t0 (by rw [<- ht0]; exact List.getElem_mem hlt)
   have hwl : w ∈ lits V := ZF6.2 (by omega)
   have hw6 : ZAF w := i64 (by omega)
   have hL0 : LInv V (ZMK s0) w [] (s0.watch w) := hI0.start (by rw [List.getElem?_eq_getElem hlt, ht0, <- hw]; simp)
   have hwatl : (s0.watch w).length ≤ N := hN0 ▸ hI0.toInv0.wlen w
   obtain ⟨ks, hks⟩ : ∃ ks, s0.watch w = ks := ⟨_, rfl⟩
   obtain ⟨Tt, hT⟩ : ∃ T, ZAc w ks [] (ZMK s0) = T := ⟨_, rfl⟩
   have hV0 := S43.visits_ok _ _ _ hL0
   rw [hks] at hL0 hV0 hwatl
   have hgo' : ZAG (f + 1) s0 = if Tt.2.isSome then Tt else ZAG f Tt.1 := by rw [hgo, hks, <- hT]
   rw [hT] at hV0
   have hle : (s0.head : Int) < (s0.trail.length : Int) := by omega
   have hcast : (s0.head : Int) + 1 = ((s0.head + 1 : Nat) : Int) := by omega
   (repeat' (first |  (refine WC.only 6 (ZIj (X := X.wt vT) (V := V) (s := ZMK s0) (N := N) (v1 := v1) (wv := wv) (B := hp) (ks := ks) 5 rfl hwl hks ?_); dsimp only [z0, z1]) | ((first | apply WL.opN | apply WD.opN); exact yF; dsimp only [ZB, z0, z1]) | refine WL.nil ?_ | refine WD.nil ?_ | refine ZA fun Kx hK => ?_ | (refine hK _ _ ?_; clear hK) | refine WC.region ?_ | (apply WC.draw; kernel_rfl; kernel_rfl) |  (refine ZK (SW.at 0 rfl fun q => SW.storeS tyI (OpD.t rfl) (OpD.t rfl) Zf (by simp)) fun _ => ?_; dsimp only [ZB, z0, z1]) | ((first | apply WL.opN | apply WD.opN); (focus ((first | (exact Zv tyC (OpD.t rfl) (mAt 6 rfl)) | (exact ZH (OpD.t rfl)) | (refine ZM ZAz (OpD.t rfl) (by decide)) | (apply ZI; (first | exact tyI | exact ZAl | exact ZK9); exact OpD.t rfl; exact mAt 0 rfl; rfl) | (apply Z3; exact OpD.t rfl; exact mAt 4 rfl; exact elI.unt) | (exact Zr elI (OpD.t rfl) (mAt 4 rfl) (OpD.t rfl) rfl hlt) | (exact Zh tyI (OpD.t rfl) (mAt 4 rfl) hlt ht0) | (exact hw ▸ SY.neg (OpD.t rfl) (by omega)) | (exact hcast ▸ SY.add (OpD.t rfl) Zl (by omega)) | (exact ZHR (OpD.t rfl) (mAt 7 rfl) (OpD.t rfl) hw6) | (exact ZH4 (R := RI) (_gR := inferInstance) (n := ks.length) (ZAW ks) (OpD.t rfl) elI.unt) | ((first | apply SY.move | apply SY.assign | apply SY.lss | apply SY.geq | apply SY.eql) <;> (exact oD)) | fail); all_goals infer_instance)); dsimp only [ZB, z0, z1]) | (apply ZC; (exact oD); all_goals (intro h; try exact xD)) | refine WC.skip ?_ | refine WC.block ?_))
   all_goals try (exfalso; first | contradiction | omega)
   (refine ZP (X := Nat × List Nat × SS × Value × Value × (Int -> Value)) (fun x => [(46, dI (x.1 : Int)), (4, dX x.2.2.2.1), (2, dA), (6, dA), (7, dA), (8, dA), (9, dA), (47, dA), (48, dA), (49, dA), (50, dA), (51, dA), (52, dA), (53, dA), (54, dA), (55, dA), (56, dA), (57, dA), (58, dA), (59, dA), (60, dA), (61, dA), (62, dA), (63, dA), (64, dA), (65, dA), (66, dA), (67, dA), (68, dA), (69, dA), (70, dA), (71, dA), (72, dA), (73, dA), (74, dA), (75, dA), (76, dA), (77, dA), (78, dA), (79, dA), (80, dA), (81, dA), (82, dA), (83, dA), (84, dA), (85, dA), (86, dA), (87, dA), (88, dA), (89, dA), (90, dA), (91, dA), (92, dA), (93, dA), (94, dA), (95, dA), (96, dA), (97, dA), (98, dA), (99, dA), (100, dA), (101, dA), (102, dA), (103, dA), (104, dA), (105, dA), (106, dA), (107, dA), (108, dA), (109, dA), (110, dA), (111, dA), (112, dA), (113, dA), (114, dA), (115, dA), (116, dA), (117, dA), (118, dA), (119, dA), (120, dA), (121, dA), (122, dA), (123, dA), (124, dA), (125, dA), (126, dA), (127, dA), (128, dA), (129, dA), (130, dA), (131, dA), (132, dA), (133, dA), (134, dA), (135, dA), (136, dA), (137, dA), (138, dA), (139, dA), (140, dA), (141, dA), (142, dA), (143, dA), (144, dA), (145, dA), (146, dA), (147, dA), (148, dA), (149, dA), (150, dA), (151, dA), (152, dA), (153, dA), (154, dA)]) (fun x => (inO (X.wt x.2.2.2.2.1) V x.2.2.1 N v1 x.2.2.2.1 x.2.1 w x.2.2.2.2.2 x.2.2.1.list x.2.2.1.watch hp)) (fun x => ks.length - x.1) (fun x => x.1 ≤ ks.length /\ ZAc w (ks.drop x.1) x.2.1 x.2.2.1 = Tt /\ LInv V x.2.2.1 w x.2.1 (ks.drop x.1) /\ x.2.2.1.list.length = N) (0, [], ZMK s0, ZCX, vT, wv) ?start ?frame0 ?objs0 ?round)
   case start => exact ⟨Nat.zero_le _, hT, hL0, hN0⟩
   case frame0 => ((try dsimp only [ZX, z0, z1]); repeat (first | exact LeF.nil | refine ZG (k := ?_)))
   case objs0 => rfl
   case round =>
    rintro ⟨i, kept, s1, vk, vT1, wv1⟩ ⟨hi, hvis, hL, hN1⟩
    simp only at hi hvis hL hN1
    dsimp only [ZX, z0, z1]
    obtain ⟨hl1, hl2, hl3⟩ := hL.lens
    by_cases hik : i < ks.length
    ·have hdr : ks.drop i = ks[i] :: ks.drop (i + 1) := List.drop_eq_getElem_cons hik
     obtain ⟨k, hk⟩ : ∃ k, ks[i] = k := ⟨_, rfl⟩
     rw [hk] at hdr
     rw [hdr] at hvis hL
     have hrl : kept.length + ((ks.drop (i + 1)).length + 1) ≤ N := by
      have := hL.lens.2.1
      rw [hN1] at this
      exact this
     obtain ⟨x, a, b, r, e, hn, hpe, hab, hxw, hxt⟩ := hL.cl
     have hkN : k < N := by rw [<- hN1]; exact (List.getElem?_eq_some_iff.1 e).1
     have hkr : k ∈ List.range N := List.mem_range.2 hkN
     have hkl : k < s1.list.length := by omega
     have hck : s1.list.getD k [] = a :: b :: r := by rw [List.getD_eq_getElem?_getD, e]; rfl
     rw [hck] at hn
     have hnn := hn
     have hrng := hL.inv.rng _ (List.mem_of_getElem? e)
     have hdis := hL.inv.dis _ (List.mem_of_getElem? e)
     have habn : a ≠ b := fun q => by
      have := (List.pairwise_cons.1 hdis).1 b (by simp)
      rw [q] at this; exact this rfl
     have hnc := S43.norm_cases hn habn
     have hxr := hrng x (hpe.mem_iff.1 (by simp))
     have hx6 : ZAF x := i64 (by omega)
     have hx6' : ZAF (-x) := i64 (by omega)
     have hrr : ∀ y ∈ r, y ≠ 0 /\ y.natAbs ≤ V := fun y hy => hrng y (by simp [hy])
     have hkN' : k < ((List.range N).map X.u).length := by rw [eN]; exact hkN
     have hku : ((List.range N).map X.u)[k] = X.u k := by simp
     have hil : (i : Int) < (ks.length : Int) := by omega
     have hkz : (ZAj ks)[i]'(by rw [ZAW]; exact hik) = (k : Int) := by rw [ZF5, hk]
     have hNd : (List.range N).Nodup := List.nodup_range
     have hiki : i < (ZAj ks).length := by rw [ZAW]; exact hik
     (repeat' (first |  (refine WC.joinR 10 [(58, dA), (59, dA), (60, dA), (61, dA), (62, dA), (63, dA), (64, dA), (65, dA), (66, dA), (67, dA), (68, dA), (69, dA), (70, dA), (71, dA), (72, dA)] (inO (X.wt vT1) V s1 N v1 vk kept w wv1 (s1.list.set k (x :: w :: r)) s1.watch hp) ?_ ?_) | ((first | apply WL.opN | apply WD.opN); exact yF; dsimp only [ZB, z0, z1]) | refine WL.nil ?_ | refine ZA fun Kx hK => ?_ | (refine hK _ _ ?_; clear hK) | refine WC.region ?_ | ((first | apply WL.opN | apply WD.opN); (focus ((first | (exact hkz ▸ ZAy (R := RI) (_gR := inferInstance) elI (OpD.t rfl) (OpD.t rfl) hiki) | (exact Zv tyC (OpD.t rfl) (mAt 6 rfl)) | (exact ZH (OpD.t rfl)) | (refine ZM ZAz (OpD.t rfl) (by decide)) | (apply ZI; (first | exact ZCz); exact OpD.t rfl; exact mAt 0 rfl; rfl) | (exact Zr ZB7 (OpD.t rfl) (mAt 8 rfl) (OpD.t rfl) rfl hkN') | (exact ZDM ZAl (OpD.t rfl) (mAt 8 rfl) hkN' hku) | ((first | apply SY.move | apply SY.assign | apply SY.lss | apply SY.geq | apply SY.eql) <;> (exact oD)) | fail); all_goals infer_instance)); dsimp only [ZB, z0, z1]) | (apply ZC; (exact oD); all_goals (intro h; try exact xD)) | refine WC.skip ?_ | refine WC.block ?_))
     ·refine ⟨?_⟩
      dsimp only [ZX, z0, z1]
      have e0 : (a :: b :: r)[0]'(by simp) = a := rfl
      have e1 : (a :: b :: r)[1]'(by simp) = b := rfl
      have hsz : 0 < (a :: b :: r).length := by simp
      have hs1 : 1 < (a :: b :: r).length := by simp
      rcases hnc with ⟨rfl, rfl⟩ | ⟨hne, rfl, rfl⟩
      ·have hcs : ∀ j, j ≠ k -> (s1.list.set k (b :: b :: r)).getD j [] = s1.list.getD j [] := fun j hj => S43.getD_set_ne hj
       have hcs2 : ∀ j, j ≠ k -> (s1.list.set k (b :: a :: r)).getD j [] = (s1.list.set k (b :: b :: r)).getD j [] := fun j hj => by rw [S43.getD_set_ne hj, S43.getD_set_ne hj]
       have hc1 := S43.getD_set_eq (c := b :: b :: r) hkl
       have hc2 := S43.getD_set_eq (c := b :: a :: r) hkl
       (repeat' (first |  (refine WC.drawE (id := 11) (β := Unit) 9 (fun _ => inO (X.wt vT1) V s1 N v1 vk kept a wv1 (s1.list.set k (b :: b :: r)) s1.watch hp) (fun _ => dX undef) _ rfl (by kernel_rfl) (by kernel_rfl) ?_; simp only [List.take_succ_cons, List.take_zero, List.drop_succ_cons, List.drop_zero]) | ((first | apply WL.opN | apply WD.opN); exact yF; dsimp only [ZB, z0, z1]) | refine WL.nil ?_ | refine ZA fun Kx hK => ?_ | (refine hK _ _ ?_; clear hK) | refine WC.region ?_ | ((first | apply WL.opN | apply WD.opN); (focus ((first | (exact Zr elI (OpD.t rfl) (ZDB hkr hck) Zl (k := 0) rfl hsz) | (exact Zh tyI (OpD.t rfl) (ZDB hkr hck) hsz e0) | ((first | apply SY.move | apply SY.assign | apply SY.lss | apply SY.geq | apply SY.eql) <;> (exact oD)) | fail); all_goals infer_instance)); dsimp only [ZB, z0, z1]) | (apply ZC; (exact oD); all_goals (intro h; try exact xD))))
       all_goals try (exfalso; first | contradiction | omega)
       (repeat' (first | refine WDe.nil ?_ | (apply WDe.early; (exact rfl); (focus (apply SYG.yes; (exact Zi rfl); ((first | (exact Zr elI (OpD.t rfl) (ZDB hkr hck) Zl (k := 0) rfl hsz) | (exact Zr elI (OpD.t rfl) (ZDB hkr hck) Zl (k := 1) rfl hs1) | (exact Zh tyI (OpD.t rfl) (ZDB hkr hck) hsz e0) | (exact Zh tyI (OpD.t rfl) (ZDB hkr hck) hs1 e1) | ((first | apply SY.move | apply SY.assign | apply SY.lss | apply SY.geq | apply SY.eql) <;> (exact oD)) | fail); all_goals infer_instance))); dsimp only [ZB, z0, z1]) | (apply WDe.both; (focus (intro c; apply SYG.yes; (exact Zi rfl); ((first | (cases c <;> first | exact Zr elI (OpD.t rfl) (ZDB hkr hck) Zl (k := 0) rfl hsz | exact Zr elI (OpD.t rfl) (ZDB hkr hc1) Zl (k := 0) rfl hsz) | ((first | apply SY.move | apply SY.assign | apply SY.lss | apply SY.geq | apply SY.eql) <;> (exact oD)) | fail); all_goals infer_instance))); dsimp only [ZB, z0, z1])))
       refine ⟨ZEL (A := _ :: _ :: _ :: _ :: _ :: _ :: _ :: _ :: _ :: _ :: []) (i := k) hNd hkr hck hc1 hcs (fun q => SW.storeR (k := 0) tyI (OpD.t rfl) (OpD.t rfl) Zf hsz), fun _ => ?_⟩
       try dsimp only [ZB, z0, z1]
       ((repeat' (first | refine WL.nil ?_ |  (refine ZK (ZEL (A := _ :: _ :: _ :: _ :: _ :: _ :: _ :: _ :: _ :: _ :: []) (c' := fun j => (s1.list.set k (b :: a :: r)).getD j []) (i := k) hNd hkr hc1 hc2 hcs2 (fun q => SW.storeR (k := 1) tyI (OpD.t rfl) (OpD.t rfl) Zf hs1)) fun _ => ?_; dsimp only [ZB, z0, z1, List.cons_append, List.nil_append]) | ((first | apply WL.opN | apply WD.opN); (focus ((first | (exact Zr elI (OpD.t rfl) (ZDB hkr hc1) Zl (k := 1) rfl hs1) | fail); all_goals infer_instance)); dsimp only [ZB, z0, z1]))); all_goals (first | ((repeat clear hK); (repeat clear Kx))))
       refine ⟨rfl, rfl, ?_⟩
       ((try dsimp only [ZX, z0, z1]); repeat (first | exact LeF.nil | refine ZG (k := ?_)))
      ·have hset : s1.list.set k (a :: b :: r) = s1.list := by
        have h1 : s1.list[k] = a :: b :: r := by
         have := e
         rw [List.getElem?_eq_getElem hkl] at this
         exact Option.some.inj this
        rw [<- h1]; exact List.set_getElem_self hkl
       rw [hset]
       ((repeat' (first | ((first | apply WL.opN | apply WD.opN); exact yF; dsimp only [ZB, z0, z1]) | refine WL.nil ?_ | refine ZA fun Kx hK => ?_ | (refine hK _ _ ?_; clear hK) | refine WC.region ?_ | ((first | apply WL.opN | apply WD.opN); (focus ((first | (exact Zr elI (OpD.t rfl) (ZDB hkr hck) Zl (k := 0) rfl hsz) | (exact Zh tyI (OpD.t rfl) (ZDB hkr hck) hsz e0) | ((first | apply SY.move | apply SY.assign | apply SY.lss | apply SY.geq | apply SY.eql) <;> (exact oD)) | fail); all_goals infer_instance)); dsimp only [ZB, z0, z1]) | (apply ZC; (exact oD); all_goals (intro h; try exact xD)) | refine WC.skip ?_)); all_goals (first | ((repeat clear hK); (repeat clear Kx))))
       all_goals try (exfalso; first | contradiction | omega)
       refine ⟨rfl, rfl, ?_⟩
       ((try dsimp only [ZX, z0, z1]); repeat (first | exact LeF.nil | refine ZG (k := ?_)))
     ·refine ⟨?_⟩
      dsimp only [ZX, z0, z1]
      obtain ⟨L1, hL1⟩ : ∃ L, s1.list.set k (x :: w :: r) = L := ⟨_, rfl⟩
      have hc1 : L1.getD k [] = x :: w :: r := by rw [<- hL1]; exact S43.getD_set_eq hkl
      have hLn : L1.length = N := by rw [<- hL1, List.length_set, hN1]
      rw [hL1]
      have e0 : (x :: w :: r)[0]'(by simp) = x := rfl
      have e1 : (x :: w :: r)[1]'(by simp) = w := rfl
      have hsz : 0 < (x :: w :: r).length := by simp
      have hs1 : 1 < (x :: w :: r).length := by simp
      have ek : ZAj kept ++ [(k : Int)] = ZAj (kept ++ [k]) := by simp [ZAj]
      have h8 : ((ZAj kept).length + 1) * 8 ≤ 140737488355328 := by rw [ZAW]; omega
      have hn' : ZJZ w (s1.list.getD k []) = x :: w :: r := by rw [hck]; exact hn
      have hvi := hL.visit
      have hnx : i + 1 ≤ ks.length := by omega
      cases hvx : s1.val x with
      | true =>
       have ev := S43.visit_true (kept := kept) hn' hvx
       rw [hL1] at ev
       rw [S43.visits_go (by rw [ev])] at hvis
       have hLI := hvi.2.1 (by rw [ev])
       rw [ev] at hvis hLI
       ((repeat' (first | ((first | apply WL.opN | apply WD.opN); exact yF; dsimp only [ZB, z0, z1]) | refine WL.nil ?_ | refine WD.nil ?_ | refine ZA fun Kx hK => ?_ | (refine hK _ _ ?_; clear hK) | (refine Kont.skip ?_; clear hK) | refine WC.region ?_ | (apply WC.draw; kernel_rfl; kernel_rfl) |  (refine ZK (SW.at 9 rfl fun q => SW.app1 elI (OpD.t rfl) (OpD.t rfl) (by decide) h8) fun vk' => ?_; dsimp only [ZB, z0, z1]; rw [ek]) | ((first | apply WL.opN | apply WD.opN); (focus ((first | (exact Zv tyC (OpD.t rfl) (mAt 6 rfl)) | (exact ZH (OpD.t rfl)) | (refine ZM ZAz (OpD.t rfl) (by decide)) | (apply ZI; (first | exact tyF | exact ZK9); exact OpD.t rfl; exact mAt 0 rfl; rfl) | (exact Zr elI (OpD.t rfl) (ZDB hkr hc1) Zl (k := 0) rfl hsz) | (exact Zh tyI (OpD.t rfl) (ZDB hkr hc1) hsz e0) | (exact SY.valH hvx (OpD.t rfl) (mAt 1 rfl) (OpD.t rfl) hx6) | ((first | apply SY.add) <;> first | exact oD | omega) | (apply SY.build1'; (exact eD); ((try simp only [List.map_cons, List.map_nil]); (repeat (first | exact Zy | (apply Zt; (first | exact OpD.t rfl | exact Zl | exact OpD.b | exact OpD.tle rfl (by first | exact ZD | exact ZE (by decide)) | exact ⟨ZD⟩ | exact ⟨ZE (by decide)⟩))))); rfl; rfl; (intro _; first | exact ZAY | exact Zf | exact ZAA | exact ZAJ); (exact (by simp))) | fail); all_goals infer_instance)); dsimp only [ZB, z0, z1]) | (apply Zj; (exact oD); (with_reducible rfl)) | refine WC.exit ?_ | refine ThenD.n ?_)); all_goals (first | ((repeat clear hK); (repeat clear Kx))))
       all_goals try (exfalso; first | contradiction | omega)
       (refine ⟨(i + 1, kept ++ [k], ZHq s1 L1, vk', vT1, wv1), ?_, by first | omega | (simp only; omega), rfl, ?_⟩; rotate_left; ((try dsimp only [ZX, z0, z1]); repeat (first | exact LeF.nil | refine ZG (k := ?_))); (try dsimp only))
       exact ⟨hnx, hvis, hLI, hLn⟩
      | false =>
       have hcl : (x :: w :: r).length ≤ V := S43.trail_len (fun z hz => hrng z (hpe.mem_iff.1 hz)) (S43.dis_perm hpe hdis)
       have hIdx := ZKY (X.u k) (x :: w :: r) 2 (by simp) (by omega) 101 [v1] Tryz.call101 [ZHN (X.wt vT1) v1, oS (X.wt vT1) V s1, oV (X.wt vT1) s1] (fun y => !s1.val (-y)) (fun y hy => CallC.front _ (ZNi (X.wt vT1) V s1 v1 y (by have := hrr y hy; omega)))
       have hpi := ZL8 (X := X.wt vT1) (V := V) (s := s1) (N := N) (v1 := v1) (vk := vk) (wv := wv1) (B := hp) (w := w) (kept := kept) (l := L1) (W := s1.watch) hkr hc1
       cases hfi : r.findIdx? (fun y => !s1.val (-y)) with
       | some n =>
        have hfx : ZFU (fun y => !s1.val (-y)) ((x :: w :: r).drop 2) = (n : Int) := by
         show ZFU _ r = _
         unfold ZFU
         rw [hfi]
        have hnr : n < r.length := (List.findIdx?_eq_some_iff_getElem.1 hfi).1
        obtain ⟨y, hy⟩ : ∃ y, r[n] = y := ⟨_, rfl⟩
        have hgy : r.getD n 0 = y := by rw [List.getD_eq_getElem?_getD, List.getElem?_eq_getElem hnr, Option.getD_some, hy]
        have hyr := hrr y (by rw [<- hy]; exact List.getElem_mem hnr)
        have hyl : y ∈ lits V := ZF6.2 hyr
        have hy6 : ZAF y := i64 (by omega)
        have hyw : y ≠ w := fun q => by
         have := (List.pairwise_cons.1 (List.pairwise_cons.1 (S43.dis_perm hpe hdis)).2).1 y (by rw [<- hy]; exact List.getElem_mem hnr)
         rw [q] at this; exact this rfl
        have hye := ZKF hyl hyw
        have ev := S43.visit_some (kept := kept) hn' hvx hfi
        rw [hgy] at ev
        rw [S43.visits_go (by rw [ev])] at hvis
        have hLI := hvi.2.1 (by rw [ev])
        rw [ev] at hvis hLI
        obtain ⟨L2, hL2⟩ : ∃ L, s1.list.set k (x :: y :: r) = L := ⟨_, rfl⟩
        obtain ⟨L3, hL3⟩ : ∃ L, s1.list.set k (x :: y :: r.set n w) = L := ⟨_, rfl⟩
        have hc2 : L2.getD k [] = x :: y :: r := by rw [<- hL2]; exact S43.getD_set_eq hkl
        have hc3 : L3.getD k [] = x :: y :: r.set n w := by rw [<- hL3]; exact S43.getD_set_eq hkl
        have hcs2 : ∀ j, j ≠ k -> L2.getD j [] = L1.getD j [] := fun j hj => by rw [<- hL2, <- hL1, S43.getD_set_ne hj, S43.getD_set_ne hj]
        have hcs3 : ∀ j, j ≠ k -> L3.getD j [] = L2.getD j [] := fun j hj => by rw [<- hL3, <- hL2, S43.getD_set_ne hj, S43.getD_set_ne hj]
        have hLn3 : L3.length = N := by rw [<- hL3, List.length_set, hN1]
        rw [hL3] at hvis hLI
        have hs2 : n + 2 < (x :: w :: r).length := by simp; omega
        have hs2' : n + 2 < (x :: y :: r).length := by simp; omega
        have hz1 : 1 < (x :: y :: r.set n w).length := by simp
        have e2 : (x :: w :: r)[n + 2] = y := by simpa using hy
        have e3 : (x :: y :: r.set n w)[1]'hz1 = y := rfl
        have hset3 : (x :: y :: r).set (n + 2) w = x :: y :: r.set n w := rfl
        have h8w : ((ZAj (s1.watch y)).length + 1) * 8 ≤ 140737488355328 := by
         have := hl3 y hyw
         rw [ZAW]; omega
        have hwe : ∀ j, j ≠ y -> ZAj (up s1.watch y (s1.watch y ++ [k]) j) = ZAj (s1.watch j) := fun j hj => by rw [S43.up_ne hj]
        have hwy : ZAj (up s1.watch y (s1.watch y ++ [k]) y) = ZAj (s1.watch y) ++ [(k : Int)] := by rw [S43.up_eq]; simp [ZAj]
        have hn2 : (n : Int) + 2 = ((n + 2 : Nat) : Int) := by omega
        (repeat' (first |  (refine WC.drawE (id := 16) (β := Unit) 13 (fun _ => inO (X.wt vT1) V s1 N v1 vk kept w wv1 L2 s1.watch hp) (fun _ => dX undef) _ rfl (by kernel_rfl) (by kernel_rfl) ?_; simp only [List.take_succ_cons, List.take_zero, List.drop_succ_cons, List.drop_zero]) | ((first | apply WL.opN | apply WD.opN); exact yF; dsimp only [ZB, z0, z1]) | refine WL.nil ?_ | refine WD.nil ?_ | refine ZA fun Kx hK => ?_ | (refine hK _ _ ?_; clear hK) | refine WC.region ?_ | (apply WC.draw; kernel_rfl; kernel_rfl) |  (refine ZAv (caps := []) hIdx Tryz.call96 OpD.f (by (exact aD)) hpi ?_; rintro d' hp2 ⟨rfl, rfl⟩; refine WL.perm hpi.symm ?_; rw [hfx]; dsimp only [ZB, z0, z1]) | ((first | apply WL.opN | apply WD.opN); (focus ((first | (exact Zv tyC (OpD.t rfl) (mAt 6 rfl)) | (exact ZH (OpD.t rfl)) | (refine ZM ZAz (OpD.t rfl) (by decide)) | (apply ZI; (first | exact tyF | exact ZK9); exact OpD.t rfl; exact mAt 0 rfl; rfl) | (exact Zr elI (OpD.t rfl) (ZDB hkr hc1) Zl (k := 0) rfl hsz) | (exact Zh tyI (OpD.t rfl) (ZDB hkr hc1) hsz e0) | (exact SY.valH hvx (OpD.t rfl) (mAt 1 rfl) (OpD.t rfl) hx6) | (exact SY.fromR elI (OpD.t rfl) (ZDB hkr hc1) Zl (l := 2) rfl (by simp)) | (exact ZBJ (ArgsX.one (OpD.t rfl))) | ((first | apply SY.move | apply SY.assign | apply SY.lss | apply SY.geq | apply SY.eql) <;> (exact oD)) | fail); all_goals infer_instance)); dsimp only [ZB, z0, z1]) | (apply Zg; (exact oD); (with_reducible rfl)) | (apply ZC; (exact oD); all_goals (intro h; try exact xD)) | refine WC.skip ?_))
        all_goals try (exfalso; first | contradiction | omega)
        (repeat' (first | refine WDe.nil ?_ | (apply WDe.early; (exact rfl); (focus (apply SYG.yes; (exact Zi rfl); ((first | (exact Zr elI (OpD.t rfl) (ZDB hkr hc1) (OpD.t rfl) (k := n + 2) hn2 hs2) | (exact Zr elI (OpD.t rfl) (ZDB hkr hc1) Zl (k := 1) rfl hs1) | (exact Zh tyI (OpD.t rfl) (ZDB hkr hc1) hs2 e2) | (exact Zh tyI (OpD.t rfl) (ZDB hkr hc1) hs1 e1) | ((first | apply SY.move | apply SY.assign | apply SY.lss | apply SY.geq | apply SY.eql) <;> (exact oD)) | ((first | apply SY.add) <;> first | exact oD | omega) | fail); all_goals infer_instance))); dsimp only [ZB, z0, z1]) | (apply WDe.both; (focus (intro c; apply SYG.yes; (exact Zi rfl); ((first | (cases c <;> first | exact Zr elI (OpD.t rfl) (ZDB hkr hc1) Zl (k := 1) rfl hs1 | exact Zr elI (OpD.t rfl) (ZDB hkr hc2) Zl (k := 1) rfl (by simp)) | ((first | apply SY.move | apply SY.assign | apply SY.lss | apply SY.geq | apply SY.eql) <;> (exact oD)) | ((first | apply SY.add) <;> first | exact oD | omega) | fail); all_goals infer_instance))); dsimp only [ZB, z0, z1])))
        refine ⟨ZEL (A := _ :: _ :: _ :: _ :: _ :: _ :: _ :: _ :: _ :: _ :: []) (i := k) hNd hkr hc1 hc2 hcs2 (fun q => SW.storeR (k := 1) tyI (OpD.t rfl) (OpD.t rfl) Zf hs1), fun _ => ?_⟩
        try dsimp only [ZB, z0, z1]
        ((repeat' (first |  (refine WC.drawM (fun hp' => ZHN (X.wt vT1) v1 ∈ hp' /\ oS (X.wt vT1) V s1 ∈ hp' /\ oWv (X.wt vT1) wv1 ∈ hp' /\ ZS (X.u k) tI RI (x :: y :: r.set n w) ∈ hp') 18 1 [(0, false), (1, false), (2, false), (3, false), (4, false), (5, false), (6, false), (7, false), (8, false), (9, false), (10, false), (11, false), (12, false), (13, false), (14, false), (15, false), (16, false), (17, true)] [true, true, true, true, true, true, true, true, true, true, true, true, true, true, true, true, true, true, false] (by kernel_rfl) (by kernel_rfl) (by kernel_rfl) rfl (⟨mAt 6 rfl, mAt 0 rfl, mAt 7 rfl, ZDB hkr hc3⟩) ?_) |  (first | refine WA.one (S := [true, true, true, true, true, true, true, true, true, true, true, true, true, true, true, true, true, true, false]) (i := 18) (by kernel_rfl) rfl ?_ | refine WA.nil (S := [true, true, true, true, true, true, true, true, true, true, true, true, true, true, true, true, true, true, true]) (by kernel_rfl) ?_) |  (refine ZAf rfl (ZMr (A := _ :: _ :: _ :: _ :: _ :: _ :: _ :: _ :: _ :: _ :: ZFL (X.wt vT1) N L3) (c' := fun l => ZAj (up s1.watch y (s1.watch y ++ [k]) l)) (D := fun v => dX v) ((ZDn V).erase w) hye rfl hwy hwe fun q => SW.app1 elI (OpD.t rfl) (OpD.t rfl) (by decide) h8w) (fun _ => ⟨mAt 6 rfl, mAt 0 rfl, mAt 7 rfl, ZDB hkr hc3⟩) fun v => ?_; dsimp only [ZB, z0, z1, List.cons_append, List.nil_append]) | (refine WM.nil ?_) | (apply ZBC rfl; (focus (intro c hcc; apply SYG.yes; (exact Zi rfl); ((first | (exact Zv tyC (OpD.t rfl) hcc.1) | (exact ZH (OpD.t rfl)) | (refine ZM ZAz (OpD.t rfl) (by decide)) | (apply ZI; exact ZK9; exact OpD.t rfl; exact hcc.2.1; rfl) | (exact Zr elI (OpD.t rfl) hcc.2.2.2 Zl (k := 1) rfl hz1) | (exact Zh tyI (OpD.t rfl) hcc.2.2.2 hz1 e3) | (exact ZHR (OpD.t rfl) hcc.2.2.1 (OpD.t rfl) hy6) | ((first | apply SY.move | apply SY.assign | apply SY.lss | apply SY.geq | apply SY.eql) <;> (exact oD)) | (apply SY.build1'; (exact eD); ((try simp only [List.map_cons, List.map_nil]); (repeat (first | exact Zy | (apply Zt; (first | exact OpD.t rfl | exact Zl | exact OpD.b | exact OpD.tle rfl (by first | exact ZD | exact ZE (by decide)) | exact ⟨ZD⟩ | exact ⟨ZE (by decide)⟩))))); rfl; rfl; (intro _; first | exact ZAY | exact Zf | exact ZAA | exact ZAJ); (exact (by simp))) | fail); all_goals infer_instance))); dsimp only [ZB, z0, z1]) | ((first | apply WL.opN | apply WD.opN); exact yF; dsimp only [ZB, z0, z1]) | refine WL.nil ?_ | refine ZA fun Kx hK => ?_ | (refine hK _ _ ?_; clear hK) | (refine Kont.skip ?_; clear hK) | refine WC.region ?_ |  (refine ZK (ZEL (A := _ :: _ :: _ :: _ :: _ :: _ :: _ :: _ :: _ :: _ :: []) (c' := fun j => L3.getD j []) (i := k) hNd hkr hc2 hc3 hcs3 (fun q => SW.storeR (k := n + 2) tyI (OpD.t rfl) (OpD.t rfl) Zf hs2')) fun _ => ?_; dsimp only [ZB, z0, z1, List.cons_append, List.nil_append]) |  (refine ZK (SW.at 7 rfl fun q => ZA6 (ZJa (up wv1 y v)) ZGv ZAP (OpD.t rfl) (OpD.t rfl) isI (OpD.t rfl) isX hy6 (fun f hf => ZGC f hf)) fun _ => ?_; dsimp only [ZB, z0, z1]) | ((first | apply WL.opN | apply WD.opN); (focus ((first | (exact Zr elI (OpD.t rfl) (ZDB hkr hc2) (OpD.t rfl) (k := n + 2) hn2 hs2') | ((first | apply SY.add) <;> first | exact oD | omega) | fail); all_goals infer_instance)); dsimp only [ZB, z0, z1]) | refine WC.exit ?_ | refine ThenD.n ?_)); all_goals (first | ((repeat clear hK); (repeat clear Kx))))
        all_goals try (exfalso; first | contradiction | omega)
        (refine ⟨(i + 1, kept, sWat (ZHq s1 L3) (up s1.watch y (s1.watch y ++ [k])), vk, vT1, up wv1 y v), ?_, by first | omega | (simp only; omega), rfl, ?_⟩; rotate_left; ((try dsimp only [ZX, z0, z1]); repeat (first | exact LeF.nil | refine ZG (k := ?_))); (try dsimp only))
        exact ⟨hnx, hvis, hLI, hLn3⟩
       | none =>
        have hfx : ZFU (fun y => !s1.val (-y)) ((x :: w :: r).drop 2) = -1 := by
         show ZFU _ r = _
         unfold ZFU
         rw [hfi]
        cases hvn : s1.val (-x) with
        | true =>
         have ev := S43.visit_bad (kept := kept) hn' hvx hfi hvn
         rw [hL1] at ev
         rw [S43.visits_stop (by rw [ev]), ev] at hvis
         have hiN : i + 1 ≤ (ZAj ks).length := by rw [ZAW]; omega
         have hcat : ZAj (kept ++ [k]) ++ (ZAj ks).drop (i + 1) = ZAj (kept ++ [k] ++ ks.drop (i + 1)) := by simp [ZAj, List.map_drop]
         have h8' : ((ZAj (kept ++ [k])).length + ((ZAj ks).drop (i + 1)).length) * 8 ≤ 140737488355328 := by
          rw [ZAW, List.length_drop, ZAW, List.length_append, List.length_singleton]; omega
         have hi2 : (i : Int) + 1 = ((i + 1 : Nat) : Int) := by omega
         have hPT : ZAG (V + 1) s = Tt := by rw [hP, hgo', <- hvis]; rfl
         (repeat' (first |  (refine WC.drawM (fun hp' => ZHN (X.wt vT1) v1 ∈ hp' /\ oS (X.wt vT1) V s1 ∈ hp') 11 1 [(0, false), (1, false), (2, false), (3, false), (4, false), (5, false), (6, false), (7, false), (8, false), (9, false), (10, true)] [true, true, true, true, true, true, true, true, true, true, true, false] (by kernel_rfl) (by kernel_rfl) (by kernel_rfl) rfl (⟨mAt 6 rfl, mAt 0 rfl⟩) ?_) |  (first | refine WA.one (S := [true, true, true, true, true, true, true, true, true, true, true, false]) (i := 11) (by kernel_rfl) rfl ?_ | refine WA.nil (S := [true, true, true, true, true, true, true, true, true, true, true, true]) (by kernel_rfl) ?_) |  (refine ZAf rfl (SW.at 9 rfl fun q => SW.app1 elI (OpD.t rfl) (OpD.t rfl) (by decide) h8') (fun _ => ⟨mAt 6 rfl, mAt 0 rfl⟩) fun v => ?_; dsimp only [ZB, z0, z1]; rw [hcat]) |  (refine WC.only 21 (WC.perm (ZGz (X := X.wt vT1) (V := V) (s := s1) (N := N) (v1 := v1) (B := hp) (l := L1) (W := s1.watch) (W' := up s1.watch w (kept ++ [k] ++ ks.drop (i + 1))) (kk := kept ++ [k] ++ ks.drop (i + 1)) hwl (S43.up_eq _ _ _) (fun j hj => S43.up_ne hj)) (WC.perm (ZIT (X := X.wt vT1) (V := V) (s := sWat (ZHq s1 L1) (up s1.watch w (kept ++ [k] ++ ks.drop (i + 1)))) (N := N) (v1 := v1) (wv := up wv1 w v) (B := hp) hLn) (WC.drop (Halt.go ?_))))) | (refine WM.nil ?_) | (apply ZBC rfl; (focus (intro c hcc; apply SYG.yes; (exact Zi rfl); ((first | (exact ZH (OpD.t rfl)) | (refine ZM ZAz (OpD.t rfl) (by decide)) | (exact Zv tyC (OpD.t rfl) hcc.1) | (apply ZI; exact ZK9; exact OpD.t rfl; exact hcc.2; rfl) | (exact ZLO (R := RI) (_gR := inferInstance) elI (OpD.t rfl) (OpD.t rfl) (i + 1) hi2 hiN) | ((first | apply SY.move | apply SY.assign | apply SY.lss | apply SY.geq | apply SY.eql) <;> (exact oD)) | ((first | apply SY.add) <;> first | exact oD | omega) | fail); all_goals infer_instance))); dsimp only [ZB, z0, z1]) | ((first | apply WL.opN | apply WD.opN); exact yF; dsimp only [ZB, z0, z1]) | refine WL.nil ?_ | refine WD.nil ?_ | refine ZA fun Kx hK => ?_ | (refine hK _ _ ?_; clear hK) | refine WC.region ?_ | (apply WC.draw; kernel_rfl; kernel_rfl) |  (refine ZAv (caps := []) hIdx Tryz.call96 OpD.f (by (exact aD)) hpi ?_; rintro d' hp2 ⟨rfl, rfl⟩; refine WL.perm hpi.symm ?_; rw [hfx]; dsimp only [ZB, z0, z1]) |  (refine ZK (SW.at 9 rfl fun q => SW.app1 elI (OpD.t rfl) (OpD.t rfl) (by decide) h8) fun vk' => ?_; dsimp only [ZB, z0, z1]; rw [ek]) |  (refine ZK (SW.at 7 rfl fun q => ZA6 (ZJa (up wv1 w v)) ZGv ZAP (OpD.t rfl) (OpD.t rfl) isI (OpD.t rfl) isX hw6 (fun f hf => ZGC f hf)) fun _ => ?_; dsimp only [ZB, z0, z1]) | ((first | apply WL.opN | apply WD.opN); (focus ((first | (exact Zv tyC (OpD.t rfl) (mAt 6 rfl)) | (exact ZH (OpD.t rfl)) | (refine ZM ZAz (OpD.t rfl) (by decide)) | (apply ZI; (first | exact tyF | exact ZK9); exact OpD.t rfl; exact mAt 0 rfl; rfl) | (exact Zr elI (OpD.t rfl) (ZDB hkr hc1) Zl (k := 0) rfl hsz) | (exact Zh tyI (OpD.t rfl) (ZDB hkr hc1) hsz e0) | (exact SY.valH hvx (OpD.t rfl) (mAt 1 rfl) (OpD.t rfl) hx6) | (exact SY.valH hvn (OpD.t rfl) (mAt 1 rfl) (OpD.t rfl) hx6') | (exact SY.neg (OpD.t rfl) (by omega)) | (exact SY.fromR elI (OpD.t rfl) (ZDB hkr hc1) Zl (l := 2) rfl (by simp)) | (exact ZBJ (ArgsX.one (OpD.t rfl))) | ((first | apply SY.move | apply SY.assign | apply SY.lss | apply SY.geq | apply SY.eql) <;> (exact oD)) | (apply SY.build1'; (exact eD); ((try simp only [List.map_cons, List.map_nil]); (repeat (first | exact Zy | (apply Zt; (first | exact OpD.t rfl | exact Zl | exact OpD.b | exact OpD.tle rfl (by first | exact ZD | exact ZE (by decide)) | exact ⟨ZD⟩ | exact ⟨ZE (by decide)⟩))))); rfl; rfl; (intro _; first | exact ZAY | exact Zf | exact ZAA | exact ZAJ); (exact (by simp))) | fail); all_goals infer_instance)); dsimp only [ZB, z0, z1]) | (apply Zj; (exact oD); (with_reducible rfl)) | (apply Zg; (exact oD); (with_reducible rfl)) | (apply ZC; (exact oD); all_goals (intro h; try exact xD)) | refine WC.skip ?_))
         all_goals try (exfalso; first | contradiction | omega)
         refine ⟨?_⟩
         ((repeat' (first | ((first | apply WL.opN | apply WD.opN); exact yF; dsimp only [ZB, z0, z1]) | refine WL.nil ?_ | (refine hK _ _ ?_; clear hK) | refine WC.region ?_ | refine WC.ret ?_ | refine ThenD.r ?_ | refine InBlockD.r ?_)); all_goals (first | ((repeat clear hK); (repeat clear Kx))))
         rw [hPT, <- hvis]
         exact ⟨trivial, _, ZCR ((X.wt vT1).ww (up wv1 w v)) V (sWat (ZHq s1 L1) (up s1.watch w (kept ++ [k] ++ ks.drop (i + 1)))), rfl, rfl, vT1, up wv1 w v, rfl, rfl⟩
        | false =>
         have ev := S43.visit_unit (kept := kept) hn' hvx hfi hvn
         rw [hL1] at ev
         rw [S43.visits_go (by rw [ev])] at hvis
         have hLI := hvi.2.1 (by rw [ev])
         rw [ev] at hvis hLI
         have hAs := ZEb (X.wt vT1) V (ZHq s1 L1) x k (by omega) (by omega) (by show s1.trail.length ≤ _; omega)
         ((repeat' (first |  (apply WC.drawTail (id := 22) 5; kernel_rfl; kernel_rfl; simp only [List.take_succ_cons, List.take_zero, List.drop_succ_cons, List.drop_zero]) | ((first | apply WL.opN | apply WD.opN); exact yF; dsimp only [ZB, z0, z1]) | refine WL.nil ?_ | refine WD.nil ?_ | refine ZA fun Kx hK => ?_ | (refine hK _ _ ?_; clear hK) | refine WC.region ?_ | (apply WC.draw; kernel_rfl; kernel_rfl) |  (refine ZAv (caps := []) hIdx Tryz.call96 OpD.f (by (exact aD)) hpi ?_; rintro d' hp2 ⟨rfl, rfl⟩; refine WL.perm hpi.symm ?_; rw [hfx]; dsimp only [ZB, z0, z1]) |  (refine ZK (SW.at 9 rfl fun q => SW.app1 elI (OpD.t rfl) (OpD.t rfl) (by decide) h8) fun vk' => ?_; dsimp only [ZB, z0, z1]; rw [ek]) |  (refine WL.callC (hp1 := core (X.wt vT1) V (ZHq s1 L1)) (caps := []) hAs Tryz.call75 OpD.f (by (exact aD)) ?_; rintro d' hp2 ⟨v2, rfl⟩; dsimp only [ZB, z0, z1, List.cons_append, List.nil_append]) | ((first | apply WL.opN | apply WD.opN); (focus ((first | (exact Zv tyC (OpD.t rfl) (mAt 6 rfl)) | (exact ZH (OpD.t rfl)) | (refine ZM ZAz (OpD.t rfl) (by decide)) | (apply ZI; (first | exact tyF | exact ZK9); exact OpD.t rfl; exact mAt 0 rfl; rfl) | (exact Zr elI (OpD.t rfl) (ZDB hkr hc1) Zl (k := 0) rfl hsz) | (exact Zh tyI (OpD.t rfl) (ZDB hkr hc1) hsz e0) | (exact SY.valH hvx (OpD.t rfl) (mAt 1 rfl) (OpD.t rfl) hx6) | (exact SY.valH hvn (OpD.t rfl) (mAt 1 rfl) (OpD.t rfl) hx6') | (exact SY.neg (OpD.t rfl) (by omega)) | (exact SY.fromR elI (OpD.t rfl) (ZDB hkr hc1) Zl (l := 2) rfl (by simp)) | (exact ZBJ (ArgsX.one (OpD.t rfl))) | ((first | apply SY.move | apply SY.assign | apply SY.lss | apply SY.geq | apply SY.eql) <;> (exact oD)) | ((first | apply SY.add) <;> first | exact oD | omega) | (apply SY.build1'; (exact eD); ((try simp only [List.map_cons, List.map_nil]); (repeat (first | exact Zy | (apply Zt; (first | exact OpD.t rfl | exact Zl | exact OpD.b | exact OpD.tle rfl (by first | exact ZD | exact ZE (by decide)) | exact ⟨ZD⟩ | exact ⟨ZE (by decide)⟩))))); rfl; rfl; (intro _; first | exact ZAY | exact Zf | exact ZAA | exact ZAJ); (exact (by simp))) | fail); all_goals infer_instance)); dsimp only [ZB, z0, z1]) | (apply Zg; (exact oD); (with_reducible rfl)) | (apply ZC; (exact oD); all_goals (intro h; try exact xD)) | refine WC.skip ?_ | refine ThenD.n ?_)); all_goals (first | ((repeat clear hK); (repeat clear Kx))))
         all_goals try (exfalso; first | contradiction | omega)
         (refine ⟨(i + 1, kept ++ [k], Zq (ZHq s1 L1) x (some k), vk', v2, wv1), ?_, by first | omega | (simp only; omega), rfl, ?_⟩; rotate_left; ((try dsimp only [ZX, z0, z1]); repeat (first | exact LeF.nil | refine ZG (k := ?_))); (try dsimp only))
         exact ⟨hnx, hvis, hLI, hLn⟩
    ·obtain rfl : i = ks.length := by omega
     rw [List.drop_length] at hvis hL
     have hvT : Tt = ({ s1 with watch := up s1.watch w kept }, none) := hvis.symm
     (repeat' (first | ((first | apply WL.opN | apply WD.opN); exact yF; dsimp only [ZB, z0, z1]) | refine WL.nil ?_ | refine ZA fun Kx hK => ?_ | (refine hK _ _ ?_; clear hK) | (refine Kont.skip ?_; clear hK) | refine WC.region ?_ |  (refine ZK (SW.at 7 rfl fun q => ZA6 (ZJa (up wv1 w vk)) ZGv ZAP (OpD.t rfl) (OpD.t rfl) isI (OpD.t rfl) isX hw6 (fun f hf => ZGC f hf)) fun _ => ?_; dsimp only [ZB, z0, z1]; refine WL.perm (ZGz (X := X.wt vT1) (V := V) (s := s1) (N := N) (v1 := v1) (B := hp) (l := s1.list) (W := s1.watch) (W' := up s1.watch w kept) (kk := kept) hwl (S43.up_eq _ _ _) (fun j hj => S43.up_ne hj)) ?_) | ((first | apply WL.opN | apply WD.opN); (focus ((first | (exact Zv tyC (OpD.t rfl) (mAt 6 rfl)) | (exact ZH (OpD.t rfl)) | (refine ZM ZAz (OpD.t rfl) (by decide)) | (apply ZI; (first | exact tyI | exact ZAl | exact ZK9); exact OpD.t rfl; exact mAt 0 rfl; rfl) | ((first | apply SY.move | apply SY.assign | apply SY.lss | apply SY.geq | apply SY.eql) <;> (exact oD)) | fail); all_goals infer_instance)); dsimp only [ZB, z0, z1]) | (apply ZC; (exact oD); all_goals (intro h; try exact xD)) | refine WC.exit ?_ | refine ThenD.n ?_ | refine InBlockD.n ?_))
     all_goals try (exfalso; first | contradiction | omega)
     rw [hvT] at hgo' hV0
     have hhd := hV0.1.head
     have hkn := hV0.2.1 rfl
     simp only [Option.isSome_none, Bool.false_eq_true, if_false] at hgo' hhd hkn
     (refine ⟨(f, sWat s1 (up s1.watch w kept), vT1, up wv1 w vk), ?_, by first | omega | (simp only; omega), rfl, ?_⟩; rotate_left; ((try dsimp only [ZX, z0, z1]); repeat (first | exact LeF.nil | refine ZG (k := ?_))); (try dsimp only))
     exact ⟨hP.trans hgo', hkn, by omega, hN1⟩
  ·have hPe : ZAG (V + 1) s = (s0, none) := by rw [hP, S43.propS_end hlt]
   have hle : ¬ (s0.head : Int) < (s0.trail.length : Int) := by omega
   (repeat' (first |  (refine WC.only 25 (WC.perm (ZIT (X := X.wt vT) (V := V) (s := s0) (N := N) (v1 := v1) (wv := wv) (B := hp) hN0) (WC.drop (Halt.go ?_)))) | refine WD.nil ?_ | refine ZA fun Kx hK => ?_ | (refine hK _ _ ?_; clear hK) | (refine Kont.skip ?_; clear hK) | (apply WC.draw; kernel_rfl; kernel_rfl) | ((first | apply WL.opN | apply WD.opN); (focus ((first | (exact Zv tyC (OpD.t rfl) (mAt 6 rfl)) | (exact ZH (OpD.t rfl)) | (refine ZM ZAz (OpD.t rfl) (by decide)) | (apply ZI; (first | exact tyI | exact ZAl | exact ZK9); exact OpD.t rfl; exact mAt 0 rfl; rfl) | (apply Z3; exact OpD.t rfl; exact mAt 4 rfl; exact elI.unt) | ((first | apply SY.move | apply SY.assign | apply SY.lss | apply SY.geq | apply SY.eql) <;> (exact oD)) | fail); all_goals infer_instance)); dsimp only [ZB, z0, z1]) | (apply ZC; (exact oD); all_goals (intro h; try exact xD)) | refine WC.exit ?_))
   all_goals try (exfalso; first | contradiction | omega)
   refine ⟨?_⟩
   ((repeat' (first | ((first | apply WL.opN | apply WD.opN); exact yF; dsimp only [ZB, z0, z1]) | refine WL.nil ?_ | (refine hK _ _ ?_; clear hK) | refine WC.region ?_ | refine WC.ret ?_)); all_goals (first | ((repeat clear hK); (repeat clear Kx))))
   rw [hPe]
   exact ⟨trivial, _, ZCR ((X.wt vT).ww wv) V s0, rfl, rfl, vT, wv, rfl, rfl⟩
end
end Go.Proofs.YtjmignmnlpamjaaGreat
