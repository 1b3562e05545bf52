/- Part 4: walks by contracts, and plain laws. -/
import Derived.Test.YtofkoleingbbpaaGreatDoorWa43
import Derived.Test.YtofkoleingbbpaaGreatDoorWc3
set_option linter.unusedVariables false
set_option linter.unusedSimpArgs false
set_option linter.unusedSectionVars false
set_option maxRecDepth 100000
set_option maxHeartbeats 4000000
namespace Go.Proofs.YtofkoleingbbpaaGreatDoor
section
open Go.RowKit

theorem ZQa {p:List Vx->Bool} {c F:Cx} {V:List Vx} {C:Cx} (h:ZBi p c F V C=0):C.length=V.length:=by
 unfold ZBi at h
 by_cases h1:ZAl c≠0
 ·rw [if_pos h1] at h;exact absurd h h1
 rw [if_neg h1] at h
 by_cases h2:ZAl F≠0
 ·rw [if_pos h2] at h;exact absurd h h2
 rw [if_neg h2] at h
 by_cases h3:V=ZCP F/\C.length=V.length
 ·exact h3.2
 ·rw [if_pos h3] at h;exact absurd h (by decide)
theorem gk34 (A:List Vx) (x:Vx) (h:A.length≤200002):(A.length+[x].length)*16≤140737488355328:=by
 rw [List.length_singleton];omega
abbrev ZXR (b4 b8:Nat) (v0 v1:Value) (xs:List Vx) (ys:List Int):List HObj :=
 [ZAV b8 25 [dX v0,dX v1],Z0 v0 77 2 RV xs,Zp v1 3 RI ys,Zr b4 25 2 true (dX (.agg #[.slice none 0 0,.slice none 0 0]))]
theorem ZWF {b4 b8:Nat} {v0 v1:Value} {xs xs':List Vx} {ys ys':List Int} (h:xs=xs') (k:ys=ys'):ZXR b4 b8 v0 v1 xs ys=ZXR b4 b8 v0 v1 xs' ys':=by rw [h,k]
set_option maxHeartbeats 16000000 in
theorem ZL5 (F:Cx) (V:List Vx) (C:Cx) (base:List Vx) (hF:F.length≤100) (hV:V.length≤60):Fn Tryz.prog 21 [dS ZPy (F,V,C),dS ZN base] (dT [dS Lab (ZSd F V C base).1,dI (ZSd F V C base).2]):=by
 have c1:=ZIx base
 have c2:=ZVI [base] F V C hF hV
 obtain ⟨R,hR⟩:∃ R,ZSd F V C base=R:=⟨_,rfl⟩
 rw [hR]
 unfold ZSd at hR
 rw [ZTO] at hR
 refine ZCT ZAI Tryz.func21 rfl rfl ?_
 -- @kinds ref34.Sperner
 simp only [Tryz.ntmps21,List.length_cons,List.length_nil,Nat.reduceAdd,Nat.reduceSub,List.replicate_succ,List.replicate_zero,List.cons_append,List.nil_append]
 by_cases h1:Z5 base≠0
 ·rw [if_pos h1] at hR
  subst hR
  ((repeat' (first|((first|apply WL.opN|apply WD.opN);exact yF;dsimp only [ZC,z0,z1])|refine WL.nil ?_|refine ZA fun Kx hK=>?_|(refine hK _ _ ?_;clear hK)|refine WC.region ?_ |  (refine WL.alloc (dst:=some 4) ZMN (ZAc rfl rfl) fun b4=>?_;dsimp only [ZC,z0,z1]) |  (refine ZW ZAI rfl (OpD.t rfl) (ZAc rfl rfl) ?_;dsimp only [ZC,z0,z1])|((first|apply WL.opN|apply WD.opN);(focus ((first|(exact SY.box (OpD.t rfl) ZAR)|(apply SY.call (c1) Tryz.call53;(exact aD))|(exact ZHW)|((first|apply SY.move|apply SY.assign|apply SY.lss|apply SY.neq|apply SY.or) <;> (exact oD))|fail);all_goals infer_instance));dsimp only [ZC,z0,z1])|(apply ZG;(exact oD);all_goals (intro h;try exact xD))|refine WC.ret ?_|refine ThenD.r ?_));all_goals (first|((repeat clear hK);(repeat clear Kx))))
  all_goals try (exfalso;first|contradiction|omega)
  exact ⟨trivial,⟨_,rfl,FinD.le ZNu⟩,_,rfl,FinD.le (Dat.le_refl _)⟩
 rw [if_neg h1] at hR
 have h1':Z5 base=0:=Classical.byContradiction h1
 rw [h1'] at c1
 by_cases h2:ZBi (okR [base] V C) [base] F V C≠0
 ·rw [if_pos h2] at hR
  subst hR
  ((repeat' (first|((first|apply WL.opN|apply WD.opN);exact yF;dsimp only [ZC,z0,z1])|refine WL.nil ?_|refine ZA fun Kx hK=>?_|(refine hK _ _ ?_;clear hK)|refine WC.region ?_ |  (refine WL.alloc (dst:=some 4) ZMN (ZAc rfl rfl) fun b4=>?_;dsimp only [ZC,z0,z1]) |  (refine ZW ZAI rfl (OpD.t rfl) (ZAc rfl rfl) ?_;dsimp only [ZC,z0,z1])|((first|apply WL.opN|apply WD.opN);(focus ((first|(exact SY.box (OpD.t rfl) ZAR)|(apply SY.call (c1) Tryz.call53;(exact aD))|(apply SY.call (c2) Tryz.call54;(exact aD))|(exact ZHW)|(apply SY.load;exact ZMM;exact OpD.t rfl)|((first|apply SY.move|apply SY.assign|apply SY.lss|apply SY.neq|apply SY.or) <;> (exact oD))|(apply ZNO ZIz;exact OpD.t rfl)|(apply SY.build1';(exact eD);((try simp only [List.map_cons,List.map_nil]);(repeat (first|exact Zl|(apply Zk;(first|exact OpD.t rfl|exact OpD.i|exact OpD.b|exact OpD.tle rfl (by first|exact ZO|exact ZL (by decide))|exact ⟨ZO⟩|exact ⟨ZL (by decide)⟩)))));rfl;rfl;(intro _;first|exact ZAW|exact ZAK|exact ZAC|exact shape_B);(exact (by simp)))|fail);all_goals infer_instance));dsimp only [ZC,z0,z1])|(apply ZG;(exact oD);all_goals (intro h;try exact xD))|refine WC.skip ?_|refine WC.ret ?_|refine ThenD.r ?_));all_goals (first|((repeat clear hK);(repeat clear Kx))))
  all_goals try (exfalso;first|contradiction|omega)
  exact ⟨trivial,⟨_,rfl,FinD.le ZNu⟩,_,rfl,FinD.le (Dat.le_refl _)⟩
 rw [if_neg h2] at hR
 have h2':ZBi (okR [base] V C) [base] F V C=0:=Classical.byContradiction h2
 rw [h2'] at c2
 have hCV:=ZQa h2'
 subst hR
 have h8:base.length≤8:=(Ze.1 h1').2.1
 (repeat' (first|((first|apply WL.opN|apply WD.opN);exact yF;dsimp only [ZC,z0,z1])|refine WL.nil ?_|refine ZA fun Kx hK=>?_|(refine hK _ _ ?_;clear hK)|refine WC.region ?_ |  (refine WL.alloc (dst:=some 4) ZMN (ZAc rfl rfl) fun b4=>?_;dsimp only [ZC,z0,z1]) |  (refine ZCg (dst:=some 8) (zs:=[.slice none 0 0,.slice none 0 0]) ZMN (by decide) (by simp [Value.oneCell']) fun b8=>?_;dsimp only [ZC,z0,z1,List.map_cons,List.map_nil])|((first|apply WL.opN|apply WD.opN);(focus ((first|(exact SY.box (OpD.t rfl) ZAR)|(apply SY.call (c1) Tryz.call53;(exact aD))|(apply SY.call (c2) Tryz.call54;(exact aD))|(apply SY.load;exact ZMM;exact OpD.t rfl)|((first|apply SY.move|apply SY.assign|apply SY.lss|apply SY.neq|apply SY.or) <;> (exact oD))|(apply ZNO ZIz;exact OpD.t rfl)|(apply SY.build1';(exact eD);((try simp only [List.map_cons,List.map_nil]);(repeat (first|exact Zl|(apply Zk;(first|exact OpD.t rfl|exact OpD.i|exact OpD.b|exact OpD.tle rfl (by first|exact ZO|exact ZL (by decide))|exact ⟨ZO⟩|exact ⟨ZL (by decide)⟩)))));rfl;rfl;(intro _;first|exact ZAW|exact ZAK|exact ZAC|exact shape_B);(exact (by simp)))|fail);all_goals infer_instance));dsimp only [ZC,z0,z1])|(apply ZG;(exact oD);all_goals (intro h;try exact xD))|refine WC.skip ?_|refine WC.block ?_))
 all_goals try (exfalso;first|contradiction|omega)
 refine Zt 3 RI ?_
 refine ZBy 77 2 (by decide) RV ?_
 refine WC.perm (hp':=ZXR b4 b8 (.slice none 0 0) (.slice none 0 0) [] []) (((List.Perm.cons _ (List.Perm.swap _ _ _)).trans (List.Perm.swap _ _ _))) ?_
 (refine WC.loopU (X:=Nat × Value × Value) (fun x=>[(9,dI (x.1:Int)),(10,dA),(11,dA),(27,dA),(28,dA),(29,dA),(30,dA),(31,dA),(32,dA),(33,dA),(34,dA),(35,dA),(36,dA),(37,dA),(38,dA),(39,dA),(40,dA),(41,dA),(42,dA),(43,dA),(44,dA),(45,dA),(46,dA),(47,dA),(48,dA),(49,dA),(50,dA),(51,dA),(52,dA),(53,dA),(54,dA),(55,dA),(56,dA),(57,dA),(58,dA),(59,dA),(60,dA),(61,dA),(62,dA),(63,dA),(64,dA),(65,dA),(66,dA),(67,dA),(68,dA),(69,dA)]) (fun x=>(ZXR b4 b8 x.2.1 x.2.2 (V.take x.1) ((C.take x.1).map (ZFw base)))) (fun x=>V.length-x.1) (fun x=>x.1≤V.length) (0,.slice none 0 0,.slice none 0 0) ?start ?frame0 ?objs0 ?round)
 case start=>exact Nat.zero_le _
 case frame0=>((try dsimp only [ZK,z0,z1]);repeat (first|exact LeF.nil|refine ZD (k:=?_)))
 case objs0=>rfl
 case round =>
  rintro ⟨k,v0,v1⟩ hk
  simp only at hk
  dsimp only [ZK,z0,z1]
  by_cases hkl:k<V.length
  ·have hkI:(k:Int)<(V.length:Int):=by omega
   have hkC:k<C.length:=by omega
   have hsn:(C.take (k+1)).map (ZFw base)=(C.take k).map (ZFw base)++[ZFw base C[k]]:=by
    rw [List.take_succ_eq_append_getElem hkC,List.map_append];rfl
   have hsv:V.take (k+1)=V.take k++[V[k]]:=List.take_succ_eq_append_getElem hkl
   have hm0:(V.take k).length≤200002:=by rw [List.length_take];omega
   have hm1:((C.take k).map (ZFw base)).length≤100:=by rw [List.length_map,List.length_take];omega
   (repeat' (first|((first|apply WL.opN|apply WD.opN);exact yF;dsimp only [ZC,z0,z1])|refine WL.nil ?_|refine ZA fun Kx hK=>?_|(refine hK _ _ ?_;clear hK)|refine WC.region ?_|((first|apply WL.opN|apply WD.opN);(focus ((first|(refine ZP ZCN (OpD.t rfl) ZA2 rfl rfl)|((first|apply SY.move|apply SY.assign|apply SY.lss|apply SY.neq|apply SY.or) <;> (exact oD))|(apply SY.len;(exact oD);(exact nD);(exact uD))|fail);all_goals infer_instance));dsimp only [ZC,z0,z1])|(apply ZB;(exact oD);all_goals (intro h;try exact xD))|refine WC.skip ?_|refine WC.block ?_))
   all_goals try (exfalso;first|contradiction|omega)
   (refine WC.loopU (X:=Nat) (fun j=>[(11,dI (j:Int)),(10,dI (ZKD base C[k] j)),(34,dA),(35,dA),(36,dA),(37,dA),(38,dA),(39,dA),(40,dA),(41,dA),(42,dA),(43,dA),(44,dA),(45,dA),(46,dA),(47,dA),(48,dA),(49,dA),(50,dA),(51,dA),(52,dA),(53,dA)]) (fun j=>(ZXR b4 b8 v0 v1 (V.take k) ((C.take k).map (ZFw base)))) (fun j=>base.length-j) (fun j=>j≤base.length) 0 ?start ?frame0 ?objs0 ?round)
   case start=>exact Nat.zero_le _
   case frame0=>((try dsimp only [ZK,z0,z1]);repeat (first|exact LeF.nil|refine ZD (k:=?_)))
   case objs0=>rfl
   case round =>
    rintro j hj
    dsimp only [ZK,z0,z1]
    by_cases hjl:j<base.length
    ·have hjI:(j:Int)<(base.length:Int):=by omega
     have hmp:=ZN2 (c:=C[k]) hjl
     have cC:=ZGr C[k] base[j]
     by_cases hm:base[j]∈C[k]
     ·have e2:ZRB 1 (j:Int)=((2 ^ j:Nat):Int):=ZXT ⟨j,by omega⟩
      rw [if_pos hm,<- e2] at hmp
      rw [decide_eq_true hm] at cC
      ((repeat' (first|((first|apply WL.opN|apply WD.opN);exact yF;dsimp only [ZC,z0,z1])|refine WL.nil ?_|refine WD.nil ?_|refine ZA fun Kx hK=>?_|(refine hK _ _ ?_;clear hK)|refine WC.region ?_|(apply WC.draw;kernel_rfl;kernel_rfl)|((first|apply WL.opN|apply WD.opN);(focus ((first|(refine ZP ZCN (OpD.t rfl) ZA2 rfl rfl)|(refine SY.ix (R:=ZN) (_gR:=inferInstance) ZCF (OpD.t rfl) (OpD.t rfl) hkC)|(refine Zc (R:=RV) (_gR:=inferInstance) elV (OpD.t rfl) (OpD.t rfl) hjl)|(apply SY.call (cC) Tryz.call55;(exact aD))|((first|apply SY.move|apply SY.assign|apply SY.lss|apply SY.neq|apply SY.or) <;> (exact oD))|((first|apply SY.add) <;> first|exact oD|omega)|((first|apply SY.shl) <;> first|exact oD|assumption|omega)|(apply SY.len;(exact oD);(exact nD);(exact uD))|fail);all_goals infer_instance));dsimp only [ZC,z0,z1])|(apply Zb;(exact oD);(with_reducible rfl))|(apply ZB;(exact oD);all_goals (intro h;try exact xD))|refine WC.skip ?_|refine WC.block ?_|refine ThenD.n ?_));all_goals (first|((repeat clear hK);(repeat clear Kx))))
      all_goals try (exfalso;first|contradiction|omega)
      rw [<- hmp]
      (refine ⟨j+1,?_,by first|omega|(simp only;omega),rfl,?_⟩;rotate_left;((try dsimp only [ZK,z0,z1]);repeat (first|exact LeF.nil|refine ZD (k:=?_)));(try dsimp only))
      exact hjl
     ·rw [if_neg hm] at hmp
      rw [decide_eq_false hm] at cC
      ((repeat' (first|((first|apply WL.opN|apply WD.opN);exact yF;dsimp only [ZC,z0,z1])|refine WL.nil ?_|refine WD.nil ?_|refine ZA fun Kx hK=>?_|(refine hK _ _ ?_;clear hK)|refine WC.region ?_|(apply WC.draw;kernel_rfl;kernel_rfl)|((first|apply WL.opN|apply WD.opN);(focus ((first|(refine ZP ZCN (OpD.t rfl) ZA2 rfl rfl)|(refine SY.ix (R:=ZN) (_gR:=inferInstance) ZCF (OpD.t rfl) (OpD.t rfl) hkC)|(refine Zc (R:=RV) (_gR:=inferInstance) elV (OpD.t rfl) (OpD.t rfl) hjl)|(apply SY.call (cC) Tryz.call55;(exact aD))|((first|apply SY.move|apply SY.assign|apply SY.lss|apply SY.neq|apply SY.or) <;> (exact oD))|((first|apply SY.add) <;> first|exact oD|omega)|(apply SY.len;(exact oD);(exact nD);(exact uD))|fail);all_goals infer_instance));dsimp only [ZC,z0,z1])|(apply ZQ;(exact oD);(with_reducible rfl))|(apply ZB;(exact oD);all_goals (intro h;try exact xD))|refine WC.skip ?_|refine WC.block ?_|refine ThenD.n ?_));all_goals (first|((repeat clear hK);(repeat clear Kx))))
      all_goals try (exfalso;first|contradiction|omega)
      rw [<- hmp]
      (refine ⟨j+1,?_,by first|omega|(simp only;omega),rfl,?_⟩;rotate_left;((try dsimp only [ZK,z0,z1]);repeat (first|exact LeF.nil|refine ZD (k:=?_)));(try dsimp only))
      exact hjl
    ·have hjI:¬ (j:Int)<(base.length:Int):=by omega
     obtain rfl:j=base.length:=by omega
     ((repeat' (first |  (refine WC.drawM (fun hp'=>ZAV b8 25 [dX v0,dX v1]∈hp') 9 2 [(0,false),(1,false),(2,false),(3,false),(4,false),(5,false),(6,false),(7,false),(8,true)] [true,true,true,true,true,true,true,true,true,false,false] (by kernel_rfl) (by kernel_rfl) (by kernel_rfl) rfl (.head _) ?_) |  (first|refine WA.one (S:=[true,true,true,true,true,true,true,true,true,false,false]) (i:=9) (by kernel_rfl) rfl ?_|refine WA.one (S:=[true,true,true,true,true,true,true,true,true,true,false]) (i:=10) (by kernel_rfl) rfl ?_|refine WA.nil (S:=[true,true,true,true,true,true,true,true,true,true,true]) (by kernel_rfl) ?_) |  (refine ZBh rfl (SW.at 1 rfl fun q=>SW.appK elV (R:=RV) (_gR:=inferInstance) (OpD.t rfl) (OpD.t rfl) (by decide) (gk34 _ _ hm0)) (fun _=>mAt 0 rfl) fun v0'=>?_;dsimp only [ZC,z0,z1])|(refine WM.nil ?_)|(apply WM.readL rfl;(focus (intro c hcc;apply SYG.yes;(exact Zg rfl);((first|(refine ZAf Zx (OpD.t rfl) (by decide))|(refine ZAQ ZPZ (OpD.t rfl) hcc rfl)|(refine ZP ZCN (OpD.t rfl) ZA2 rfl rfl)|(apply SY.load;exact ZPZ;exact OpD.t rfl)|(refine Zc (R:=RV) (_gR:=inferInstance) elV (OpD.t rfl) (OpD.t rfl) hkl)|((first|apply SY.move|apply SY.assign|apply SY.lss|apply SY.neq|apply SY.or) <;> (exact oD))|(apply SY.load;(exact tD);(exact oD))|(apply SY.buildE;(exact eD);((try simp only [List.map_cons,List.map_nil]);(repeat (first|exact Zl|(apply Zk;(first|exact OpD.t rfl|exact OpD.i|exact OpD.b|exact OpD.tle rfl (by first|exact ZO|exact ZL (by decide))|exact ⟨ZO⟩|exact ⟨ZL (by decide)⟩)))));rfl;rfl;decide;(intro _;exact ZAv);(exact (by simp)))|fail);all_goals infer_instance)));dsimp only [ZC,z0,z1])|((first|apply WL.opN|apply WD.opN);exact yF;dsimp only [ZC,z0,z1])|refine WL.nil ?_|refine ZA fun Kx hK=>?_|(refine hK _ _ ?_;clear hK)|(refine Kont.skip ?_;clear hK)|refine WC.region ?_ |  (refine ZMj (mAt 1 rfl) fun hv0=>WL.storeS (k:=0) ZPZ (OpD.t rfl) (OpD.t rfl) (Z1 hv0) (by simp) ?_;dsimp only [ZC,z0,z1]) |  (refine ZCA (SW.at 2 rfl fun q=>SW.app1 elI (R:=RI) (_gR:=inferInstance) (OpD.t rfl) (OpD.t rfl) (by decide) (by rw [List.length_singleton];omega)) fun v1'=>?_;dsimp only [ZC,z0,z1]) |  (refine ZEH (mAt 2 rfl) fun hv1=>WL.storeS (k:=1) ZBv (OpD.t rfl) (OpD.t rfl) (Z1 hv1) (by simp) ?_;dsimp only [ZC,z0,z1])|((first|apply WL.opN|apply WD.opN);(focus ((first|(refine ZAf Zx (OpD.t rfl) (by decide))|(refine ZAQ ZBv (OpD.t rfl) (.head _) rfl)|((first|apply SY.move|apply SY.assign|apply SY.lss|apply SY.neq|apply SY.or) <;> (exact oD))|((first|apply SY.add) <;> first|exact oD|omega)|(apply SY.len;(exact oD);(exact nD);(exact uD))|(apply SY.build1';(exact eD);((try simp only [List.map_cons,List.map_nil]);(repeat (first|exact Zl|(apply Zk;(first|exact OpD.t rfl|exact OpD.i|exact OpD.b|exact OpD.tle rfl (by first|exact ZO|exact ZL (by decide))|exact ⟨ZO⟩|exact ⟨ZL (by decide)⟩)))));rfl;rfl;(intro _;first|exact ZAW|exact ZAK|exact ZAC|exact shape_B);(exact (by simp)))|fail);all_goals infer_instance));dsimp only [ZC,z0,z1])|(apply ZB;(exact oD);all_goals (intro h;try exact xD))|refine WC.exit ?_|refine ThenD.n ?_));all_goals (first|((repeat clear hK);(repeat clear Kx))))
     all_goals try (exfalso;first|contradiction|omega)
     (refine ⟨(k+1,v0',v1') , ?_,by first|omega|(simp only;omega),by ((try simp only);  exact ZWF hsv.symm hsn.symm),?_⟩;rotate_left;((try dsimp only [ZK,z0,z1]);repeat (first|exact LeF.nil|refine ZD (k:=?_)));(try dsimp only))
     exact hkl
  ·have hkI:¬ (k:Int)<(V.length:Int):=by omega
   obtain rfl:k=V.length:=by omega
   rw [List.take_length,<- hCV,List.take_length]
   refine ZP2 (k:=0) rfl (ZEF (k:=1) rfl ?_)
   dsimp only [z0,z1]
   rw [hCV] at *
   ((repeat' (first|((first|apply WL.opN|apply WD.opN);exact yF;dsimp only [ZC,z0,z1])|refine WL.nil ?_|refine ZA fun Kx hK=>?_|(refine hK _ _ ?_;clear hK)|(refine Kont.skip ?_;clear hK)|refine WC.region ?_ |  (refine ZBz ZAI rfl (OpD.t rfl) (Z8 (n:=2) (by decide) rfl) ?_;dsimp only [ZC,z0,z1])|((first|apply WL.opN|apply WD.opN);(focus ((first|(refine ZP ZCN (OpD.t rfl) ZA2 rfl rfl)|(refine ZCo ZAI (OpD.t rfl) (.head _) (by decide) rfl)|((first|apply SY.move|apply SY.assign|apply SY.lss|apply SY.neq|apply SY.or) <;> (exact oD))|(apply SY.len;(exact oD);(exact nD);(exact uD))|fail);all_goals infer_instance));dsimp only [ZC,z0,z1])|(apply ZB;(exact oD);all_goals (intro h;try exact xD))|refine WC.ret ?_|refine WC.exit ?_));all_goals (first|((repeat clear hK);(repeat clear Kx))))
   all_goals try (exfalso;first|contradiction|omega)
   exact ⟨trivial,⟨_,rfl,FinD.le ZQM⟩,_,rfl,FinD.le (Dat.le_refl _)⟩
end
section
open Go.RowKit

set_option maxHeartbeats 8000000 in
theorem labels34_p (F:Cx) (V:List Vx) (C:Cx) (base:List Vx):Fn Tryz.prog 5 [dS ZPy (F,V,C),dS ZN base] (dB true):=by
 have cA:=ZEp
 have cF:=ZVV F V C
 have cB:=ZWt base
 cases hf:(ZBa F && decide (V.length≤60) && decide (C.length≤60)) with
 | false =>
  rw [hf] at cF
  (refine ZE Tryz.func5 rfl rfl ?_;simp only [Tryz.ntmps5,List.length_cons,List.length_nil,Nat.reduceAdd,Nat.reduceSub,List.replicate_succ,List.replicate_zero,List.cons_append,List.nil_append])
  ((repeat' (first|(apply WL.opN;exact yF;dsimp only [ZC,z0,z1])|refine WL.nil ?_|refine ZA fun Kx hK=>?_|(refine hK _ _ ?_;clear hK)|refine WC.region ?_|(apply ZF;(focus (first|exact wN|(apply SYG.yes;(exact wY);((first|(exact SY.box (OpD.t rfl) ZAR)|(apply SY.load;exact ZMM;exact OpD.t rfl)|(apply SY.call (cF) Tryz.call18;(exact aD))|(apply SY.call (cA) Tryz.call10;(exact aD))|((first|apply SY.move|apply SY.assign|apply SY.eql|apply SY.not) <;> (exact oD))|(apply ZY;(exact oD);(with_reducible rfl);(exact oD))|fail);all_goals infer_instance))));dsimp only [ZC,z0,z1])|((first|refine ZJ rfl rfl rfl (fun h=>?_) (fun h=>?_)|refine ZI rfl rfl rfl (fun h=>?_) (fun h=>?_)|refine ZH rfl rfl rfl (fun h=>?_) (fun h=>?_)) <;> (first|(exfalso;first|omega|contradiction)|(dsimp only [z0,z1])))|(apply Zb;(exact oD);(with_reducible rfl))|refine WC.ret ?_|refine ThenD.r ?_));all_goals (first|((repeat clear hK);(repeat clear Kx))))
  all_goals try (exfalso;first|contradiction|omega)
  all_goals (refine ⟨trivial,_,rfl,?_⟩;exact fD)
 | true =>
  rw [hf] at cF
  simp only [Bool.and_eq_true,decide_eq_true_eq] at hf
  obtain ⟨⟨hF,hV⟩,hC⟩:=hf
  have hF30:=ZIA hF
  cases hb:decide ((base.length:Int)≤10) with
  | false =>
   rw [hb] at cB
   (refine ZE Tryz.func5 rfl rfl ?_;simp only [Tryz.ntmps5,List.length_cons,List.length_nil,Nat.reduceAdd,Nat.reduceSub,List.replicate_succ,List.replicate_zero,List.cons_append,List.nil_append])
   ((repeat' (first|(apply WL.opN;exact yF;dsimp only [ZC,z0,z1])|refine WL.nil ?_|refine ZA fun Kx hK=>?_|(refine hK _ _ ?_;clear hK)|refine WC.region ?_|(apply ZF;(focus (first|exact wN|(apply SYG.yes;(exact wY);((first|(exact SY.box (OpD.t rfl) ZAR)|(apply SY.load;exact ZMM;exact OpD.t rfl)|(exact ZBD (OpD.t rfl))|(apply SY.call (cF) Tryz.call18;(exact aD))|(apply SY.call (cB) Tryz.call19;(exact aD))|(apply SY.call (cA) Tryz.call10;(exact aD))|((first|apply SY.move|apply SY.assign|apply SY.eql|apply SY.not) <;> (exact oD))|(apply ZX;(exact oD);(with_reducible rfl);(exact oD))|fail);all_goals infer_instance))));dsimp only [ZC,z0,z1])|(apply ZM;(exact oD);all_goals (intro h;try exact xD))|refine WC.ret ?_|refine ThenD.r ?_));all_goals (first|((repeat clear hK);(repeat clear Kx))))
   all_goals try (exfalso;first|contradiction|omega)
   all_goals (refine ⟨trivial,_,rfl,?_⟩;exact fD)
  | true =>
   rw [hb] at cB
   have c1:=ZIg F V C base (by omega) (by omega) (by omega)
   have c2:=ZL5 F V C base (by omega) (by omega)
   generalize ZSd F V C base=R at *
   obtain ⟨⟨r1,r2⟩,r3⟩:=R
   simp only at c1 c2
   have c3:=ZT4 r1 r2
   (refine ZE Tryz.func5 rfl rfl ?_;simp only [Tryz.ntmps5,List.length_cons,List.length_nil,Nat.reduceAdd,Nat.reduceSub,List.replicate_succ,List.replicate_zero,List.cons_append,List.nil_append])
   ((repeat' (first|(apply WL.opN;exact yF;dsimp only [ZC,z0,z1])|refine WL.nil ?_|refine ZA fun Kx hK=>?_|(refine hK _ _ ?_;clear hK)|refine WC.region ?_ |  (refine WL.alloc (dst:=some 5) ZMN (ZAc rfl rfl) fun b5=>?_;dsimp only [ZC,z0,z1]) |  (refine WL.alloc (dst:=some 7) ZMN (ZAc rfl rfl) fun b7=>?_;dsimp only [ZC,z0,z1]) |  (refine ZW ZAI rfl (OpD.t rfl) Zq ?_;dsimp only [ZC,z0,z1])|(apply ZF;(focus (first|exact wN|(apply SYG.yes;(exact wY);((first|(exact SY.box (OpD.t rfl) ZAR)|(apply SY.load;exact ZMM;exact OpD.t rfl)|(apply SY.load;exact ZAI;exact OpD.t rfl)|(exact ZBD (OpD.t rfl))|(apply SY.call (cF) Tryz.call18;(exact aD))|(apply SY.call (cB) Tryz.call19;(exact aD))|(apply SY.call (cA) Tryz.call10;(exact aD))|(apply SY.call (c1) Tryz.call20;(exact aD))|(apply SY.call (c2) Tryz.call21;(exact aD))|(apply SY.call (c3) Tryz.call22;(exact aD))|(exact ZDP (b:=true) (decide_eq_true rfl) (OpD.t rfl) (OpD.t rfl))|((first|apply SY.move|apply SY.assign|apply SY.eql|apply SY.not) <;> (exact oD))|(apply ZY;(exact oD);(with_reducible rfl);(exact oD))|(apply ZX;(exact oD);(with_reducible rfl);(exact oD))|(apply SY.extract;(exact oD);rfl)|fail);all_goals infer_instance))));dsimp only [ZC,z0,z1])|(apply ZQ;(exact oD);(with_reducible rfl))|refine WC.skip ?_|refine WC.ret ?_));all_goals (first|((repeat clear hK);(repeat clear Kx))))
   all_goals try (exfalso;first|contradiction|omega)
   all_goals (refine ⟨trivial,_,rfl,?_⟩;exact fD)
end
section
open Go.ChangeShapes Go.WideShapes Go.ChangeAt Go.RowKit
section
variable {H:Type} {enc:TypeId × Value->H}
theorem ZWi:Tryz.prog.cellsOf 46=3:=by kernel_rfl
theorem open_D' {w:World} {r:Reach} {b0:Nat} {v:Value} {d:DataW H} {ps:List MemPlace} (hv:Value.okWide Tryz.prog w r b0 46 v) (h:DataW.Trod enc Tryz.prog w 0 (fun _=>true) true 46 v d ps):∃ x,(dS ZPy x).rd anyB w v:=by
 obtain ⟨fuel,h⟩:=h
 obtain ⟨cs,rfl,hcs⟩:=okWide_struct Tryz.underlying46 hv
 rw [ZWi] at hcs
 obtain ⟨u0,u1,u2,rfl⟩:∃ u0 u1 u2,cs=#[u0,u1,u2]:=by
  obtain ⟨l⟩:=cs
  match l,hcs with
  | [u0,u1,u2],_=>exact ⟨u0,u1,u2,rfl⟩
 obtain ⟨y0,y1,y2,n,hy,hl,h0,h1,h2⟩:=Deep.trod_struct3 Tryz.underlying46 h
 have h0':DataW.trod enc Tryz.prog w 0 (fun _=>true) true n 29 [u0]=some y0:=by
  simpa [Value.cells,ZNc,ZEc,ZGk] using h0
 have h1':DataW.trod enc Tryz.prog w 0 (fun _=>true) true n 22 [u1]=some y1:=by
  simpa [Value.cells,ZNc,ZEc,ZGk] using h1
 have h2':DataW.trod enc Tryz.prog w 0 (fun _=>true) true n 27 [u2]=some y2:=by
  simpa [Value.cells,ZNc,ZEc,ZGk] using h2
 obtain ⟨z0,m,_,_,g0⟩:=trod_struct1 Tryz.underlying29 h0'
 have g0':DataW.trod enc Tryz.prog w 0 (fun _=>true) true m 27 [u0]=some z0:=by
  simpa [Value.cells,ZGk] using g0
 obtain ⟨F,hF⟩:=ZLu g0'
 obtain ⟨V,hV⟩:=ZIS h1'
 obtain ⟨C,hC⟩:=ZLu h2'
 refine ⟨(F,V,C),u0,u1,u2,rfl,⟨?_,?_,?_⟩,hF,hV,hC⟩
 ·obtain ⟨a,c,hu,_⟩:=hF
  rw [hu];rfl
 ·obtain ⟨a,c,hu,_⟩:=hV
  rw [hu];rfl
 ·obtain ⟨a,c,hu,_⟩:=hC
  rw [hu];rfl
end
end
end Go.Proofs.YtofkoleingbbpaaGreatDoor
