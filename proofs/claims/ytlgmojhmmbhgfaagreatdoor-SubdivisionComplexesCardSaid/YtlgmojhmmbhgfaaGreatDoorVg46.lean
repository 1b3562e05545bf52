/- Part 46: walks by contracts, and plain laws. -/
import Derived.Test.YtlgmojhmmbhgfaaGreatDoorVg45
set_option linter.unusedVariables false
set_option linter.unusedSimpArgs false
set_option linter.unusedSectionVars false
set_option maxRecDepth 100000
set_option maxHeartbeats 4000000
namespace Go.Proofs.YtlgmojhmmbhgfaaGreatDoor
section
open Go.RowKit

set_option maxHeartbeats 8000000 in
theorem ZG5 (l:Cx) (h8:∀ s∈l,s.length≤8) (hl:l.length≤100) (hp60:(ZCZ l).length≤60):Fn Tryz.prog 45 [dS Cpx l] (dS ZCb (l,ZCZ l,(ZCZ l).map fun v=>[v])):=by
 have cP:=ZMR l h8 hl
 generalize ZCZ l=V at *
 refine ZEu ZAd Tryz.func45 rfl rfl ?_
 simp only [Tryz.ntmps45,List.length_cons,List.length_nil,Nat.reduceAdd,Nat.reduceSub,List.replicate_succ,List.replicate_zero,List.cons_append,List.nil_append]
 (repeat' (first |  (refine WC.drawW (β:=Nat) 4 (fun b3=>ZQ b3 30 3 true (dX (.agg #[.slice none 0 0,.slice none 0 0,.slice none 0 0]))::[ZQ b2 30 3 true (dX (.agg #[.slice none 0 0,.slice none 0 0,.slice none 0 0]))]) (fun b3=>dX (.pointer (some ⟨b3,0,none⟩))) _ rfl (by kernel_rfl) (by kernel_rfl) ?_;simp only [List.take_succ_cons,List.take_zero,List.drop_succ_cons,List.drop_zero])|refine WL.nil ?_|refine ZA fun Kx hK=>?_|(refine hK _ _ ?_;clear hK)|refine WC.region ?_ |  (refine WL.alloc (dst:=some 2) ZCH (Zj rfl rfl rfl) fun b2=>?_;dsimp only [ZB,z0,z1])|((first|apply WL.opN|apply WD.opN);(focus ((first|(exact SY.box (OpD.t rfl) Zt)|fail);all_goals infer_instance));dsimp only [ZB,z0,z1])))
 (repeat' (first|refine WDs.nil ?_|(apply WDs.op;(focus (intro c;apply ZF;(exact ZR rfl);((first|(apply SY.load;exact tyC;exact OpD.t rfl)|(apply SY.call (cP) Tryz.call87;(exact aD))|(exact ZHM (OpD.t rfl) (OpD.t rfl))|fail);all_goals infer_instance)));dsimp only [ZB,z0,z1])))
 refine ⟨SW.alloc ZCH (Zj rfl rfl rfl),fun b3=>?_⟩
 dsimp only [ZB,z0,z1]
 refine ZPk (zs:=[.slice none 0 0,.slice none 0 0,.slice none 0 0]) (by decide) (by simp [Value.oneCell']) ?_
 refine ZAG ZAd (OpD.t rfl) (OpD.t rfl) rfl rfl ?_
 dsimp only [ZB]
 (repeat' (first|((first|apply WL.opN|apply WD.opN);exact yF;dsimp only [ZB,z0,z1])|refine WL.nil ?_|refine ZA fun Kx hK=>?_|(refine hK _ _ ?_;clear hK)|refine WC.region ?_|refine WC.block ?_))
 refine ZAy 28 ZE ?_
 (refine WC.loopU (X:=Nat × Value) (fun x=>[(4,dI (x.1:Int)),(9,dA),(10,dA),(11,dA),(12,dA),(13,dA),(14,dA),(15,dA),(16,dA),(17,dA),(18,dA),(19,dA),(20,dA),(21,dA),(22,dA),(23,dA),(24,dA),(25,dA),(26,dA)]) (fun x=>(ZW x.2 28 ZE ((V.take x.1).map fun v=>[v])::Zp b3 30 [dS Zc l,dS ZE V,dX x.2]::[ZQ b2 30 3 true (dX (.agg #[.slice none 0 0,.slice none 0 0,.slice none 0 0]))])) (fun x=>V.length-x.1) (fun x=>x.1≤V.length) (0,.slice none 0 0) ?start ?frame0 ?objs0 ?round)
 case start=>exact Nat.zero_le _
 case frame0=>((try dsimp only [ZK,z0,z1]);repeat (first|exact LeF.nil|refine ZD (k:=?_)))
 case objs0=>rfl
 case round =>
  rintro ⟨k,vC⟩ k1
  simp only at k1
  dsimp only [ZK,z0,z1]
  have hol:((V.take k).map fun v=>[v]).length≤200002:=by rw [List.length_map,List.length_take];omega
  by_cases hk:k<V.length
  ·have htk:(V.take (k+1)).map (fun v=>[v])=(V.take k).map (fun v=>[v])++[[V[k]]]:=by rw [List.take_succ_eq_append_getElem hk,List.map_append];rfl
   ((repeat' (first |  (refine WC.drawM (fun hp'=>Zp b3 30 [dS Zc l,dS ZE V,dX vC]∈hp') 11 1 [(0,false),(1,false),(2,false),(3,false),(4,false),(5,false),(6,false),(7,false),(8,false),(9,true),(10,false)] [true,true,true,true,true,true,true,true,true,true,true,false] (by kernel_rfl) (by kernel_rfl) (by kernel_rfl) rfl (.tail _ (.head _)) ?_) |  (first|refine WA.one (S:=[true,true,true,true,true,true,true,true,true,true,true,false]) (i:=11) (by kernel_rfl) rfl ?_|refine WA.nil (S:=[true,true,true,true,true,true,true,true,true,true,true,true]) (by kernel_rfl) ?_) |  (refine ZAh rfl (SW.app1 ZBx (OpD.t rfl) (OpD.t rfl) (by decide) (ZTw _ _ hol)) (fun _=>.tail _ (.head _)) fun va'=>?_;dsimp only [ZB,z0,z1,List.cons_append,List.nil_append])|(refine WM.nil ?_)|(apply ZCq rfl;(focus (intro c hcc;apply ZF;(exact ZR rfl);((first|(refine Ze ZAe (OpD.t rfl) (by decide))|(refine Zb ZCM (OpD.t rfl) hcc rfl)|(refine Zb ZCl (OpD.t rfl) hcc rfl)|(refine ZDw (R:=RV) (_gR:=inferInstance) elV hk rfl (OpD.t rfl) (OpD.t rfl))|(apply SY.load;exact tyV;exact OpD.t rfl)|((first|apply SY.move|apply SY.assign|apply SY.lss) <;> (exact oD))|(apply SY.buildE;(exact eD);((try simp only [List.map_cons,List.map_nil]);(repeat (first|exact Zq|(apply Zh;(first|exact OpD.t rfl|exact OpD.i|exact OpD.b|exact OpD.tle rfl (by first|exact ZI|exact ZH (by decide))|exact ⟨ZI⟩|exact ⟨ZH (by decide)⟩)))));rfl;rfl;decide;(intro _;exact ZAV);(exact (by simp)))|(apply SY.build1';(exact eD);((try simp only [List.map_cons,List.map_nil]);(repeat (first|exact Zq|(apply Zh;(first|exact OpD.t rfl|exact OpD.i|exact OpD.b|exact OpD.tle rfl (by first|exact ZI|exact ZH (by decide))|exact ⟨ZI⟩|exact ⟨ZH (by decide)⟩)))));rfl;rfl;(intro _;first|exact ZAb|exact ZA4|exact ZAa|exact ZBP);(exact (by simp)))|fail);all_goals infer_instance)));dsimp only [ZB,z0,z1])|((first|apply WL.opN|apply WD.opN);exact yF;dsimp only [ZB,z0,z1])|refine WL.nil ?_|refine ZA fun Kx hK=>?_|(refine hK _ _ ?_;clear hK)|refine WC.region ?_ |  (refine ZAt (.head _) fun h1=>WL.perm (List.Perm.swap _ _ _) (Z1 (k:=2) ZCl (OpD.t rfl) (OpD.t rfl) (ZY h1) (by simp) (WL.perm (List.Perm.swap _ _ _) ?_));dsimp only [ZB,z0,z1])|((first|apply WL.opN|apply WD.opN);(focus ((first|(refine Ze ZAe (OpD.t rfl) (by decide))|(refine Zb ZCM (OpD.t rfl) (.tail _ (.head _)) rfl)|((first|apply SY.move|apply SY.assign|apply SY.lss) <;> (exact oD))|((first|apply SY.add) <;> first|exact oD|omega)|(apply SY.len;(exact oD);(exact nD);(exact uD))|fail);all_goals infer_instance));dsimp only [ZB,z0,z1])|(apply ZC;(exact oD);all_goals (intro h;try exact xD))|refine WC.skip ?_|refine WC.block ?_|refine ThenD.n ?_));all_goals (first|((repeat clear hK);(repeat clear Kx))))
   all_goals try (exfalso;first|contradiction|omega)
   (refine ⟨(k+1,_) , ?_,by first|omega|(simp only;omega),by ((try simp only);  (rw [htk])),?_⟩;rotate_left;((try dsimp only [ZK,z0,z1]);repeat (first|exact LeF.nil|refine ZD (k:=?_)));(try dsimp only))
   omega
  ·rw [List.take_of_length_le (by omega)]
   refine WC.perm (List.Perm.swap _ _ _) (ZDW (k:=2) rfl ?_)
   dsimp only [z0,z1]
   ((repeat' (first|((first|apply WL.opN|apply WD.opN);exact yF;dsimp only [ZB,z0,z1])|refine WL.nil ?_|refine ZA fun Kx hK=>?_|(refine hK _ _ ?_;clear hK)|(refine Kont.skip ?_;clear hK)|refine WC.region ?_ |  (refine ZCd (d:=dS ZCb (l,V,V.map fun v=>[v])) ZAd rfl (OpD.tle rfl ZFy) Zn ?_;dsimp only [ZB,z0,z1])|((first|apply WL.opN|apply WD.opN);(focus ((first|(refine Ze ZAe (OpD.t rfl) (by decide))|(refine Zb ZCM (OpD.t rfl) (.head _) rfl)|(refine ZAr ZAd (OpD.t rfl) (.head _) (by decide) rfl)|((first|apply SY.move|apply SY.assign|apply SY.lss) <;> (exact oD))|(apply SY.len;(exact oD);(exact nD);(exact uD))|fail);all_goals infer_instance));dsimp only [ZB,z0,z1])|(apply ZC;(exact oD);all_goals (intro h;try exact xD))|refine WC.ret ?_|refine WC.exit ?_));all_goals (first|((repeat clear hK);(repeat clear Kx))))
   all_goals try (exfalso;first|contradiction|omega)
   (refine ⟨trivial,_,rfl,?_⟩;exact fD)
end
section
open Go.RowKit

set_option maxHeartbeats 4000000 in
theorem ZOA (l:Cx) (k:Int) (he:ZBH l≠0):Fn Tryz.prog 13 [dS Cpx l,dI k] (dT [dS ZCb ([],[],[]),dI (ZBH l)]):=by
 have c1:=ZD2 l
 generalize ZBH l=e at *
 refine ZAB ZAd Tryz.func13 rfl rfl ?_
 simp only [Tryz.ntmps13,List.length_cons,List.length_nil,Nat.reduceAdd,Nat.reduceSub,List.replicate_succ,List.replicate_zero,List.cons_append,List.nil_append]
 ((repeat' (first|((first|apply WL.opN|apply WD.opN);exact yF;dsimp only [ZB,z0,z1])|refine WL.nil ?_|refine ZA fun Kx hK=>?_|(refine hK _ _ ?_;clear hK)|refine WC.region ?_ |  (refine WL.alloc (dst:=some 4) ZCH (Zj rfl rfl rfl) fun b2=>?_;dsimp only [ZB,z0,z1]) |  (refine ZN ZAd rfl (OpD.t rfl) Zn ?_;dsimp only [ZB,z0,z1])|((first|apply ZJ|apply WD.op);(focus (first|exact wN|(apply ZF;(exact wY);((first|(exact SY.box (OpD.t rfl) Zt)|(apply SY.call (c1) Tryz.call30;(exact aD))|(exact ZA9)|((first|apply SY.move|apply SY.assign|apply SY.lss|apply SY.gtr|apply SY.neq) <;> (exact oD))|fail);all_goals infer_instance))));dsimp only [ZB,z0,z1])|(apply ZL;(exact oD);all_goals (intro h;try exact xD))|refine WC.ret ?_|refine ThenD.r ?_));all_goals (first|((repeat clear hK);(repeat clear Kx))))
 all_goals first|(refine ⟨trivial,⟨_,rfl,?_⟩,_,rfl,?_⟩ <;> exact fD)|(exfalso;first|contradiction|omega)
set_option maxHeartbeats 4000000 in
theorem ZOE (l:Cx) (k:Int) (h0:ZBH l=0) (hk:k<0\/6<k):Fn Tryz.prog 13 [dS Cpx l,dI k] (dT [dS ZCb ([],[],[]),dI 2]):=by
 have c1:=ZD2 l
 rw [h0] at c1
 refine ZAB ZAd Tryz.func13 rfl rfl ?_
 simp only [Tryz.ntmps13,List.length_cons,List.length_nil,Nat.reduceAdd,Nat.reduceSub,List.replicate_succ,List.replicate_zero,List.cons_append,List.nil_append]
 by_cases hk0:k<0
 ·((repeat' (first|((first|apply WL.opN|apply WD.opN);exact yF;dsimp only [ZB,z0,z1])|refine WL.nil ?_|refine ZA fun Kx hK=>?_|(refine hK _ _ ?_;clear hK)|refine WC.region ?_ |  (refine WL.alloc (dst:=some 4) ZCH (Zj rfl rfl rfl) fun b2=>?_;dsimp only [ZB,z0,z1]) |  (refine ZN ZAd rfl (OpD.t rfl) Zn ?_;dsimp only [ZB,z0,z1])|((first|apply ZJ|apply WD.op);(focus (first|exact wN|(apply ZF;(exact wY);((first|(exact SY.box (OpD.t rfl) Zt)|(apply SY.call (c1) Tryz.call30;(exact aD))|(exact ZA9)|((first|apply SY.move|apply SY.assign|apply SY.lss|apply SY.gtr|apply SY.neq) <;> (exact oD))|(apply Z6;(exact oD);(with_reducible rfl);(exact oD))|fail);all_goals infer_instance))));dsimp only [ZB,z0,z1])|((first|refine Za rfl rfl rfl (fun h=>?_) (fun h=>?_)|refine ZZ rfl rfl rfl (fun h=>?_) (fun h=>?_)|refine ZT rfl rfl rfl (fun h=>?_) (fun h=>?_)|refine ZAE rfl rfl rfl (fun h=>?_) (fun h=>?_)|refine ZAD rfl rfl rfl (fun h=>?_) (fun h=>?_)|refine Zu rfl rfl rfl (fun h=>?_) (fun h=>?_)) <;> (first|(exfalso;first|omega|contradiction)|(dsimp only [z0,z1])))|(apply ZAs;(exact oD);(with_reducible rfl))|(apply ZL;(exact oD);all_goals (intro h;try exact xD))|refine WC.skip ?_|refine WC.ret ?_|refine ThenD.r ?_));all_goals (first|((repeat clear hK);(repeat clear Kx))))
  all_goals first|(refine ⟨trivial,⟨_,rfl,?_⟩,_,rfl,?_⟩ <;> exact fD)|(exfalso;first|contradiction|omega)
 ·have hk6:6<k:=by omega
  ((repeat' (first|((first|apply WL.opN|apply WD.opN);exact yF;dsimp only [ZB,z0,z1])|refine WL.nil ?_|refine ZA fun Kx hK=>?_|(refine hK _ _ ?_;clear hK)|refine WC.region ?_ |  (refine WL.alloc (dst:=some 4) ZCH (Zj rfl rfl rfl) fun b2=>?_;dsimp only [ZB,z0,z1]) |  (refine ZN ZAd rfl (OpD.t rfl) Zn ?_;dsimp only [ZB,z0,z1])|((first|apply ZJ|apply WD.op);(focus (first|exact wN|(apply ZF;(exact wY);((first|(exact SY.box (OpD.t rfl) Zt)|(apply SY.call (c1) Tryz.call30;(exact aD))|(exact ZA9)|((first|apply SY.move|apply SY.assign|apply SY.lss|apply SY.gtr|apply SY.neq) <;> (exact oD))|(apply ZAS;(exact oD);(with_reducible rfl);(exact oD))|fail);all_goals infer_instance))));dsimp only [ZB,z0,z1])|((first|refine Za rfl rfl rfl (fun h=>?_) (fun h=>?_)|refine ZZ rfl rfl rfl (fun h=>?_) (fun h=>?_)|refine ZT rfl rfl rfl (fun h=>?_) (fun h=>?_)|refine ZAE rfl rfl rfl (fun h=>?_) (fun h=>?_)|refine ZAD rfl rfl rfl (fun h=>?_) (fun h=>?_)|refine Zu rfl rfl rfl (fun h=>?_) (fun h=>?_)) <;> (first|(exfalso;first|omega|contradiction)|(dsimp only [z0,z1])))|(apply ZC;(exact oD);all_goals (intro h;try exact xD))|(apply ZL;(exact oD);all_goals (intro h;try exact xD))|refine WC.skip ?_|refine WC.ret ?_|refine ThenD.r ?_));all_goals (first|((repeat clear hK);(repeat clear Kx))))
  all_goals first|(refine ⟨trivial,⟨_,rfl,?_⟩,_,rfl,?_⟩ <;> exact fD)|(exfalso;first|contradiction|omega)
end
section
open Go.RowKit

set_option maxHeartbeats 4000000 in
theorem ZOB (l:Cx) (k:Int) (hl:l.length≤100) (he:(ZHH l).2≠0):Fn Tryz.prog 12 [dS CpxL l,dI k] (dT [dS ZCb ([],[],[]),dI (ZHH l).2]):=by
 have c1:=ZCN l hl
 generalize ZHH l=e at *
 refine ZAB ZAd Tryz.func12 rfl rfl ?_
 simp only [Tryz.ntmps12,List.length_cons,List.length_nil,Nat.reduceAdd,Nat.reduceSub,List.replicate_succ,List.replicate_zero,List.cons_append,List.nil_append]
 ((repeat' (first|((first|apply WL.opN|apply WD.opN);exact yF;dsimp only [ZB,z0,z1])|refine WL.nil ?_|refine ZA fun Kx hK=>?_|(refine hK _ _ ?_;clear hK)|refine WC.region ?_ |  (refine WL.alloc (dst:=some 4) ZCH (Zj rfl rfl rfl) fun b2=>?_;dsimp only [ZB,z0,z1]) |  (refine ZN ZAd rfl (OpD.t rfl) Zn ?_;dsimp only [ZB,z0,z1])|((first|apply ZJ|apply WD.op);(focus (first|exact wN|(apply ZF;(exact wY);((first|(exact SY.box (OpD.t rfl) (fun I w v h=>Zt I w v (ZAp I w v h)))|(apply SY.call c1 Tryz.call42;exact ArgsD.cons (OpD.tle rfl ZAp) ArgsD.nil)|(exact ZA9)|((first|apply SY.move|apply SY.assign|apply SY.lss|apply SY.gtr|apply SY.neq) <;> (exact oD))|(apply SY.extract;(exact oD);rfl)|fail);all_goals infer_instance))));dsimp only [ZB,z0,z1])|(apply ZL;(exact oD);all_goals (intro h;try exact xD))|refine WC.ret ?_|refine ThenD.r ?_));all_goals (first|((repeat clear hK);(repeat clear Kx))))
 all_goals first|(refine ⟨trivial,⟨_,rfl,?_⟩,_,rfl,?_⟩ <;> exact fD)|(exfalso;first|contradiction|omega)
set_option maxHeartbeats 4000000 in
theorem ZOF (l:Cx) (k:Int) (hl:l.length≤100) (h0:(ZHH l).2=0) (hk:k<0\/6<k):Fn Tryz.prog 12 [dS CpxL l,dI k] (dT [dS ZCb ([],[],[]),dI 2]):=by
 have c1:=ZCN l hl
 rw [h0] at c1
 generalize (ZHH l).1=e at *
 refine ZAB ZAd Tryz.func12 rfl rfl ?_
 simp only [Tryz.ntmps12,List.length_cons,List.length_nil,Nat.reduceAdd,Nat.reduceSub,List.replicate_succ,List.replicate_zero,List.cons_append,List.nil_append]
 by_cases hk0:k<0
 ·((repeat' (first|((first|apply WL.opN|apply WD.opN);exact yF;dsimp only [ZB,z0,z1])|refine WL.nil ?_|refine ZA fun Kx hK=>?_|(refine hK _ _ ?_;clear hK)|refine WC.region ?_ |  (refine WL.alloc (dst:=some 4) ZCH (Zj rfl rfl rfl) fun b2=>?_;dsimp only [ZB,z0,z1]) |  (refine ZN ZAd rfl (OpD.t rfl) Zn ?_;dsimp only [ZB,z0,z1])|((first|apply ZJ|apply WD.op);(focus (first|exact wN|(apply ZF;(exact wY);((first|(exact SY.box (OpD.t rfl) (fun I w v h=>Zt I w v (ZAp I w v h)))|(apply SY.call c1 Tryz.call42;exact ArgsD.cons (OpD.tle rfl ZAp) ArgsD.nil)|(exact ZA9)|((first|apply SY.move|apply SY.assign|apply SY.lss|apply SY.gtr|apply SY.neq) <;> (exact oD))|(apply Z6;(exact oD);(with_reducible rfl);(exact oD))|(apply SY.extract;(exact oD);rfl)|fail);all_goals infer_instance))));dsimp only [ZB,z0,z1])|((first|refine Za rfl rfl rfl (fun h=>?_) (fun h=>?_)|refine ZZ rfl rfl rfl (fun h=>?_) (fun h=>?_)|refine ZT rfl rfl rfl (fun h=>?_) (fun h=>?_)|refine ZAE rfl rfl rfl (fun h=>?_) (fun h=>?_)|refine ZAD rfl rfl rfl (fun h=>?_) (fun h=>?_)|refine Zu rfl rfl rfl (fun h=>?_) (fun h=>?_)) <;> (first|(exfalso;first|omega|contradiction)|(dsimp only [z0,z1])))|(apply ZAs;(exact oD);(with_reducible rfl))|(apply ZL;(exact oD);all_goals (intro h;try exact xD))|refine WC.skip ?_|refine WC.ret ?_|refine ThenD.r ?_));all_goals (first|((repeat clear hK);(repeat clear Kx))))
  all_goals first|(refine ⟨trivial,⟨_,rfl,?_⟩,_,rfl,?_⟩ <;> exact fD)|(exfalso;first|contradiction|omega)
 ·have hk6:6<k:=by omega
  ((repeat' (first|((first|apply WL.opN|apply WD.opN);exact yF;dsimp only [ZB,z0,z1])|refine WL.nil ?_|refine ZA fun Kx hK=>?_|(refine hK _ _ ?_;clear hK)|refine WC.region ?_ |  (refine WL.alloc (dst:=some 4) ZCH (Zj rfl rfl rfl) fun b2=>?_;dsimp only [ZB,z0,z1]) |  (refine ZN ZAd rfl (OpD.t rfl) Zn ?_;dsimp only [ZB,z0,z1])|((first|apply ZJ|apply WD.op);(focus (first|exact wN|(apply ZF;(exact wY);((first|(exact SY.box (OpD.t rfl) (fun I w v h=>Zt I w v (ZAp I w v h)))|(apply SY.call c1 Tryz.call42;exact ArgsD.cons (OpD.tle rfl ZAp) ArgsD.nil)|(exact ZA9)|((first|apply SY.move|apply SY.assign|apply SY.lss|apply SY.gtr|apply SY.neq) <;> (exact oD))|(apply ZAS;(exact oD);(with_reducible rfl);(exact oD))|(apply SY.extract;(exact oD);rfl)|fail);all_goals infer_instance))));dsimp only [ZB,z0,z1])|((first|refine Za rfl rfl rfl (fun h=>?_) (fun h=>?_)|refine ZZ rfl rfl rfl (fun h=>?_) (fun h=>?_)|refine ZT rfl rfl rfl (fun h=>?_) (fun h=>?_)|refine ZAE rfl rfl rfl (fun h=>?_) (fun h=>?_)|refine ZAD rfl rfl rfl (fun h=>?_) (fun h=>?_)|refine Zu rfl rfl rfl (fun h=>?_) (fun h=>?_)) <;> (first|(exfalso;first|omega|contradiction)|(dsimp only [z0,z1])))|(apply ZC;(exact oD);all_goals (intro h;try exact xD))|(apply ZL;(exact oD);all_goals (intro h;try exact xD))|refine WC.skip ?_|refine WC.ret ?_|refine ThenD.r ?_));all_goals (first|((repeat clear hK);(repeat clear Kx))))
  all_goals first|(refine ⟨trivial,⟨_,rfl,?_⟩,_,rfl,?_⟩ <;> exact fD)|(exfalso;first|contradiction|omega)
end
section
open Go.RowKit

theorem ZRO {V:List Vx} {C:Cx} {s:List Vx} {k:Nat} (h:k<V.length) (h':k<C.length):((V.zip C).take (k+1)).foldl (ZCU s) []=ZCU s (((V.zip C).take k).foldl (ZCU s) []) (V[k],C[k]):=by
 rw [ZP (show k<(V.zip C).length by rw [List.length_zip];omega),List.foldl_append,List.getElem_zip];rfl
theorem ZPI (F:Cx) (V:List Vx) (C:Cx) (s:List Vx) (hl:C.length=V.length) (hc:∀ c∈C,c.length≤8) (hV:V.length≤60):Fn Tryz.prog 46 [dS ZCb (F,V,C),dS ZE s] (dS ZE (unR V C s)):=by
 (refine ZG Tryz.func46 rfl rfl ?_;simp only [Tryz.ntmps46,List.length_cons,List.length_nil,Nat.reduceAdd,Nat.reduceSub,List.replicate_succ,List.replicate_zero,List.cons_append,List.nil_append])
 (repeat' (first|(apply WL.opN;exact yF;dsimp only [ZB,z0,z1])|refine WL.nil ?_|refine ZA fun Kx hK=>?_|(refine hK _ _ ?_;clear hK)|refine WC.region ?_|(apply ZJ;(focus (first|exact wN|(apply ZF;(exact wY);((first|(exact SY.box (OpD.t rfl) Zn)|fail);all_goals infer_instance))));dsimp only [ZB,z0,z1])|refine WC.block ?_))
 (refine WC.loopU (X:=Nat) (fun k=>[(5,dS ZE (((V.zip C).take k).foldl (ZCU s) [])),(6,dI (k:Int)),(7,dA),(8,dA),(9,dA),(10,dA),(11,dA),(12,dA),(13,dA),(14,dA),(15,dA),(16,dA),(17,dA),(18,dA),(19,dA),(20,dA),(21,dA),(22,dA),(23,dA),(24,dA),(25,dA),(26,dA),(27,dA),(28,dA),(29,dA),(30,dA),(31,dA),(32,dA),(33,dA),(34,dA)]) (fun k=>[]) (fun k=>V.length-k) (fun k=>k≤V.length) 0 ?start ?frame0 ?objs0 ?round)
 case start=>exact Nat.zero_le _
 case frame0=>((try dsimp only [ZK,z0,z1]);repeat (first|exact LeF.nil|refine ZD (k:=?_)))
 case objs0=>rfl
 case round =>
  rintro k k1
  dsimp only [ZK,z0,z1]
  by_cases hk:k<V.length
  ·have hk':k<C.length:=by omega
   have hn:=ZJb s ((V.zip C).take k) [] (fun p hp=>hc _ (List.of_mem_zip (List.mem_of_mem_take hp)).2)
   rw [List.length_take,List.length_nil] at hn
   have hc8:=hc _ (List.getElem_mem hk')
   have hst:=ZRO (s:=s) hk hk'
   have c1:=ZN4 s V[k]
   by_cases hm:V[k]∈s
   ·rw [decide_eq_true hm] at c1
    rw [show ZCU s (((V.zip C).take k).foldl (ZCU s) []) (V[k],C[k])=ZBE (((V.zip C).take k).foldl (ZCU s) []) C[k] from if_pos hm] at hst
    have c2:=ZRb (((V.zip C).take k).foldl (ZCU s) []) C[k] (by omega) (by omega)
    rw [<- hst] at c2
    ((repeat' (first|(apply WL.opN;exact yF;dsimp only [ZB,z0,z1])|refine WL.nil ?_|refine ZA fun Kx hK=>?_|(refine hK _ _ ?_;clear hK)|refine WC.region ?_|(apply ZJ;(focus (first|exact wN|(apply ZF;(exact wY);((first|(exact ZBD ZAe (OpD.t rfl) ZC7 rfl rfl)|(refine ZDw (R:=RV) (_gR:=inferInstance) elV hk rfl (OpD.t rfl) (OpD.t rfl))|(refine ZBu (R:=ZE) (_gR:=inferInstance) ZBx hk' rfl (OpD.t rfl) (OpD.t rfl))|(apply SY.call (c1) Tryz.call80;(exact aD))|(apply SY.call (c2) Tryz.call88;(exact aD))|((first|apply SY.move|apply SY.assign|apply SY.lss) <;> (exact oD))|((first|apply SY.add) <;> first|exact oD|omega)|(apply SY.load;(exact tD);(exact oD))|(apply SY.len;(exact oD);(exact nD);(exact uD))|(apply Z6;(exact oD);(with_reducible rfl);(exact oD))|fail);all_goals infer_instance))));dsimp only [ZB,z0,z1])|((first|refine Za rfl rfl rfl (fun h=>?_) (fun h=>?_)|refine ZZ rfl rfl rfl (fun h=>?_) (fun h=>?_)|refine ZT rfl rfl rfl (fun h=>?_) (fun h=>?_)) <;> (first|(exfalso;first|omega|contradiction)|(dsimp only [z0,z1])))|(apply ZAs;(exact oD);(with_reducible rfl))|(apply ZC;(exact oD);all_goals (intro h;try exact xD))|refine WC.skip ?_|refine WC.block ?_|refine ThenD.n ?_));all_goals (first|((repeat clear hK);(repeat clear Kx))))
    all_goals try (exfalso;omega)
    (refine ⟨k+1,?_,by first|omega|(simp only;omega),rfl,?_⟩;rotate_left;((try dsimp only [ZK,z0,z1]);repeat (first|exact LeF.nil|refine ZD (k:=?_)));(try dsimp only))
    omega
   ·rw [decide_eq_false hm] at c1
    rw [show ZCU s (((V.zip C).take k).foldl (ZCU s) []) (V[k],C[k])=((V.zip C).take k).foldl (ZCU s) [] from if_neg hm] at hst
    rw [<- hst]
    ((repeat' (first|(apply WL.opN;exact yF;dsimp only [ZB,z0,z1])|refine WL.nil ?_|refine ZA fun Kx hK=>?_|(refine hK _ _ ?_;clear hK)|refine WC.region ?_|(apply ZJ;(focus (first|exact wN|(apply ZF;(exact wY);((first|(exact ZBD ZAe (OpD.t rfl) ZC7 rfl rfl)|(refine ZDw (R:=RV) (_gR:=inferInstance) elV hk rfl (OpD.t rfl) (OpD.t rfl))|(apply SY.call (c1) Tryz.call80;(exact aD))|((first|apply SY.move|apply SY.assign|apply SY.lss) <;> (exact oD))|((first|apply SY.add) <;> first|exact oD|omega)|(apply SY.load;(exact tD);(exact oD))|(apply SY.len;(exact oD);(exact nD);(exact uD))|(apply Z6;(exact oD);(with_reducible rfl);(exact oD))|fail);all_goals infer_instance))));dsimp only [ZB,z0,z1])|((first|refine Za rfl rfl rfl (fun h=>?_) (fun h=>?_)|refine ZZ rfl rfl rfl (fun h=>?_) (fun h=>?_)|refine ZT rfl rfl rfl (fun h=>?_) (fun h=>?_)) <;> (first|(exfalso;first|omega|contradiction)|(dsimp only [z0,z1])))|(apply Zi;(exact oD);(with_reducible rfl))|(apply ZC;(exact oD);all_goals (intro h;try exact xD))|refine WC.skip ?_|refine WC.block ?_|refine ThenD.n ?_));all_goals (first|((repeat clear hK);(repeat clear Kx))))
    all_goals try (exfalso;omega)
    (refine ⟨k+1,?_,by first|omega|(simp only;omega),rfl,?_⟩;rotate_left;((try dsimp only [ZK,z0,z1]);repeat (first|exact LeF.nil|refine ZD (k:=?_)));(try dsimp only))
    omega
  ·((repeat' (first|(apply WL.opN;exact yF;dsimp only [ZB,z0,z1])|refine WL.nil ?_|refine ZA fun Kx hK=>?_|(refine hK _ _ ?_;clear hK)|(refine Kont.skip ?_;clear hK)|refine WC.region ?_|(apply ZJ;(focus (first|exact wN|(apply ZF;(exact wY);((first|(exact ZBD ZAe (OpD.t rfl) ZC7 rfl rfl)|((first|apply SY.move|apply SY.assign|apply SY.lss) <;> (exact oD))|(apply SY.len;(exact oD);(exact nD);(exact uD))|(apply ZAS;(exact oD);(with_reducible rfl);(exact oD))|fail);all_goals infer_instance))));dsimp only [ZB,z0,z1])|((first|refine Za rfl rfl rfl (fun h=>?_) (fun h=>?_)|refine ZZ rfl rfl rfl (fun h=>?_) (fun h=>?_)|refine ZT rfl rfl rfl (fun h=>?_) (fun h=>?_)) <;> (first|(exfalso;first|omega|contradiction)|(dsimp only [z0,z1])))|(apply Zi;(exact oD);(with_reducible rfl))|refine WC.ret ?_|refine WC.exit ?_));all_goals (first|((repeat clear hK);(repeat clear Kx))))
   all_goals try (exfalso;omega)
   (refine ⟨trivial,_,rfl,?_⟩;refine ZEF ?_)
   rw [List.take_of_length_le (by rw [List.length_zip];omega)];rfl
end
section
def ZHy (d:Sub):Sub:=((ZDR (Zr d.1) d.1).1,(ZDR (Zr d.1) d.1).2.map (·.1),((ZDR (Zr d.1) d.1).2.map (·.2)).map (unR d.2.1 d.2.2))
def itR (l:Cx):Nat->Sub
 | 0=>(l,ZCZ l,(ZCZ l).map fun v=>[v])
 | i+1=>ZHy (itR l i)
theorem ZK9:∀ {f s:List Vx},(f.map fun v=>v.1)=(s.map fun v=>v.1)->Z0 f=Z0 s
 | [],[],_=>rfl
 | [],_::_,h=>by cases h
 | _::_,[],h=>by cases h
 | [_],[_],_=>rfl
 | [_],_::_::_,h=>by simp at h
 | _::_::_,[_],h=>by simp at h
 | a::b::f,c::e::s,h=>by
  simp only [List.map_cons,List.cons.injEq] at h
  have ih:=ZK9 (f:=b::f) (s:=e::s) (by simp [h.2.1,h.2.2])
  show (if a.1=b.1 then false else Z0 (b::f))=(if c.1=e.1 then false else Z0 (e::s))
  rw [ih,h.1,h.2.1]
theorem fub13:∀ n:Fin 4,ZI6 n.val≤13:=by decide
theorem ZLt:∀ {l:Cx},(∀ s∈l,s.length≤3)->ZC6 l≤13*l.length
 | [],_=>by simp [ZC6]
 | s::l,h=>by
  have ih:=ZLt fun t ht=>h t (List.mem_cons_of_mem s ht)
  have h1:=fub13 ⟨s.length,by have:=h s (by simp);omega⟩
  simp only at h1
  unfold ZC6 at ih ⊢
  simp only [List.map_cons,List.sum_cons,List.length_cons]
  omega
section
variable {l:Cx} (hg:∀ s∈l,ZAJ s=0) (h5:∀ s∈l,s.length≤5)
include hg h5
theorem ZK3 {u:Vx} (hu:u∈(ZB1 (Zr l) l).flatten):ZFD (Zr l) u∈ZDx l:=by
 obtain ⟨f,hf,hu⟩:=List.mem_flatten.1 hu
 obtain ⟨s,hs,bl,hbl,e⟩:=ZDf hg h5 hf
 rw [e] at hu
 obtain ⟨v,hv,rfl⟩:=List.mem_map.1 hu
 rw [ZNQ hg h5 hs (List.mem_map_of_mem hbl) hv]
 obtain ⟨i,hi,rfl⟩:=List.mem_iff_getElem.1 hv
 have hi':i<s.length:=by rw [Z4] at hi;exact hi
 rw [ZCi]
 unfold ZEP
 simp only [Int.toNat_natCast]
 exact ZDh hg h5 hs hbl hi'
theorem ZEV {f:List Vx} (hf:f∈ZB1 (Zr l) l):∃ s∈l,f.length=s.length/\(f.map fun v=>v.1)=s.map fun v=>v.1:=by
 obtain ⟨s,hs,bl,hbl,e⟩:=ZDf hg h5 hf
 refine ⟨s,hs,by rw [e,List.length_map,Z4],?_⟩
 rw [e,List.map_map]
 exact ZD8 s bl
end
structure OkI (n:Nat) (d:Sub):Prop where
 good:GoodX d.1
 three:∀ s∈d.1,s.length≤3
 few:d.1.length≤n
 pts:d.2.1=ZCZ d.1
 len:d.2.2.length=d.2.1.length
 cars:∀ c∈d.2.2,ZAJ c=0/\c.length≤3
 un:∀ s∈ZDx d.1,(unR d.2.1 d.2.2 s).length≤3
theorem ZOc {V:List Vx} {s:List Vx} (_:∀ v∈s,v∈V):∀ x∈unR V (V.map fun v=>[v]) s,x∈s:=fun x hx=>by
 obtain ⟨k,h1,h2,h3,h4⟩:=ZD6.1 hx
 rw [List.getElem_map,List.mem_singleton] at h4
 rw [h4];exact h3
theorem ZLv {V:List Vx} {C:Cx} {s t:List Vx} (h:∀ x∈unR V C s,x∈t):(unR V C s).length≤t.length :=
 List.Nodup.length_le_of_subset (ZIj (ZKU V C s)) h
theorem ZQE {l:Cx} (hg:∀ s∈l,ZAJ s=0) {v:Vx} (hv:v∈ZCZ l):ZAJ [v]=0:=by
 obtain ⟨s,hs,h1⟩:=ZCy.1 hv
 exact ZO.2 ⟨by simp,by simp,fun x hx=>by rw [List.mem_singleton.1 hx];exact (ZO.1 (hg s hs)).2.2.1 v h1,by simp [Asc]⟩
theorem ZLd {l:Cx} (h0:ZBH l=0) (h3:∀ s∈l,s.length≤3) {n:Nat} (hl:l.length≤n):OkI n (itR l 0) where
 good:=ZAH.1 h0
 three:=h3
 few:=hl
 pts:=rfl
 len:=List.length_map ..
 cars:=fun c hc=>by
  obtain ⟨v,hv,rfl⟩:=List.mem_map.1 hc
  exact ⟨ZQE (ZAH.1 h0).2.2.1 hv,by simp⟩
 un:=fun s hs=>by
  obtain ⟨f,hf,hne,hsub⟩:=ZBV.1 hs
  have:=ZLv (ZOc (V:=ZCZ l) fun v hv=>ZCy.2 ⟨f,hf,hsub.subset hv⟩)
  have:=hsub.length_le
  have:=h3 f hf
  exact Nat.le_trans (ZLv (ZOc (V:=ZCZ l) fun v hv=>ZCy.2 ⟨f,hf,hsub.subset hv⟩)) (by omega)
theorem ZUP {n:Nat} {d:Sub} (hd:OkI n d) {s:List Vx} (hs:s∈ZDx d.1):ZAJ (unR d.2.1 d.2.2 s)=0:=by
 have h8:=hd.un s hs
 obtain ⟨f,hf,hne,hsub⟩:=ZBV.1 hs
 refine ZO.2 ⟨fun e=>?_,by omega,fun v hv=>?_,ZKU _ _ _⟩
 ·obtain ⟨v,hv⟩:=List.exists_mem_of_ne_nil s hne
  have hp:v∈d.2.1:=by rw [hd.pts];exact ZCy.2 ⟨f,hf,hsub.subset hv⟩
  obtain ⟨k,hk,rfl⟩:=List.mem_iff_getElem.1 hp
  have hk':k<d.2.2.length:=by rw [hd.len];exact hk
  have hc:=(ZO.1 (hd.cars _ (List.getElem_mem hk')).1).1
  obtain ⟨x,hx⟩:=List.exists_mem_of_ne_nil d.2.2[k] (fun q=>hc (by rw [q];rfl))
  have:x∈unR d.2.1 d.2.2 s:=ZD6.2 ⟨k,hk,hk',hv,hx⟩
  rw [List.length_eq_zero_iff.1 e] at this
  cases this
 ·obtain ⟨k,hk,hk',_,h2⟩:=ZD6.1 hv
  exact (ZO.1 (hd.cars _ (List.getElem_mem hk')).1).2.2.1 v h2
theorem un_eq {n:Nat} {d:Sub} (hd:OkI n d) {s:List Vx} (hs:s∈ZDx d.1):unP d.2.1 d.2.2 s=unR d.2.1 d.2.2 s:=by
 rw [ZUO (hd.pts ▸ ZH4 d.1) hd.len fun c hc=>(hd.cars c hc).1,if_neg (by have:=hd.un s hs;omega)]
theorem ZLZ {n:Nat} {d:Sub} (hd:OkI n d):ZHy d=(ZDl (ZB1 (Zr d.1) d.1),ZBE [] (ZB1 (Zr d.1) d.1).flatten,(ZBE [] (ZB1 (Zr d.1) d.1).flatten).map fun u=>unR d.2.1 d.2.2 (ZFD (Zr d.1) u)):=by
 have h5:∀ s∈d.1,s.length≤5:=fun s hs=>by have:=hd.three s hs;omega
 unfold ZHy
 rw [ZPO hd.good.2.2.1 h5 hd.good]
 simp only [List.map_map]
 congr 1
 congr 1
 exact List.map_id' _
theorem ZRQ {n:Nat} {d:Sub} (hd:OkI n d) (hn:13*n≤4096) (hc:∀ s∈d.1,Z0 s=true):ZCn d.1=0:=by
 have h1:=ZLt hd.three
 have h2:=hd.few
 unfold ZCn
 rw [if_neg (by rw [List.all_eq_true.2 hc];decide),if_neg (by
  rw [List.any_eq_false.2 fun s hs=>by have:=hd.three s hs;simp;omega];decide),if_neg (by omega)]
theorem ZSr (F:Cx):(ZDl F).length≤F.length:=ZSp F
theorem ZHi {l:Cx} (hg:∀ s∈l,ZAJ s=0) (h5:∀ s∈l,s.length≤5):(ZB1 (Zr l) l).length=ZC6 l:=by
 rw [<- ZIq hg h5,ZES h5]
theorem ZSq {l:Cx} (hg:∀ s∈l,ZAJ s=0) (h5:∀ s∈l,s.length≤5) (hG:GoodX l) {f:List Vx}:f∈ZDl (ZB1 (Zr l) l)↔f∈ZB1 (Zr l) l:=by
 rw [ZCx]
 refine ⟨fun h=>h.1,fun h=>⟨h,?_⟩⟩
 unfold ZPY
 rw [ZIy hg h5 hG h]
 obtain ⟨s,hs,e,_⟩:=ZEV hg h5 h
 have:=(ZO.1 (hg s hs)).1
 rw [decide_eq_true (by omega)];rfl
theorem ZLc {n:Nat} {d:Sub} (hd:OkI n d) (hn:13*n≤4096) (hc:∀ s∈d.1,Z0 s=true) {t:List Vx} (ht:t.length≤3) (hin:∀ c∈d.2.2,∀ x∈c,x∈t) :
  OkI (13*n) (ZHy d)/\(∀ s∈(ZHy d).1,Z0 s=true)/\∀ c∈(ZHy d).2.2,∀ x∈c,x∈t:=by
 have hg:=hd.good.2.2.1
 have h5:∀ s∈d.1,s.length≤5:=fun s hs=>by have:=hd.three s hs;omega
 have hm:=fun f=>ZSq hg h5 hd.good (f:=f)
 have hU:=fun s (hs:s∈ZDx d.1)=>ZUP hd hs
 have hfl:=ZHi hg h5
 have h13:=ZLt hd.three
 have hmx:=ZSr (ZB1 (Zr d.1) d.1)
 have hfw:=hd.few
 have hV:ZBE [] (ZB1 (Zr d.1) d.1).flatten=ZCZ (ZDl (ZB1 (Zr d.1) d.1)):=by
  refine ZDD (ZCr (by simp [Asc])) (ZH4 _) fun x=>?_
  rw [ZBm,ZCy,List.mem_flatten]
  constructor
  ·rintro (q|⟨f,hf,hx⟩)
   ·cases q
   ·exact ⟨f,(hm f).2 hf,hx⟩
  ·rintro ⟨f,hf,hx⟩
   exact .inr ⟨f,(hm f).1 hf,hx⟩
 have hcar:∀ u∈ZBE [] (ZB1 (Zr d.1) d.1).flatten,ZFD (Zr d.1) u∈ZDx d.1:=fun u hu=>ZK3 hg h5 (by
  rcases ZBm.1 hu with q|q
  ·cases q
  ·exact q)
 have hun:∀ s:List Vx,∀ x∈unR d.2.1 d.2.2 s,x∈t:=fun s x hx=>by
  obtain ⟨k,hk,hk',_,h2⟩:=ZD6.1 hx
  exact hin _ (List.getElem_mem hk') x h2
 rw [ZLZ hd]
 refine ⟨?_,fun s hs=>?_,fun c hcc x hx=>by
  obtain ⟨u,_,rfl⟩:=List.mem_map.1 hcc
  exact hun _ x hx⟩
 ·exact {
   good:=ZLK (fun f hf _=>ZLD hg h5 hc hd.good.1 hf) (by omega)
   three:=fun f hf=>by
    obtain ⟨s,hs,e,_⟩:=ZEV hg h5 ((hm f).1 hf)
    have:=hd.three s hs
    omega
   few:=by show (ZDl _).length≤13*n;omega
   pts:=hV
   len:=List.length_map ..
   cars:=fun c hcc=>by
    obtain ⟨u,hu,rfl⟩:=List.mem_map.1 hcc
    exact ⟨hU _ (hcar u hu),Nat.le_trans (ZLv (hun _)) ht⟩
   un:=fun s _=>Nat.le_trans (ZLv fun x hx=>by
    obtain ⟨k,hk,hk',_,h2⟩:=ZD6.1 hx
    simp only [List.getElem_map] at h2
    exact hun _ x h2) ht }
 ·obtain ⟨s',hs',_,e⟩:=ZEV hg h5 ((hm s).1 hs)
  rw [ZK9 e]
  exact hc s' hs'
theorem ZSl {l:Cx} (h0:ZBH l=0) (h3:∀ s∈l,s.length≤3) (h1:l.length≤1) (hw:ZCn l=0):∃ t:List Vx,t.length≤3/\(∀ s∈l,s=t) /\
  (OkI 1 (itR l 0)/\(∀ c∈(itR l 0).2.2,∀ x∈c,x∈t))/\(OkI 13 (itR l 1)/\(∀ s∈(itR l 1).1,Z0 s=true)/\(∀ c∈(itR l 1).2.2,∀ x∈c,x∈t))/\OkI 169 (itR l 2)/\(∀ s∈(itR l 2).1,Z0 s=true)/\∀ c∈(itR l 2).2.2,∀ x∈c,x∈t:=by
 have hc:∀ s∈l,Z0 s=true:=(ZEp hw).1
 have ht:(l.headD []).length≤3/\∀ s∈l,s=l.headD []:=by
  match l,h3,h1 with
  | [],_,_=>exact ⟨by simp,fun s hs=>by cases hs⟩
  | [s],h3,_=>exact ⟨h3 s (by simp),fun t ht=>List.mem_singleton.1 ht⟩
 have z0:∀ c∈(itR l 0).2.2,∀ x∈c,x∈l.headD []:=fun c hcc x hx=>by
  obtain ⟨v,hv,rfl⟩:=List.mem_map.1 hcc
  rw [List.mem_singleton.1 hx]
  obtain ⟨s,hs,h2⟩:=ZCy.1 hv
  rw [<- ht.2 s hs];exact h2
 have o0:=ZLd h0 h3 h1
 have o1:=ZLc o0 (by omega) hc ht.1 z0
 have o2:=ZLc o1.1 (by omega) o1.2.1 ht.1 o1.2.2
 exact ⟨l.headD [],ht.1,ht.2,⟨o0,z0⟩,o1,o2⟩
end
end Go.Proofs.YtlgmojhmmbhgfaaGreatDoor
